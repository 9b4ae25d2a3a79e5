/- (*journal.reader).op: an operation, or it throws. -/
import Derived.Test.YtkhgfdlinobabaaGreatDoorJRd
import Derived.Deep.CutBlock
import Derived.Deep.RegionLaw
namespace Go.Proofs.YtkhgfdlinobabaaGreatDoor.G
open Go.RowKit
set_option linter.unusedVariables false
set_option linter.unusedSimpArgs false
theorem rdNum_lt {n : Nat} {l l' : List UInt8} {x : Nat} (h : rdNum n l = some (x, l')) : x < 256 ^ n := by
  unfold rdNum at h
  split at h
  · rename_i hn
    have e := (Prod.mk.inj (Option.some.inj h)).1
    have h1 := numB_lt (l.take n)
    rw [List.length_take, Nat.min_eq_left hn, e] at h1
    exact h1
  · cases h
theorem rdText_sz {l l' : List UInt8} {s : ByteArray} (h : rdText l = some (s, l')) : s.size ≤ 255 := by
  unfold rdText at h
  obtain ⟨⟨x, l1⟩, h1, h2⟩ := Option.bind_eq_some_iff.1 h
  obtain ⟨⟨y, l2⟩, h3, h4⟩ := Option.map_eq_some_iff.1 h2
  have hx := rdNum_lt h1
  unfold rdTake at h3
  split at h3
  · have e := (Prod.mk.inj (Option.some.inj h3)).1
    have e2 := (Prod.mk.inj h4).1
    simp only at e e2
    rw [← e2, ← e]
    show (l1.take x).toArray.size ≤ 255
    rw [List.size_toArray, List.length_take]; omega
  · cases h3
theorem rdTexts_sz : ∀ (n : Nat) (l l' : List UInt8) (ts : List ByteArray), rdTexts n l = some (ts, l') → ts.length = n ∧ ∀ t ∈ ts, t.size ≤ 255
  | 0, l, l', ts, h => by
    obtain rfl := (Prod.mk.inj (Option.some.inj h)).1
    exact ⟨rfl, fun t ht => by simp at ht⟩
  | n + 1, l, l', ts, h => by
    rw [rdTexts] at h
    obtain ⟨⟨s, l1⟩, h1, h2⟩ := Option.bind_eq_some_iff.1 h
    obtain ⟨⟨us, l2⟩, h3, h4⟩ := Option.map_eq_some_iff.1 h2
    obtain ⟨i1, i2⟩ := rdTexts_sz n _ _ _ h3
    have e2 := (Prod.mk.inj h4).1
    simp only at e2
    subst e2
    refine ⟨by rw [List.length_cons, i1], fun t ht => ?_⟩
    rcases List.mem_cons.1 ht with rfl | ht
    · exact rdText_sz h1
    · exact i2 t ht
/-- What is kept while an operation is read. -/
structure OpSt (base g rb ob : Nat) (w0 w : World) (o : OpV) (vt : Value) (l : List UInt8) : Prop where
  gr : w0.grownBy w (some g)
  rd : Rd base g w l
  res : w.heap[rb]? = some (.cells (opc OpV.zero (.slice none 0 0)) 53 (0, 0))
  obj : w.heap[ob]? = some (.cells (opc o vt) 53 (0, 0))
  lt : g < rb ∧ rb < ob ∧ w0.heap.size ≤ rb
section
variable {base g rb ob : Nat} {w0 w w' : World} {o : OpV} {vt : Value} {l l' : List UInt8}
theorem OpSt.set (S : OpSt base g rb ob w0 w o vt l) (j : Nat) (v : Value) (o' : OpV) (vt' : Value) (he : (opc o vt).set! j v = opc o' vt') : OpSt base g rb ob w0 (w.setCell ⟨ob, j, none⟩ v) o' vt' l := by
  obtain ⟨gr, ⟨⟨x, hx, hb⟩, hl⟩, res, obj, lt⟩ := S
  refine ⟨⟨gr.os, gr.tape, gr.output, by rw [size_setCell]; exact gr.size, fun k hk hne => ?_⟩, ⟨⟨x, set_far v (by omega) hx, hb.keep fun k hk => ?_⟩, hl⟩, set_far v (by omega) res, ?_, lt⟩
  · exact ((set_far v (show k ≠ ob from by omega) rfl)).trans (gr.block k hk hne)
  · exact (set_far v (show k ≠ ob from by omega) rfl)
  · rw [← he]; exact set_blk v obj
theorem OpSt.call (S : OpSt base g rb ob w0 w o vt l) (hg : w.grownBy w' (some g)) (hr : Rd base g w' l') : OpSt base g rb ob w0 w' o vt l' := by
  obtain ⟨gr, rd, res, obj, lt⟩ := S
  exact ⟨grown_trans gr hg, hr, (hg.block rb (Array.getElem?_eq_some_iff.1 res).1 (by intro e; have := Option.some.inj e; omega)).trans res, (hg.block ob (Array.getElem?_eq_some_iff.1 obj).1 (by intro e; have := Option.some.inj e; omega)).trans obj, lt⟩
theorem OpSt.start {w w1 : World} {l1 : List UInt8} (hb : g < w.heap.size) (hg1 : (w.alloc (.cells (opc OpV.zero (.slice none 0 0)) 53)).grownBy w1 (some g)) (hr : Rd base g w1 l1) (o : OpV) :
    OpSt base g w.heap.size w1.heap.size w ((w1.alloc (.cells (opc OpV.zero (.slice none 0 0)) 53)).setRow w1.heap.size (opc o (.slice none 0 0))) o (.slice none 0 0) l1 := by
  have hz : w.heap.size + 1 ≤ w1.heap.size := by have := hg1.size; simp at this; omega
  have old : ∀ k, k < w1.heap.size → ((w1.alloc (.cells (opc OpV.zero (.slice none 0 0)) 53)).setRow w1.heap.size (opc o (.slice none 0 0))).heap[k]? = w1.heap[k]? := fun k hk => (setRow_other _ _ _ _ (by omega)).trans (Lib.alloc_old w1 _ k hk)
  have one : ∀ k, k < w.heap.size → k ≠ g → w1.heap[k]? = w.heap[k]? := fun k hk hne => (hg1.block k (by simp; omega) (fun e => hne (Option.some.inj e))).trans (Lib.alloc_old w _ k hk)
  obtain ⟨⟨x, hx, hbx⟩, hl⟩ := hr
  have hgl : g < w1.heap.size := by omega
  refine ⟨⟨hg1.os, hg1.tape, hg1.output, by simp [World.setRow]; omega, fun k hk hne => ?_⟩, ⟨⟨x, (old g hgl).trans hx, hbx.keep fun k hk => old k (by omega)⟩, hl⟩, ?_, ?_, hb, by omega, Nat.le_refl _⟩
  · exact (old k (by omega)).trans (one k hk (fun e => hne (by rw [e])))
  · exact (old _ (by omega)).trans ((hg1.block w.heap.size (by simp) (fun e => by have := Option.some.inj e; omega)).trans (blk_new _ _))
  · exact setRow_heap _ _ _ _ _ _ (blk_new _ _)
theorem text_op (hl : l.length ≤ 140737488355328) (S : OpSt base g rb ob w0 w o vt l) :
    Calls Tryz.prog 69 #[.pointer (some ⟨g, 0, none⟩)] w fun e w' => (rdText l = none ∧ e = .panicked torn ∧ w0.grownBy w' (some g)) ∨ (∃ (s : ByteArray) (l' : List UInt8), rdText l = some (s, l') ∧ l'.length ≤ l.length ∧ e = .returned (.string s) ∧ OpSt base g rb ob w0 w' o vt l' ∧ w.grownBy w' (some g)) :=
  (text_any base g l hl w S.rd).mono fun e w' h => by
    rcases h with ⟨h1, h2, h3⟩ | ⟨s, l', h1, _, h3, h4, h5, _, h6⟩
    · exact .inl ⟨h1, h2, grown_trans S.gr h3⟩
    · exact .inr ⟨s, l', h1, h3, h4, S.call h5 h6, h5⟩
theorem num_op (n : Nat) (hn : n ≤ 8) (hl : l.length ≤ 140737488355328) (S : OpSt base g rb ob w0 w o vt l) :
    Calls Tryz.prog 37 #[.pointer (some ⟨g, 0, none⟩), .int .i64 n] w fun e w' => (rdNum n l = none ∧ e = .panicked torn ∧ w0.grownBy w' (some g)) ∨ (∃ (x : Nat) (l' : List UInt8), rdNum n l = some (x, l') ∧ x < 256 ^ n ∧ l'.length ≤ l.length ∧ e = .returned (.int .u64 (x : Int)) ∧ OpSt base g rb ob w0 w' o vt l') :=
  (num_any base g l n hn hl w S.rd).mono fun e w' h => by
    rcases h with ⟨h1, h2, rfl⟩ | ⟨x, l', h1, hx, h3, h4, h5, _, h6⟩
    · exact .inl ⟨h1, h2, S.gr⟩
    · exact .inr ⟨x, l', h1, hx, h3, h4, S.call h5 h6⟩
end
theorem OpSt.grow {base g rb ob : Nat} {w0 w w2 : World} {o : OpV} {vt : Value} {l : List UInt8} (S : OpSt base g rb ob w0 w o vt l) {x : Obj} {row : Option Nat} (hg : (w.alloc x).grownBy w2 row) (hr : ∀ k, row = some k → rb ≤ k ∧ k ≠ rb ∧ k ≠ ob) : OpSt base g rb ob w0 w2 o vt l := by
  obtain ⟨gr, ⟨⟨y, hy, hb⟩, hl⟩, res, obj, lt⟩ := S
  have one : ∀ k, k < w.heap.size → (k < rb ∨ k = rb ∨ k = ob) → w2.heap[k]? = w.heap[k]? := fun k hk ho => (hg.block k (by simp; omega) (fun e => by have := hr k e.symm; omega)).trans (Lib.alloc_old w x k hk)
  have z1 := gr.size
  have z2 := (Array.getElem?_eq_some_iff.1 res).1
  have z3 := (Array.getElem?_eq_some_iff.1 obj).1
  have z4 := hg.size
  simp at z4
  refine ⟨⟨hg.os.trans gr.os, hg.tape.trans gr.tape, hg.output.trans gr.output, by omega, fun k hk hne => ?_⟩, ⟨⟨y, (one g (by omega) (by omega)).trans hy, hb.keep fun k hk => one k (by omega) (by omega)⟩, hl⟩, (one rb z2 (by omega)).trans res, (one ob z3 (by omega)).trans obj, lt⟩
  exact (one k (by omega) (by omega)).trans (gr.block k hk hne)
theorem OpSt.drewN {base g rb ob : Nat} {w0 w : World} {o : OpV} {vt : Value} {l : List UInt8} (S : OpSt base g rb ob w0 w o vt l) (n : Nat) : OpSt base g rb ob w0 (w.drewN n) o vt l := by
  obtain ⟨gr, ⟨⟨x, hx, hb⟩, hl⟩, res, obj, lt⟩ := S
  exact ⟨⟨gr.os, gr.tape, gr.output, gr.size, gr.block⟩, ⟨⟨x, hx, hb.keep fun _ _ => rfl⟩, hl⟩, res, obj, lt⟩
theorem own_drewN {w : World} {base e sz n : Nat} {v : Value} {xs : List Value} (h : w.ownsRow base e sz v n xs) (q : Nat) : (w.drewN q).ownsRow base e sz v n xs := h
theorem hf_text (v : Value) (W : World) : (callFunc 69 #[v]).run Tryz.prog W = .ok (.enter 69 #[v]) W := by
  have h1 : ¬ Tryz.f69.name = "runtime.NumGoroutine" := fun e => by have h : (Tryz.f69.name == "runtime.NumGoroutine") = false := by kernel_rfl
                                                                    rw [e] at h; exact absurd h (by decide)
  have h2 : ¬ Tryz.f69.body = none := fun e => by have h : Tryz.f69.body.isNone = false := by kernel_rfl
                                                  rw [e] at h; exact absurd h (by decide)
  simp [callFunc, go_sem, Tryz.func69, h1, h2]
theorem step_call1 {P : Program} {ops : Array Oper} {o : Oper} {a : Act} {K : Act → World → Prop} {Q : Exit → Act → World → Prop} {E : Prop} {W : World} (hgd : o.guard = none) (f : FuncId) (x : Operand) (t : TypeId) (ho : o.op = .call { callee := .value (.func f), args := #[x], argTypes := #[t] }) (v : Value)
    (hx : a.eval x = v) (hf : (callFunc f #[v]).run P W = .ok (.enter f #[v]) W) {R : Ending → World → Prop} (hc : Calls P f #[v] W R)
    (hk : ∀ e w', R e w' → match e with | .returned u => K (a.put o.dst u) w' | .panicked ch => Q (.panic ch) a w' | .outgrown => LetsOut Q) : if Region.wanted o (yielded ops a.tmps) = true then Oper.wp P o a W K Q else E := by
  have hw : Region.wanted o (yielded ops a.tmps) = true := by simp [Region.wanted, hgd]
  rw [if_pos hw]
  have h1 : (execOp a.eval o).run P W = .ok (.enter f #[v]) W := by
    unfold execOp
    have e1 : a.eval (.func f) = .func (.func f) #[] #[] := rfl
    simp only [ho, resolve, invoke, e1, Sem.run_bind, List.map_toArray, List.map_cons, List.map_nil, hx]
    simp only [Deferred.ofValue, Sem.run_pure, Result.andThen_ok]
    simpa using hf
  unfold Oper.wp
  rw [h1]
  exact hc.mono (fun e w' h => by have := hk e w' h; cases e <;> exact this)
/-- A text behind a list of texts of one's own, as one step. -/
theorem step_text1 {ops : Array Oper} {o : Oper} {a : Act} {K : Act → World → Prop} {Q : Exit → Act → World → Prop} {E : Prop} {W : World} (hgd : o.guard = none) (s x : Operand) (ho : o.op = .call { callee := .builtin .append, args := #[s, x], argTypes := #[45, 45] }) (base : Nat) (v : Value) (n : Nat) (l : List ByteArray) (c : ByteArray) (g : Nat)
    (hs : a.eval s = v) (hx : a.eval x = .slice (some ⟨g, 0, none⟩) 1 1) (hg : W.cell? ⟨g, 0, none⟩ = some (.string c)) (hl : n ≤ 1048576) (hb : base ≤ W.heap.size) (h1 : W.ownsRow base 9 1 v n (tx l))
    (h : ∀ v' w', Hid (w'.ownsRow base 9 1 v' (n + 1) (tx (l ++ [c]))) → Hid (W.grownBy w' v.ownBlock) → K (a.put o.dst v') w') : if Region.wanted o (yielded ops a.tmps) = true then Oper.wp Tryz.prog o a W K Q else E := by
  obtain ⟨i0, hi, hz0, hz1, hz2⟩ := info_parts info_text
  have hw : Region.wanted o (yielded ops a.tmps) = true := by simp [Region.wanted, hgd]
  rw [if_pos hw]
  obtain ⟨v', w', hr, ho2, hg2, _, hat⟩ := run_append_own_at (P := Tryz.prog) W base 45 o.type 9 i0 (.string ⟨#[]⟩) 1 16 Tryz.underlying45 hi hz0 hz1 hz2 rfl (by decide) v n (tx l) h1 ⟨g, 0, none⟩ 1 1 [.string c] rfl (by
    intro j u hj
    match j, hj with
    | 0, hj => simp at hj; subst hj; simpa [Addr.add] using hg) (by intro u hu; simp at hu; subst hu; rfl) (by unfold maxLen; omega) (by omega) hb
  unfold Oper.wp execOp
  simp only [ho, resolve, invoke, builtin, Sem.run_bind, Sem.run_pure, Result.andThen_ok, List.map_toArray, List.map_cons, List.map_nil, hs, hx, hr]
  refine h v' w' (Lib.hid ?_) (Lib.hid hg2)
  have e : tx (l ++ [c]) = tx l ++ [.string c] := by simp [tx]
  rw [e]
  exact ho2
theorem Rd.alloc {base g : Nat} {w : World} {l : List UInt8} (h : Rd base g w l) (o : Obj) : Rd base g (w.alloc o) l := by
  obtain ⟨⟨x, hx, hb⟩, hl⟩ := h
  have hg := (Array.getElem?_eq_some_iff.1 hx).1
  exact ⟨⟨x, blk_old hx, hb.keep fun k hk => Lib.alloc_old w o k (by omega)⟩, hl⟩
/-- What the reader's op answers. -/
def OpPost (base g : Nat) (w0 : World) (l : List UInt8) (e : Ending) (w' : World) : Prop :=
  (rdOp l = none ∧ e = .panicked torn ∧ w0.grownBy w' (some g)) ∨ ∃ (o : OpV) (vt : Value) (l' : List UInt8), rdOp l = some (o, l') ∧ l'.length ≤ l.length ∧ e = .returned (.agg (opc o vt)) ∧ w0.grownBy w' (some g) ∧ Rd base g w' l' ∧ w'.ownsRow w0.heap.size 9 1 vt o.svc.tags.length (tx o.svc.tags)
theorem op_bad1 {l : List UInt8} (h : rdNum 1 l = none) : rdOp l = none := by unfold rdOp; rw [h]; rfl
theorem op_bad2 {l l1 : List UInt8} {k : Nat} (h : rdNum 1 l = some (k, l1)) (h2 : rdCas l1 = none) : rdOp l = none := by unfold rdOp; rw [h]; simp only [Option.bind_some]; rw [h2]; rfl
theorem op_bad3 {l l1 l2 : List UInt8} {k : Nat} {c : Bool × Nat} (h : rdNum 1 l = some (k, l1)) (h2 : rdCas l1 = some (c, l2)) (h3 : rdRec k l2 = none) : rdOp l = none := by
  unfold rdOp; rw [h]; simp only [Option.bind_some]; rw [h2]; simp only [Option.bind_some]; rw [h3]; rfl
theorem op_good {l l1 l2 l3 : List UInt8} {k : Nat} {c : Bool} {wn : Nat} {n : Nod} {s : Svc} {x : Chk} (h : rdNum 1 l = some (k, l1)) (h2 : rdCas l1 = some ((c, wn), l2)) (h3 : rdRec k l2 = some ((n, s, x), l3)) : rdOp l = some (⟨(k : Int), n, s, x, c, (wn : Int)⟩, l3) := by
  unfold rdOp; rw [h]; simp only [Option.bind_some]; rw [h2]; simp only [Option.bind_some]; rw [h3]; rfl

set_option maxHeartbeats 4000000 in
set_option maxRecDepth 100000 in
theorem rdop_calls (base g : Nat) (l : List UInt8) (hl : l.length ≤ 140737488355328) (w : World) (hgw : g < w.heap.size) (h : Rd base g w l) :
    Calls Tryz.prog 55 #[.pointer (some ⟨g, 0, none⟩)] w (OpPost base g w l) := by
  have HR := Lib.hid h
  clear h
  go_enter Tryz.func55, Tryz.ntmps55
  go_wp2_with (go_at_call 37; refine (calls_hid (num_any base g l 1 (by decide) hl _ (HR.out.alloc _))).mono ?_)
  rintro e w1 hh
  rcases hh.out with ⟨h1, rfl, rfl⟩ | ⟨k, l1, h1, hk, hl1, rfl, hg1, hz1, hr1⟩
  · clear hh
    exact ⟨rfl, .inl ⟨op_bad1 h1, rfl, ⟨rfl, rfl, rfl, by simp, fun i hi _ => Lib.alloc_old w _ i hi⟩⟩⟩
  clear hh
  have hk2 : k < 256 := by simpa using hk
  have HS1 := Lib.hid (fun (o : OpV) => OpSt.start hgw hg1 hr1 o)
  have H1 := Lib.hid h1
  clear hg1 hr1 h1 hk hz1 HR
  go_upto_region 2 with (refine store_whole rfl 53 3 (.tmp 9) rfl rfl w1.heap.size #[.int .i64 0, .string E0, .string E0, .int .u64 0, .int .u64 0, .string E0, .string E0, .string E0, .int .i64 0, .slice none 0 0, .int .u64 0, .int .u64 0, .string E0, .string E0, .string E0, .int .i64 0, .string E0, .int .u64 0, .int .u64 0, .bool false, .int .u64 0] #[.int .i64 k, .string E0, .string E0, .int .u64 0, .int .u64 0, .string E0, .string E0, .string E0, .int .i64 0, .slice none 0 0, .int .u64 0, .int .u64 0, .string E0, .string E0, .string E0, .int .i64 0, .string E0, .int .u64 0, .int .u64 0, .bool false, .int .u64 0] 53 rfl rfl (blk_new _ _) (by kernel_rfl) rfl rfl ?_; intro W1 hW1 pR pK; clear pR pK)
  have S1 : Hid (OpSt base g w.heap.size w1.heap.size w W1 ⟨(k : Int), Nod.zero, Svc.zero, Chk.zero, false, 0⟩ (.slice none 0 0) l1) := Lib.hid (by have hh1 := HS1.out ⟨(k : Int), Nod.zero, Svc.zero, Chk.zero, false, 0⟩; rw [hW1.out]; exact hh1)
  go_wp2_with (go_at_call 37; refine (calls_hid (num_op 1 (by decide) (by omega) S1.out)).mono ?_)
  rintro e w2 hh
  rcases hh.out with ⟨h2, rfl, hgx⟩ | ⟨x, l2, h2, hx, hl2, rfl, hS2⟩
  · clear hh
    exact ⟨rfl, .inl ⟨op_bad2 H1.out (by unfold rdCas; rw [h2]; rfl), rfl, hgx⟩⟩
  clear hh
  have hx2 : x < 256 := by simpa using hx
  have S2 := Lib.hid hS2
  have H2 := Lib.hid h2
  clear hS2 h2 hx HS1 hW1 S1
  generalize w1.heap.size = ob at *
  go_upto_block 0 with fail
  go_cut [] from 6 (fun wx => ∃ (cas : Bool) (wn : Nat) (l3 : List UInt8), rdCas l1 = some ((cas, wn), l3) ∧ l3.length ≤ l.length ∧ OpSt base g w.heap.size ob w wx ⟨(k : Int), Nod.zero, Svc.zero, Chk.zero, cas, (wn : Int)⟩ (.slice none 0 0) l3)
  case first =>
    have hlt := S2.out.lt
    by_cases x0 : x = 0
    · subst x0
      go_wp2
      go_meet
      case rel => exact ⟨false, 0, l2, by unfold rdCas; rw [H2.out]; rfl, by omega, S2.out⟩
    · by_cases x1 : x = 1
      · subst x1
        have c19 : w2.cell? ⟨ob, 19, none⟩ = some (.bool false) := Blk.cell S2.out.obj 19
        have f19 := Blk.free S2.out.obj 19
        have T2 : Hid (OpSt base g w.heap.size ob w (w2.setCell ⟨ob, 19, none⟩ (.bool true)) ⟨(k : Int), Nod.zero, Svc.zero, Chk.zero, true, 0⟩ (.slice none 0 0) l2) := Lib.hid (S2.out.set 19 (.bool true) _ _ rfl)
        go_wp2_with (go_at_call 37; refine (calls_hid (num_op 8 (by decide) (by omega) T2.out)).mono ?_)
        rintro e w3 hh
        rcases hh.out with ⟨h3, rfl, hgx⟩ | ⟨y, l3, h3, hy, hl3, rfl, hS3⟩
        · clear hh
          exact ⟨rfl, .inl ⟨op_bad2 H1.out (by unfold rdCas; rw [H2.out]; simp [h3]), rfl, hgx⟩⟩
        clear hh
        have c20 : w3.cell? ⟨ob, 20, none⟩ = some (.int .u64 0) := Blk.cell hS3.obj 20
        have f20 := Blk.free hS3.obj 20
        have T3 : Hid (OpSt base g w.heap.size ob w (w3.setCell ⟨ob, 20, none⟩ (.int .u64 (y : Int))) ⟨(k : Int), Nod.zero, Svc.zero, Chk.zero, true, (y : Int)⟩ (.slice none 0 0) l3) := Lib.hid (hS3.set 20 (.int .u64 (y : Int)) _ _ rfl)
        have H3 := Lib.hid h3
        clear hS3 h3 hy c19 f19 T2
        go_wp2
        go_meet
        case rel => exact ⟨true, y, l3, by unfold rdCas; rw [H2.out]; simp [H3.out], by omega, T3.out⟩
      · have t0 : ((x : Int) == 0) = false := by simp; omega
        have t1 : ((x : Int) == 1) = false := by simp; omega
        go_wp2
        exact ⟨rfl, .inl ⟨op_bad2 H1.out (by unfold rdCas; rw [H2.out]; simp [x0, x1]), rfl, S2.out.gr⟩⟩
  case rest =>
  clear H2 S2 hl2 hx2
  obtain ⟨cas, wn, q0, h3, hq0, hS3⟩ := hcut
  have H3 := Lib.hid h3
  have S3 := Lib.hid hS3
  have c0 : wc.cell? ⟨ob, 0, none⟩ = some (.int .i64 (k : Int)) := Blk.cell hS3.obj 0
  have hlt := hS3.lt
  clear h3 hS3
  go_upto_block 1 with fail
  go_cut [] from 24 (fun wx => ∃ (n : Nod) (s : Svc) (c : Chk) (vt : Value) (l4 : List UInt8), rdRec k q0 = some ((n, s, c), l4) ∧ l4.length ≤ l.length ∧ OpSt base g w.heap.size ob w wx ⟨(k : Int), n, s, c, cas, (wn : Int)⟩ vt l4 ∧ wx.ownsRow w.heap.size 9 1 vt s.tags.length (tx s.tags))
  case first =>

    by_cases k1 : k = 1
    · subst k1
      go_wp2_with (go_at_call 69; refine (calls_hid (text_op (by omega) S3.out)).mono ?_)
      rintro e v1 hh
      rcases hh.out with ⟨h, rfl, hgx⟩ | ⟨x1, q1, h, hle1, rfl, hS, -⟩
      · clear hh
        exact ⟨rfl, .inl ⟨op_bad3 H1.out H3.out (by simp [rdRec, h]), rfl, hgx⟩⟩
      clear hh
      have G1 := Lib.hid h
      clear h
      have c1 : v1.cell? ⟨ob, 1, none⟩ = some (.string E0) := Blk.cell hS.obj 1
      have f1 := Blk.free hS.obj 1
      have z1 := (Array.getElem?_eq_some_iff.1 hS.obj).1
      have S11 : Hid (OpSt base g w.heap.size ob w (v1.setCell ⟨ob, 1, none⟩ (.string x1)) ⟨1, ⟨x1, E0, 0, 0⟩, Svc.zero, Chk.zero, cas, (wn : Int)⟩ (.slice none 0 0) q1) := Lib.hid (hS.set 1 (.string x1) _ _ rfl)
      clear hS
      go_wp2_with (go_at_call 69; refine (calls_hid (text_op (by omega) S11.out)).mono ?_)
      rintro e v2 hh
      rcases hh.out with ⟨h, rfl, hgx⟩ | ⟨x2, q2, h, hle2, rfl, hS, -⟩
      · clear hh
        exact ⟨rfl, .inl ⟨op_bad3 H1.out H3.out (by simp [rdRec, G1.out, h]), rfl, hgx⟩⟩
      clear hh
      have G2 := Lib.hid h
      clear h
      have c2 : v2.cell? ⟨ob, 2, none⟩ = some (.string E0) := Blk.cell hS.obj 2
      have f2 := Blk.free hS.obj 2
      have z2 := (Array.getElem?_eq_some_iff.1 hS.obj).1
      have S12 : Hid (OpSt base g w.heap.size ob w (v2.setCell ⟨ob, 2, none⟩ (.string x2)) ⟨1, ⟨x1, x2, 0, 0⟩, Svc.zero, Chk.zero, cas, (wn : Int)⟩ (.slice none 0 0) q2) := Lib.hid (hS.set 2 (.string x2) _ _ rfl)
      clear hS S11
      go_wp2
      go_meet
      case rel => exact ⟨⟨x1, x2, 0, 0⟩, Svc.zero, Chk.zero, (.slice none 0 0), q2, by simp [rdRec, G1.out, G2.out, Nod.zero, Svc.zero, Chk.zero], by omega, S12.out, World.ownsRow_nil _ _ _ _⟩
    by_cases k2 : k = 2
    · subst k2
      go_wp2_with (go_at_call 69; refine (calls_hid (text_op (by omega) S3.out)).mono ?_)
      rintro e v1 hh
      rcases hh.out with ⟨h, rfl, hgx⟩ | ⟨x1, q1, h, hle1, rfl, hS, -⟩
      · clear hh
        exact ⟨rfl, .inl ⟨op_bad3 H1.out H3.out (by simp [rdRec, h]), rfl, hgx⟩⟩
      clear hh
      have G1 := Lib.hid h
      clear h
      have c1 : v1.cell? ⟨ob, 5, none⟩ = some (.string E0) := Blk.cell hS.obj 5
      have f1 := Blk.free hS.obj 5
      have z1 := (Array.getElem?_eq_some_iff.1 hS.obj).1
      have S21 : Hid (OpSt base g w.heap.size ob w (v1.setCell ⟨ob, 5, none⟩ (.string x1)) ⟨2, Nod.zero, ⟨x1, E0, E0, 0, [], 0, 0⟩, Chk.zero, cas, (wn : Int)⟩ (.slice none 0 0) q1) := Lib.hid (hS.set 5 (.string x1) _ _ rfl)
      clear hS
      go_wp2_with (go_at_call 69; refine (calls_hid (text_op (by omega) S21.out)).mono ?_)
      rintro e v2 hh
      rcases hh.out with ⟨h, rfl, hgx⟩ | ⟨x2, q2, h, hle2, rfl, hS, -⟩
      · clear hh
        exact ⟨rfl, .inl ⟨op_bad3 H1.out H3.out (by simp [rdRec, G1.out, h]), rfl, hgx⟩⟩
      clear hh
      have G2 := Lib.hid h
      clear h
      have c2 : v2.cell? ⟨ob, 6, none⟩ = some (.string E0) := Blk.cell hS.obj 6
      have f2 := Blk.free hS.obj 6
      have z2 := (Array.getElem?_eq_some_iff.1 hS.obj).1
      have S22 : Hid (OpSt base g w.heap.size ob w (v2.setCell ⟨ob, 6, none⟩ (.string x2)) ⟨2, Nod.zero, ⟨x1, x2, E0, 0, [], 0, 0⟩, Chk.zero, cas, (wn : Int)⟩ (.slice none 0 0) q2) := Lib.hid (hS.set 6 (.string x2) _ _ rfl)
      clear hS S21
      go_wp2_with (go_at_call 69; refine (calls_hid (text_op (by omega) S22.out)).mono ?_)
      rintro e v3 hh
      rcases hh.out with ⟨h, rfl, hgx⟩ | ⟨x3, q3, h, hle3, rfl, hS, -⟩
      · clear hh
        exact ⟨rfl, .inl ⟨op_bad3 H1.out H3.out (by simp [rdRec, G1.out, G2.out, h]), rfl, hgx⟩⟩
      clear hh
      have G3 := Lib.hid h
      clear h
      have c3 : v3.cell? ⟨ob, 7, none⟩ = some (.string E0) := Blk.cell hS.obj 7
      have f3 := Blk.free hS.obj 7
      have z3 := (Array.getElem?_eq_some_iff.1 hS.obj).1
      have S23 : Hid (OpSt base g w.heap.size ob w (v3.setCell ⟨ob, 7, none⟩ (.string x3)) ⟨2, Nod.zero, ⟨x1, x2, x3, 0, [], 0, 0⟩, Chk.zero, cas, (wn : Int)⟩ (.slice none 0 0) q3) := Lib.hid (hS.set 7 (.string x3) _ _ rfl)
      clear hS S22
      go_wp2_with (go_at_call 37; refine (calls_hid (num_op 2 (by decide) (by omega) S23.out)).mono ?_)
      rintro e v4 hh
      rcases hh.out with ⟨h, rfl, hgx⟩ | ⟨x4, q4, h, hx, hle4, rfl, hS⟩
      · clear hh
        exact ⟨rfl, .inl ⟨op_bad3 H1.out H3.out (by simp [rdRec, G1.out, G2.out, G3.out, h]), rfl, hgx⟩⟩
      clear hh
      have hx4 : x4 < 65536 := by simpa using hx
      clear hx
      have G4 := Lib.hid h
      clear h
      have c4 : v4.cell? ⟨ob, 8, none⟩ = some (.int .i64 0) := Blk.cell hS.obj 8
      have f4 := Blk.free hS.obj 8
      have z4 := (Array.getElem?_eq_some_iff.1 hS.obj).1
      have S24 : Hid (OpSt base g w.heap.size ob w (v4.setCell ⟨ob, 8, none⟩ (.int .i64 (x4 : Int))) ⟨2, Nod.zero, ⟨x1, x2, x3, (x4 : Int), [], 0, 0⟩, Chk.zero, cas, (wn : Int)⟩ (.slice none 0 0) q4) := Lib.hid (hS.set 8 (.int .i64 (x4 : Int)) _ _ rfl)
      clear hS S23
      go_wp2_with (go_at_call 37; refine (calls_hid (num_op 1 (by decide) (by omega) S24.out)).mono ?_)
      rintro e v5 hh
      rcases hh.out with ⟨h, rfl, hgx⟩ | ⟨x5, q5, h, hx, hle5, rfl, hS⟩
      · clear hh
        exact ⟨rfl, .inl ⟨op_bad3 H1.out H3.out (by simp [rdRec, G1.out, G2.out, G3.out, G4.out, h]), rfl, hgx⟩⟩
      clear hh
      have hx5 : x5 < 256 := by simpa using hx
      clear hx
      have G5 := Lib.hid h
      clear h
      have S25 := Lib.hid hS
      clear hS
      go_wp2
      go_loopw [61] (fun i wr => ∃ (m : Nat) (ts : List ByteArray) (vt : Value) (q : List UInt8), m ≤ x5 ∧ i = .int .u64 m ∧ ts.length = m ∧ q.length ≤ l.length ∧ Hid (rdTexts x5 q5 = (rdTexts (x5 - m) q).map (fun y => (ts ++ y.1, y.2))) ∧ Hid (OpSt base g w.heap.size ob w wr ⟨2, Nod.zero, ⟨x1, x2, x3, (x4 : Int), ts, 0, 0⟩, Chk.zero, cas, (wn : Int)⟩ vt q) ∧ Hid (wr.ownsRow w.heap.size 9 1 vt m (tx ts))) (fun i _ => x5 - (intOf i).toNat)
      case atStart => exact ⟨0, [], (.slice none 0 0), q5, Nat.zero_le _, rfl, rfl, by omega, Lib.hid (by simp), Lib.hid S25.out, Lib.hid (World.ownsRow_nil _ _ _ _)⟩
      case round =>
        obtain ⟨m, ts, vt, q, hm, rfl, hts, hq, hT, hS, hO⟩ := hrel
        by_cases hlt : m < x5
        · have hstep : x5 - m = (x5 - (m + 1)) + 1 := by omega
          obtain ⟨A9, p9, rfl⟩ := own_slice hO.out
          have hm6 : m ≤ 1048576 := by omega
          have zw := hS.out.gr.size
          have t1 : decide ((m : Int) < (x5 : Int)) = true := decide_eq_true (by omega)
          have c9 : wr.cell? ⟨ob, 9, none⟩ = some (.slice A9 m p9) := Blk.cell hS.out.obj 9
          have HN := Lib.hid (fun (h : rdText q = none) => (show rdRec 2 q0 = none from by
            have e6 := hT.out
            rw [hstep, rdTexts, h] at e6
            simp [rdRec, G1.out, G2.out, G3.out, G4.out, G5.out, e6]))
          have HT6 := Lib.hid (fun (y : ByteArray) (r : List UInt8) (h : rdText q = some (y, r)) => (show rdTexts x5 q5 = (rdTexts (x5 - (m + 1)) r).map (fun z => ((ts ++ [y]) ++ z.1, z.2)) from by
            have e6 := hT.out
            rw [hstep, rdTexts, h] at e6
            simp only [Option.bind_some] at e6
            rw [e6]
            cases rdTexts (x5 - (m + 1)) r <;> simp))
          have hne6 := own_ne hO.out hS.out.obj (by decide)
          have hne7 := own_ne hO.out hS.out.res (by decide)
          have hge7 := fun k hk => (hO.out.lt k hk).1
          have hneg : ∀ k, (Value.slice A9 m p9).ownBlock = some k → some k ≠ some g := fun k hk e => by
            obtain ⟨⟨y, hy, _⟩, _⟩ := hS.out.rd
            exact own_ne hO.out hy (by decide) k hk (Option.some.inj e)
          go_upto_region 20 with fail
          have zob := (Array.getElem?_eq_some_iff.1 hS.out.obj).1
          go_region_law (first | (refine step_text1 (by rfl) (.tmp 67) (.tmp 70) (by rfl) w.heap.size _ m ts x6 v6.heap.size (by rfl) (by rfl) (by simp) hm6 (by simp; omega) (hO6.alloc _) ?_; intro v7 w7 hO7 hg7; obtain ⟨A7, p7, rfl⟩ := own_slice hO7.out; have h7 := (hg7.out.block ob (by simp; omega) (fun e => hne6 ob e.symm rfl)).trans (blk_old hS6.obj); have c97 : w7.cell? ⟨ob, 9, none⟩ = some (.slice A9 m p9) := Blk.cell h7 9; have f97 := Blk.free h7 9) | (refine step_call1 (by rfl) 69 (.tmp 68) 81 (by rfl) (.pointer (some ⟨g, 0, none⟩)) (by rfl) (hf_text _ _) (text_op (by omega) (hS.out.drewN 1)) ?_; intro e v6 hh; rcases hh with ⟨h, rfl, hgx⟩ | ⟨x6, q6, h, hle6, rfl, hS6, hg6⟩; (exact ⟨rfl, .inl ⟨op_bad3 H1.out H3.out (HN.out h), rfl, hgx⟩⟩); have hO6 : v6.ownsRow w.heap.size 9 1 (.slice A9 m p9) m (tx ts) := own_grown (own_drewN hO.out 1) hg6 hneg; have z6 := hg6.size; have z7 := (Array.getElem?_eq_some_iff.1 hS6.obj).1; have c96 : v6.cell? ⟨ob, 9, none⟩ = some (.slice A9 m p9) := Blk.cell hS6.obj 9))
          all_goals (
            have S7 : Hid (OpSt base g w.heap.size ob w (w7.setCell ⟨ob, 9, none⟩ (.slice A7 (m + 1) p7)) ⟨2, Nod.zero, ⟨x1, x2, x3, (x4 : Int), (ts ++ [x6]), 0, 0⟩, Chk.zero, cas, (wn : Int)⟩ (.slice A7 (m + 1) p7) q6) := Lib.hid ((hS6.grow hg7.out (fun k hk => ⟨hge7 k hk, hne7 k hk, hne6 k hk⟩)).set 9 (.slice A7 (m + 1) p7) _ _ rfl)
            have O7 : Hid ((w7.setCell ⟨ob, 9, none⟩ (.slice A7 (m + 1) p7)).ownsRow w.heap.size 9 1 (.slice A7 (m + 1) p7) (m + 1) (tx (ts ++ [x6]))) := Lib.hid (own_setCell hO7.out (own_ne hO7.out h7 (by decide)) _)
            have T7 := Lib.hid (HT6.out _ _ h)
            have hq6 : q6.length ≤ l.length := by omega
            clear hS6 hg6 hO6 hO7 hg7 h7 c96 c97 f97 c9 h
            go_wp2
            go_roundw
            case rel => exact ⟨m + 1, ts ++ [x6], _, q6, by omega, by go_num, by simp [hts], hq6, T7, S7, O7⟩
            case measure => simp [intOf]; omega)
        · obtain rfl : m = x5 := by omega
          have t1 : decide ((m : Int) < (m : Int)) = false := decide_eq_false (by omega)
          have hT2 := hT.out
          rw [Nat.sub_self] at hT2
          have HT := Lib.hid (show rdTexts m q5 = some (ts, q) from by rw [hT2]; simp [rdTexts])
          clear hT2
          go_wp2
          go_meet
          case rel => exact ⟨Nod.zero, ⟨x1, x2, x3, (x4 : Int), ts, 0, 0⟩, Chk.zero, vt, q, by simp [rdRec, G1.out, G2.out, G3.out, G4.out, G5.out, HT.out], hq, hS.out, by rw [hts]; exact hO.out⟩
    by_cases k3 : k = 3
    · subst k3
      go_wp2_with (go_at_call 69; refine (calls_hid (text_op (by omega) S3.out)).mono ?_)
      rintro e v1 hh
      rcases hh.out with ⟨h, rfl, hgx⟩ | ⟨x1, q1, h, hle1, rfl, hS, -⟩
      · clear hh
        exact ⟨rfl, .inl ⟨op_bad3 H1.out H3.out (by simp [rdRec, h]), rfl, hgx⟩⟩
      clear hh
      have G1 := Lib.hid h
      clear h
      have c1 : v1.cell? ⟨ob, 12, none⟩ = some (.string E0) := Blk.cell hS.obj 12
      have f1 := Blk.free hS.obj 12
      have z1 := (Array.getElem?_eq_some_iff.1 hS.obj).1
      have S31 : Hid (OpSt base g w.heap.size ob w (v1.setCell ⟨ob, 12, none⟩ (.string x1)) ⟨3, Nod.zero, Svc.zero, ⟨x1, E0, E0, 0, E0, 0, 0⟩, cas, (wn : Int)⟩ (.slice none 0 0) q1) := Lib.hid (hS.set 12 (.string x1) _ _ rfl)
      clear hS
      go_wp2_with (go_at_call 69; refine (calls_hid (text_op (by omega) S31.out)).mono ?_)
      rintro e v2 hh
      rcases hh.out with ⟨h, rfl, hgx⟩ | ⟨x2, q2, h, hle2, rfl, hS, -⟩
      · clear hh
        exact ⟨rfl, .inl ⟨op_bad3 H1.out H3.out (by simp [rdRec, G1.out, h]), rfl, hgx⟩⟩
      clear hh
      have G2 := Lib.hid h
      clear h
      have c2 : v2.cell? ⟨ob, 13, none⟩ = some (.string E0) := Blk.cell hS.obj 13
      have f2 := Blk.free hS.obj 13
      have z2 := (Array.getElem?_eq_some_iff.1 hS.obj).1
      have S32 : Hid (OpSt base g w.heap.size ob w (v2.setCell ⟨ob, 13, none⟩ (.string x2)) ⟨3, Nod.zero, Svc.zero, ⟨x1, x2, E0, 0, E0, 0, 0⟩, cas, (wn : Int)⟩ (.slice none 0 0) q2) := Lib.hid (hS.set 13 (.string x2) _ _ rfl)
      clear hS S31
      go_wp2_with (go_at_call 69; refine (calls_hid (text_op (by omega) S32.out)).mono ?_)
      rintro e v3 hh
      rcases hh.out with ⟨h, rfl, hgx⟩ | ⟨x3, q3, h, hle3, rfl, hS, -⟩
      · clear hh
        exact ⟨rfl, .inl ⟨op_bad3 H1.out H3.out (by simp [rdRec, G1.out, G2.out, h]), rfl, hgx⟩⟩
      clear hh
      have G3 := Lib.hid h
      clear h
      have c3 : v3.cell? ⟨ob, 14, none⟩ = some (.string E0) := Blk.cell hS.obj 14
      have f3 := Blk.free hS.obj 14
      have z3 := (Array.getElem?_eq_some_iff.1 hS.obj).1
      have S33 : Hid (OpSt base g w.heap.size ob w (v3.setCell ⟨ob, 14, none⟩ (.string x3)) ⟨3, Nod.zero, Svc.zero, ⟨x1, x2, x3, 0, E0, 0, 0⟩, cas, (wn : Int)⟩ (.slice none 0 0) q3) := Lib.hid (hS.set 14 (.string x3) _ _ rfl)
      clear hS S32
      go_wp2_with (go_at_call 37; refine (calls_hid (num_op 1 (by decide) (by omega) S33.out)).mono ?_)
      rintro e v4 hh
      rcases hh.out with ⟨h, rfl, hgx⟩ | ⟨x4, q4, h, hx, hle4, rfl, hS⟩
      · clear hh
        exact ⟨rfl, .inl ⟨op_bad3 H1.out H3.out (by simp [rdRec, G1.out, G2.out, G3.out, h]), rfl, hgx⟩⟩
      clear hh
      have hx4 : x4 < 256 := by simpa using hx
      clear hx
      have G4 := Lib.hid h
      clear h
      have c4 : v4.cell? ⟨ob, 15, none⟩ = some (.int .i64 0) := Blk.cell hS.obj 15
      have f4 := Blk.free hS.obj 15
      have z4 := (Array.getElem?_eq_some_iff.1 hS.obj).1
      have S34 : Hid (OpSt base g w.heap.size ob w (v4.setCell ⟨ob, 15, none⟩ (.int .i64 (x4 : Int))) ⟨3, Nod.zero, Svc.zero, ⟨x1, x2, x3, (x4 : Int), E0, 0, 0⟩, cas, (wn : Int)⟩ (.slice none 0 0) q4) := Lib.hid (hS.set 15 (.int .i64 (x4 : Int)) _ _ rfl)
      clear hS S33
      go_wp2_with (go_at_call 69; refine (calls_hid (text_op (by omega) S34.out)).mono ?_)
      rintro e v5 hh
      rcases hh.out with ⟨h, rfl, hgx⟩ | ⟨x5, q5, h, hle5, rfl, hS, -⟩
      · clear hh
        exact ⟨rfl, .inl ⟨op_bad3 H1.out H3.out (by simp [rdRec, G1.out, G2.out, G3.out, G4.out, h]), rfl, hgx⟩⟩
      clear hh
      have G5 := Lib.hid h
      clear h
      have c5 : v5.cell? ⟨ob, 16, none⟩ = some (.string E0) := Blk.cell hS.obj 16
      have f5 := Blk.free hS.obj 16
      have z5 := (Array.getElem?_eq_some_iff.1 hS.obj).1
      have S35 : Hid (OpSt base g w.heap.size ob w (v5.setCell ⟨ob, 16, none⟩ (.string x5)) ⟨3, Nod.zero, Svc.zero, ⟨x1, x2, x3, (x4 : Int), x5, 0, 0⟩, cas, (wn : Int)⟩ (.slice none 0 0) q5) := Lib.hid (hS.set 16 (.string x5) _ _ rfl)
      clear hS S34
      go_wp2
      go_meet
      case rel => exact ⟨Nod.zero, Svc.zero, ⟨x1, x2, x3, (x4 : Int), x5, 0, 0⟩, (.slice none 0 0), q5, by simp [rdRec, G1.out, G2.out, G3.out, G4.out, G5.out, Nod.zero, Svc.zero, Chk.zero], by omega, S35.out, World.ownsRow_nil _ _ _ _⟩
    by_cases k4 : k = 4
    · subst k4
      go_wp2_with (go_at_call 69; refine (calls_hid (text_op (by omega) S3.out)).mono ?_)
      rintro e v1 hh
      rcases hh.out with ⟨h, rfl, hgx⟩ | ⟨x1, q1, h, hle1, rfl, hS, -⟩
      · clear hh
        exact ⟨rfl, .inl ⟨op_bad3 H1.out H3.out (by simp [rdRec, h]), rfl, hgx⟩⟩
      clear hh
      have G1 := Lib.hid h
      clear h
      have c1 : v1.cell? ⟨ob, 1, none⟩ = some (.string E0) := Blk.cell hS.obj 1
      have f1 := Blk.free hS.obj 1
      have z1 := (Array.getElem?_eq_some_iff.1 hS.obj).1
      have S41 : Hid (OpSt base g w.heap.size ob w (v1.setCell ⟨ob, 1, none⟩ (.string x1)) ⟨4, ⟨x1, E0, 0, 0⟩, Svc.zero, Chk.zero, cas, (wn : Int)⟩ (.slice none 0 0) q1) := Lib.hid (hS.set 1 (.string x1) _ _ rfl)
      clear hS
      go_wp2
      go_meet
      case rel => exact ⟨⟨x1, E0, 0, 0⟩, Svc.zero, Chk.zero, (.slice none 0 0), q1, by simp [rdRec, G1.out, Nod.zero, Svc.zero, Chk.zero], by omega, S41.out, World.ownsRow_nil _ _ _ _⟩
    by_cases k5 : k = 5
    · subst k5
      go_wp2_with (go_at_call 69; refine (calls_hid (text_op (by omega) S3.out)).mono ?_)
      rintro e v1 hh
      rcases hh.out with ⟨h, rfl, hgx⟩ | ⟨x1, q1, h, hle1, rfl, hS, -⟩
      · clear hh
        exact ⟨rfl, .inl ⟨op_bad3 H1.out H3.out (by simp [rdRec, h]), rfl, hgx⟩⟩
      clear hh
      have G1 := Lib.hid h
      clear h
      have c1 : v1.cell? ⟨ob, 5, none⟩ = some (.string E0) := Blk.cell hS.obj 5
      have f1 := Blk.free hS.obj 5
      have z1 := (Array.getElem?_eq_some_iff.1 hS.obj).1
      have S51 : Hid (OpSt base g w.heap.size ob w (v1.setCell ⟨ob, 5, none⟩ (.string x1)) ⟨5, Nod.zero, ⟨x1, E0, E0, 0, [], 0, 0⟩, Chk.zero, cas, (wn : Int)⟩ (.slice none 0 0) q1) := Lib.hid (hS.set 5 (.string x1) _ _ rfl)
      clear hS
      go_wp2_with (go_at_call 69; refine (calls_hid (text_op (by omega) S51.out)).mono ?_)
      rintro e v2 hh
      rcases hh.out with ⟨h, rfl, hgx⟩ | ⟨x2, q2, h, hle2, rfl, hS, -⟩
      · clear hh
        exact ⟨rfl, .inl ⟨op_bad3 H1.out H3.out (by simp [rdRec, G1.out, h]), rfl, hgx⟩⟩
      clear hh
      have G2 := Lib.hid h
      clear h
      have c2 : v2.cell? ⟨ob, 6, none⟩ = some (.string E0) := Blk.cell hS.obj 6
      have f2 := Blk.free hS.obj 6
      have z2 := (Array.getElem?_eq_some_iff.1 hS.obj).1
      have S52 : Hid (OpSt base g w.heap.size ob w (v2.setCell ⟨ob, 6, none⟩ (.string x2)) ⟨5, Nod.zero, ⟨x1, x2, E0, 0, [], 0, 0⟩, Chk.zero, cas, (wn : Int)⟩ (.slice none 0 0) q2) := Lib.hid (hS.set 6 (.string x2) _ _ rfl)
      clear hS S51
      go_wp2
      go_meet
      case rel => exact ⟨Nod.zero, ⟨x1, x2, E0, 0, [], 0, 0⟩, Chk.zero, (.slice none 0 0), q2, by simp [rdRec, G1.out, G2.out, Nod.zero, Svc.zero, Chk.zero], by omega, S52.out, World.ownsRow_nil _ _ _ _⟩
    by_cases k6 : k = 6
    · subst k6
      go_wp2_with (go_at_call 69; refine (calls_hid (text_op (by omega) S3.out)).mono ?_)
      rintro e v1 hh
      rcases hh.out with ⟨h, rfl, hgx⟩ | ⟨x1, q1, h, hle1, rfl, hS, -⟩
      · clear hh
        exact ⟨rfl, .inl ⟨op_bad3 H1.out H3.out (by simp [rdRec, h]), rfl, hgx⟩⟩
      clear hh
      have G1 := Lib.hid h
      clear h
      have c1 : v1.cell? ⟨ob, 12, none⟩ = some (.string E0) := Blk.cell hS.obj 12
      have f1 := Blk.free hS.obj 12
      have z1 := (Array.getElem?_eq_some_iff.1 hS.obj).1
      have S61 : Hid (OpSt base g w.heap.size ob w (v1.setCell ⟨ob, 12, none⟩ (.string x1)) ⟨6, Nod.zero, Svc.zero, ⟨x1, E0, E0, 0, E0, 0, 0⟩, cas, (wn : Int)⟩ (.slice none 0 0) q1) := Lib.hid (hS.set 12 (.string x1) _ _ rfl)
      clear hS
      go_wp2_with (go_at_call 69; refine (calls_hid (text_op (by omega) S61.out)).mono ?_)
      rintro e v2 hh
      rcases hh.out with ⟨h, rfl, hgx⟩ | ⟨x2, q2, h, hle2, rfl, hS, -⟩
      · clear hh
        exact ⟨rfl, .inl ⟨op_bad3 H1.out H3.out (by simp [rdRec, G1.out, h]), rfl, hgx⟩⟩
      clear hh
      have G2 := Lib.hid h
      clear h
      have c2 : v2.cell? ⟨ob, 13, none⟩ = some (.string E0) := Blk.cell hS.obj 13
      have f2 := Blk.free hS.obj 13
      have z2 := (Array.getElem?_eq_some_iff.1 hS.obj).1
      have S62 : Hid (OpSt base g w.heap.size ob w (v2.setCell ⟨ob, 13, none⟩ (.string x2)) ⟨6, Nod.zero, Svc.zero, ⟨x1, x2, E0, 0, E0, 0, 0⟩, cas, (wn : Int)⟩ (.slice none 0 0) q2) := Lib.hid (hS.set 13 (.string x2) _ _ rfl)
      clear hS S61
      go_wp2
      go_meet
      case rel => exact ⟨Nod.zero, Svc.zero, ⟨x1, x2, E0, 0, E0, 0, 0⟩, (.slice none 0 0), q2, by simp [rdRec, G1.out, G2.out, Nod.zero, Svc.zero, Chk.zero], by omega, S62.out, World.ownsRow_nil _ _ _ _⟩
    have e1 : ((k : Int) == 1) = false := by simp; omega
    have e2 : ((k : Int) == 2) = false := by simp; omega
    have e3 : ((k : Int) == 3) = false := by simp; omega
    have e4 : ((k : Int) == 4) = false := by simp; omega
    have e5 : ((k : Int) == 5) = false := by simp; omega
    have e6 : ((k : Int) == 6) = false := by simp; omega
    go_wp2
    go_meet
    case rel => exact ⟨Nod.zero, Svc.zero, Chk.zero, (.slice none 0 0), q0, by simp [rdRec, k1, k2, k3, k4, k5, k6], hq0, S3.out, World.ownsRow_nil _ _ _ _⟩

  case rest =>
  obtain ⟨n, s, c, vt, l4, h4, hl4, hS, ho⟩ := hcut
  obtain ⟨A4, p4, rfl⟩ := own_slice ho
  have H4 := Lib.hid h4
  have S4 := Lib.hid hS
  have O4 := Lib.hid ho
  clear hS ho h4 S3 c0
  go_wp2_with (first | (refine wpList_load_row rfl 53 (.tmp 3) rfl ob rfl _ _ _ _ S4.out.obj Tryz.underlying53 rfl (by kernel_rfl) ?_) | (refine store_whole rfl 53 2 (.tmp 133) rfl rfl w.heap.size _ (opc ⟨(k : Int), n, s, c, cas, (wn : Int)⟩ (.slice A4 s.tags.length p4)) 53 rfl rfl S4.out.res (by kernel_rfl) rfl rfl ?_; intro W4 hW4 pR pK))
  refine bodyPost_ret (v := .agg (opc ⟨(k : Int), n, s, c, cas, (wn : Int)⟩ (.slice A4 s.tags.length p4))) (results_row1 Tryz.results55 _ _ w.heap.size 53 _ (0, 0) _ rfl pR Tryz.underlying53 rfl (by kernel_rfl)) rfl (Or.inr ⟨_, _, l4, op_good H1.out H3.out H4.out, hl4, rfl, ?_, ?_, ?_⟩)
  · rw [hW4.out]
    exact ⟨S4.out.gr.os, S4.out.gr.tape, S4.out.gr.output, by simpa [World.setRow] using S4.out.gr.size, fun i hi hne => (setRow_other _ _ _ _ (by omega)).trans (S4.out.gr.block i hi hne)⟩
  · obtain ⟨⟨v, hv, hb⟩, hlb⟩ := S4.out.rd
    exact ⟨⟨v, (pK g (by omega)).trans hv, hb.keep fun i hi => pK i (by omega)⟩, hlb⟩
  · rw [hW4.out]; exact own_setRow O4.out (own_ne O4.out S4.out.res (by decide))
end Go.Proofs.YtkhgfdlinobabaaGreatDoor.G
