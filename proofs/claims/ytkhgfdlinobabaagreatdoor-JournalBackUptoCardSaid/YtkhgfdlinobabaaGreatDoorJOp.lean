/- records.FixOp: what it answers. -/
import Derived.Test.YtkhgfdlinobabaaGreatDoorJChk
import Derived.Laws.Tables
import Derived.Laws.Rows
namespace Go.Proofs.YtkhgfdlinobabaaGreatDoor.G
open Go.RowKit
set_option linter.unusedVariables false
set_option linter.unusedSimpArgs false
section
variable {P : Program} {ops : Array Oper} {rest : List Oper} {o : Oper} {a : Act} {Q : Exit → Act → World → Prop}
/-- A store of a whole variable, as one step. -/
theorem store_whole {W : World} (hgd : o.guard = none) (t : TypeId) (p : Tmp) (v : Operand) (ho : o.op = .store t (.tmp p) v) (hN : o.dst = none) (g : Nat) (old cells : Array Value) (e : TypeId)
    (hx : a.eval (.tmp p) = .pointer (some ⟨g, 0, none⟩)) (hy : a.eval v = .agg cells) (hg : W.heap[g]? = some (.cells old e (0, 0))) (hi : (P.info? t).map (·.size) = some cells.size) (hold : old.size = cells.size) (h1 : cells.toList.all (·.oneCell') = true)
    (h : ∀ w', Hid (w' = W.setRow g cells) → w'.heap[g]? = some (.cells cells e (0, 0)) → (∀ k, k ≠ g → w'.heap[k]? = W.heap[k]?) → wpList P ops Q rest a w') : wpList P ops Q (o :: rest) a W := by
  refine wpList_plain hgd fun K hK => ?_
  refine wp_store_row t (.tmp p) v ho g cells hx hy e old hg hi hold (by rw [← Array.all_toList]; exact h1) ?_
  rw [hN]
  exact hK _ _ (h _ (Lib.hid rfl) (setRow_heap W g old cells e (0, 0) hg) (fun k hk => setRow_other W g k cells hk))
/-- What a function hands back whose results are a variable of its own and a slot. -/
theorem results_row {fn : Func} {p q : Tmp} {ty : TypeId} (h : fn.results = #[.cell p ty, .tmp q]) (tmps : Array Value) (w : World) (g : Nat) (t : TypeId) (cs : Array Value) (fr : Nat × Nat) (d : TypeDesc) (u : Value)
    (hp : tmps.getD p undef = .pointer (some ⟨g, 0, none⟩)) (hg : w.heap[g]? = some (.cells cs t fr))
    (hu : P.underlying ty = some d) (hd : (match d with | .struct _ | .array _ _ => true | _ => false) = true) (hi : (P.info? ty).map (·.size) = some cs.size) (hq : tmps.getD q undef = u) :
    (results fn tmps).run P w = .ok (.tuple #[.agg cs, u]) w := by
  have hp' : tmps[p]?.getD undef = .pointer (some ⟨g, 0, none⟩) := by simpa using hp
  have hq' : tmps[q]?.getD undef = u := by simpa using hq
  simp [results, h, hp', hq', asAddr, run_loadVar_row w g t ty cs fr d hg hu hd hi]
end
theorem set_blk {w : World} {g j : Nat} {cs : Array Value} {t : TypeId} (v : Value) (h : w.heap[g]? = some (.cells cs t (0, 0))) : (w.setCell ⟨g, j, none⟩ v).heap[g]? = some (.cells (cs.set! j v) t (0, 0)) := by
  simp [World.setCell, Array.getElem?_modify, h]
theorem set_far {w : World} {g i j : Nat} {x : Option Obj} (v : Value) (hne : i ≠ g) (h : w.heap[i]? = x) : (w.setCell ⟨g, j, none⟩ v).heap[i]? = x := (Below.heap_setCell _ _ _ _ hne).trans h
theorem size_setCell (w : World) (a : Addr) (v : Value) : (w.setCell a v).heap.size = w.heap.size := by simp [World.setCell]
theorem own_ne {w : World} {base e sz n q : Nat} {v : Value} {xs : List Value} {cs : Array Value} {t : TypeId} {fr : Nat × Nat} (h : w.ownsRow base e sz v n xs) (hq : w.heap[q]? = some (.cells cs t fr)) (hne : e ≠ t) : ∀ k, v.ownBlock = some k → k ≠ q := by
  intro k hk
  rcases h.2 with ⟨rfl, _⟩ | ⟨g, cap, cur, rfl, _, hg, _⟩
  · simp [Value.ownBlock] at hk
  · simp [Value.ownBlock] at hk
    subst hk
    rintro rfl
    rw [hq] at hg
    injection hg with hg
    injection hg with _ h2
    exact hne h2.symm
theorem own_setRow {w : World} {base e sz n g : Nat} {v : Value} {xs : List Value} {cs : Array Value} (h : w.ownsRow base e sz v n xs) (hne : ∀ k, v.ownBlock = some k → k ≠ g) : (w.setRow g cs).ownsRow base e sz v n xs := by
  refine ⟨h.1, ?_⟩
  rcases h.2 with h2 | ⟨g', cap, cur, hv, hg, hh, r⟩
  · exact .inl h2
  · exact .inr ⟨g', cap, cur, hv, hg, (setRow_other w g g' cs (hne g' (by rw [hv]; rfl))).trans hh, r⟩
theorem alloc3 (w : World) (a b c : Obj) : (((w.alloc a).alloc b).alloc c).heap[w.heap.size + 1 + 1]? = some c := by
  have h := blk_new ((w.alloc a).alloc b) c
  rw [show ((w.alloc a).alloc b).heap.size = w.heap.size + 1 + 1 from by simp] at h
  exact h
theorem alloc2 (w : World) (a b c : Obj) : (((w.alloc a).alloc b).alloc c).heap[w.heap.size + 1]? = some b := by
  have h := blk_old (o := c) (blk_new (w.alloc a) b)
  rw [show (w.alloc a).heap.size = w.heap.size + 1 from by simp] at h
  exact h
theorem alloc1 (w : World) (a b c : Obj) : (((w.alloc a).alloc b).alloc c).heap[w.heap.size]? = some a := blk_old (o := c) (blk_old (o := b) (blk_new w a))
theorem below_alloc3 (w : World) (a b c : Obj) : Below w.heap.size w (((w.alloc a).alloc b).alloc c) := (((Below.refl _ w).alloc (Nat.le_refl _) _).alloc (by simp) _).alloc (by simp; omega) _
theorem size_alloc3 (w : World) (a b c : Obj) : (((w.alloc a).alloc b).alloc c).heap.size = w.heap.size + 3 := by simp
theorem below_setRow {B g : Nat} {w w' : World} {cs : Array Value} (h : Below B w w') (hg : B ≤ g) : Below B w (w'.setRow g cs) :=
  ⟨h.os, h.tape, h.output, by simpa [World.setRow] using h.size, fun k hk => (setRow_other w' g k cs (by omega)).trans (h.block k hk)⟩
structure OpV where
  kind : Int
  nod : Nod
  svc : Svc
  chk : Chk
  cas : Bool
  want : Int
def OpV.zero : OpV := ⟨0, Nod.zero, Svc.zero, Chk.zero, false, 0⟩
/-- An operation's cells; v: its list of tags. -/
abbrev opc (o : OpV) (v : Value) : Array Value := #[.int .i64 o.kind, .string o.nod.name, .string o.nod.addr, .int .u64 o.nod.made, .int .u64 o.nod.changed, .string o.svc.node, .string o.svc.id, .string o.svc.name, .int .i64 o.svc.port, v, .int .u64 o.svc.made, .int .u64 o.svc.changed, .string o.chk.node, .string o.chk.id, .string o.chk.service, .int .i64 o.chk.status, .string o.chk.note, .int .u64 o.chk.made, .int .u64 o.chk.changed, .bool o.cas, .int .u64 o.want]
/-- What records.FixOp makes of the operation's records, and its errors. -/
noncomputable def fixRec (o : OpV) : Nod × Svc × Chk × Int × Int :=
  if o.kind = 1 then (⟨(fixNodeV o.nod.name o.nod.addr).1, (fixNodeV o.nod.name o.nod.addr).2.1, 0, 0⟩, Svc.zero, Chk.zero, (fixNodeV o.nod.name o.nod.addr).2.2, 0)
  else if o.kind = 2 then (Nod.zero, (fixSvc o.svc).1, Chk.zero, (fixSvc o.svc).2, 0)
  else if o.kind = 3 then (Nod.zero, Svc.zero, (fixChk o.chk).1, (fixChk o.chk).2, 0)
  else if o.kind = 4 then (⟨(labelV o.nod.name).1, E0, 0, 0⟩, Svc.zero, Chk.zero, (labelV o.nod.name).2, 0)
  else if o.kind = 5 then (Nod.zero, ⟨(labelV o.svc.node).1, (labelV o.svc.id).1, E0, 0, [], 0, 0⟩, Chk.zero, (labelV o.svc.node).2, (labelV o.svc.id).2)
  else if o.kind = 6 then (Nod.zero, Svc.zero, ⟨(labelV o.chk.node).1, (labelV o.chk.id).1, E0, 0, E0, 0, 0⟩, (labelV o.chk.node).2, (labelV o.chk.id).2)
  else (Nod.zero, Svc.zero, Chk.zero, 96, 0)
noncomputable def fixOp (o : OpV) : OpV × Int :=
  if firstE [(fixRec o).2.2.2.1, (fixRec o).2.2.2.2] = 0 then (⟨o.kind, (fixRec o).1, (fixRec o).2.1, (fixRec o).2.2.1, o.cas, if o.cas then o.want else 0⟩, 0) else (OpV.zero, firstE [(fixRec o).2.2.2.1, (fixRec o).2.2.2.2])
theorem fixOp_of {o : OpV} {n : Nod} {s : Svc} {c : Chk} {x y W : Int} (h : fixRec o = (n, s, c, x, y)) (hW : W = if o.cas then o.want else 0) : fixOp o = if firstE [x, y] = 0 then (⟨o.kind, n, s, c, o.cas, W⟩, 0) else (OpV.zero, firstE [x, y]) := by
  unfold fixOp; rw [h, hW]
set_option maxHeartbeats 4000000 in
set_option maxRecDepth 100000 in
theorem fixOp_calls (k : Int) (nm ad : ByteArray) (m1 g1 : Int) (nd id sn : ByteArray) (po : Int) (v : Value) (l : List ByteArray) (m2 g2 : Int) (cn ci cs : ByteArray) (st : Int) (nt : ByteArray) (m3 g3 : Int) (cas : Bool) (want : Int)
    (h1 : nm.size ≤ 140737488355328) (h2 : ad.size < 4294967281) (h3 : nd.size ≤ 140737488355328) (h4 : id.size ≤ 140737488355328) (h5 : sn.size ≤ 140737488355328) (hs : ∀ t ∈ l, t.size ≤ 140737488355328) (h6 : cn.size ≤ 140737488355328) (h7 : ci.size ≤ 140737488355328) (h8 : cs.size ≤ 140737488355328) (h9 : nt.size ≤ 140737488355328)
    (w : World) (hv : VarsOk w) (h : TextsAt w v l) :
    Calls Tryz.prog 42 #[.agg #[.int .i64 k, .string nm, .string ad, .int .u64 m1, .int .u64 g1, .string nd, .string id, .string sn, .int .i64 po, v, .int .u64 m2, .int .u64 g2, .string cn, .string ci, .string cs, .int .i64 st, .string nt, .int .u64 m3, .int .u64 g3, .bool cas, .int .u64 want]] w fun e w' => ∃ r x v', fixOp ⟨k, ⟨nm, ad, m1, g1⟩, ⟨nd, id, sn, po, l, m2, g2⟩, ⟨cn, ci, cs, st, nt, m3, g3⟩, cas, want⟩ = (r, x) ∧ e = .returned (.tuple #[.agg (opc r v'), .int .i64 x]) ∧ w'.ownsRow w.heap.size 9 1 v' r.svc.tags.length (tx r.svc.tags) ∧ Below w.heap.size w w' := by
  have hform : ∃ A cap, v = .slice A l.length cap := by obtain ⟨A, cap, hv, _⟩ := h; exact ⟨A, cap, hv⟩
  have HT := Lib.hid h
  have HS := Lib.hid hs
  have HV := Lib.hid hv
  clear h hs hv
  obtain ⟨A, cap, rfl⟩ := hform
  obtain ⟨W, hW⟩ : ∃ W : Int, W = if cas then want else 0 := ⟨_, rfl⟩
  have HW := Lib.hid hW
  clear hW
  obtain ⟨O, hO⟩ : ∃ O : OpV, O = ⟨k, ⟨nm, ad, m1, g1⟩, ⟨nd, id, sn, po, l, m2, g2⟩, ⟨cn, ci, cs, st, nt, m3, g3⟩, cas, want⟩ := ⟨_, rfl⟩
  have HO := Lib.hid hO
  rw [← hO]
  clear hO
  go_enter Tryz.func42, Tryz.ntmps42
  go_upto_if 13 with (refine store_whole rfl 53 4 (.tmp 11) rfl rfl (w.heap.size + 1 + 1) #[.int .i64 0, .string E0, .string E0, .int .u64 0, .int .u64 0, .string E0, .string E0, .string E0, .int .i64 0, (.slice none 0 0), .int .u64 0, .int .u64 0, .string E0, .string E0, .string E0, .int .i64 0, .string E0, .int .u64 0, .int .u64 0, .bool false, .int .u64 0] #[.int .i64 k, .string E0, .string E0, .int .u64 0, .int .u64 0, .string E0, .string E0, .string E0, .int .i64 0, (.slice none 0 0), .int .u64 0, .int .u64 0, .string E0, .string E0, .string E0, .int .i64 0, .string E0, .int .u64 0, .int .u64 0, .bool cas, .int .u64 0] 53 ?hx ?hy (alloc3 w _ _ _) ?hi rfl rfl ?hk; (case hx => rfl); (case hy => rfl); (case hi => kernel_rfl); (intro W1 hW1 pO pK; have pA := (pK w.heap.size (by omega)).trans (alloc1 w _ _ _); have pZ := (pK (w.heap.size + 1) (by omega)).trans (alloc2 w _ _ _); clear pK; have c0 := Blk.cell pA 0; have c19 := Blk.cell pA 19; have c20 := Blk.cell pA 20; have d20 := Blk.cell pO 20; have f20 := Blk.free pO 20; simp only [List.getElem?_toArray, List.getElem?_cons_zero, List.getElem?_cons_succ] at c0 c19 c20 d20; have PA := Lib.hid pA; have PZ := Lib.hid pZ; have PO := Lib.hid pO; clear pA pZ pO))
  go_cut [] from 7 (fun wc => wc.heap[w.heap.size]? = some (.cells #[.int .i64 k, .string nm, .string ad, .int .u64 m1, .int .u64 g1, .string nd, .string id, .string sn, .int .i64 po, (.slice A l.length cap), .int .u64 m2, .int .u64 g2, .string cn, .string ci, .string cs, .int .i64 st, .string nt, .int .u64 m3, .int .u64 g3, .bool cas, .int .u64 want] 53 (0, 0)) ∧ wc.heap[w.heap.size + 1]? = some (.cells #[.int .i64 0, .string E0, .string E0, .int .u64 0, .int .u64 0, .string E0, .string E0, .string E0, .int .i64 0, (.slice none 0 0), .int .u64 0, .int .u64 0, .string E0, .string E0, .string E0, .int .i64 0, .string E0, .int .u64 0, .int .u64 0, .bool false, .int .u64 0] 53 (0, 0)) ∧ wc.heap[w.heap.size + 1 + 1]? = some (.cells #[.int .i64 k, .string E0, .string E0, .int .u64 0, .int .u64 0, .string E0, .string E0, .string E0, .int .i64 0, (.slice none 0 0), .int .u64 0, .int .u64 0, .string E0, .string E0, .string E0, .int .i64 0, .string E0, .int .u64 0, .int .u64 0, .bool cas, .int .u64 W] 53 (0, 0)) ∧ Below w.heap.size w wc ∧ wc.heap.size = w.heap.size + 3)
  case first =>
    have HB : Hid (Below w.heap.size w W1) := Lib.hid (by rw [hW1.out]; exact below_setRow (below_alloc3 w _ _ _) (by omega))
    have hsz1 : W1.heap.size = w.heap.size + 3 := by rw [hW1.out]; simp [World.setRow]
    clear hW1
    cases cas
    · have hw : W = 0 := HW.out
      subst hw
      go_wp2
      go_meet
      case rel => exact ⟨PA.out, PZ.out, PO.out, HB.out, hsz1⟩
    · have hw : W = want := HW.out
      subst hw
      go_wp2
      go_meet
      case rel => exact ⟨set_far _ (by omega) PA.out, set_far _ (by omega) PZ.out, (set_blk _ PO.out).trans rfl, HB.out.setCell (p := ⟨w.heap.size + 1 + 1, 20, none⟩) (by show _ ≤ w.heap.size + 1 + 1; omega) _, (size_setCell _ _ _).trans hsz1⟩
  case rest =>
  clear hW1 PA PZ PO c0 c19 c20 d20 f20
  obtain ⟨pA, pZ, pO, hB, hsz⟩ := hcut
  have c0 := Blk.cell pA 0
  simp only [List.getElem?_toArray, List.getElem?_cons_zero] at c0
  have PA := Lib.hid pA
  have PZ := Lib.hid pZ
  have PO := Lib.hid pO
  have HB := Lib.hid hB
  clear pA pZ pO hB
  have HVc := Lib.hid (HV.out.below HB.out)
  have HTc := Lib.hid (HT.out.below HB.out)
  go_upto_block 0 with fail
  go_cut [5, 6] from 19 (fun s5 s6 wz => ∃ r v' x5 x6, s5 = .int .i64 x5 ∧ s6 = .int .i64 x6 ∧ wz.heap[w.heap.size + 1]? = some (.cells #[.int .i64 0, .string E0, .string E0, .int .u64 0, .int .u64 0, .string E0, .string E0, .string E0, .int .i64 0, (.slice none 0 0), .int .u64 0, .int .u64 0, .string E0, .string E0, .string E0, .int .i64 0, .string E0, .int .u64 0, .int .u64 0, .bool false, .int .u64 0] 53 (0, 0)) ∧ wz.heap[w.heap.size + 1 + 1]? = some (.cells (opc r v') 53 (0, 0)) ∧ wz.ownsRow w.heap.size 9 1 v' r.svc.tags.length (tx r.svc.tags) ∧ Below w.heap.size w wz ∧ fixOp O = if firstE [x5, x6] = 0 then (r, 0) else (OpV.zero, firstE [x5, x6]))
  case first =>
    have hcl : k = 1 ∨ k = 2 ∨ k = 3 ∨ k = 4 ∨ k = 5 ∨ k = 6 ∨ (k ≠ 1 ∧ k ≠ 2 ∧ k ≠ 3 ∧ k ≠ 4 ∧ k ≠ 5 ∧ k ≠ 6) := by omega
    rcases hcl with hk1 | hk2 | hk3 | hk4 | hk5 | hk6 | ⟨hk1, hk2, hk3, hk4, hk5, hk6⟩
    · subst hk1
      have c1 := Blk.cell PA.out 1
      have c2 := Blk.cell PA.out 2
      have c3 := Blk.cell PA.out 3
      have c4 := Blk.cell PA.out 4
      simp only [List.getElem?_toArray, List.getElem?_cons_zero, List.getElem?_cons_succ] at c1 c2 c3 c4
      go_wp2_with (go_at_call 58; refine (fixNode_calls nm ad m1 g1 h1 h2 _ HVc.out).mono ?_)
      rintro e w1 ⟨rfl, hb1⟩
      have z1 := blk_keep hb1 PZ.out
      have o1 := blk_keep hb1 PO.out
      have B1 := HB.out.trans (hb1.mono (by omega))
      have s1 : w.heap.size + 3 ≤ w1.heap.size := by have := hb1.size; omega
      have d1 := Blk.cell o1 1
      have d2 := Blk.cell o1 2
      have d3 := Blk.cell o1 3
      have d4 := Blk.cell o1 4
      simp only [List.getElem?_toArray, List.getElem?_cons_zero, List.getElem?_cons_succ] at d1 d2 d3 d4
      have f1 := Blk.free o1 1
      have f2 := Blk.free o1 2
      have f3 := Blk.free o1 3
      have f4 := Blk.free o1 4
      have Z1 := Lib.hid z1
      have O1 := Lib.hid o1
      have HB1 := Lib.hid B1
      clear z1 o1 B1 hb1
      go_wp2
      go_meet
      case rel =>
        refine ⟨⟨1, ⟨(fixNodeV nm ad).1, (fixNodeV nm ad).2.1, 0, 0⟩, Svc.zero, Chk.zero, cas, W⟩, .slice none 0 0, (fixNodeV nm ad).2.2, 0, rfl, rfl, ?_, ?_, ?_, ?_, ?_⟩
        · exact (set_far _ (by omega) (set_far _ (by omega) (set_far _ (by omega) (set_far _ (by omega) Z1.out))))
        · exact ((set_blk _ (set_blk _ (set_blk _ (set_blk _ O1.out))))).trans rfl
        · exact World.ownsRow_nil _ _ _ _
        · exact ((((HB1.out.setCell (p := ⟨w.heap.size + 1 + 1, 1, none⟩) (by show _ ≤ w.heap.size + 1 + 1; omega) _).setCell (p := ⟨w.heap.size + 1 + 1, 2, none⟩) (by show _ ≤ w.heap.size + 1 + 1; omega) _).setCell (p := ⟨w.heap.size + 1 + 1, 3, none⟩) (by show _ ≤ w.heap.size + 1 + 1; omega) _).setCell (p := ⟨w.heap.size + 1 + 1, 4, none⟩) (by show _ ≤ w.heap.size + 1 + 1; omega) _)
        · have hr : fixRec O = (⟨(fixNodeV nm ad).1, (fixNodeV nm ad).2.1, 0, 0⟩, Svc.zero, Chk.zero, (fixNodeV nm ad).2.2, 0) := by
            rw [HO.out]
            unfold fixRec
            rw [if_pos rfl]
          have := fixOp_of hr (W := W) (by rw [HO.out]; exact HW.out)
          rw [HO.out] at this ⊢
          exact this
    · subst hk2
      have c5 := Blk.cell PA.out 5
      have c6 := Blk.cell PA.out 6
      have c7 := Blk.cell PA.out 7
      have c8 := Blk.cell PA.out 8
      have c9 := Blk.cell PA.out 9
      have c10 := Blk.cell PA.out 10
      have c11 := Blk.cell PA.out 11
      simp only [List.getElem?_toArray, List.getElem?_cons_zero, List.getElem?_cons_succ] at c5 c6 c7 c8 c9 c10 c11
      go_wp2_with (go_at_call 59; refine (fixService_calls nd id sn po _ l m2 g2 h3 h4 h5 HS.out _ HTc.out).mono ?_)
      rintro e w1 ⟨r, x, v2, hr, rfl, ho, hb1⟩
      have z1 := blk_keep hb1 PZ.out
      have o1 := blk_keep hb1 PO.out
      have B1 := HB.out.trans (hb1.mono (by omega))
      have s1 : w.heap.size + 3 ≤ w1.heap.size := by have := hb1.size; omega
      have ho1 := own_raise ho HB.out.size
      have HN := Lib.hid (fun k (hk : v2.ownBlock = some k) => (show k ≠ w.heap.size + 1 + 1 by have := (ho.lt k hk).1; omega))
      obtain ⟨A2, cap2, rfl⟩ := own_slice ho
      have HO1 := Lib.hid ho1
      have Hr := Lib.hid hr
      clear ho ho1 hr
      have d5 := Blk.cell o1 5
      have d6 := Blk.cell o1 6
      have d7 := Blk.cell o1 7
      have d8 := Blk.cell o1 8
      have d9 := Blk.cell o1 9
      have d10 := Blk.cell o1 10
      have d11 := Blk.cell o1 11
      simp only [List.getElem?_toArray, List.getElem?_cons_zero, List.getElem?_cons_succ] at d5 d6 d7 d8 d9 d10 d11
      have f5 := Blk.free o1 5
      have f6 := Blk.free o1 6
      have f7 := Blk.free o1 7
      have f8 := Blk.free o1 8
      have f9 := Blk.free o1 9
      have f10 := Blk.free o1 10
      have f11 := Blk.free o1 11
      have Z1 := Lib.hid z1
      have O1 := Lib.hid o1
      have HB1 := Lib.hid B1
      clear z1 o1 B1 hb1
      go_wp2
      go_meet
      case rel =>
        refine ⟨⟨2, Nod.zero, r, Chk.zero, cas, W⟩, .slice A2 r.tags.length cap2, x, 0, rfl, rfl, ?_, ?_, ?_, ?_, ?_⟩
        · exact (set_far _ (by omega) (set_far _ (by omega) (set_far _ (by omega) (set_far _ (by omega) (set_far _ (by omega) (set_far _ (by omega) (set_far _ (by omega) Z1.out)))))))
        · exact ((set_blk _ (set_blk _ (set_blk _ (set_blk _ (set_blk _ (set_blk _ (set_blk _ O1.out)))))))).trans rfl
        · exact (own_setCell (own_setCell (own_setCell (own_setCell (own_setCell (own_setCell (own_setCell HO1.out (fun k hk => HN.out k hk) _) (fun k hk => HN.out k hk) _) (fun k hk => HN.out k hk) _) (fun k hk => HN.out k hk) _) (fun k hk => HN.out k hk) _) (fun k hk => HN.out k hk) _) (fun k hk => HN.out k hk) _)
        · exact (((((((HB1.out.setCell (p := ⟨w.heap.size + 1 + 1, 5, none⟩) (by show _ ≤ w.heap.size + 1 + 1; omega) _).setCell (p := ⟨w.heap.size + 1 + 1, 6, none⟩) (by show _ ≤ w.heap.size + 1 + 1; omega) _).setCell (p := ⟨w.heap.size + 1 + 1, 7, none⟩) (by show _ ≤ w.heap.size + 1 + 1; omega) _).setCell (p := ⟨w.heap.size + 1 + 1, 8, none⟩) (by show _ ≤ w.heap.size + 1 + 1; omega) _).setCell (p := ⟨w.heap.size + 1 + 1, 9, none⟩) (by show _ ≤ w.heap.size + 1 + 1; omega) _).setCell (p := ⟨w.heap.size + 1 + 1, 10, none⟩) (by show _ ≤ w.heap.size + 1 + 1; omega) _).setCell (p := ⟨w.heap.size + 1 + 1, 11, none⟩) (by show _ ≤ w.heap.size + 1 + 1; omega) _)
        · have hr : fixRec O = (Nod.zero, r, Chk.zero, x, 0) := by
            rw [HO.out]
            unfold fixRec
            rw [if_neg (show ¬ ((2 : Int) = 1) by decide), if_pos rfl]; show (Nod.zero, (fixSvc ⟨nd, id, sn, po, l, m2, g2⟩).1, Chk.zero, (fixSvc ⟨nd, id, sn, po, l, m2, g2⟩).2, (0 : Int)) = _; rw [Hr.out]
          have := fixOp_of hr (W := W) (by rw [HO.out]; exact HW.out)
          rw [HO.out] at this ⊢
          exact this
    · subst hk3
      have c12 := Blk.cell PA.out 12
      have c13 := Blk.cell PA.out 13
      have c14 := Blk.cell PA.out 14
      have c15 := Blk.cell PA.out 15
      have c16 := Blk.cell PA.out 16
      have c17 := Blk.cell PA.out 17
      have c18 := Blk.cell PA.out 18
      simp only [List.getElem?_toArray, List.getElem?_cons_zero, List.getElem?_cons_succ] at c12 c13 c14 c15 c16 c17 c18
      go_wp2_with (go_at_call 60; refine (fixCheck_calls cn ci cs st nt m3 g3 h6 h7 h8 h9 _).mono ?_)
      rintro e w1 ⟨r, x, hr, rfl, hb1⟩
      have z1 := blk_keep hb1 PZ.out
      have o1 := blk_keep hb1 PO.out
      have B1 := HB.out.trans (hb1.mono (by omega))
      have s1 : w.heap.size + 3 ≤ w1.heap.size := by have := hb1.size; omega
      have Hr := Lib.hid hr
      clear hr
      have d12 := Blk.cell o1 12
      have d13 := Blk.cell o1 13
      have d14 := Blk.cell o1 14
      have d15 := Blk.cell o1 15
      have d16 := Blk.cell o1 16
      have d17 := Blk.cell o1 17
      have d18 := Blk.cell o1 18
      simp only [List.getElem?_toArray, List.getElem?_cons_zero, List.getElem?_cons_succ] at d12 d13 d14 d15 d16 d17 d18
      have f12 := Blk.free o1 12
      have f13 := Blk.free o1 13
      have f14 := Blk.free o1 14
      have f15 := Blk.free o1 15
      have f16 := Blk.free o1 16
      have f17 := Blk.free o1 17
      have f18 := Blk.free o1 18
      have Z1 := Lib.hid z1
      have O1 := Lib.hid o1
      have HB1 := Lib.hid B1
      clear z1 o1 B1 hb1
      go_wp2
      go_meet
      case rel =>
        refine ⟨⟨3, Nod.zero, Svc.zero, r, cas, W⟩, .slice none 0 0, x, 0, rfl, rfl, ?_, ?_, ?_, ?_, ?_⟩
        · exact (set_far _ (by omega) (set_far _ (by omega) (set_far _ (by omega) (set_far _ (by omega) (set_far _ (by omega) (set_far _ (by omega) (set_far _ (by omega) Z1.out)))))))
        · exact ((set_blk _ (set_blk _ (set_blk _ (set_blk _ (set_blk _ (set_blk _ (set_blk _ O1.out)))))))).trans rfl
        · exact World.ownsRow_nil _ _ _ _
        · exact (((((((HB1.out.setCell (p := ⟨w.heap.size + 1 + 1, 12, none⟩) (by show _ ≤ w.heap.size + 1 + 1; omega) _).setCell (p := ⟨w.heap.size + 1 + 1, 13, none⟩) (by show _ ≤ w.heap.size + 1 + 1; omega) _).setCell (p := ⟨w.heap.size + 1 + 1, 14, none⟩) (by show _ ≤ w.heap.size + 1 + 1; omega) _).setCell (p := ⟨w.heap.size + 1 + 1, 15, none⟩) (by show _ ≤ w.heap.size + 1 + 1; omega) _).setCell (p := ⟨w.heap.size + 1 + 1, 16, none⟩) (by show _ ≤ w.heap.size + 1 + 1; omega) _).setCell (p := ⟨w.heap.size + 1 + 1, 17, none⟩) (by show _ ≤ w.heap.size + 1 + 1; omega) _).setCell (p := ⟨w.heap.size + 1 + 1, 18, none⟩) (by show _ ≤ w.heap.size + 1 + 1; omega) _)
        · have hr : fixRec O = (Nod.zero, Svc.zero, r, x, 0) := by
            rw [HO.out]
            unfold fixRec
            rw [if_neg (show ¬ ((3 : Int) = 1) by decide), if_neg (show ¬ ((3 : Int) = 2) by decide), if_pos rfl]; show (Nod.zero, Svc.zero, (fixChk ⟨cn, ci, cs, st, nt, m3, g3⟩).1, (fixChk ⟨cn, ci, cs, st, nt, m3, g3⟩).2, (0 : Int)) = _; rw [Hr.out]
          have := fixOp_of hr (W := W) (by rw [HO.out]; exact HW.out)
          rw [HO.out] at this ⊢
          exact this
    · subst hk4
      have c1 := Blk.cell PA.out 1
      simp only [List.getElem?_toArray, List.getElem?_cons_zero, List.getElem?_cons_succ] at c1
      go_wp2_with (go_at_call 61; refine (label_calls nm h1 _).mono ?_)
      rintro e w1 ⟨rfl, hb1⟩
      have z1 := blk_keep hb1 PZ.out
      have o1 := blk_keep hb1 PO.out
      have B1 := HB.out.trans (hb1.mono (by omega))
      have s1 : w.heap.size + 3 ≤ w1.heap.size := by have := hb1.size; omega
      have d1 := Blk.cell o1 1
      simp only [List.getElem?_toArray, List.getElem?_cons_zero, List.getElem?_cons_succ] at d1
      have f1 := Blk.free o1 1
      have Z1 := Lib.hid z1
      have O1 := Lib.hid o1
      have HB1 := Lib.hid B1
      clear z1 o1 B1 hb1
      go_wp2
      go_meet
      case rel =>
        refine ⟨⟨4, ⟨(labelV nm).1, E0, 0, 0⟩, Svc.zero, Chk.zero, cas, W⟩, .slice none 0 0, (labelV nm).2, 0, rfl, rfl, ?_, ?_, ?_, ?_, ?_⟩
        · exact (set_far _ (by omega) Z1.out)
        · exact ((set_blk _ O1.out)).trans rfl
        · exact World.ownsRow_nil _ _ _ _
        · exact (HB1.out.setCell (p := ⟨w.heap.size + 1 + 1, 1, none⟩) (by show _ ≤ w.heap.size + 1 + 1; omega) _)
        · have hr : fixRec O = (⟨(labelV nm).1, E0, 0, 0⟩, Svc.zero, Chk.zero, (labelV nm).2, 0) := by
            rw [HO.out]
            unfold fixRec
            rw [if_neg (show ¬ ((4 : Int) = 1) by decide), if_neg (show ¬ ((4 : Int) = 2) by decide), if_neg (show ¬ ((4 : Int) = 3) by decide), if_pos rfl]
          have := fixOp_of hr (W := W) (by rw [HO.out]; exact HW.out)
          rw [HO.out] at this ⊢
          exact this
    · subst hk5
      have c5 := Blk.cell PA.out 5
      simp only [List.getElem?_toArray, List.getElem?_cons_zero, List.getElem?_cons_succ] at c5
      go_wp2_with (go_at_call 61; refine (label_calls nd h3 _).mono ?_)
      rintro e w1 ⟨rfl, hb1⟩
      have a1 := blk_keep hb1 PA.out
      have z1 := blk_keep hb1 PZ.out
      have o1 := blk_keep hb1 PO.out
      have B1 := HB.out.trans (hb1.mono (by omega))
      have s1 : w.heap.size + 3 ≤ w1.heap.size := by have := hb1.size; omega
      clear c5
      have c6 := Blk.cell a1 6
      simp only [List.getElem?_toArray, List.getElem?_cons_zero, List.getElem?_cons_succ] at c6
      have d5 := Blk.cell o1 5
      simp only [List.getElem?_toArray, List.getElem?_cons_zero, List.getElem?_cons_succ] at d5
      have f5 := Blk.free o1 5
      have A1 := Lib.hid a1
      have Z1 := Lib.hid z1
      have O1 := Lib.hid o1
      have HB1 := Lib.hid B1
      clear a1 z1 o1 B1 hb1
      go_wp2_with (go_at_call 61; refine (label_calls id h4 _).mono ?_)
      rintro e w2 ⟨rfl, hb2⟩
      have z2 := blk_keep hb2 (set_far _ (by omega) Z1.out)
      have o2 : w2.heap[w.heap.size + 1 + 1]? = some (.cells #[.int .i64 5, .string E0, .string E0, .int .u64 0, .int .u64 0, .string (labelV nd).1, .string E0, .string E0, .int .i64 0, (.slice none 0 0), .int .u64 0, .int .u64 0, .string E0, .string E0, .string E0, .int .i64 0, .string E0, .int .u64 0, .int .u64 0, .bool cas, .int .u64 W] 53 (0, 0)) := blk_keep hb2 ((set_blk _ O1.out).trans rfl)
      have B2 := (HB1.out.setCell (p := ⟨w.heap.size + 1 + 1, 5, none⟩) (by show _ ≤ w.heap.size + 1 + 1; omega) _).trans (hb2.mono (by rw [size_setCell]; omega))
      have s2 : w.heap.size + 3 ≤ w2.heap.size := by have := hb2.size; rw [size_setCell] at this; omega
      clear c6 d5 f5
      have d6 := Blk.cell o2 6
      simp only [List.getElem?_toArray, List.getElem?_cons_zero, List.getElem?_cons_succ] at d6
      have f6 := Blk.free o2 6
      have Z2 := Lib.hid z2
      have O2 := Lib.hid o2
      have HB2 := Lib.hid B2
      clear z2 o2 B2 hb2
      go_wp2
      go_meet
      case rel =>
        refine ⟨⟨5, Nod.zero, ⟨(labelV nd).1, (labelV id).1, E0, 0, [], 0, 0⟩, Chk.zero, cas, W⟩, .slice none 0 0, (labelV nd).2, (labelV id).2, rfl, rfl, set_far _ (by omega) Z2.out, (set_blk _ O2.out).trans rfl, World.ownsRow_nil _ _ _ _, HB2.out.setCell (p := ⟨w.heap.size + 1 + 1, 6, none⟩) (by show _ ≤ w.heap.size + 1 + 1; omega) _, ?_⟩
        have hr : fixRec O = (Nod.zero, ⟨(labelV nd).1, (labelV id).1, E0, 0, [], 0, 0⟩, Chk.zero, (labelV nd).2, (labelV id).2) := by
          rw [HO.out]
          unfold fixRec
          rw [if_neg (show ¬ ((5 : Int) = 1) by decide), if_neg (show ¬ ((5 : Int) = 2) by decide), if_neg (show ¬ ((5 : Int) = 3) by decide), if_neg (show ¬ ((5 : Int) = 4) by decide), if_pos rfl]
        have := fixOp_of hr (W := W) (by rw [HO.out]; exact HW.out)
        rw [HO.out] at this ⊢
        exact this
    · subst hk6
      have c12 := Blk.cell PA.out 12
      simp only [List.getElem?_toArray, List.getElem?_cons_zero, List.getElem?_cons_succ] at c12
      go_wp2_with (go_at_call 61; refine (label_calls cn h6 _).mono ?_)
      rintro e w1 ⟨rfl, hb1⟩
      have a1 := blk_keep hb1 PA.out
      have z1 := blk_keep hb1 PZ.out
      have o1 := blk_keep hb1 PO.out
      have B1 := HB.out.trans (hb1.mono (by omega))
      have s1 : w.heap.size + 3 ≤ w1.heap.size := by have := hb1.size; omega
      clear c12
      have c13 := Blk.cell a1 13
      simp only [List.getElem?_toArray, List.getElem?_cons_zero, List.getElem?_cons_succ] at c13
      have d12 := Blk.cell o1 12
      simp only [List.getElem?_toArray, List.getElem?_cons_zero, List.getElem?_cons_succ] at d12
      have f12 := Blk.free o1 12
      have A1 := Lib.hid a1
      have Z1 := Lib.hid z1
      have O1 := Lib.hid o1
      have HB1 := Lib.hid B1
      clear a1 z1 o1 B1 hb1
      go_wp2_with (go_at_call 61; refine (label_calls ci h7 _).mono ?_)
      rintro e w2 ⟨rfl, hb2⟩
      have z2 := blk_keep hb2 (set_far _ (by omega) Z1.out)
      have o2 : w2.heap[w.heap.size + 1 + 1]? = some (.cells #[.int .i64 6, .string E0, .string E0, .int .u64 0, .int .u64 0, .string E0, .string E0, .string E0, .int .i64 0, (.slice none 0 0), .int .u64 0, .int .u64 0, .string (labelV cn).1, .string E0, .string E0, .int .i64 0, .string E0, .int .u64 0, .int .u64 0, .bool cas, .int .u64 W] 53 (0, 0)) := blk_keep hb2 ((set_blk _ O1.out).trans rfl)
      have B2 := (HB1.out.setCell (p := ⟨w.heap.size + 1 + 1, 12, none⟩) (by show _ ≤ w.heap.size + 1 + 1; omega) _).trans (hb2.mono (by rw [size_setCell]; omega))
      have s2 : w.heap.size + 3 ≤ w2.heap.size := by have := hb2.size; rw [size_setCell] at this; omega
      clear c13 d12 f12
      have d13 := Blk.cell o2 13
      simp only [List.getElem?_toArray, List.getElem?_cons_zero, List.getElem?_cons_succ] at d13
      have f13 := Blk.free o2 13
      have Z2 := Lib.hid z2
      have O2 := Lib.hid o2
      have HB2 := Lib.hid B2
      clear z2 o2 B2 hb2
      go_wp2
      go_meet
      case rel =>
        refine ⟨⟨6, Nod.zero, Svc.zero, ⟨(labelV cn).1, (labelV ci).1, E0, 0, E0, 0, 0⟩, cas, W⟩, .slice none 0 0, (labelV cn).2, (labelV ci).2, rfl, rfl, set_far _ (by omega) Z2.out, (set_blk _ O2.out).trans rfl, World.ownsRow_nil _ _ _ _, HB2.out.setCell (p := ⟨w.heap.size + 1 + 1, 13, none⟩) (by show _ ≤ w.heap.size + 1 + 1; omega) _, ?_⟩
        have hr : fixRec O = (Nod.zero, Svc.zero, ⟨(labelV cn).1, (labelV ci).1, E0, 0, E0, 0, 0⟩, (labelV cn).2, (labelV ci).2) := by
          rw [HO.out]
          unfold fixRec
          rw [if_neg (show ¬ ((6 : Int) = 1) by decide), if_neg (show ¬ ((6 : Int) = 2) by decide), if_neg (show ¬ ((6 : Int) = 3) by decide), if_neg (show ¬ ((6 : Int) = 4) by decide), if_neg (show ¬ ((6 : Int) = 5) by decide), if_pos rfl]
        have := fixOp_of hr (W := W) (by rw [HO.out]; exact HW.out)
        rw [HO.out] at this ⊢
        exact this
    · have u1 : (k == 1) = false := beq_eq_false_iff_ne.2 hk1
      have u2 : (k == 2) = false := beq_eq_false_iff_ne.2 hk2
      have u3 : (k == 3) = false := beq_eq_false_iff_ne.2 hk3
      have u4 : (k == 4) = false := beq_eq_false_iff_ne.2 hk4
      have u5 : (k == 5) = false := beq_eq_false_iff_ne.2 hk5
      have u6 : (k == 6) = false := beq_eq_false_iff_ne.2 hk6
      go_wp2
      go_meet
      case rel =>
        refine ⟨⟨k, Nod.zero, Svc.zero, Chk.zero, cas, W⟩, .slice none 0 0, 96, 0, rfl, rfl, PZ.out, PO.out, World.ownsRow_nil _ _ _ _, HB.out, ?_⟩
        have hr : fixRec O = (Nod.zero, Svc.zero, Chk.zero, 96, 0) := by
          rw [HO.out]
          unfold fixRec
          rw [if_neg hk1, if_neg hk2, if_neg hk3, if_neg hk4, if_neg hk5, if_neg hk6]
        have := fixOp_of hr (W := W) (by rw [HO.out]; exact HW.out)
        rw [HO.out] at this ⊢
        exact this
  case rest =>
  obtain ⟨r, v', x5, x6, rfl, rfl, pZ, pO, ho, hB, hfix⟩ := hcut
  have HO2 := Lib.hid ho
  obtain ⟨A2, cap2, rfl⟩ := own_slice ho
  have HN := Lib.hid (own_ne ho pZ (by decide))
  have HSz := Lib.hid hB.size
  have HFx := Lib.hid hfix
  have HBz := Lib.hid hB
  have PZ2 := Lib.hid pZ
  have PO2 := Lib.hid pO
  clear ho hfix hB pZ pO PA PZ PO HVc HTc HB c0
  go_wp2_with (go_at_call 62; refine (first_calls [x5, x6] (by simp) _ _ 0 2 ?hc (by simp)).mono ?_)
  case hc =>
    intro j hj
    match j, hj with
    | 0, _ => simp
    | 1, _ => simp
  rintro e w6 ⟨rfl, rfl⟩
  obtain ⟨E, hE⟩ : ∃ E, E = firstE [x5, x6] := ⟨_, rfl⟩
  rw [← hE]
  have HFx2 : Hid (fixOp O = if E = 0 then (r, 0) else (OpV.zero, E)) := Lib.hid (by rw [hE]; exact HFx.out)
  clear hE HFx
  by_cases hz : E = 0
  · have hr : fixOp O = (r, 0) := by rw [HFx2.out, if_pos hz]
    have Hr := Lib.hid hr
    clear hr HFx2
    subst hz
    go_wp2_with (first | (refine wpList_load_row rfl 53 (.tmp 4) rfl (w.heap.size + 1 + 1) rfl _ _ _ _ (blk_old PO2.out) Tryz.underlying53 rfl (by kernel_rfl) ?_) | (refine store_whole rfl 53 2 (.tmp 105) rfl rfl (w.heap.size + 1) _ (opc r (.slice A2 r.svc.tags.length cap2)) 53 rfl rfl (blk_old PZ2.out) (by kernel_rfl) rfl rfl ?_; intro W1 hW1 pR pK; clear pK))
    refine bodyPost_ret (v := .tuple #[.agg (opc r (.slice A2 r.svc.tags.length cap2)), .int .i64 0]) (results_row Tryz.results42 _ _ (w.heap.size + 1) 53 _ (0, 0) _ _ rfl pR Tryz.underlying53 rfl (by kernel_rfl) rfl) rfl ⟨r, 0, _, Hr.out, rfl, ?_, ?_⟩
    · rw [hW1.out]; exact own_setRow (HO2.out.alloc _) HN.out
    · rw [hW1.out]; exact below_setRow (HBz.out.alloc HSz.out _) (by omega)
  · have hr : fixOp O = (OpV.zero, E) := by rw [HFx2.out, if_neg hz]
    have Hr := Lib.hid hr
    clear hr HFx2
    have t9 : (E != 0) = true := bne_iff_ne.2 hz
    go_wp2_with (refine store_whole rfl 53 2 (.tmp 103) rfl rfl (w.heap.size + 1) _ #[.int .i64 0, .string E0, .string E0, .int .u64 0, .int .u64 0, .string E0, .string E0, .string E0, .int .i64 0, (.slice none 0 0), .int .u64 0, .int .u64 0, .string E0, .string E0, .string E0, .int .i64 0, .string E0, .int .u64 0, .int .u64 0, .bool false, .int .u64 0] 53 rfl rfl (blk_old PZ2.out) (by kernel_rfl) rfl rfl ?_; intro W1 hW1 pR pK; clear pK)
    refine bodyPost_ret (v := .tuple #[.agg #[.int .i64 0, .string E0, .string E0, .int .u64 0, .int .u64 0, .string E0, .string E0, .string E0, .int .i64 0, (.slice none 0 0), .int .u64 0, .int .u64 0, .string E0, .string E0, .string E0, .int .i64 0, .string E0, .int .u64 0, .int .u64 0, .bool false, .int .u64 0], .int .i64 E]) (results_row Tryz.results42 _ _ (w.heap.size + 1) 53 _ (0, 0) _ _ rfl pR Tryz.underlying53 rfl (by kernel_rfl) rfl) rfl ⟨OpV.zero, E, .slice none 0 0, Hr.out, rfl, World.ownsRow_nil _ _ _ _, ?_⟩
    rw [hW1.out]; exact below_setRow (HBz.out.alloc HSz.out _) (by omega)
end Go.Proofs.YtkhgfdlinobabaaGreatDoor.G
