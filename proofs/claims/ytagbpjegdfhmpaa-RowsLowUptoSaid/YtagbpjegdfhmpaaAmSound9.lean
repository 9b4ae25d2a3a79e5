/- The smaller machine's operations: those that leave memory, and those that make a row. -/
import Derived.Test.YtagbpjegdfhmpaaAmSound8
set_option linter.unusedSimpArgs false
set_option linter.unusedVariables false
namespace Go.Proofs.Ytagbpjegdfhmpaa.AM
open Go.RowKit (Below)

section
variable {P : Program} {NG N0 : Nat} {w0 : World} {m : Mu} {h : H} {w : World} {nid : Nat} {ev : Operand → Option V} {ρ : Operand → Value}

theorem pure_ok (hev : ∀ x v, ev x = some v → VRel m v (ρ x)) {o : Oper} {v : V} (e : pureA P ev o = some v) : Val P m w (execOp ρ o) v := by
  obtain ⟨dst, op, type, pos, after, guard⟩ := o
  cases op <;> simp only [pureA] at e <;> first | (cases e; done) | skip
  case move x => exact ⟨ρ x, hev _ _ e, rfl⟩
  case assign x => exact ⟨ρ x, hev _ _ e, rfl⟩
  case pick c a b =>
    replace e := bnd_some.1 e; obtain ⟨q, hq, e⟩ := e
    split at e
    · rename_i b'
      have hb := bool_inv (hev _ _ hq)
      cases b' with
      | true =>
        exact ⟨ρ a, hev _ _ (show ev a = some v from e), by simp only [execOp, Sem.run_bind, hb, asBool, Sem.run_pure, Result.andThen_ok, if_true]⟩
      | false =>
        exact ⟨ρ b, hev _ _ (show ev b = some v from e), by simp only [execOp, Sem.run_bind, hb, asBool, Sem.run_pure, Result.andThen_ok, Bool.false_eq_true, if_false]⟩
    · cases e
  case build t ps =>
    replace e := bnd_some.1 e; obtain ⟨vs, h1, e⟩ := e
    have hp := partsOf_ok hev h1
    exact val_of (build_ok (parts' := ps.map fun p => (p.1, ρ p.2)) e (by simpa using hp))
  case nilCheck x =>
    replace e := bnd_some.1 e; obtain ⟨a, h1, e⟩ := e
    obtain ⟨h2, rfl⟩ := nilOk_ok (w := w) (P := P) (ρ := ρ) (o := ⟨dst, .nilCheck x, type, pos, after, guard⟩) rfl e (hev _ _ h1) rfl
    exact ⟨ρ x, hev _ _ h1, h2⟩
  case binOp op t x y yt =>
    replace e := bnd_some.1 e; obtain ⟨a, h1, e⟩ := e
    replace e := bnd_some.1 e; obtain ⟨b, h2, e⟩ := e
    rcases or_some e with e | e
    · obtain ⟨v', h3, h4⟩ := bin_ok (w := w) (x := x) (y := y) e (hev _ _ h1) (hev _ _ h2)
      exact ⟨v', h4, by simp only [execOp, Sem.run_bind, Sem.run_pure] at h3 ⊢; rw [h3]; rfl⟩
    · exact val_plain hev (by intro cs b h; cases h) e
  case unOp op t x => exact val_plain hev (by intro cs b h; cases h) e
  case convert s d x =>
    replace e := bnd_some.1 e; obtain ⟨a, h1, e⟩ := e
    rcases or_some e with e | e
    · obtain ⟨v', h3, h4⟩ := conv_ok (w := w) e (hev _ _ h1)
      exact val_of ⟨v', h4, h3⟩
    · exact val_plain hev (by intro cs b h; cases h) e
  case makeInterface t x =>
    replace e := bnd_some.1 e; obtain ⟨a, h1, e⟩ := e
    replace e := bnd_some.1 e; obtain ⟨d, hd, e⟩ := e
    split at e
    · cases e
    · rename_i hni
      injection e with e; subst e
      refine ⟨.iface t (ρ x), .iface _ _ _ (hev _ _ h1), ?_⟩
      simp only [execOp, Instr.makeInterface, Sem.run_bind, run_underlying hd, Result.andThen_ok, Sem.run_pure]
  case makeFunc fn first captured =>
    replace e := bnd_some.1 e; obtain ⟨f, h1, e⟩ := e
    replace e := bnd_some.1 e; obtain ⟨c, h2, e⟩ := e
    injection e with e; subst e
    have r1 := evAll_ok hev h1
    have r2 := evAll_ok hev h2
    refine ⟨.func fn (first.map ρ) (captured.map ρ), ?_, rfl⟩
    have := VRel.func fn f c _ _ r1 r2
    have e1 : ∀ xs : Array Operand, xs.map ρ = (xs.toList.map ρ).toArray := fun xs => by apply Array.ext'; simp
    rw [e1, e1]
    exact this
  case fieldAddr s x f =>
    replace e := bnd_some.1 e; obtain ⟨a, h1, e⟩ := e
    exact val_of (fieldAt_ok e (hev _ _ h1))
  case field s x f =>
    replace e := bnd_some.1 e; obtain ⟨a, h1, e⟩ := e
    exact val_of (field_ok e (hev _ _ h1))
  case indexAddr t x i =>
    replace e := bnd_some.1 e; obtain ⟨a, h1, e⟩ := e
    replace e := bnd_some.1 e; obtain ⟨b, h2, e⟩ := e
    exact val_of (indexAt_ok e (hev _ _ h1) (hev _ _ h2))
  case index t x i =>
    replace e := bnd_some.1 e; obtain ⟨a, h1, e⟩ := e
    replace e := bnd_some.1 e; obtain ⟨b, h2, e⟩ := e
    exact val_of (index_ok e (hev _ _ h1) (hev _ _ h2))
  case extract t ix =>
    replace e := bnd_some.1 e; obtain ⟨a, h1, e⟩ := e
    split at e
    · rename_i vs
      rw [lget_eq] at e
      have hr := hev _ _ h1
      cases hr' : ρ t <;> rw [hr'] at hr <;> cases hr
      rename_i vs' hv
      obtain ⟨v', h2, h3⟩ := hv.get e
      refine ⟨v', h3, ?_⟩
      have : (vs'.toArray)[ix]? = some v' := by simpa using h2
      simp only [execOp, hr', Instr.extract, this, Sem.run_bind, Sem.run_pure, Result.andThen_ok]
    · cases e
  case typeAssert x a b ok => exact val_plain hev (by intro cs b h; cases h) e
  case call c =>
    split at e
    · rename_i hc
      replace e := bnd_some.1 e; obtain ⟨x, h1, e⟩ := e
      replace e := bnd_some.1 e; obtain ⟨a, h2, e⟩ := e
      replace e := bnd_some.1 e; obtain ⟨t, h3, e⟩ := e
      replace e := bnd_some.1 e; obtain ⟨d, h4, e⟩ := e
      replace e := grd_some.1 e; obtain ⟨h5, e⟩ := e
      exact len_run hc h1 h3 h4 h5 e (hev _ _ h2)
    · rename_i hc
      replace e := bnd_some.1 e; obtain ⟨x, h1, e⟩ := e
      replace e := bnd_some.1 e; obtain ⟨a, h2, e⟩ := e
      replace e := bnd_some.1 e; obtain ⟨t, h3, e⟩ := e
      replace e := bnd_some.1 e; obtain ⟨d, h4, e⟩ := e
      split at e
      · exact cap_run hc h1 h3 h4 e (hev _ _ h2)
      · cases e
    · exact val_plain hev (by intro cs b h; cases h) e
    · exact val_plain hev (by intro cs b h; cases h) e
    · rename_i hc
      replace e := bnd_some.1 e; obtain ⟨x, h1, e⟩ := e
      replace e := bnd_some.1 e; obtain ⟨a, h2, e⟩ := e
      replace e := bnd_some.1 e; obtain ⟨p, h3, e⟩ := e
      replace e := grd_some.1 e; obtain ⟨h5, e⟩ := e
      injection e with e; subst e
      simp only [Bool.and_eq_true, Bool.not_eq_true'] at h5
      exact slData_run hc h1 (Nat.eq_of_beq_eq_true h5.2) h3 (by intro h0; rw [h0] at h5; cases h5.1) (hev _ _ h2)
    · cases e

theorem optA_ok (hev : ∀ x v, ev x = some v → VRel m v (ρ x)) {x : Option Operand} {y : Option V} (e : optA ev x = some y) : ORelO m y (x.map ρ) := by
  cases x with
  | none => injection e with e; subst e; exact .none
  | some x =>
    replace e := bnd_some.1 (show (ev x).bind _ = some y from e); obtain ⟨a, h1, e⟩ := e
    injection e with e; subst e
    exact .some _ _ (hev _ _ h1)
theorem bytesOf_ok : ∀ {cs : List V} {bs : List UInt8} {cs' : List Value}, bytesOfCells cs = some bs → VsRel m cs cs' →
    ∃ ns : List Int, cs' = ns.map (Value.int .u8) ∧ bs = ns.map fun n => UInt8.ofNat n.toNat
  | [], bs, cs', e, h => by injection e with e; subst e; cases h; exact ⟨[], rfl, rfl⟩
  | v :: cs, bs, cs', e, h => by
    cases h with
    | cons _ v' _ cs' hv hvs =>
      unfold bytesOfCells at e
      split at e
      · rename_i heq; cases heq
      · rename_i n vs heq
        injection heq with h1 h2; subst h1; subst h2
        replace e := bnd_some.1 e; obtain ⟨r, hr, e⟩ := e
        injection e with e; subst e
        obtain ⟨ns, rfl, rfl⟩ := bytesOf_ok hr hvs
        cases hv
        exact ⟨n :: ns, rfl, rfl⟩
      · cases e
theorem run_bytesToString {a : Addr} {len c : Nat} {ns : List Int} (hl : (loadCells a len).run P w = .ok (ns.map (Value.int .u8)).toArray w) :
    (Conv.bytesToString (.slice (some a) len c)).run P w = .ok (.string ⟨(ns.map fun n => UInt8.ofNat n.toNat).toArray⟩) w := by
  have key : ∀ (ns : List Int) (s : ByteArray), (forIn (m := Sem) (ns.map (Value.int .u8)) s fun c s => (match c with
      | .int .u8 n => pure (ForInStep.yield (s.push (UInt8.ofNat n.toNat)))
      | _ => (do let _ ← (stuck "bytesToString: byte expected" : Sem PUnit); pure (ForInStep.yield s)) : Sem (ForInStep ByteArray))).run P w = .ok ⟨s.data ++ (ns.map fun n => UInt8.ofNat n.toNat).toArray⟩ w := by
    intro ns
    induction ns with
    | nil => intro s; simp
    | cons n ns ih =>
      intro s
      rw [List.map_cons, List.forIn_cons]
      simp only [Sem.run_bind, Sem.run_pure, Result.andThen_ok, ih]
      congr 2
      simp [ByteArray.push]
  simp only [Conv.bytesToString, Sem.run_bind, hl, Result.andThen_ok]
  rw [List.forIn_toArray]
  have := key ns ByteArray.empty
  rw [show ByteArray.empty.data = #[] from rfl, Array.empty_append] at this
  exact (congrArg (fun r : Result ByteArray => r.andThen fun a w' => Sem.run P (pure (Value.string a)) w') this)

theorem bytesStr_ok (R : HRel NG N0 w0 m h w) {s d : TypeId} {a v : V} {a' : Value} (e : bytesStrA P s d a h = some v) (ha : VRel m a a') : Gets P m w (convert s d a') v := by
  replace e := bnd_some.1 e; obtain ⟨sd, hs, e⟩ := e
  split at e
  case h_2 => cases e
  case h_1 el =>
    replace e := bnd_some.1 e; obtain ⟨ed, he, e⟩ := e
    split at e
    case h_2 => cases e
    case h_1 =>
      replace e := bnd_some.1 e; obtain ⟨dd, hd, e⟩ := e
      split at e
      case h_2 => cases e
      case h_1 =>
        replace e := bnd_some.1 e; obtain ⟨n, hn, e⟩ := e
        replace e := bnd_some.1 e; obtain ⟨cs, hcs, e⟩ := e
        replace e := bnd_some.1 e; obtain ⟨bs, hbs, e⟩ := e
        injection e with e; subst e
        cases a with
        | nilsl =>
          cases ha
          injection hcs with hcs; subst hcs
          injection hbs with hbs; subst hbs
          exact ⟨.string .empty, .str [], by simp [convert, run_underlying hs, run_underlying hd, run_underlying he, Conv.bytesToString]⟩
        | sl id off len cap =>
          injection hn with hn; subst hn
          obtain ⟨L, c, hm, rfl, _⟩ := sl_inv ha
          obtain ⟨cs', h1, h2⟩ := first_ok (P := P) R hcs ha
          obtain ⟨ns, h3, h4⟩ := bytesOf_ok hbs h2
          subst h4
          simp only [Builtin.firstCells, Nat.mul_one] at h1
          have hl : (loadCells ⟨L.b, L.d + off, none⟩ len).run P w = .ok (ns.map (Value.int .u8)).toArray w := by
            rw [h1, ← h3]
          exact ⟨_, .str _, by simp only [convert, Sem.run_bind, run_underlying hs, run_underlying hd, run_underlying he, Result.andThen_ok]; exact run_bytesToString hl⟩
        | _ => simp [slLenA] at hn
theorem shape_of {b : Nat} {c : Array Value} {t : TypeId} {fz : Nat × Nat} (e : w.heap[b]? = some (.cells c t fz)) : w.shape? b = some (t, c.size) := by simp [World.shape?, e]
theorem uptr_ok (R : HRel NG N0 w0 m h w) {s d : TypeId} {a v : V} {a' : Value} (e : uptrA P s d a h = some v) (ha : VRel m a a') : Gets P m w (convert s d a') v := by
  replace e := bnd_some.1 e; obtain ⟨⟨id, off⟩, hp, e⟩ := e
  obtain rfl := V.ptr?_inv hp; dsimp only at *
  obtain ⟨L, hm, rfl⟩ := ptr_inv ha
  replace e := bnd_some.1 e; obtain ⟨r, hr, e⟩ := e
  obtain ⟨_, _, cc, fz, RR⟩ := row_of R hr hm
  have hsh := shape_of RR.at_
  have hfit := RR.fits
  have hend := RR.ends
  replace e := bnd_some.1 e; obtain ⟨sd, hs, e⟩ := e
  replace e := bnd_some.1 e; obtain ⟨dd, hd, e⟩ := e
  have hseen : ∀ o, (Conv.seenAt ⟨L.b, o, none⟩).run P w = .ok ⟨L.b, o, none⟩ w := fun o => by
    simp [Conv.seenAt, viewAt, hsh]
  split at e
  · replace e := bnd_some.1 e; obtain ⟨n, hn, e⟩ := e
    replace e := grd_some.1 e; obtain ⟨hg, e⟩ := e
    injection e with e; subst e
    simp only [Bool.and_eq_true, Bool.not_eq_true'] at hg
    have hn0 : n ≠ 0 := by intro h0; subst h0; cases hg.1
    have hlt := Nat.le_of_ble_eq_true hg.2
    have hge : ¬ (cc.size ≤ L.d + off) := by omega
    refine ⟨_, ha, ?_⟩
    simp [convert, run_underlying hs, run_underlying hd, Conv.unsafePointer, hseen, cellsIn, hsh, run_sizeOf hn, hn0, hge]
  · replace e := bnd_some.1 e; obtain ⟨n, hn, e⟩ := e
    replace e := grd_some.1 e; obtain ⟨hg, e⟩ := e
    injection e with e; subst e
    simp only [Bool.and_eq_true] at hg
    obtain ⟨hd0, hcs⟩ := RR.ex hg.1
    have hv : ∀ u, (variablesAt ⟨L.b, L.d + off, none⟩ u 1).run P w = .ok (liesAt P P.depth r.elem (cc.size / P.cellsOf r.elem) (L.d + off) u 1) w := fun u => by
      simp [variablesAt, hsh]
    rw [hd0, Nat.zero_add] at *
    rw [hcs] at hv
    refine ⟨_, ha, ?_⟩
    simp [convert, run_underlying hs, run_underlying hd, Conv.unsafePointer, hseen, run_sizeOf hn, hv, hg.2]
  · cases e

theorem load_ok (R : HRel NG N0 w0 m h w) (hev : ∀ x v, ev x = some v → VRel m v (ρ x)) {o : Oper} {v : V} (e : loadA P ev o h = some v) : Val P m w (execOp ρ o) v := by
  obtain ⟨dst, op, type, pos, after, guard⟩ := o
  cases op <;> simp only [loadA] at e <;> first | (cases e; done) | skip
  case load t a =>
    replace e := bnd_some.1 e; obtain ⟨a', h1, e⟩ := e
    exact val_of (loadAt_ok R e (hev _ _ h1))
  case slice t x lo hi mx =>
    replace e := bnd_some.1 e; obtain ⟨a', h1, e⟩ := e
    replace e := bnd_some.1 e; obtain ⟨l, h2, e⟩ := e
    replace e := bnd_some.1 e; obtain ⟨u, h3, e⟩ := e
    replace e := bnd_some.1 e; obtain ⟨c, h4, e⟩ := e
    exact val_of (sliceAt_ok R e (hev _ _ h1) (optA_ok hev h2) (optA_ok hev h3) (optA_ok hev h4))
  case convert s d x =>
    replace e := bnd_some.1 e; obtain ⟨a', h1, e⟩ := e
    rcases or_some e with e | e
    · exact val_of (bytesStr_ok R e (hev _ _ h1))
    · exact val_of (uptr_ok R e (hev _ _ h1))

/-! ### Operations that make a row -/
/-- The operation gives a value and makes the row. -/
def Mks (P : Program) (NG N0 : Nat) (w0 : World) (m : Mu) (h : H) (w : World) (nid : Nat) (s : Sem Next) (v : V) (h' : H) : Prop :=
  ∃ m' w' v', Ext m m' nid ∧ Good NG N0 w0 m h w m' h' w' ∧ VRel m' v v' ∧ s.run P w = .ok (.value v') w'
theorem mks_of {s : Sem Value} {v : V} {h' : H} (k : Yld P NG N0 w0 m h w nid s v h') : Mks P NG N0 w0 m h w nid (do pure (.value (← s))) v h' := by
  obtain ⟨m', w', v', h1, h2, h3, h4⟩ := k
  exact ⟨m', w', v', h1, h2, h3, by simp [h4]⟩
theorem strBytes_ok (R : HRel NG N0 w0 m h w) (hf : m nid = none) (hn : nid < h.next) {s d : TypeId} {a v : V} {a' : Value} {r : Row} (e : strBytesA P s d a nid = some (v, r)) (ha : VRel m a a') :
    Yld P NG N0 w0 m h w nid (convert s d a') v (h.set nid (some (.row r))) := by
  replace e := bnd_some.1 e; obtain ⟨b, hb, e⟩ := e
  obtain rfl := V.str?_inv hb
  obtain rfl := str_inv ha
  replace e := bnd_some.1 e; obtain ⟨sd, hs, e⟩ := e
  replace e := bnd_some.1 e; obtain ⟨dd, hd, e⟩ := e
  split at e
  case h_2 => cases e
  case h_1 el =>
    replace e := bnd_some.1 e; obtain ⟨ed, he, e⟩ := e
    split at e
    case h_2 => cases e
    case h_1 =>
      replace e := grd_some.1 e; obtain ⟨hg, e⟩ := e
      injection e with e; injection e with e1 e2; subst e1; subst e2
      have hsz : (⟨b.toArray⟩ : ByteArray).size = b.length := by simp [ByteArray.size]
      generalize hcap : (Question.appendCap b.length 0 el).cut (w.tape w.drawn (.appendCap b.length 0 el)) = cap
      have hcl : b.length ≤ cap := by rw [← hcap]; exact Nat.le_add_right _ _
      have hch : (choose (.appendCap b.length 0 el)).run P w = .ok cap { w with drawn := w.drawn + 1 } := by rw [run_choose, hcap]; rfl
      -- the row as it stands
      let c : Array Value := (Array.map (fun b : UInt8 => Value.int .u8 (b.toNat : Int)) b.toArray) ++ Array.replicate (cap - b.length) (.int .u8 0)
      have hc : c.size = cap := by simp [c]; omega
      have hv : VsRel m (b.map fun c => V.int .u8 (c.toNat : Int)) (c.toList.take (b.map fun c => V.int .u8 (c.toNat : Int)).length) := by
        have h1 : ∀ l : List UInt8, VsRel m (l.map fun c => V.int .u8 (c.toNat : Int)) (l.map fun c => Value.int .u8 (c.toNat : Int)) := by
          intro l
          induction l with
          | nil => exact .nil
          | cons a l ih => exact .cons _ _ _ _ (.int _ _) ih
        have h2 : c.toList.take (b.map fun c => V.int .u8 (c.toNat : Int)).length = b.map fun c => Value.int .u8 (c.toNat : Int) := by
          simp only [c, Array.toList_append]
          rw [take_app _ _ _ (by simp)]
          simp
        rw [h2]; exact h1 b
      obtain ⟨p1, p2⟩ := new_row R hf hn (t := el) (sz := 1) (st := true) (ex := false) (frz := 0) (fz := (cap, cap + 1)) cap (vs := b.map fun c => V.int .u8 (c.toNat : Int)) (c := c) hv (by simpa using hcl) (by omega)
        (w1 := { w with drawn := w.drawn + 1 }) rfl rfl rfl rfl (w' := { w with drawn := w.drawn + 1, heap := w.heap.push (.cells c el (cap, cap + 1)) }) rfl rfl rfl rfl (.inr ⟨rfl, rfl, by rw [hc]; exact Nat.le_refl _⟩) (fun h => by cases h)
      refine ⟨_, _, .slice (some ⟨w.heap.size, 0, none⟩) b.length cap, p1, p2, ?_, ?_⟩
      · exact VRel.slo nid 0 b.length cap ⟨w.heap.size, 0, cap, 1⟩ (Mu.upd_at _ _ _) (by simp) hcl
      · simp only [convert, Sem.run_bind, run_underlying hs, run_underlying hd, run_underlying he, Result.andThen_ok]
        have hmk : ∀ W : World, W.heap = w.heap.push (.cells c el (0, 0)) → (markStringish ⟨w.heap.size, 0, none⟩).run P W = .ok () { W with heap := w.heap.push (.cells c el (cap, cap + 1)) } := by
          intro W hW
          have hs' : W.shape? w.heap.size = some (el, c.size) := by simp [World.shape?, hW]
          simp only [markStringish, Sem.run_bind, run_shape, hs', Result.andThen_ok, run_freeze, hc]
          congr 1
          simp only [World.freeze, hW]
          rw [if_neg (by omega)]
          congr 1
          apply Array.ext_getElem?
          intro k
          rw [Array.getElem?_modify]
          by_cases hk : w.heap.size = k
          · subst hk; simp
          · rw [if_neg hk, Array.getElem?_push, Array.getElem?_push, if_neg (Ne.symm hk), if_neg (Ne.symm hk)]
        simp only [Conv.stringToBytes, Sem.run_bind, hsz, hch, Result.andThen_ok, newRow, run_newObj, Sem.run_pure]
        rw [hmk _ rfl]
        rfl
end
end Go.Proofs.Ytagbpjegdfhmpaa.AM
