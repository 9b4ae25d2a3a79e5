/- The smaller machine's operations that change memory, whole; and calls. -/
import Derived.Test.YtagbpjegdfhmpaaAmSound10
set_option linter.unusedSimpArgs false
set_option linter.unusedVariables false
namespace Go.Proofs.Ytagbpjegdfhmpaa.AM
open Go.RowKit (Below)

section
variable {P : Program} {NG N0 : Nat} {w0 : World} {m : Mu} {h : H} {w : World} {nid : Nat} {ev : Operand → Option V} {ρ : Operand → Value}

theorem run_loadBytes : ∀ (ns : List Int) (b o : Nat) (acc : ByteArray), (∀ j n, ns[j]? = some n → w.cell? ⟨b, o + j, none⟩ = some (.int .u8 n)) →
    (loadBytes ⟨b, o, none⟩ acc ns.length).run P w = .ok ⟨acc.data ++ (ns.map fun n => UInt8.ofNat n.toNat).toArray⟩ w
  | [], b, o, acc, _ => by simp [loadBytes]
  | n :: ns, b, o, acc, hc => by
    have h0 := hc 0 n rfl
    simp only [Nat.add_zero] at h0
    have ih := run_loadBytes ns b (o + 1) (acc.push (UInt8.ofNat n.toNat)) (fun j k hj => by rw [show o + 1 + j = o + (j + 1) by omega]; exact hc (j + 1) k (by simpa using hj))
    simp only [List.length_cons, loadBytes, Sem.run_bind, run_load, h0, Result.andThen_ok, addr_add]
    have : (n.toNat).toUInt8 = UInt8.ofNat n.toNat := rfl
    rw [this, ih]
    congr 2
    simp [ByteArray.push]

theorem unsafeStr_ok (R : HRel NG N0 w0 m h w) {pt : TypeId} {a n v : V} {a' n' : Value} {h' : H} {ats : Array TypeId} {ty : TypeId} (hat : ats[0]? = some pt)
    (e : unsafeStrA P pt a n h = some (v, h')) (ha : VRel m a a') (hn : VRel m n n') : Yld P NG N0 w0 m h w nid (Builtin.unsafeString_ ats ty #[a', n']) v h' := by
  replace e := bnd_some.1 e; obtain ⟨⟨id, off⟩, hp, e⟩ := e
  obtain rfl := V.ptr?_inv hp; dsimp only at *
  replace e := bnd_some.1 e; obtain ⟨⟨k, q⟩, hq, e⟩ := e
  obtain rfl := V.nat?_inv hq; dsimp only at *
  obtain rfl := int_inv hn
  obtain ⟨L, hm, rfl⟩ := ptr_inv ha
  replace e := bnd_some.1 e; obtain ⟨r, hr, e⟩ := e
  replace e := bnd_some.1 e; obtain ⟨d, hu, e⟩ := e
  split at e
  case h_2 => cases e
  case h_1 el =>
    replace e := grd_some.1 e; obtain ⟨hg, e⟩ := e
    replace e := bnd_some.1 e; obtain ⟨bs, hbs, e⟩ := e
    injection e with e; injection e with e1 e2; subst e1; subst e2
    simp only [Bool.and_eq_true, Bool.not_eq_true'] at hg
    obtain ⟨⟨⟨⟨⟨⟨⟨g1, g2⟩, g3⟩, g4⟩, g5⟩, g6⟩, g7⟩, g8⟩ := hg
    have g1 := Nat.eq_of_beq_eq_true g1
    have g2 : q ≠ 0 := by intro h0; subst h0; cases g2
    have g5 := Nat.le_of_ble_eq_true g5
    have g6 := Nat.le_of_ble_eq_true g6
    have g7 := Nat.eq_of_beq_eq_true g7
    subst g1
    obtain ⟨hlt, hro, cc, fz, RR⟩ := row_of R hr hm
    have hfit := RR.fits
    have hend := RR.ends
    have hsh := shape_of RR.at_
    obtain ⟨ns, h3, h4⟩ := bytesOf_ok hbs (RR.vals.take q)
    have hnl : ns.length = q := by
      have := congrArg List.length h3
      simp at this; omega
    have hcells : ∀ j n, ns[j]? = some n → w.cell? ⟨L.b, L.d + 0 + j, none⟩ = some (.int .u8 n) := by
      intro j n hj
      have hjq : j < q := by rw [← hnl]; exact (List.getElem?_eq_some_iff.1 hj).1
      rw [Nat.add_zero, RR.cellAt]
      have := congrArg (fun l : List Value => l[j]?) h3
      simp only [List.getElem?_map, hj, Option.map_some] at this
      rw [List.getElem?_take, if_pos hjq, List.getElem?_take, if_pos (by omega)] at this
      exact this
    have hlb := run_loadBytes (P := P) (w := w) ns L.b (L.d + 0) ByteArray.empty hcells
    rw [hnl, show ByteArray.empty.data = #[] from rfl, Array.empty_append, ← h4] at hlb
    have hv : (variablesAt ⟨L.b, L.d + 0, none⟩ el q).run P w = .ok true w := by
      simp only [variablesAt, Sem.run_bind, run_program, Result.andThen_ok, run_shape, hsh, Sem.run_pure, g7, Nat.div_one, Nat.add_zero]
      congr 1
      have hdep : ∃ dd, P.depth = dd + 1 := ⟨2 * (P.types.size + Made.depth) + 1, rfl⟩
      obtain ⟨dd, hdd⟩ := hdep
      rw [hdd] at g8 ⊢
      unfold liesAt
      rw [hdd]
      unfold rowAt
      simp only [g7, Nat.div_one, Nat.mod_one, beq_self_eq_true, Bool.true_and]
      rw [if_neg (by omega), g8]
      simp
      omega
    have hfz0 : fz.1 = fz.2 ∨ ∃ p, p ≤ r.frz ∧ fz = (L.d, L.d + p) := by
      rcases RR.frz with ⟨_, h⟩ | ⟨h1, _, _⟩
      · exact h
      · rw [g3] at h1; cases h1
    have hat' : ∃ fz', (w.freeze ⟨L.b, L.d + 0, none⟩ q).heap[L.b]? = some (.cells cc r.elem fz') ∧ FrzOk { r with frz := Nat.max r.frz q } L.d fz' cc.size := by
      simp only [World.freeze]
      rw [if_neg g2]
      refine ⟨_, (modify_at _ _ _ _ RR.at_).trans rfl, .inl ⟨g3, .inr ?_⟩⟩
      obtain ⟨f1, f2⟩ := fz
      by_cases hf : f1 = f2
      · subst hf
        exact ⟨q, Nat.le_max_right _ _, by simp⟩
      · rcases hfz0 with h | ⟨p, hp', h⟩
        · exact absurd h hf
        · injection h with h1 h2
          subst h1; subst h2
          have hne : (L.d == L.d + p) = false := by simp; intro h0; subst h0; exact hf rfl
          refine ⟨max p q, Nat.max_le.2 ⟨Nat.le_trans hp' (Nat.le_max_left _ _), Nat.le_max_right _ _⟩, ?_⟩
          simp only [hne, Bool.false_eq_true, if_false, Nat.add_zero, Nat.min_self]
          congr 1
          omega
    obtain ⟨fz', hat1, hfz'⟩ := hat'
    have hS : Same1 L.b w (w.freeze ⟨L.b, L.d + 0, none⟩ q) := by
      simp only [World.freeze]
      rw [if_neg g2]
      exact ⟨rfl, rfl, rfl, by simp, fun k hk => modify_other _ _ _ _ hk⟩
    have hG := R.set (rowOf_some hr) hm g4 hS (o' := .row { r with frz := Nat.max r.frz q }) ⟨cc, fz', { at_ := hat1, sz := RR.sz, fits := RR.fits, ends := RR.ends, vals := RR.vals, frz := hfz', ex := RR.ex }⟩
    refine ⟨m, _, _, Ext.refl m _, hG, .str bs, ?_⟩
    have hel : (elemOf pt).run P w = .ok el w := by simp [elemOf, run_underlying hu]
    show (do
      let n ← asInt (.int k (q : Int))
      let some pt := ats[0]? | stuck "unsafe.String: no argument types"
      if n < 0 then runtimePanic (.error "unsafe.String: len out of range")
      if n > IntKind.i64.max then unsupported (.unsafePointer "String: a length above the largest int")
      if n = 0 then pure (.string .empty)
      else if ← variablesAt ⟨L.b, L.d + 0, none⟩ (← elemOf pt) n.toNat then do
        let s ← loadBytes ⟨L.b, L.d + 0, none⟩ .empty n.toNat
        freeze ⟨L.b, L.d + 0, none⟩ n.toNat
        pure (.string s)
      else unsupported (.unsafePointer "String: not so many bytes at ptr") : Sem Value).run P w = _
    have n1 : ¬ ((q : Int) < 0) := by omega
    have n2 : ¬ ((q : Int) > IntKind.i64.max) := by simp [IntKind.max, IntKind.bits, IntKind.signed]; omega
    have n3 : ¬ ((q : Int) = 0) := by omega
    simp only [asInt, asIntOf, Sem.run_bind, Sem.run_pure, Result.andThen_ok, hat, hel, n1, n2, n3, if_false, Int.toNat_natCast, hv, if_true, hlb, run_freeze]
end
end Go.Proofs.Ytagbpjegdfhmpaa.AM
