/- The smaller machine's operations do what the program's do: slices, literals, append, copy. -/
import Derived.Test.YtagbpjegdfhmpaaAmSound
set_option linter.unusedSimpArgs false
set_option linter.unusedVariables false
namespace Go.Proofs.Ytagbpjegdfhmpaa.AM
open Go.RowKit (Below)

section
variable {P : Program} {NG N0 : Nat} {w0 : World} {m : Mu} {h : H} {w : World} {nid : Nat}

theorem bnd_mono {x : Option V} {d y y' n : Nat} (e : bnd x d y = some n) (hy : y ≤ y') : bnd x d y' = some n := by
  cases x with
  | none => exact e
  | some v =>
    replace e := bnd_some.1 (show v.nat?.bind _ = some n from e); obtain ⟨p, hp, e⟩ := e
    replace e := grd_some.1 e; obtain ⟨h1, e⟩ := e
    exact bnd_some.2 ⟨p, hp, grd_some.2 ⟨Nat.ble_eq_true_of_le (Nat.le_trans (Nat.le_of_ble_eq_true h1) hy), e⟩⟩
theorem bnd_le {x : Option V} {d y n : Nat} (e : bnd x d y = some n) (hd : d ≤ y) : n ≤ y := by
  rcases bnd_spec e with ⟨_, rfl⟩ | ⟨_, _, h⟩
  · exact hd
  · exact h
theorem bounds3_ok {lo hi mx : Option V} {lo' hi' mx' : Option Value} {len cap hb lb mb : Nat} (hlo : ORelO m lo lo') (hhi : ORelO m hi hi') (hmx : ORelO m mx mx') (i1 : hi.isSome = true) (i2 : mx.isSome = true)
    (e0 : bnd mx 0 cap = some mb) (e1 : bnd hi len mb = some hb) (e2 : bnd lo 0 hb = some lb) :
    (Instr.sliceBounds true len cap lo' hi' mx').run P w = .ok (lb, hb, mb) w := by
  unfold Instr.sliceBounds
  cases hmx with
  | none => cases i2
  | some x x' hx =>
    rcases bnd_spec e0 with ⟨h, _⟩ | ⟨k, h, hle0⟩
    case inl => cases h
    injection h with h; subst h
    obtain rfl := int_inv hx
    cases hhi with
    | none => cases i1
    | some u u' hu =>
      rcases bnd_spec e1 with ⟨h, _⟩ | ⟨k, h, hle⟩
      case inl => cases h
      injection h with h; subst h
      obtain rfl := int_inv hu
      cases hlo with
      | none =>
        rcases bnd_spec e2 with ⟨_, rfl⟩ | ⟨k, h, _⟩
        case inr => cases h
        simp [run_sliceBound hle, run_sliceBound hle0]
      | some v v' hv =>
        rcases bnd_spec e2 with ⟨h, _⟩ | ⟨k, h, hle'⟩
        case inl => cases h
        injection h with h; subst h
        obtain rfl := int_inv hv
        simp [run_sliceBound hle, run_sliceBound hle', run_sliceBound hle0]
theorem cut_ok {id off s l hb mb : Nat} {L : Loc} (hm : m id = some L) : VRel m (cutA id off s l hb mb) (.slice (some (if mb = l then ⟨L.b, L.d + off, none⟩ else (⟨L.b, L.d + off, none⟩ : Addr).add (l * s))) (hb - l) (mb - l)) := by
  unfold cutA
  by_cases e : mb = l
  · subst e
    rw [show Nat.beq mb mb = true from Nat.beq_refl mb, if_pos rfl, Nat.sub_self]
    exact .slc _ _ _ _ _ hm
  · rw [beqf e, if_neg e, addr_add, Nat.add_assoc]
    exact .slc _ _ _ _ _ hm

theorem sliceAt_ok (R : HRel NG N0 w0 m h w) {t : TypeId} {x v : V} {x' : Value} {lo hi mx : Option V} {lo' hi' mx' : Option Value} (e : sliceAtA P t x lo hi mx h = some v) (hx : VRel m x x')
    (hlo : ORelO m lo lo') (hhi : ORelO m hi hi') (hmx : ORelO m mx mx') : Gets P m w (Instr.sliceAt t x' lo' hi' mx') v := by
  replace e := bnd_some.1 e; obtain ⟨d, hd, e⟩ := e
  split at e
  case h_4 => cases e
  case h_1 =>
    replace e := grd_some.1 e; obtain ⟨hn, e⟩ := e
    replace e := bnd_some.1 e; obtain ⟨s, hp, e⟩ := e
    replace e := bnd_some.1 e; obtain ⟨hb, e1, e⟩ := e
    replace e := bnd_some.1 e; obtain ⟨lb, e2, e⟩ := e
    injection e with e; subst e
    obtain rfl := V.str?_inv hp
    obtain rfl := str_inv hx
    cases hmx with
    | some => cases hn
    | none =>
      have hb' := bnd_le e1 (Nat.le_refl _)
      have hl' := bnd_le e2 (Nat.zero_le _)
      have hs := bounds_ok (P := P) (w := w) (isS := false) hlo hhi e1 e2
      refine ⟨.string ((⟨s.toArray⟩ : ByteArray).extract lb hb), ?_, ?_⟩
      · have := VRel.str (m := m) ((s.drop lb).take (hb - lb))
        have e : (⟨((s.drop lb).take (hb - lb)).toArray⟩ : ByteArray) = (⟨s.toArray⟩ : ByteArray).extract lb hb := by
          apply ByteArray.ext
          apply Array.ext'
          rw [ByteArray.data_extract]
          simp
        rwa [e] at this
      · have hsz : (⟨s.toArray⟩ : ByteArray).size = s.length := by simp [ByteArray.size]
        simp [Instr.sliceAt, Instr.slice, run_underlying hd, hsz, hs]
  case h_3 n el =>
    replace e := grd_some.1 e; obtain ⟨hn, e⟩ := e
    replace e := bnd_some.1 e; obtain ⟨⟨id, off⟩, hp, e⟩ := e
    obtain rfl := V.ptr?_inv hp; dsimp only at *
    obtain ⟨L, hm, rfl⟩ := ptr_inv hx
    replace e := bnd_some.1 e; obtain ⟨s, hs, e⟩ := e
    replace e := bnd_some.1 e; obtain ⟨hb, e1, e⟩ := e
    replace e := bnd_some.1 e; obtain ⟨lb, e2, e⟩ := e
    injection e with e; subst e
    cases hmx with
    | some => cases hn
    | none =>
      have hs' := bounds_ok (P := P) (w := w) (isS := false) hlo hhi e1 e2
      exact ⟨_, cut_ok hm, by simp [Instr.sliceAt, run_underlying hd, Instr.sureAddr, hs', run_sizeOf hs]⟩
  case h_2 el =>
    cases hq : sliceSlA P el x lo hi mx h with
    | none =>
      rw [hq] at e
      have e : ((szOf P el).bind fun _ => sliceNilA x lo hi mx) = some v := by simpa using e
      replace e := bnd_some.1 e; obtain ⟨s, hs, e⟩ := e
      unfold sliceNilA at e
      split at e
      case h_2 => cases e
      case h_1 =>
        replace e := grd_some.1 e; obtain ⟨hn, e⟩ := e
        replace e := bnd_some.1 e; obtain ⟨hb, e1, e⟩ := e
        replace e := bnd_some.1 e; obtain ⟨lb, e2, e⟩ := e
        injection e with e; subst e
        cases hx
        cases hmx with
        | some => cases hn
        | none =>
          have h1 := bnd_le e1 (Nat.le_refl _)
          obtain rfl : hb = 0 := by omega
          have h2 := bnd_le e2 (Nat.le_refl _)
          obtain rfl : lb = 0 := by omega
          have hs' := bounds_ok (P := P) (w := w) (isS := true) hlo hhi e1 e2
          exact ⟨.slice none 0 0, .nilsl, by simp [Instr.sliceAt, Instr.slice, run_underlying hd, hs', run_sizeOf hs]⟩
    | some v' =>
      rw [hq] at e
      obtain rfl : v' = v := by simpa using e
      clear e
      replace hq := bnd_some.1 hq; obtain ⟨⟨id, off, len, cap⟩, hp, e⟩ := hq
      obtain rfl := V.sl?_inv hp; dsimp only at *
      obtain ⟨L, c, hm, rfl, hcap⟩ := sl_inv hx
      replace e := bnd_some.1 e; obtain ⟨s, hs, e⟩ := e
      cases hmx with
      | none =>
        cases cap with
        | none =>
          replace e := bnd_some.1 (show (rowOf h id).bind _ = some _ from e); obtain ⟨r, hr, e⟩ := e
          replace e := bnd_some.1 e; obtain ⟨hb, e1, e⟩ := e
          replace e := bnd_some.1 e; obtain ⟨lb, e2, e⟩ := e
          replace e := grd_some.1 e; obtain ⟨hg, e⟩ := e
          injection e with e; subst e
          simp only [Bool.and_eq_true, Bool.or_eq_true] at hg
          obtain ⟨hg, hsz⟩ := hg
          have hsz := Nat.eq_of_beq_eq_true hsz
          have hbl := bnd_le e1 (Nat.le_refl _)
          have hll := bnd_le e2 (Nat.zero_le _)
          obtain ⟨hc1, hc2⟩ := hcap
          obtain ⟨_, _, cc, fz, RR⟩ := row_of R hr hm
          have hLs : L.sz = s := by rw [RR.sz, hsz]
          have hs' := bounds_ok (P := P) (w := w) (isS := true) hlo hhi (bnd_mono e1 hc2) e2
          refine ⟨.slice (some (if c = lb then ⟨L.b, L.d + off, none⟩ else (⟨L.b, L.d + off, none⟩ : Addr).add (lb * s))) (hb - lb) (c - lb), ?_, by simp [Instr.sliceAt, Instr.slice, run_underlying hd, hs', run_sizeOf hs]; split <;> rfl⟩
          have hadd : (if c = lb then (⟨L.b, L.d + off, none⟩ : Addr) else (⟨L.b, L.d + off, none⟩ : Addr).add (lb * s)) = ⟨L.b, L.d + (off + lb * s), none⟩ := by
            by_cases hcl : c = lb
            · rw [if_pos hcl]
              have : lb = 0 := by
                rcases hg with hg | hg
                · have := Nat.le_of_ble_eq_true hg; omega
                · exact Nat.eq_of_beq_eq_true hg
              subst this; simp
            · rw [if_neg hcl, addr_add, Nat.add_assoc]
          rw [hadd]
          refine .slo _ _ _ _ _ hm ?_ (by omega)
          rw [hLs] at hc1 ⊢
          have : (c - lb) * s + lb * s = c * s := by rw [← Nat.add_mul]; congr 1; omega
          omega
        | some c' =>
          dsimp only at hcap; subst hcap
          replace e := bnd_some.1 (show (bnd hi len c').bind _ = some _ from e); obtain ⟨hb, e1, e⟩ := e
          replace e := bnd_some.1 e; obtain ⟨lb, e2, e⟩ := e
          injection e with e; subst e
          have hs' := bounds_ok (P := P) (w := w) (isS := true) hlo hhi e1 e2
          exact ⟨_, cut_ok hm, by simp [Instr.sliceAt, Instr.slice, run_underlying hd, hs', run_sizeOf hs]; split <;> rfl⟩
      | some u u' hu =>
        replace e := bnd_some.1 (show (bnd (some u) 0 (cap.getD len)).bind _ = some _ from e); obtain ⟨mb, e0, e⟩ := e
        replace e := grd_some.1 e; obtain ⟨hg, e⟩ := e
        replace e := bnd_some.1 e; obtain ⟨hb, e1, e⟩ := e
        replace e := bnd_some.1 e; obtain ⟨lb, e2, e⟩ := e
        injection e with e; subst e
        have hcl : cap.getD len ≤ c := by
          cases cap with
          | none => exact hcap.2
          | some c' => dsimp only at hcap; subst hcap; exact Nat.le_refl _
        have hs' := bounds3_ok (P := P) (w := w) (len := len) hlo hhi (.some _ _ hu) hg rfl (bnd_mono e0 hcl) e1 e2
        exact ⟨_, cut_ok hm, by simp [Instr.sliceAt, Instr.slice, run_underlying hd, hs', run_sizeOf hs]; split <;> rfl⟩
end
end Go.Proofs.Ytagbpjegdfhmpaa.AM
