/- The smaller machine's operations do what the program's do: append and copy, whole. -/
import Derived.Test.YtagbpjegdfhmpaaAmSound4
set_option linter.unusedSimpArgs false
set_option linter.unusedVariables false
namespace Go.Proofs.Ytagbpjegdfhmpaa.AM
open Go.RowKit (Below)

section
variable {P : Program} {NG N0 : Nat} {w0 : World} {m : Mu} {h : H} {w : World} {nid : Nat}

theorem take_app {α : Type} (l k : List α) (n : Nat) (h : n = l.length) : (l ++ k).take n = l := by subst h; simp
theorem mid_take {α : Type} (c : List α) (d off q n : Nat) (h : off + q ≤ n) : (((c.drop d).take n).drop off).take q = (c.drop (d + off)).take q := by
  rw [List.drop_take, List.take_take, List.drop_drop, Nat.min_eq_left (by omega)]
theorem VsRel.appendL {vs ws : List V} {c : Array Value} (hv : VsRel m vs c.toList) (z : Array Value) : VsRel m vs ((c ++ z).toList.take vs.length) := by
  have := hv.length
  rw [Array.toList_append, List.take_append_of_le_length (by omega), List.take_of_length_le (by omega)]
  exact hv
theorem push_world (R : HRel NG N0 w0 m h w) (hf : m nid = none) (hn : nid < h.next) {el : TypeId} {k need cap frz : Nat} {cs : List V} {old new z : Array Value} (hv : VsRel m cs (old ++ new).toList) (hl : cs.length = need * k) (hc : need ≤ cap) (hz : z.size = (cap - need) * k) :
    ∃ m' , Ext m m' nid ∧ Good NG N0 w0 m h w m' (h.set nid (some (.row ⟨cs, el, k, frz, false, false, false⟩))) { w with drawn := w.drawn + 1, heap := w.heap.push (.cells (old ++ new ++ z) el) } ∧
      VRel m' (.sl nid 0 need none) (.slice (some ⟨w.heap.size, 0, none⟩) need cap) := by
  have hlen := hv.length
  have hsum : (old ++ new ++ z).size = cap * k := by
    have e : (old ++ new).size = need * k := by simp only [Array.length_toList] at hlen; omega
    rw [Array.size_append, e, hz, ← Nat.add_mul]; congr 1; omega
  obtain ⟨h1, h2⟩ := new_row R hf hn (t := el) (sz := k) (st := false) (ex := false) (frz := frz) (fz := (0, 0)) (cap * k) (c := old ++ new ++ z) (vs := cs) (VsRel.appendL (ws := []) hv z) (by rw [hl]; exact Nat.mul_le_mul_right _ hc) (by rw [hsum]; exact Nat.le_refl _)
    (w1 := { w with drawn := w.drawn + 1 }) rfl rfl rfl rfl (w' := { w with drawn := w.drawn + 1, heap := w.heap.push (.cells (old ++ new ++ z) el) }) rfl rfl rfl rfl (.inl ⟨rfl, .inl rfl⟩) (fun h => by cases h)
  exact ⟨_, h1, h2, VRel.slo nid 0 need cap ⟨w.heap.size, 0, cap * k, k⟩ (Mu.upd_at _ _ _) (by simp) hc⟩

theorem append_ok (R : HRel NG N0 w0 m h w) (hf : m nid = none) (hn' : nid < h.next) {st : TypeId} {xt : Option TypeId} {s x v : V} {s' x' : Value} {h' : H} {ats : Array TypeId} {ty : TypeId} (ha : ats[0]? = some st) (hb : ats[1]? = xt)
    (e : appendA P st xt s x nid h = some (v, h')) (hs : VRel m s s') (hx : VRel m x x') : Yld P NG N0 w0 m h w nid (Builtin.append_ ats ty #[s', x']) v h' := by
  replace e := bnd_some.1 e; obtain ⟨zeros, hzeros, e⟩ := e
  replace e := bnd_some.1 e; obtain ⟨d, hu, e⟩ := e
  split at e
  case h_2 => cases e
  case h_1 el =>
    replace e := bnd_some.1 e; obtain ⟨k, hk, e⟩ := e
    replace e := bnd_some.1 e; obtain ⟨by_, hby, e⟩ := e
    replace e := bnd_some.1 e; obtain ⟨z, hzv, e⟩ := e
    replace e := bnd_some.1 e; obtain ⟨⟨n, new⟩, hnew, e⟩ := e
    replace e := grd_some.1 e; obtain ⟨hg, e⟩ := e
    dsimp only at hg e
    simp only [Bool.and_eq_true, Bool.not_eq_true'] at hg
    obtain ⟨⟨⟨⟨⟨g1, g2⟩, g3⟩, g4⟩, g5⟩, g6⟩ := hg
    have g6 := Nat.le_of_ble_eq_true g6
    have g2 : k ≠ 0 := by intro h0; subst h0; cases g2
    have g3 : by_ ≠ 0 := by intro h0; subst h0; cases g3
    have g4 := Nat.eq_of_beq_eq_true g4
    have g5 := Nat.eq_of_beq_eq_true g5
    obtain ⟨i, hi, hib⟩ := info_of_bytes hby
    have hzv' : ∃ z', (∀ w', (zeroValue el).run P w' = .ok z' w') ∧ z'.cells.size = k ∧ VRel m z z' := by
      obtain ⟨z1, h1, h2⟩ := run_zeroValue hzv w
      refine ⟨z1, fun w' => ?_, ?_, h2 m⟩
      · unfold zeroOf at hzv
        replace hzv := bnd_some.1 hzv; obtain ⟨i', e1, hzv⟩ := hzv
        replace hzv := bnd_some.1 hzv; obtain ⟨zz, e2, hzv⟩ := hzv
        have q : ∀ w, (zeroValue el).run P w = .ok zz w := fun w => by simp [zeroValue, run_typeInfo e1, e2]
        rw [q w] at h1
        injection h1 with h1
        rw [q w', h1]
      · have := (h2 m).cells.length; simp at this; omega
    obtain ⟨z', hz1, hz2, hz3⟩ := hzv'
    have spec : ∃ new' : Array Value, VsRel m new new'.toList ∧
        (∀ {len c : Nat} {base : Option Addr} {w' : World}, len + n ≤ c → n * by_ ≤ 1099511627776 → Puts P base (len * k) new'.toList w w' →
          (Builtin.append_ ats ty #[.slice base len c, x']).run P w = .ok (.slice base (len + n) c) w') ∧
        (∀ {len c : Nat} {base : Option Addr} {old' : Array Value}, ¬ (len + n ≤ c) → (∀ w' : World, w'.heap = w.heap → (Builtin.firstCells k len (.slice base len c)).run P w' = .ok old' w') → (len + n) * by_ ≤ 1099511627776 →
          ∃ newCap, len + n ≤ newCap ∧ (Builtin.append_ ats ty #[.slice base len c, x']).run P w = .ok (.slice (some ⟨w.heap.size, 0, none⟩) (len + n) newCap)
            { w with drawn := w.drawn + 1, heap := w.heap.push (.cells (old' ++ new' ++ Builtin.zeroCells z'.cells (newCap - (len + n))) el) }) := by
      cases zeros with
      | false =>
        replace hnew := bnd_some.1 (show (lenA x).bind _ = some (n, new) from hnew); obtain ⟨n', hn, hnew⟩ := hnew
        replace hnew := bnd_some.1 hnew; obtain ⟨new1, hnw, hnew⟩ := hnew
        injection hnew with hnew; injection hnew with q1 q2; subst q1; subst q2
        have hz := zeros_spec hzeros
        have hlen := len_ok (P := P) (w := w) hn hx
        obtain ⟨new', hn1, hn2⟩ := first_heap (P := P) R hnw hx
        exact ⟨new', hn2, fun hle _ hst => append_in ha hb hz hu hk hlen (hn1 w rfl) hle hst, fun hle ho hr => append_new ha hb hz hu hk hlen hn1 hle ho hi hib g3 hr hz1⟩
      | true =>
        replace hnew := bnd_some.1 (show x.nat?.bind _ = some (n, new) from hnew); obtain ⟨⟨kq, n'⟩, hn, hnew⟩ := hnew
        replace hnew := grd_some.1 hnew; obtain ⟨hle1, hnew⟩ := hnew
        injection hnew with hnew; injection hnew with q1 q2; subst q1; subst q2
        obtain rfl := V.nat?_inv hn
        dsimp only at *
        obtain rfl := int_inv hx
        obtain ⟨t1, q1, rfl, hz⟩ := zeros_true hzeros
        have hle1 := Nat.le_of_ble_eq_true hle1
        refine ⟨if n' * k = 0 then #[] else Builtin.zeroCells z'.cells n', ?_, fun hle h2 hst => append_in_z ha hb hz hu hk hi hle1 (by rw [hib]; exact h2) ?_ hle hst, fun hle ho hr => append_new_z ha hb hz hu hk hle1 rfl hle ho hi hib g3 hr hz1⟩
        · by_cases h0 : n' * k = 0
          · have : n' = 0 := by rcases Nat.mul_eq_zero.1 h0 with h | h; exact h; exact absurd h g2
            subst this
            simp [rep]; exact .nil
          · simp only [h0, if_false]
            have := rep_ok (m := m) (z := z.cells) (z' := z'.cells) hz3.cells (by omega) n'
            unfold Builtin.zeroCells
            rw [hz2]; rw [hz2, g4] at this; exact this
        · by_cases h0 : n' * k = 0
          · simp [h0]
          · simp [h0, hz1]
    obtain ⟨new', hn2, IN, NEW⟩ := spec
    have hzs : ∀ q, (Builtin.zeroCells z'.cells q).size = q * k := fun q => by rw [zeroCells_size, hz2]
    cases s with
    | nilsl =>
      cases hs
      have e : appNilA el k by_ n new nid h = some (v, h') := e
      unfold appNilA at e
      by_cases h0 : n = 0
      · subst h0
        have e : some (V.nilsl, h) = some (v, h') := e
        injection e with e; injection e with e1 e2; subst e1; subst e2
        exact ⟨m, w, .slice none 0 0, Ext.refl m _, R.same, .nilsl, IN (by omega) g6 rfl⟩
      · rw [beqf h0] at e
        replace e := grd_some.1 (show grd _ _ = some (v, h') from e); obtain ⟨e0, e⟩ := e
        injection e with e; injection e with e1 e2; subst e1; subst e2
        obtain ⟨cap, hc, hrun⟩ := NEW (len := 0) (c := 0) (base := none) (by omega) (old' := #[]) (fun w' _ => by simp [Builtin.firstCells]) (by rw [Nat.zero_add]; exact Nat.le_of_ble_eq_true e0)
        obtain ⟨m', p1, p2, p3⟩ := push_world R hf hn' (el := el) (k := k) (need := n) (cap := cap) (cs := new) (old := #[]) (new := new') (z := Builtin.zeroCells z'.cells (cap - (0 + n))) (by simpa using hn2) g5 (by omega) (by rw [hzs, Nat.zero_add])
        exact ⟨m', _, _, p1, p2, p3, by rw [hrun, Nat.zero_add]⟩
    | sl id off len cap =>
      have e : appSlA el k by_ (.sl id off len cap) id off len cap n new nid h = some (v, h') := e
      obtain ⟨L, c, hm, rfl, hcap⟩ := sl_inv hs
      have hin : ∀ h1, putCells h id (off + len * k) new = some h1 → len + n ≤ c → ∃ w', Good NG N0 w0 m h w m h1 w' ∧ (Builtin.append_ ats ty #[.slice (some ⟨L.b, L.d + off, none⟩) len c, x']).run P w = .ok (.slice (some ⟨L.b, L.d + off, none⟩) (len + n) c) w' := by
        intro h1 hp hle
        obtain ⟨w', q1, q2⟩ := putCells_ok (P := P) R hp hn2 hm
        refine ⟨w', q2, IN hle g6 ?_⟩
        show (storeCells ((⟨L.b, L.d + off, none⟩ : Addr).add (len * k)) new'.toList).run P w = .ok () w'
        rw [addr_add, Nat.add_assoc]; exact q1
      have hgrow : ∀ old, firstA k len (.sl id off len cap) h = some old → old.length = len * k → (len + n) * by_ ≤ 1099511627776 → ¬ (len + n ≤ c) →
          ∃ old' : Array Value, VsRel m old old'.toList ∧ ∃ newCap, len + n ≤ newCap ∧ (Builtin.append_ ats ty #[.slice (some ⟨L.b, L.d + off, none⟩) len c, x']).run P w = .ok (.slice (some ⟨w.heap.size, 0, none⟩) (len + n) newCap)
            { w with drawn := w.drawn + 1, heap := w.heap.push (.cells (old' ++ new' ++ Builtin.zeroCells z'.cells (newCap - (len + n))) el) } := by
        intro old ho _ hr hle
        obtain ⟨old', q1, q2⟩ := first_heap (P := P) R ho hs
        exact ⟨old', q2, NEW hle q1 hr⟩
      have hfl : ∀ old, firstA k len (.sl id off len cap) h = some old → old.length = len * k := by
        intro old ho
        replace ho := bnd_some.1 (show (rowOf h id).bind _ = some _ from ho); obtain ⟨r, hr, ho⟩ := ho
        replace ho := grd_some.1 ho; obtain ⟨hl, ho⟩ := ho
        injection ho with ho; subst ho
        have := Nat.le_of_ble_eq_true hl
        simp; omega
      cases cap with
      | some c' =>
        dsimp only at hcap; subst hcap
        have e : cond (Nat.ble (len + n) c') (appInA k id off len n (some c') new h) (appGrowA el k by_ (.sl id off len (some c')) len n new nid h) = some (v, h') := e
        cases hb' : Nat.ble (len + n) c' with
        | true =>
          rw [hb'] at e
          have e : appInA k id off len n (some c') new h = some (v, h') := e
          replace e := bnd_some.1 e; obtain ⟨h1, hp, e⟩ := e
          injection e with e; injection e with e1 e2; subst e1; subst e2
          obtain ⟨w', q1, q2⟩ := hin h1 hp (Nat.le_of_ble_eq_true hb')
          exact ⟨m, w', _, Ext.refl m _, q1, .slc _ _ _ _ _ hm, q2⟩
        | false =>
          rw [hb'] at e
          have e : appGrowA el k by_ (.sl id off len (some c')) len n new nid h = some (v, h') := e
          replace e := grd_some.1 e; obtain ⟨e0, e⟩ := e
          replace e := bnd_some.1 e; obtain ⟨old, ho, e⟩ := e
          injection e with e; injection e with e1 e2; subst e1; subst e2
          obtain ⟨old', q2, cap, hc, hrun⟩ := hgrow old ho (hfl old ho) (Nat.le_of_ble_eq_true e0) (fun hle => by rw [Nat.ble_eq_true_of_le hle] at hb'; cases hb')
          have hol := hfl old ho
          obtain ⟨m', p1, p2, p3⟩ := push_world R hf hn' (el := el) (k := k) (need := len + n) (cap := cap) (cs := old ++ new) (old := old') (new := new') (z := Builtin.zeroCells z'.cells (cap - (len + n))) (by rw [Array.toList_append]; exact q2.append hn2) (by rw [List.length_append, hol, g5, Nat.add_mul]) hc (hzs _)
          exact ⟨m', _, _, p1, p2, p3, hrun⟩
      | none =>
        obtain ⟨hc1, hc2⟩ := hcap
        by_cases h0 : n = 0
        · subst h0
          have e : some (V.sl id off len none, h) = some (v, h') := e
          injection e with e; injection e with e1 e2; subst e1; subst e2
          have hn0 : new'.toList = [] := by have := hn2.length; rw [g5] at this; simpa using this
          refine ⟨m, w, .slice (some ⟨L.b, L.d + off, none⟩) len c, Ext.refl m _, R.same, .slo _ _ _ _ _ hm hc1 hc2, ?_⟩
          exact IN (len := len) (by omega) g6 (by rw [hn0]; rfl)
        · have e : cond (Nat.beq n 0) (some (V.sl id off len none, h)) ((rowOf h id).bind fun r => cond (Nat.ble (off + (len + n) * k) r.cs.length) (grd (Nat.beq r.sz k) (appInA k id off len n none new h)) (appMoveA el k by_ (.sl id off len none) id off len n r new nid h)) = some (v, h') := e
          rw [beqf h0] at e
          replace e := bnd_some.1 (show (rowOf h id).bind _ = some _ from e); obtain ⟨r, hr, e⟩ := e
          obtain ⟨hlt, hro, cc, fz, RR⟩ := row_of R hr hm
          cases hb' : Nat.ble (off + (len + n) * k) r.cs.length with
          | true =>
            rw [hb'] at e
            replace e := grd_some.1 (show grd (Nat.beq r.sz k) (appInA k id off len n none new h) = some (v, h') from e); obtain ⟨esz, e⟩ := e
            replace e := bnd_some.1 e; obtain ⟨h1, hp, e⟩ := e
            injection e with e; injection e with e1 e2; subst e1; subst e2
            have hle := Nat.le_of_ble_eq_true hb'
            have hsz : L.sz = k := by rw [RR.sz]; exact Nat.eq_of_beq_eq_true esz
            have hfit := RR.fits
            have hcle : len + n ≤ c := by
              rw [hsz] at hc1
              have : (len + n) * k ≤ c * k := by omega
              exact Nat.le_of_mul_le_mul_right this (by omega)
            obtain ⟨w', q1, q2⟩ := hin h1 hp hcle
            exact ⟨m, w', _, Ext.refl m _, q1, .slo _ _ _ _ _ hm hc1 hcle, q2⟩
          | false =>
            rw [hb'] at e
            have e : appMoveA el k by_ (.sl id off len none) id off len n r new nid h = some (v, h') := e
            replace e := grd_some.1 e; obtain ⟨eg, e⟩ := e
            replace e := bnd_some.1 e; obtain ⟨old, ho, e⟩ := e
            injection e with e; injection e with e1 e2; subst e1; subst e2
            simp only [Bool.and_eq_true, Bool.not_eq_true', Bool.or_eq_true] at eg
            obtain ⟨⟨⟨⟨⟨⟨k1, k2⟩, k3⟩, k4⟩, k5⟩, k6⟩, k7⟩ := eg
            have k3 := Nat.eq_of_beq_eq_true k3
            have k4 := Nat.eq_of_beq_eq_true k4
            have k5 : off = 0 ∨ r.frz = 0 := k5.imp Nat.eq_of_beq_eq_true Nat.eq_of_beq_eq_true
            have k6 := Nat.le_of_ble_eq_true k6
            have k7 := Nat.le_of_ble_eq_true k7
            have hol := hfl old ho
            have hsz : L.sz = k := by rw [RR.sz]; exact k3
            by_cases hle : len + n ≤ c
            · -- in place: the block goes on as another object
              have hfit := RR.fits
              have hend := RR.ends
              have hreach : L.d + (off + len * k) + new.length ≤ L.e := by
                rw [g5, ← hc1, hsz]
                have : (len + n) * k ≤ c * k := Nat.mul_le_mul_right _ hle
                rw [Nat.add_mul] at this
                omega
              obtain ⟨w', c', e1, e2, e3, e4, e5⟩ := RR.stores (P := P) (off + len * k) hn2 g1 k6 hreach
              have hN0 := hro k1
              have RK := R.kill id
              have hnl := hn2.length
              have hlr : off + len * k ≤ r.cs.length := by
                replace ho := bnd_some.1 (show (rowOf h id).bind _ = some _ from ho); obtain ⟨r', hr', ho⟩ := ho
                rw [hr] at hr'; injection hr' with hr'; subst hr'
                replace ho := grd_some.1 ho; obtain ⟨hl, ho⟩ := ho
                exact Nat.le_of_ble_eq_true hl
              have hoe : old = (r.cs.drop off).take (len * k) := by
                replace ho := bnd_some.1 (show (rowOf h id).bind _ = some _ from ho); obtain ⟨r', hr', ho⟩ := ho
                rw [hr] at hr'; injection hr' with hr'; subst hr'
                replace ho := grd_some.1 ho; obtain ⟨hl, ho⟩ := ho
                injection ho with ho; exact ho.symm
              have hvals : VsRel m (old ++ new) ((c'.toList.drop (L.d + off)).take (old ++ new).length) := by
                have : (c'.toList.drop (L.d + off)).take (old ++ new).length = (((cc.toList.drop L.d).take r.cs.length).drop off).take (len * k) ++ new'.toList := by
                  rw [e4, List.length_append, hol]
                  have hlt' : L.d + off ≤ (cc.toList.take (L.d + (off + len * k))).length := by simp; omega
                  rw [List.drop_append_of_le_length hlt', List.drop_take]
                  have hsz' : ((cc.toList.drop (L.d + off)).take (L.d + (off + len * k) - (L.d + off))).length = len * k := by simp; omega
                  have hq : L.d + (off + len * k) - (L.d + off) = len * k := by omega
                  rw [mid_take _ _ _ _ _ hlr, List.take_append, hsz', List.take_of_length_le (by rw [hsz']; omega), take_app _ _ _ (by omega), hq]
                rw [this, hoe]
                exact ((RR.vals.drop off).take (len * k)).append hn2
              obtain ⟨p1, p2⟩ := RK.put0 hf hn' (o := .row ⟨old ++ new, el, k, r.frz, false, false, false⟩) (L := ⟨L.b, L.d + off, L.e, L.sz⟩) (w' := w') (e2.below hN0) hN0 (by rw [e2.size]; exact hlt) (fun j oj Lj hj ej => by
                  have hjid : j ≠ id := by
                    intro hji; subst hji
                    have := T.put_get_same _ _ _ _ hj; cases this
                  have hj' : h.get j = some oj := by rw [← hj]; exact (T.put_get_other _ _ _ _ (Ne.symm hjid)).symm
                  have hne : Lj.b ≠ L.b := fun hb => hjid (R.inj j id oj _ Lj L hj' (rowOf_some hr) ej hm hb)
                  exact ⟨hne, e2.rest _ hne⟩)
                ⟨c', fz, { at_ := by rw [← k4]; exact e3, sz := hsz, fits := by
                              show L.d + off + (old ++ new).length ≤ L.e
                              rw [List.length_append, hol]; omega
                           ends := by rw [e5]; exact hend
                           vals := hvals.mono (Mu.le_upd hf)
                           frz := by
                              rw [e5]
                              rcases RR.frz with ⟨a1, a3 | ⟨q, a2, a3⟩⟩ | ⟨a1, a2, a3⟩
                              · exact .inl ⟨rfl, .inl a3⟩
                              · refine .inl ⟨rfl, ?_⟩
                                rcases k5 with h | h
                                · subst h; exact .inr ⟨q, a2, a3⟩
                                · rw [h] at a2
                                  have : q = 0 := by omega
                                  subst this; subst a3; exact .inl rfl
                              · rw [k2] at a1; cases a1
                           ex := fun h => by cases h }⟩
              have pf : Good NG N0 w0 m h w (m.upd nid ⟨L.b, L.d + off, L.e, L.sz⟩) ((h.set id none).set nid (some (.row ⟨old ++ new, el, k, r.frz, false, false, false⟩))) w' :=
                ⟨p2, fun b hb hn => by
                  have hLb : L.b ≠ b := hn id _ L (rowOf_some hr) hm
                  refine ⟨e2.rest b (Ne.symm hLb), fun j oj Lj hj ej => ?_⟩
                  by_cases hjn : j = nid
                  · subst hjn
                    rw [Mu.upd_at] at ej
                    injection ej with ej; subst ej
                    exact hLb
                  · rw [Mu.upd_ne _ _ hjn] at ej
                    have hj' : (h.set id none).get j = some oj := by rw [← hj]; exact (T.put_get_other _ _ _ _ (Ne.symm hjn)).symm
                    have hjid : j ≠ id := by
                      intro hji; subst hji
                      have := T.put_get_same _ _ _ _ hj'; cases this
                    exact hn j oj Lj (by rw [← hj']; exact (T.put_get_other _ _ _ _ (Ne.symm hjid)).symm) ej, by rw [e2.size]; exact Nat.le_refl _⟩
              refine ⟨_, w', .slice (some ⟨L.b, L.d + off, none⟩) (len + n) c, p1, pf, ?_, ?_⟩
              · exact VRel.slo nid 0 (len + n) c ⟨L.b, L.d + off, L.e, L.sz⟩ (Mu.upd_at _ _ _) (by show L.d + off + 0 + c * L.sz = L.e; omega) hle
              · refine IN hle g6 ?_
                show (storeCells ((⟨L.b, L.d + off, none⟩ : Addr).add (len * k)) new'.toList).run P w = .ok () w'
                rw [addr_add, Nat.add_assoc]; exact e1
            · obtain ⟨old', q2, cap, hc, hrun⟩ := hgrow old ho hol k7 hle
              obtain ⟨m', p1, p2, p3⟩ := push_world (R.kill id) hf hn' (frz := r.frz) (el := el) (k := k) (need := len + n) (cap := cap) (cs := old ++ new) (old := old') (new := new') (z := Builtin.zeroCells z'.cells (cap - (len + n))) (by rw [Array.toList_append]; exact q2.append hn2) (by rw [List.length_append, hol, g5, Nat.add_mul]) hc (hzs _)
              exact ⟨m', _, _, p1, (R.killed id).trans p2, p3, hrun⟩
    | _ => simp at e
end
end Go.Proofs.Ytagbpjegdfhmpaa.AM
