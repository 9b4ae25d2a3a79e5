/- The smaller machine's operations do what the program's do: structs, literals, make. -/
import Derived.Test.YtagbpjegdfhmpaaAmSound2
import Derived.IntWalk
set_option linter.unusedSimpArgs false
set_option linter.unusedVariables false
namespace Go.Proofs.Ytagbpjegdfhmpaa.AM
open Go.RowKit (Below)

section
variable {P : Program} {NG N0 : Nat} {w0 : World} {m : Mu} {h : H} {w : World} {nid : Nat}

inductive PsRel (m : Mu) : List (Nat × V) → List (Nat × Value) → Prop where
  | nil : PsRel m [] []
  | cons (i : Nat) (v : V) (v' : Value) (ps : List (Nat × V)) (ps' : List (Nat × Value)) : VRel m v v' → PsRel m ps ps' → PsRel m ((i, v) :: ps) ((i, v') :: ps')

theorem foldl_set (off : Nat) : ∀ (vs : List Value) (k : Nat) (cs : Array Value), off + k + vs.length ≤ cs.size →
    ((vs.zipIdx k).foldl (fun (cs : Array Value) (x : Value × Nat) => cs.setIfInBounds (off + x.2) x.1) cs).toList = cs.toList.take (off + k) ++ (vs ++ cs.toList.drop (off + k + vs.length))
  | [], k, cs, _ => by simp
  | v :: r, k, cs, h => by
    simp only [List.length_cons] at h
    simp only [List.zipIdx_cons, List.foldl_cons]
    rw [foldl_set off r (k + 1) _ (by simp; omega), Array.toList_setIfInBounds, show off + (k + 1) = off + k + 1 by omega, set_take _ _ _ _ _ (by simp; omega)]
    simp
theorem fill_ok {place : Nat → Option (Nat × Nat)} {parts : List (Nat × V)} {parts' : List (Nat × Value)} (hp : PsRel m parts parts') : ∀ {cells cs : List V} {cells' : Array Value}, fillA place cells parts = some cs → VsRel m cells cells'.toList →
    ∃ cs', Instr.fill place cells' parts' = some cs' ∧ VsRel m cs cs'.toList := by
  induction hp with
  | nil => intro cells cs cells' e hc; injection e with e; subst e; exact ⟨cells', rfl, hc⟩
  | cons i v v' ps ps' hv _ ih =>
    intro cells cs cells' e hc
    replace e := bnd_some.1 e; obtain ⟨⟨off, sz⟩, h1, e⟩ := e
    replace e := grd_some.1 e; obtain ⟨h2, e⟩ := e
    simp only [Bool.and_eq_true] at h2
    have hs := Nat.eq_of_beq_eq_true h2.1
    have hl := Nat.le_of_ble_eq_true h2.2
    dsimp only at hs hl e
    have l1 := hv.cells.length
    have l2 := hc.length
    simp only [Array.length_toList] at l1 l2
    have key : (v'.cells.zipIdx.foldl (fun (cs : Array Value) (x : Value × Nat) => cs.setIfInBounds (off + x.2) x.1) cells').toList = cells'.toList.take off ++ (v'.cells.toList ++ cells'.toList.drop (off + v'.cells.toList.length)) := by
      rw [← Array.foldl_toList, Array.toList_zipIdx]
      have := foldl_set off v'.cells.toList 0 cells' (by simp; omega)
      simpa using this
    obtain ⟨cs', e1, e2⟩ := ih (cells' := v'.cells.zipIdx.foldl (fun (cs : Array Value) (x : Value × Nat) => cs.setIfInBounds (off + x.2) x.1) cells') e (by
      rw [key]
      unfold splice
      refine (hc.take off).append (hv.cells.append ?_)
      rw [show v.cells.length = v'.cells.toList.length by simp; omega]
      exact hc.drop _)
    refine ⟨cs', ?_, e2⟩
    rw [Instr.fill, h1]
    dsimp only
    rw [if_neg (by simp; omega)]
    exact e1

theorem places_ok : ∀ {fs : List Field} {ps : List (Nat × Nat)}, placesOf P fs = some ps → (fs.mapM (m := Sem) (fun (f : Field) => do pure (f.offset, ← sizeOf f.type))).run P w = .ok ps w
  | [], ps, e => by injection e with e; subst e; simp
  | f :: fs, ps, e => by
    replace e := bnd_some.1 e; obtain ⟨n, hn, e⟩ := e
    replace e := bnd_some.1 e; obtain ⟨r, hr, e⟩ := e
    injection e with e; subst e
    simp only [List.mapM_cons, Sem.run_bind, run_sizeOf hn, Result.andThen_ok, Sem.run_pure, places_ok hr]
theorem build_ok {t : TypeId} {parts : List (Nat × V)} {parts' : Array (Nat × Value)} {v : V} (e : buildA P t parts = some v) (hp : PsRel m parts parts'.toList) : Gets P m w (Instr.build t parts') v := by
  replace e := bnd_some.1 e; obtain ⟨z, hz, e⟩ := e
  replace e := bnd_some.1 e; obtain ⟨d, hd, e⟩ := e
  obtain ⟨z', h1, h2⟩ := run_zeroValue hz w
  split at e
  case h_3 => cases e
  case h_1 fs =>
    replace e := bnd_some.1 e; obtain ⟨ps, hps, e⟩ := e
    replace e := bnd_some.1 e; obtain ⟨cs, hcs, e⟩ := e
    injection e with e; subst e
    have hl : (fun i => lget ps i) = fun i => (ps.toArray)[i]? := by funext i; rw [lget_eq]; simp
    obtain ⟨cs', e1, e2⟩ := fill_ok (cells' := z'.cells) hp (place := fun i => (ps.toArray)[i]?) (by rw [← hl]; exact hcs) (h2 m).cells
    refine ⟨.agg cs', by simpa using VRel.agg _ _ e2, ?_⟩
    have hm : (fs.mapM (m := Sem) (fun (f : Field) => do pure (f.offset, ← sizeOf f.type))).run P w = .ok ps.toArray w := by
      rw [Array.mapM_eq_mapM_toList]
      rw [Sem.run_map, places_ok (P := P) (w := w) hps]; rfl
    simp only [Instr.build, Sem.run_bind, h1, Result.andThen_ok, run_underlying hd, hm, e1, Sem.run_pure]
  case h_2 n el =>
    replace e := bnd_some.1 e; obtain ⟨s, hs, e⟩ := e
    replace e := bnd_some.1 e; obtain ⟨cs, hcs, e⟩ := e
    injection e with e; subst e
    obtain ⟨cs', e1, e2⟩ := fill_ok (cells' := z'.cells) hp hcs (h2 m).cells
    refine ⟨.agg cs', by simpa using VRel.agg _ _ e2, ?_⟩
    simp only [Instr.build, Sem.run_bind, h1, Result.andThen_ok, run_underlying hd, run_sizeOf hs, e1, Sem.run_pure]

theorem rep_ok {z : List V} {z' : Array Value} (hz : VsRel m z z'.toList) (hs : 0 < z.length) : ∀ n, VsRel m (rep z n) (((Array.range (n * z.length)).map (z'[· % z'.size]!)).toList) := by
  have hl := hz.length
  simp only [Array.length_toList] at hl
  have e0 : ∀ k, (((Array.range k).map (z'[· % z'.size]!)).toList) = (List.range k).map fun i => z'[i % z'.size]! := fun k => by simp [Array.toList_range]
  intro n
  rw [e0]
  induction n with
  | zero => simp [rep]; exact .nil
  | succ n ih =>
    have hr : List.range ((n + 1) * z.length) = List.range z.length ++ (List.range (n * z.length)).map (z.length + ·) := by
      rw [Nat.succ_mul, Nat.add_comm, List.range_add]
    rw [hr, List.map_append, List.map_map]
    have h1 : (List.range z.length).map (fun i => z'[i % z'.size]!) = z'.toList := by
      apply List.ext_getElem
      · simp [hl]
      · intro i hi _
        have hi' : i < z'.size := by simpa [hl] using hi
        simp [Nat.mod_eq_of_lt hi', hi']
    have h2 : (List.range (n * z.length)).map ((fun i => z'[i % z'.size]!) ∘ (z.length + ·)) = (List.range (n * z.length)).map fun i => z'[i % z'.size]! := by
      apply List.map_congr_left
      intro i _
      simp only [Function.comp]
      rw [← hl, Nat.add_mod_left]
    rw [h1, h2]
    exact hz.append ih
theorem rep_length (z : List V) (n : Nat) : (rep z n).length = n * z.length := by
  induction n with
  | zero => simp [rep]
  | succ n ih => simp [rep, ih, Nat.succ_mul]; omega
theorem fillA_length {place : Nat → Option (Nat × Nat)} : ∀ {parts : List (Nat × V)} {cells cs : List V}, fillA place cells parts = some cs → cs.length = cells.length
  | [], cells, cs, e => by injection e with e; subst e; rfl
  | (i, v) :: rest, cells, cs, e => by
    replace e := bnd_some.1 e; obtain ⟨⟨off, sz⟩, h1, e⟩ := e
    replace e := grd_some.1 e; obtain ⟨h2, e⟩ := e
    simp only [Bool.and_eq_true] at h2
    have hs := Nat.eq_of_beq_eq_true h2.1
    have hl := Nat.le_of_ble_eq_true h2.2
    rw [fillA_length e]
    simp [splice]; omega

theorem buildSlice_ok (R : HRel NG N0 w0 m h w) (hf : m nid = none) (hn : nid < h.next) {t : TypeId} {len : Nat} {parts : List (Nat × V)} {parts' : Array (Nat × Value)} {v : V} {r : Row} (e : buildSliceA P t len parts nid = some (v, r)) (hp : PsRel m parts parts'.toList) :
    Yld P NG N0 w0 m h w nid (Instr.buildSlice t len parts') v (h.set nid (some (.row r))) := by
  replace e := bnd_some.1 e; obtain ⟨d, hd, e⟩ := e
  split at e
  case h_2 => cases e
  case h_1 el =>
    replace e := bnd_some.1 e; obtain ⟨s, hs, e⟩ := e
    replace e := bnd_some.1 e; obtain ⟨z, hz, e⟩ := e
    replace e := grd_some.1 e; obtain ⟨hg, e⟩ := e
    replace e := bnd_some.1 e; obtain ⟨cs, hcs, e⟩ := e
    injection e with e; injection e with e1 e2; subst e1; subst e2
    simp only [Bool.and_eq_true, Bool.not_eq_true'] at hg
    obtain ⟨⟨hle, hzl⟩, hs0⟩ := hg
    have hle := Nat.le_of_ble_eq_true hle
    have hzl := Nat.eq_of_beq_eq_true hzl
    have hs0 : s ≠ 0 := by intro h0; subst h0; cases hs0
    obtain ⟨z', h1, h2⟩ := run_zeroValue hz w
    have hfl := fillA_length hcs
    rw [rep_length, hzl] at hfl
    by_cases hlen : len = 0
    · subst hlen
      have hr : rep z.cells 0 = [] := rfl
      rw [hr] at hcs
      obtain ⟨cs', f1, f2⟩ := fill_ok (cells' := #[]) hp hcs (by simpa using VsRel.nil)
      obtain ⟨m1, m2⟩ := new_row R hf hn (t := el) (sz := s) (st := false) (ex := true) (frz := 0) (fz := (0, 0)) cs.length (c := cs') (by rw [List.take_of_length_le (by rw [f2.length]; exact Nat.le_refl _)]; exact f2) (Nat.le_refl _) (by have := f2.length; simp at this; omega)
        (w1 := w) rfl rfl rfl rfl (w' := { w with heap := w.heap.push (.cells cs' el (0, 0)) }) rfl rfl rfl rfl (.inl ⟨rfl, .inl rfl⟩) (fun _ => by first | (have := f2.length; simp at this; omega) | (have := hr.length; simp at this; simp; omega))
      refine ⟨_, _, .slice (some ⟨w.heap.size, 0, none⟩) 0 0, m1, m2, ?_, ?_⟩
      · exact VRel.slc nid 0 0 0 _ (Mu.upd_at _ _ _)
      · simp [Instr.buildSlice, run_underlying hd, run_sizeOf hs, Array.range_zero', f1, newRow]
    · have hz0 := rep_ok (z := z.cells) (z' := z'.cells) (h2 m).cells (by omega) len
      rw [hzl] at hz0
      obtain ⟨cs', f1, f2⟩ := fill_ok hp hcs hz0
      obtain ⟨m1, m2⟩ := new_row R hf hn (t := el) (sz := s) (st := false) (ex := true) (frz := 0) (fz := (0, 0)) cs.length (c := cs') (by rw [List.take_of_length_le (by rw [f2.length]; exact Nat.le_refl _)]; exact f2) (Nat.le_refl _) (by have := f2.length; simp at this; omega)
        (w1 := w) rfl rfl rfl rfl (w' := { w with heap := w.heap.push (.cells cs' el (0, 0)) }) rfl rfl rfl rfl (.inl ⟨rfl, .inl rfl⟩) (fun _ => by first | (have := f2.length; simp at this; omega) | (have := hr.length; simp at this; simp; omega))
      refine ⟨_, _, .slice (some ⟨w.heap.size, 0, none⟩) len len, m1, m2, ?_, ?_⟩
      · exact VRel.slc nid 0 len len _ (Mu.upd_at _ _ _)
      · have hne : ¬ (len * s = 0) := Nat.mul_ne_zero hlen hs0
        have hng : ¬ (len * s > 2 ^ 24) := by omega
        simp only [Instr.buildSlice, Sem.run_bind, run_underlying hd, Result.andThen_ok, run_sizeOf hs, hng, hne, if_false, h1, Sem.run_pure, f1, newRow, run_newObj]

theorem wrap_nat {n : Nat} (h : n ≤ 1048576) : IntKind.i64.wrap (n : Int) = n := by
  simp [IntKind.wrap, IntKind.bits, IntKind.signed]; omega
theorem makeSlice_ok (R : HRel NG N0 w0 m h w) (hf : m nid = none) (hn : nid < h.next) {t : TypeId} {l c v : V} {l' c' : Value} {r : Row} (e : makeSliceA P t l c nid = some (v, r)) (hl : VRel m l l') (hc : VRel m c c') : Yld P NG N0 w0 m h w nid (Instr.makeSlice t l' c') v (h.set nid (some (.row r))) := by
  replace e := bnd_some.1 e; obtain ⟨⟨kl, ln⟩, hln, e⟩ := e
  replace e := bnd_some.1 e; obtain ⟨⟨kc, cn⟩, hcn, e⟩ := e
  obtain rfl := V.nat?_inv hln
  obtain rfl := V.nat?_inv hcn
  dsimp only at *
  obtain rfl := int_inv hl
  obtain rfl := int_inv hc
  replace e := bnd_some.1 e; obtain ⟨d, hd, e⟩ := e
  split at e
  case h_2 => cases e
  case h_1 el =>
    replace e := bnd_some.1 e; obtain ⟨s, hs, e⟩ := e
    replace e := bnd_some.1 e; obtain ⟨by_, hby, e⟩ := e
    replace e := bnd_some.1 e; obtain ⟨z, hz, e⟩ := e
    replace e := grd_some.1 e; obtain ⟨hg, e⟩ := e
    injection e with e; injection e with e1 e2; subst e1; subst e2
    simp only [Bool.and_eq_true, Bool.not_eq_true'] at hg
    obtain ⟨⟨⟨⟨g1, g2⟩, g3⟩, g4⟩, g5⟩ := hg
    have g1 := Nat.le_of_ble_eq_true g1
    have g2 := Nat.le_of_ble_eq_true g2
    have g3 := Nat.le_of_ble_eq_true g3
    have g4 := Nat.eq_of_beq_eq_true g4
    have g5 : s ≠ 0 := by intro h0; subst h0; cases g5
    obtain ⟨z', h1, h2⟩ := run_zeroValue hz w
    obtain ⟨i, hi, hib⟩ := info_of_bytes hby
    have ec := wrap_nat g2
    have el' := wrap_nat (Nat.le_trans g1 g2)
    have hr : VsRel m (rep z.cells cn) ((Array.range (cn * s)).map ((if cn * s = 0 then #[] else z'.cells)[· % (if cn * s = 0 then #[] else z'.cells : Array Value).size]!)).toList := by
      by_cases h0 : cn * s = 0
      · have hcn0 : cn = 0 := by
          rcases Nat.mul_eq_zero.1 h0 with h | h
          · exact h
          · exact absurd h g5
        subst hcn0
        simp [rep]; exact .nil
      · simp only [h0, if_false]
        have := rep_ok (z := z.cells) (z' := z'.cells) (h2 m).cells (by omega) cn
        rwa [g4] at this
    have hrl := hr.length
    rw [rep_length, g4] at hrl
    obtain ⟨m1, m2⟩ := new_row R hf hn (t := el) (sz := s) (st := false) (ex := true) (frz := 0) (fz := (0, 0)) (rep z.cells cn).length (c := (Array.range (cn * s)).map ((if cn * s = 0 then #[] else z'.cells)[· % (if cn * s = 0 then #[] else z'.cells : Array Value).size]!))
      (by rw [List.take_of_length_le (by rw [hr.length]; exact Nat.le_refl _)]; exact hr) (Nat.le_refl _) (by have := hr.length; simp at this; simp; omega)
      (w1 := w) rfl rfl rfl rfl (w' := { w with heap := w.heap.push (.cells ((Array.range (cn * s)).map ((if cn * s = 0 then #[] else z'.cells)[· % (if cn * s = 0 then #[] else z'.cells : Array Value).size]!)) el (0, 0)) }) rfl rfl rfl rfl (.inl ⟨rfl, .inl rfl⟩) (fun _ => by first | (have := f2.length; simp at this; omega) | (have := hr.length; simp at this; simp; omega))
    refine ⟨_, _, .slice (some ⟨w.heap.size, 0, none⟩) ln cn, m1, m2, ?_, ?_⟩
    · exact VRel.slc nid 0 ln cn _ (Mu.upd_at _ _ _)
    · have hb : ¬ ((by_ : Int) * (cn : Int) > 2 ^ 48) := by
        have e : ((by_ : Int) * (cn : Int)) = ((cn * by_ : Nat) : Int) := by rw [Int.natCast_mul, Int.mul_comm]
        rw [e]
        omega
      have hz' : (if cn * s = 0 then (pure #[] : Sem (Array Value)) else do pure (← zeroValue el).cells).run P w = .ok (if cn * s = 0 then #[] else z'.cells) w := by
        by_cases h0 : cn * s = 0
        · simp [h0]
        · simp [h0, h1]
      have hb' : ¬ ((2 : Int) ^ 48 < (by_ : Int) * (cn : Int)) := hb
      have hneg : ¬ ((cn : Int) < 0) := by omega
      have hneg2 : ¬ ((ln : Int) < 0) := by omega
      have hgt : ¬ ((cn : Int) < (ln : Int)) := by omega
      simp only [Instr.makeSlice, Sem.run_bind, run_underlying hd, Result.andThen_ok, asInt, asIntOf, Sem.run_pure, run_typeInfo hi, hib, ec, el', Int.toNat_natCast]
      simp only [gt_iff_lt, hneg, hneg2, hgt, hb', decide_false, Bool.or_false, Bool.false_eq_true, if_false, Result.andThen_ok, run_askRoom, Sem.run_bind, run_sizeOf hs]
      by_cases h0 : cn * s = 0
      · simp only [h0, if_true, Sem.run_bind, Sem.run_pure, Result.andThen_ok, newRow, run_newObj]
      · simp only [h0, if_false, Sem.run_bind, Sem.run_pure, Result.andThen_ok, newRow, run_newObj, h1]
end
end Go.Proofs.Ytagbpjegdfhmpaa.AM
