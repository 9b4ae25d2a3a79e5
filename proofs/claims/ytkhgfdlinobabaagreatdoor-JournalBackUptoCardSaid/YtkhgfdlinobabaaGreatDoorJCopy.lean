/- musterref09.CopyService, CopyOp, CopyOps, musterref13.Copy: the same, in memory of its own. -/
import Derived.Test.YtkhgfdlinobabaaGreatDoorJEnc
namespace Go.Proofs.YtkhgfdlinobabaaGreatDoor.G
open Go.RowKit
set_option linter.unusedVariables false
set_option linter.unusedSimpArgs false
section
variable {ops : Array Oper} {rest : List Oper} {o : Oper} {a : Act} {Q : Exit → Act → World → Prop} {w : World}
theorem results_row1 {P : Program} {fn : Func} {p : Tmp} {ty : TypeId} (h : fn.results = #[.cell p ty]) (tmps : Array Value) (w : World) (g : Nat) (t : TypeId) (cs : Array Value) (fr : Nat × Nat) (d : TypeDesc)
    (hp : tmps.getD p undef = .pointer (some ⟨g, 0, none⟩)) (hg : w.heap[g]? = some (.cells cs t fr))
    (hu : P.underlying ty = some d) (hd : (match d with | .struct _ | .array _ _ => true | _ => false) = true) (hi : (P.info? ty).map (·.size) = some cs.size) :
    (results fn tmps).run P w = .ok (.agg cs) w := by
  have hp' : tmps[p]?.getD undef = .pointer (some ⟨g, 0, none⟩) := by simpa using hp
  simp [results, h, hp', asAddr, run_loadVar_row w g t ty cs fr d hg hu hd hi]
theorem info_text : (Tryz.prog.info? 9).map (fun i => (i.zero, i.size, i.bytes)) = some (some (.string ⟨#[]⟩), 1, 16) := by kernel_rfl
/-- A list of texts behind an empty list of one's own, as one step. -/
theorem app_texts (hgd : o.guard = none) (s x : Operand) (ho : o.op = .call { callee := .builtin .append, args := #[s, x], argTypes := #[45, 45] }) (base : Nat) (v vt : Value) (l : List ByteArray)
    (hs : a.eval s = v) (hx : a.eval x = vt) (hl : l.length ≤ 1048576) (hb : base ≤ w.heap.size) (h1 : w.ownsRow base 9 1 v 0 []) (ht : TextsAt w vt l)
    (h : ∀ A' c' w', Hid (w'.ownsRow base 9 1 (.slice A' l.length c') l.length (tx l)) → Hid (w.grownBy w' v.ownBlock) → wpList Tryz.prog ops Q rest (a.put o.dst (.slice A' l.length c')) w') : wpList Tryz.prog ops Q (o :: rest) a w := by
  obtain ⟨i0, hi, hz0, hz1, hz2⟩ := info_parts info_text
  obtain ⟨A, cap, rfl, hcap, hc⟩ := ht
  by_cases hn : l = []
  · subst hn
    refine wpList_plain hgd fun K hK => ?_
    have hr : (Builtin.append_ #[45, 45] o.type #[v, .slice A 0 cap]).run Tryz.prog w = .ok v w := by
      rcases h1.2 with ⟨rfl, _⟩ | ⟨g, c, cur, rfl, _, _, hnc, _⟩
      · cases A <;> simp [Builtin.append_, run_underlying Tryz.underlying45, sizeOf, typeInfo, hi, Builtin.lenOf, Builtin.firstCells, loadCells, loadCellsFrom]
      · cases A <;> simp [Builtin.append_, run_underlying Tryz.underlying45, sizeOf, typeInfo, hi, Builtin.lenOf, Builtin.firstCells, loadCells, loadCellsFrom, hnc, storeCells]
    unfold Oper.wp execOp
    simp only [ho, resolve, invoke, builtin, Sem.run_bind, Sem.run_pure, Result.andThen_ok, List.map_toArray, List.map_cons, List.map_nil, hs, hx, List.length_nil, hr]
    obtain ⟨A2, c2, rfl⟩ := own_slice h1
    exact hK _ _ (h A2 c2 w (Lib.hid h1) (Lib.hid ⟨rfl, rfl, rfl, Nat.le_refl _, fun _ _ _ => rfl⟩))
  · obtain ⟨b, q, rfl, hc2⟩ := hc hn
    refine wpList_append_own_at _ hgd s x 45 ho base 9 i0 (.string ⟨#[]⟩) 1 16 Tryz.underlying45 hi hz0 hz1 hz2 rfl (by decide) v 0 [] hs h1 ⟨b, q, none⟩ l.length cap (tx l) hx (by simp [tx]) ?_ ?_ (by unfold maxLen; omega) (by omega) hb ?_
    · intro j u hj
      have hjl : j < l.length := by
        have := (List.getElem?_eq_some_iff.1 hj).1
        simpa [tx] using this
      have := hc2 j hjl
      have hadd : (⟨b, q, none⟩ : Addr).add j = ⟨b, q + j, none⟩ := by unfold Addr.add; split <;> simp_all
      rw [hadd, this]
      have e : (tx l)[j]? = some (.string (l.getD j ByteArray.empty)) := by simp [tx, hjl, List.getD]
      rw [e] at hj
      exact hj
    · intro u hu
      obtain ⟨t, _, rfl⟩ := List.mem_map.1 hu
      rfl
    · intro v' w' ho hg _ _
      rw [Nat.zero_add, List.nil_append] at ho
      obtain ⟨A2, c2, rfl⟩ := own_slice ho
      exact h A2 c2 w' (Lib.hid ho) (Lib.hid hg)
end
set_option maxHeartbeats 4000000 in
set_option maxRecDepth 100000 in
theorem copyService_calls (s : Svc) (hs : s.tags.length ≤ 1048576) (vt : Value) (w : World) (ht : TextsAt w vt s.tags) :
    Calls Tryz.prog 56 #[.agg #[.string s.node, .string s.id, .string s.name, .int .i64 s.port, vt, .int .u64 s.made, .int .u64 s.changed]] w fun e w' => ∃ v', e = .returned (.agg #[.string s.node, .string s.id, .string s.name, .int .i64 s.port, v', .int .u64 s.made, .int .u64 s.changed]) ∧ w'.ownsRow w.heap.size 9 1 v' s.tags.length (tx s.tags) ∧ Below w.heap.size w w' := by
  have HT := Lib.hid ht
  obtain ⟨A, cap, rfl, _⟩ := ht
  go_enter Tryz.func56, Tryz.ntmps56
  have hB0 := below_alloc3 w (.cells #[.string s.node, .string s.id, .string s.name, .int .i64 s.port, .slice A s.tags.length cap, .int .u64 s.made, .int .u64 s.changed] 47) (.cells #[.string E0, .string E0, .string E0, .int .i64 0, .slice none 0 0, .int .u64 0, .int .u64 0] 47) (.cells #[] 9)
  have HB0 := Lib.hid hB0
  have HT3 := Lib.hid (HT.out.below hB0)
  clear hB0
  have h3 := blk_new ((w.alloc (.cells #[.string s.node, .string s.id, .string s.name, .int .i64 s.port, .slice A s.tags.length cap, .int .u64 s.made, .int .u64 s.changed] 47)).alloc (.cells #[.string E0, .string E0, .string E0, .int .i64 0, .slice none 0 0, .int .u64 0, .int .u64 0] 47)) (.cells #[] 9)
  rw [show ((w.alloc (.cells #[.string s.node, .string s.id, .string s.name, .int .i64 s.port, .slice A s.tags.length cap, .int .u64 s.made, .int .u64 s.changed] 47)).alloc (.cells #[.string E0, .string E0, .string E0, .int .i64 0, .slice none 0 0, .int .u64 0, .int .u64 0] 47)).heap.size = w.heap.size + 1 + 1 from by simp] at h3
  have hO := Lib.hid (show World.ownsRow _ w.heap.size 9 1 (.slice (some ⟨w.heap.size + 1 + 1, 0, none⟩) 0 0) 0 [] from ⟨rfl, .inr ⟨w.heap.size + 1 + 1, 0, #[], rfl, by omega, h3, Nat.le_refl _, by decide, rfl, rfl⟩⟩)
  have HX1 := Lib.hid (alloc1 w (.cells #[.string s.node, .string s.id, .string s.name, .int .i64 s.port, .slice A s.tags.length cap, .int .u64 s.made, .int .u64 s.changed] 47) (.cells #[.string E0, .string E0, .string E0, .int .i64 0, .slice none 0 0, .int .u64 0, .int .u64 0] 47) (.cells #[] 9))
  have HX2 := Lib.hid (alloc2 w (.cells #[.string s.node, .string s.id, .string s.name, .int .i64 s.port, .slice A s.tags.length cap, .int .u64 s.made, .int .u64 s.changed] 47) (.cells #[.string E0, .string E0, .string E0, .int .i64 0, .slice none 0 0, .int .u64 0, .int .u64 0] 47) (.cells #[] 9))
  have HZ := Lib.hid (size_alloc3 w (.cells #[.string s.node, .string s.id, .string s.name, .int .i64 s.port, .slice A s.tags.length cap, .int .u64 s.made, .int .u64 s.changed] 47) (.cells #[.string E0, .string E0, .string E0, .int .i64 0, .slice none 0 0, .int .u64 0, .int .u64 0] 47) (.cells #[] 9))
  clear h3
  go_upto_region 2 with fail
  have c4 := Blk.cell HX1.out 4
  simp only [List.getElem?_toArray, List.getElem?_cons_zero, List.getElem?_cons_succ] at c4
  generalize hW : ((w.alloc (.cells #[.string s.node, .string s.id, .string s.name, .int .i64 s.port, .slice A s.tags.length cap, .int .u64 s.made, .int .u64 s.changed] 47)).alloc (.cells #[.string E0, .string E0, .string E0, .int .i64 0, .slice none 0 0, .int .u64 0, .int .u64 0] 47)).alloc (.cells #[] 9) = W at HB0 HT3 hO HX1 HX2 HZ c4 ⊢
  clear hW
  go_upto_region 3 with (at_builtin; refine app_texts rfl (.tmp 5) (.tmp 7) rfl w.heap.size (.slice (some ⟨w.heap.size + 1 + 1, 0, none⟩) 0 0) _ s.tags rfl rfl hs (by rw [HZ.out]; omega) hO.out HT3.out ?_; intro A1 c1 w1 hO1 hG1; have q1 := (hG1.out.block w.heap.size (by rw [HZ.out]; omega) (by simp [Value.ownBlock] <;> omega)).trans HX1.out; have c5 := Blk.cell q1 4; have f5 := Blk.free q1 4; simp only [List.getElem?_toArray, List.getElem?_cons_zero, List.getElem?_cons_succ] at c5)
  have z1 : w.heap.size + 1 + 1 < w1.heap.size := by have := hG1.out.size; rw [HZ.out] at this; omega
  have q2 := (hG1.out.block (w.heap.size + 1) (by rw [HZ.out]; omega) (by simp [Value.ownBlock] <;> omega)).trans HX2.out
  have HB1 := Lib.hid (HB0.out.grown hG1.out (by rw [HZ.out]; omega) (by intro k hk; simp [Value.ownBlock] at hk; omega))
  have hn1 : ∀ k, (Value.slice A1 s.tags.length c1).ownBlock = some k → k ≠ w.heap.size ∧ k ≠ w.heap.size + 1 := by
    intro k hk
    exact ⟨own_ne hO1.out q1 (by decide) k hk, own_ne hO1.out q2 (by decide) k hk⟩
  have HN1 := Lib.hid hn1
  have HQ1 := Lib.hid q1
  have HQ2 := Lib.hid q2
  clear hG1 hn1 q1 q2 c4 HB0 HT3 HX1 HX2 HZ hO HT
  go_wp2_with (first | (refine wpList_load_row rfl 47 (.tmp 1) rfl w.heap.size rfl _ _ _ _ (set_blk (.slice A1 s.tags.length c1) HQ1.out) Tryz.underlying47 rfl (by kernel_rfl) ?_) | (refine store_whole rfl 47 2 (.tmp 10) rfl rfl (w.heap.size + 1) _ #[.string s.node, .string s.id, .string s.name, .int .i64 s.port, .slice A1 s.tags.length c1, .int .u64 s.made, .int .u64 s.changed] 47 rfl rfl (set_far (.slice A1 s.tags.length c1) (by omega) HQ2.out) (by kernel_rfl) rfl rfl ?_; intro W1 hW1 pR pK; clear pK))
  refine bodyPost_ret (v := .agg #[.string s.node, .string s.id, .string s.name, .int .i64 s.port, .slice A1 s.tags.length c1, .int .u64 s.made, .int .u64 s.changed]) (results_row1 Tryz.results56 _ _ (w.heap.size + 1) 47 _ (0, 0) _ rfl pR Tryz.underlying47 rfl (by kernel_rfl)) rfl ⟨_, rfl, ?_, ?_⟩
  · rw [hW1.out]; exact own_setRow (own_setCell hO1.out (fun k hk => (HN1.out k hk).1) _) (fun k hk => (HN1.out k hk).2)
  · rw [hW1.out]; exact below_setRow (HB1.out.setCell (by simp) _) (by omega)
/-- A row with some cells written. -/
def setA (cs : Array Value) : Nat → List Value → Array Value
  | _, [] => cs
  | o, v :: r => setA (cs.set! o v) (o + 1) r
theorem setCells_row {g : Nat} {t : TypeId} : ∀ (vs : List Value) (o : Nat) (w : World) (cs : Array Value), w.heap[g]? = some (.cells cs t (0, 0)) → (w.setCells g o vs).heap[g]? = some (.cells (setA cs o vs) t (0, 0))
  | [], _, _, _, h => h
  | v :: r, o, w, cs, h => by
    rw [World.setCells]
    exact setCells_row r (o + 1) _ _ (set_blk v h)
theorem setCells_bel {B g : Nat} {w : World} (hg : B ≤ g) : ∀ (vs : List Value) (o : Nat) (w' : World), Below B w w' → Below B w (w'.setCells g o vs)
  | [], _, _, h => h
  | v :: r, o, w', h => by
    rw [World.setCells]
    exact setCells_bel hg r (o + 1) _ (h.setCell hg _)
theorem setCells_owns {base e sz n g : Nat} {v : Value} {xs : List Value} (hne : ∀ k, v.ownBlock = some k → k ≠ g) : ∀ (vs : List Value) (o : Nat) (w : World), w.ownsRow base e sz v n xs → (w.setCells g o vs).ownsRow base e sz v n xs
  | [], _, _, h => h
  | u :: r, o, w, h => by
    rw [World.setCells]
    exact setCells_owns hne r (o + 1) _ (own_setCell h hne _)
theorem setCells_oth {i g : Nat} (hne : i ≠ g) : ∀ (vs : List Value) (o : Nat) (w : World), (w.setCells g o vs).heap[i]? = w.heap[i]?
  | [], _, _ => rfl
  | u :: r, o, w => by
    rw [World.setCells, setCells_oth hne r (o + 1)]
    exact set_far u hne rfl
section
variable {P : Program} {ops : Array Oper} {rest : List Oper} {o : Oper} {a : Act} {Q : Exit → Act → World → Prop} {W : World}
theorem step_field (hgd : o.guard = none) (s : TypeId) (p : Tmp) (f : Nat) (ho : o.op = .fieldAddr s (.tmp p) f) (v : Value) (hr : (Instr.fieldAt s (a.eval (.tmp p)) f).run P W = .ok v W) (h : wpList P ops Q rest (a.put o.dst v) W) : wpList P ops Q (o :: rest) a W := by
  refine wpList_plain hgd fun K hK => ?_
  unfold Oper.wp execOp
  simp only [ho, hr, Sem.run_bind, Sem.run_pure, Result.andThen_ok]
  exact hK _ _ h
/-- A store of a part of a variable, as one step. -/
theorem store_mid_ (hgd : o.guard = none) (t : TypeId) (p : Tmp) (v : Operand) (ho : o.op = .store t (.tmp p) v) (hN : o.dst = none) (g off : Nat) (old new cells : Array Value) (e : TypeId)
    (hx : a.eval (.tmp p) = .pointer (some ⟨g, off, none⟩)) (hy : a.eval v = .agg cells) (hg : W.heap[g]? = some (.cells old e (0, 0))) (hi : (P.info? t).map (·.size) = some cells.size) (hle : off + cells.size ≤ old.size) (h1 : cells.toList.all (·.oneCell') = true) (hnew : setA old off cells.toList = new)
    (h : ∀ w', Hid (w' = W.setCells g off cells.toList) → w'.heap[g]? = some (.cells new e (0, 0)) → wpList P ops Q rest a w') : wpList P ops Q (o :: rest) a W := by
  refine wpList_plain hgd fun K hK => ?_
  refine wp_store_mid t (.tmp p) v ho g off cells hx hy ?_ hi (by rw [← Array.all_toList]; exact h1) ?_
  · intro j hj
    have hc := Blk.cell hg (off + j)
    refine ⟨?_, Blk.free hg _⟩
    rw [hc]
    simp
    omega
  · rw [hN]
    subst hnew
    exact hK _ _ (h _ (Lib.hid rfl) (setCells_row _ _ _ _ hg))
end
theorem setA_opc (O : OpV) (v v' : Value) : setA (opc O v) 5 [.string O.svc.node, .string O.svc.id, .string O.svc.name, .int .i64 O.svc.port, v', .int .u64 O.svc.made, .int .u64 O.svc.changed] = opc O v' := by
  simp [setA]
set_option maxHeartbeats 4000000 in
set_option maxRecDepth 100000 in
theorem copyOp_calls (O : OpV) (hs : O.svc.tags.length ≤ 1048576) (vt : Value) (w : World) (ht : TextsAt w vt O.svc.tags) :
    Calls Tryz.prog 40 #[.agg (opc O vt)] w fun e w' => ∃ v', e = .returned (.agg (opc O v')) ∧ w'.ownsRow w.heap.size 9 1 v' O.svc.tags.length (tx O.svc.tags) ∧ Below w.heap.size w w' := by
  have HT := Lib.hid ht
  obtain ⟨A, cap, rfl, _⟩ := ht
  go_enter Tryz.func40, Tryz.ntmps40
  obtain ⟨Z, hZ⟩ : ∃ Z : Array Value, Z = #[.int .i64 0, .string E0, .string E0, .int .u64 0, .int .u64 0, .string E0, .string E0, .string E0, .int .i64 0, .slice none 0 0, .int .u64 0, .int .u64 0, .string E0, .string E0, .string E0, .int .i64 0, .string E0, .int .u64 0, .int .u64 0, .bool false, .int .u64 0] := ⟨_, rfl⟩
  have hzs : Z.size = 21 := by rw [hZ]; rfl
  have hB0 : Below w.heap.size w ((w.alloc (.cells (opc O (.slice A O.svc.tags.length cap)) 53)).alloc (.cells Z 53)) := ((Below.refl _ w).alloc (Nat.le_refl _) _).alloc (by simp) _
  have HB0 := Lib.hid hB0
  have HT3 := Lib.hid (HT.out.below hB0)
  have HX1 := Lib.hid (blk_old (o := .cells Z 53) (blk_new w (.cells (opc O (.slice A O.svc.tags.length cap)) 53)))
  have HX2 := Lib.hid (blk_new (w.alloc (.cells (opc O (.slice A O.svc.tags.length cap)) 53)) (.cells Z 53))
  have HZ := Lib.hid (show ((w.alloc (.cells (opc O (.slice A O.svc.tags.length cap)) 53)).alloc (.cells Z 53)).heap.size = w.heap.size + 2 from by simp)
  rw [show (w.alloc (.cells (opc O (.slice A O.svc.tags.length cap)) 53)).heap.size = w.heap.size + 1 from by simp] at HX2
  clear hB0
  go_upto_region 1 with fail
  rw [← hZ]
  generalize hW : (w.alloc (.cells (opc O (.slice A O.svc.tags.length cap)) 53)).alloc (.cells Z 53) = W at HB0 HT3 HX1 HX2 HZ ⊢
  have HZS := Lib.hid hzs
  clear hW hZ hzs
  have hra : W.rangeAt w.heap.size 5 [.string O.svc.node, .string O.svc.id, .string O.svc.name, .int .i64 O.svc.port, .slice A O.svc.tags.length cap, .int .u64 O.svc.made, .int .u64 O.svc.changed] := by
    intro j v hv
    have hc := Blk.cell HX1.out (5 + j)
    rw [hc]
    match j, hv with
    | 0, hv => exact hv
    | 1, hv => exact hv
    | 2, hv => exact hv
    | 3, hv => exact hv
    | 4, hv => exact hv
    | 5, hv => exact hv
    | 6, hv => exact hv
    | j + 7, hv => simp at hv
  have HRA := Lib.hid hra
  clear hra
  go_wp2_with (first | (refine wpList_load_mid rfl 47 (.tmp 3) rfl w.heap.size 5 rfl _ _ HRA.out Tryz.underlying47 rfl (by kernel_rfl) ?_) | (go_at_call 56; refine (copyService_calls O.svc hs _ _ HT3.out).mono ?_))
  rintro e w1 ⟨vt, rfl, ho, hb⟩
  have hb1 := hb.mono (B' := w.heap.size + 2) (by rw [HZ.out]; omega)
  obtain ⟨A1, c1, rfl⟩ := own_slice ho
  have q1 := (hb1.block w.heap.size (by omega)).trans HX1.out
  have q2 := (hb1.block (w.heap.size + 1) (by omega)).trans HX2.out
  have HB1 := Lib.hid (HB0.out.trans (hb1.mono (by omega)))
  have HN1 := Lib.hid (fun k (hk : (Value.slice A1 O.svc.tags.length c1).ownBlock = some k) => And.intro (own_ne ho q1 (by decide) k hk) (own_ne ho q2 (by decide) k hk))
  have HO1 := Lib.hid (own_raise ho (Nat.le_of_lt (by rw [HZ.out]; omega : w.heap.size < W.heap.size)))
  have HQ1 := Lib.hid q1
  have HQ2 := Lib.hid q2
  clear hb hb1 ho q1 q2 HB0 HT3 HX1 HX2 HZ HT HRA
  go_upto_region 2 with (refine step_field rfl 53 1 2 rfl (.pointer (some ⟨w.heap.size, 5, none⟩)) (by go_simp <;> rfl) ?_; refine store_mid_ rfl 47 6 (.tmp 5) rfl rfl w.heap.size 5 _ (opc O (.slice A1 O.svc.tags.length c1)) _ 53 rfl rfl HQ1.out (by kernel_rfl) (by simp) rfl (setA_opc O _ _) ?_; intro W1 hW1 pR; have q2 := (congrArg (fun W : World => W.heap[w.heap.size + 1]?) hW1.out).trans ((setCells_oth (show w.heap.size + 1 ≠ w.heap.size from by omega) _ _ _).trans HQ2.out))
  go_wp2_with (first | (refine wpList_load_row rfl 53 (.tmp 1) rfl w.heap.size rfl _ _ _ _ pR Tryz.underlying53 rfl (by kernel_rfl) ?_) | (refine store_whole rfl 53 2 (.tmp 7) rfl rfl (w.heap.size + 1) _ (opc O (.slice A1 O.svc.tags.length c1)) 53 rfl rfl q2 (by kernel_rfl) (by rw [HZS.out]; rfl) rfl ?_; intro W2 hW2 pR2 pK2; clear pK2))
  refine bodyPost_ret (v := .agg (opc O (.slice A1 O.svc.tags.length c1))) (results_row1 Tryz.results40 _ _ (w.heap.size + 1) 53 _ (0, 0) _ rfl pR2 Tryz.underlying53 rfl (by kernel_rfl)) rfl ⟨_, rfl, ?_, ?_⟩
  · rw [hW2.out, hW1.out]; exact own_setRow (setCells_owns (fun k hk => (HN1.out k hk).1) _ _ _ HO1.out) (fun k hk => (HN1.out k hk).2)
  · rw [hW2.out, hW1.out]; exact below_setRow (setCells_bel (by omega) _ _ _ HB1.out) (by omega)
end Go.Proofs.YtkhgfdlinobabaaGreatDoor.G
