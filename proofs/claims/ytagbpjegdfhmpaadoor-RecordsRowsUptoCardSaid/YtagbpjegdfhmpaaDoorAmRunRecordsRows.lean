/- RecordsRows: the run itself, with names for what comes in. -/
import Derived.Test.YtagbpjegdfhmpaaDoorChecked
import Derived.Test.YtagbpjegdfhmpaaDoorAmTop
import Derived.Test.YtagbpjegdfhmpaaDoorGSame
import Derived.Test.YtagbpjegdfhmpaaDoorRows
import Derived.KernelRfl
namespace Go.Proofs.YtagbpjegdfhmpaaDoor.RunRecordsRows
open Go.RowKit Go.Proofs.YtagbpjegdfhmpaaDoor.G
noncomputable def exts : List (Nat × AM.Ek) := [(129, .noEscape), (120, .plain Extern.BytealgCount.count), (163, .plain Extern.BytealgIndexByte.indexByte), (155, .bytes 5), (44, .texts)]
noncomputable def cfg : AM.Cfg := ⟨Tryd.prog, exts, []⟩
theorem few : Tryd.prog.globals.size ≤ 390 := of_decide_eq_true (by kernel_rfl)
theorem named : Tryd.prog.funcs.all (fun fn => !(fn.name == "runtime.NumGoroutine")) = true := by kernel_rfl
theorem ext129 : AM.ExtOne Tryd.prog (fun _ => True) 129 (.noEscape) := ⟨Tryd.f129, Tryd.func129, by kernel_rfl, ⟨⟨by kernel_rfl, by kernel_rfl⟩, (show Extern.find Tryd.f129 = some (Extern.AbiNoEscape.same) from by kernel_rfl)⟩⟩
theorem ext120 : AM.ExtOne Tryd.prog (fun _ => True) 120 (.plain Extern.BytealgCount.count) := ⟨Tryd.f120, Tryd.func120, by kernel_rfl, ⟨⟨by kernel_rfl, by kernel_rfl⟩, (show Extern.find Tryd.f120 = some (Extern.BytealgCount.count) from by kernel_rfl)⟩⟩
theorem ext163 : AM.ExtOne Tryd.prog (fun _ => True) 163 (.plain Extern.BytealgIndexByte.indexByte) := ⟨Tryd.f163, Tryd.func163, by kernel_rfl, ⟨⟨by kernel_rfl, by kernel_rfl⟩, (show Extern.find Tryd.f163 = some (Extern.BytealgIndexByte.indexByte) from by kernel_rfl)⟩⟩
theorem ext155 : AM.ExtOne Tryd.prog (fun _ => True) 155 (.bytes 5) := ⟨Tryd.f155, Tryd.func155, by kernel_rfl, ⟨⟨by kernel_rfl, by kernel_rfl⟩, Tryd.f155.params, 125, by kernel_rfl, by kernel_rfl⟩⟩
theorem ext44 : AM.ExtOne Tryd.prog (fun _ => True) 44 (.texts) := ⟨Tryd.f44, Tryd.func44, by kernel_rfl, ⟨Tryd.f44.body.getD .skip, by kernel_rfl, same_texts⟩⟩
theorem externs : ∀ p ∈ exts, AM.ExtOne Tryd.prog (fun _ => True) p.1 p.2 := fun p hp => by
  simp only [exts, List.mem_cons, List.mem_nil_iff, or_false] at hp
  rcases hp with rfl | rfl | rfl | rfl | rfl
  · exact ext129
  · exact ext120
  · exact ext163
  · exact ext155
  · exact ext44
noncomputable def pows : List Int := [1, 10, 100, 1000, 10000, 100000, 1000000, 10000000, 100000000, 1000000000, 10000000000, 100000000000, 1000000000000, 10000000000000, 100000000000000, 1000000000000000, 10000000000000000, 100000000000000000, 1000000000000000000, 10000000000000000000]
noncomputable def table : AM.T AM.O := AM.T.lf.put 4 (some (.row ⟨pows.map (AM.V.int .u64), 215, 20, 0, false, true, true⟩))
theorem laid {W : World} (h : laidMetH Tryd.prog Rows.recordsRowsUptoRow.laid W) (hsh : W.ShapedOpen Tryd.prog) : 4 < W.heap.size ∧ ∃ cs : Array Value, W.heap[4]? = some (.cells cs 215 (0, 0)) ∧ cs.toList = pows.map (fun z => Value.int .u64 z) :=
  AM.ints_laid (P := Tryd.prog) (name := "internal/strconv.uint64pow10") (kd := .u64) (zs := pows) (rest := []) (g := 4) (t := 215) (e := 34) (n := 20) (zero := #[.int .u64 0, .int .u64 0, .int .u64 0, .int .u64 0, .int .u64 0, .int .u64 0, .int .u64 0, .int .u64 0, .int .u64 0, .int .u64 0, .int .u64 0, .int .u64 0, .int .u64 0, .int .u64 0, .int .u64 0, .int .u64 0, .int .u64 0, .int .u64 0, .int .u64 0, .int .u64 0]) (by kernel_rfl) (by kernel_rfl) (by kernel_rfl) (by kernel_rfl) (by kernel_rfl) (by kernel_rfl)
    (of_decide_eq_true (by kernel_rfl)) (by kernel_rfl) rfl rfl (laidMetH.filter (fun x => x.1 == "internal/strconv.uint64pow10") h) hsh
noncomputable def args (t : AM.V) : List AM.V := [.agg [.tx 0, .tx 1, .nm .u64 0, .nm .u64 1], .agg [.tx 2, .tx 3, .tx 4, .nm .i64 2, t, .nm .u64 3, .nm .u64 4], .agg [.tx 5, .tx 6, .tx 7, .nm .i64 5, .tx 8, .nm .u64 6, .nm .u64 7]]
set_option maxRecDepth 100000 in
theorem ran_nil : AM.isT (AM.callA cfg 100000 (.fn 5) (args .nilsl) ⟨table, 400⟩) = true := by kernel_rfl
set_option maxRecDepth 100000 in
theorem ran_esl : AM.isT (AM.callA cfg 100000 (.fn 5) (args .esl) ⟨table, 400⟩) = true := by kernel_rfl
set_option maxRecDepth 100000 in
theorem ran_ls : AM.isT (AM.callA cfg 100000 (.fn 5) (args (.ls 390 0)) ⟨table.put 390 (some (.ls 0)), 400⟩) = true := by kernel_rfl
def txs (a0_0 a0_1 a1_0 a1_1 a1_2 a2_0 a2_1 a2_2 a2_4 : ByteArray) (i : Nat) : List UInt8 := ([a0_0, a0_1, a1_0, a1_1, a1_2, a2_0, a2_1, a2_2, a2_4].getD i ByteArray.empty).data.toList
def nms (a0_2 a0_3 a1_3 a1_5 a1_6 a2_3 a2_5 a2_6 : Int) (i : Nat) : Int := [a0_2, a0_3, a1_3, a1_5, a1_6, a2_3, a2_5, a2_6].getD i 0
theorem calls (a0_0 a0_1 a1_0 a1_1 a1_2 a2_0 a2_1 a2_2 a2_4 : ByteArray) (a0_2 a0_3 a1_3 a1_5 a1_6 a2_3 a2_5 a2_6 : Int) (ha0_2 : (Lit.int .u64 a0_2).wf = true) (ha0_3 : (Lit.int .u64 a0_3).wf = true) (ha1_3 : (Lit.int .i64 a1_3).wf = true) (ha1_5 : (Lit.int .u64 a1_5).wf = true) (ha1_6 : (Lit.int .u64 a1_6).wf = true) (ha2_3 : (Lit.int .i64 a2_3).wf = true) (ha2_5 : (Lit.int .u64 a2_5).wf = true) (ha2_6 : (Lit.int .u64 a2_6).wf = true) (T : Value) (l : List ByteArray) (w : World) (hT : AM.ListIs w T l) (hl : l.length ≤ 1048576) (hL : laidMetH Tryd.prog Rows.recordsRowsUptoRow.laid w) (hsh : w.ShapedOpen Tryd.prog) :
    Calls Tryd.prog 5 #[.agg #[.string a0_0, .string a0_1, .int .u64 a0_2, .int .u64 a0_3], .agg #[.string a1_0, .string a1_1, .string a1_2, .int .i64 a1_3, T, .int .u64 a1_5, .int .u64 a1_6], .agg #[.string a2_0, .string a2_1, .string a2_2, .int .i64 a2_3, .string a2_4, .int .u64 a2_5, .int .u64 a2_6]] w fun e w' => e = .returned (.bool true) ∧ Below w.heap.size w w' := by
  obtain ⟨hgw, cs, hg, hc⟩ := laid hL hsh
  obtain ⟨S, z, hh, m, e1, e2, hz, R, hv⟩ := AM.list_cases (P := Tryd.prog) hT hl (txs a0_0 a0_1 a1_0 a1_1 a1_2 a2_0 a2_1 a2_2 a2_4) (nms a0_2 a0_3 a1_3 a1_5 a1_6 a2_3 a2_5 a2_6) few (show 390 < 400 by decide) (g := 4) (of_decide_eq_true (by kernel_rfl)) hgw hg hc (n := 20) rfl (t0 := table) rfl
  letI := S
  have A : AM.VsRel m (args z) [.agg #[.string a0_0, .string a0_1, .int .u64 a0_2, .int .u64 a0_3], .agg #[.string a1_0, .string a1_1, .string a1_2, .int .i64 a1_3, T, .int .u64 a1_5, .int .u64 a1_6], .agg #[.string a2_0, .string a2_1, .string a2_2, .int .i64 a2_3, .string a2_4, .int .u64 a2_5, .int .u64 a2_6]] := by
    have tr : ∀ (i : Nat) (a : ByteArray), txs a0_0 a0_1 a1_0 a1_1 a1_2 a2_0 a2_1 a2_2 a2_4 i = a.data.toList → AM.VRel m (.tx i) (.string a) := fun i a h => AM.tx_rel (by rw [e1]; exact h)
    have nr : ∀ (k : IntKind) (i : Nat) (x : Int), nms a0_2 a0_3 a1_3 a1_5 a1_6 a2_3 a2_5 a2_6 i = x → k.wrap x = x → AM.VRel m (.nm k i) (.int k x) := fun k i x h hw => AM.nm_rel (by rw [e2]; exact h) hw
    exact (.cons _ _ _ _ (.agg _ _ (.cons _ _ _ _ (tr 0 _ rfl) (.cons _ _ _ _ (tr 1 _ rfl) (.cons _ _ _ _ (nr .u64 0 _ rfl (AM.wrap_u64 ha0_2)) (.cons _ _ _ _ (nr .u64 1 _ rfl (AM.wrap_u64 ha0_3)) .nil))))) (.cons _ _ _ _ (.agg _ _ (.cons _ _ _ _ (tr 2 _ rfl) (.cons _ _ _ _ (tr 3 _ rfl) (.cons _ _ _ _ (tr 4 _ rfl) (.cons _ _ _ _ (nr .i64 2 _ rfl (AM.wrap_i64 ha1_3)) (.cons _ _ _ _ hv (.cons _ _ _ _ (nr .u64 3 _ rfl (AM.wrap_u64 ha1_5)) (.cons _ _ _ _ (nr .u64 4 _ rfl (AM.wrap_u64 ha1_6)) .nil)))))))) (.cons _ _ _ _ (.agg _ _ (.cons _ _ _ _ (tr 5 _ rfl) (.cons _ _ _ _ (tr 6 _ rfl) (.cons _ _ _ _ (tr 7 _ rfl) (.cons _ _ _ _ (nr .i64 5 _ rfl (AM.wrap_i64 ha2_3)) (.cons _ _ _ _ (tr 8 _ rfl) (.cons _ _ _ _ (nr .u64 6 _ rfl (AM.wrap_u64 ha2_5)) (.cons _ _ _ _ (nr .u64 7 _ rfl (AM.wrap_u64 ha2_6)) .nil)))))))) .nil)))
  have fin : ∀ h', AM.callA cfg 100000 (.fn 5) (args z) hh = some (.bool true, h') → Calls Tryd.prog 5 _ w fun e w' => e = .returned (.bool true) ∧ Below w.heap.size w w' := fun h' e =>
    AM.args_calls (C := cfg) Tryd.checked.mixed externs named rfl Tryd.func5 (c := Tryd.f5.body.getD .skip) (by kernel_rfl) e w R A (fun _ _ _ => trivial)
  rcases hz with ⟨rfl, rfl⟩ | ⟨rfl, rfl⟩ | ⟨rfl, rfl⟩
  · obtain ⟨h', e⟩ := AM.isT_some ran_nil; exact fin h' e
  · obtain ⟨h', e⟩ := AM.isT_some ran_esl; exact fin h' e
  · obtain ⟨h', e⟩ := AM.isT_some ran_ls; exact fin h' e
end Go.Proofs.YtagbpjegdfhmpaaDoor.RunRecordsRows
