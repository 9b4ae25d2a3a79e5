/- rowsFixed: the run itself, reckoned by the smaller machine. -/
import Derived.Test.YtagbpjegdfhmpaaChecked
import Derived.Test.YtagbpjegdfhmpaaAmTop
import Derived.KernelRfl
namespace Go.Proofs.Ytagbpjegdfhmpaa.RunrowsFixed
open Go.RowKit
/-- The library's functions without a text that the run comes to. -/
noncomputable def cfg : AM.Cfg := ⟨Try.prog, [(89, .noEscape)]⟩
theorem few : cfg.P.globals.size ≤ 400 := of_decide_eq_true (by kernel_rfl)
theorem named : cfg.P.funcs.all (fun fn => !(fn.name == "runtime.NumGoroutine")) = true := by kernel_rfl
theorem ext89 : AM.ExtOne Try.prog 89 (.noEscape) := ⟨Try.f89, Try.func89, by kernel_rfl, by kernel_rfl, by kernel_rfl, by kernel_rfl⟩
theorem externs : ∀ p ∈ cfg.ext, AM.ExtOne cfg.P p.1 p.2 := fun p hp => by
  simp only [cfg, List.mem_cons, List.mem_nil_iff, or_false] at hp
  rcases hp with rfl
  · exact ext89
set_option maxRecDepth 100000 in
theorem ran : AM.isT (AM.callA cfg 100000 8 [] ⟨.lf, 400⟩) = true := by kernel_rfl
theorem calls (w : World) : Calls Try.prog 8 #[] w fun e w' => e = .returned (.bool true) ∧ Below w.heap.size w w' := by
  obtain ⟨h', e⟩ := AM.isT_some ran
  exact AM.closed_calls (C := cfg) Try.checked.mixed externs named Try.func8 (c := Try.f8.body.getD .skip) (by kernel_rfl) few e w
end Go.Proofs.Ytagbpjegdfhmpaa.RunrowsFixed
