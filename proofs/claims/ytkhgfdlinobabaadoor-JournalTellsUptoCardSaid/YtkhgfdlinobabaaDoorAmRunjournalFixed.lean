/- journalFixed: the run itself, reckoned by the smaller machine. -/
import Derived.Test.YtkhgfdlinobabaaDoorChecked
import Derived.Test.YtkhgfdlinobabaaDoorAmTop
import Derived.KernelRfl
namespace Go.Proofs.YtkhgfdlinobabaaDoor.RunjournalFixed
open Go.RowKit
/-- The library's functions without a text that the run comes to. -/
noncomputable def cfg : AM.Cfg := ⟨Tryd.prog, [(71, .plain Extern.BytealgCount.count), (98, .plain Extern.BytealgIndexByte.indexByte)]⟩
theorem few : cfg.P.globals.size ≤ 400 := of_decide_eq_true (by kernel_rfl)
theorem named : cfg.P.funcs.all (fun fn => !(fn.name == "runtime.NumGoroutine")) = true := by kernel_rfl
theorem ext71 : AM.ExtOne Tryd.prog 71 (.plain Extern.BytealgCount.count) := ⟨Tryd.f71, Tryd.func71, by kernel_rfl, by kernel_rfl, by kernel_rfl, by kernel_rfl⟩
theorem ext98 : AM.ExtOne Tryd.prog 98 (.plain Extern.BytealgIndexByte.indexByte) := ⟨Tryd.f98, Tryd.func98, by kernel_rfl, by kernel_rfl, by kernel_rfl, by kernel_rfl⟩
theorem externs : ∀ p ∈ cfg.ext, AM.ExtOne cfg.P p.1 p.2 := fun p hp => by
  simp only [cfg, List.mem_cons, List.mem_nil_iff, or_false] at hp
  rcases hp with rfl | rfl
  · exact ext71
  · exact ext98
set_option maxRecDepth 100000 in
theorem ran : AM.isT (AM.callA cfg 100000 6 [] ⟨.lf, 400⟩) = true := by kernel_rfl
theorem calls (w : World) : Calls Tryd.prog 6 #[] w fun e w' => e = .returned (.bool true) ∧ Below w.heap.size w w' := by
  obtain ⟨h', e⟩ := AM.isT_some ran
  exact AM.closed_calls (C := cfg) Tryd.checked.mixed externs named Tryd.func6 (c := Tryd.f6.body.getD .skip) (by kernel_rfl) few e w
end Go.Proofs.YtkhgfdlinobabaaDoor.RunjournalFixed
