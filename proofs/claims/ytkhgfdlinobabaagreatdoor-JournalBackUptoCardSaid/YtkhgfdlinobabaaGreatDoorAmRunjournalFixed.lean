/- journalFixed: the run itself, reckoned by the smaller machine. -/
import Derived.Test.YtkhgfdlinobabaaGreatDoorChecked
import Derived.Test.YtkhgfdlinobabaaGreatDoorAmTop
import Derived.KernelRfl
namespace Go.Proofs.YtkhgfdlinobabaaGreatDoor.RunjournalFixed
open Go.RowKit
/-- The library's functions without a text that the run comes to. -/
noncomputable def cfg : AM.Cfg := ⟨Tryz.prog, [(110, .plain Extern.BytealgCount.count), (137, .plain Extern.BytealgIndexByte.indexByte)]⟩
theorem few : cfg.P.globals.size ≤ 400 := of_decide_eq_true (by kernel_rfl)
theorem named : cfg.P.funcs.all (fun fn => !(fn.name == "runtime.NumGoroutine")) = true := by kernel_rfl
theorem ext110 : AM.ExtOne Tryz.prog 110 (.plain Extern.BytealgCount.count) := ⟨Tryz.f110, Tryz.func110, by kernel_rfl, by kernel_rfl, by kernel_rfl, by kernel_rfl⟩
theorem ext137 : AM.ExtOne Tryz.prog 137 (.plain Extern.BytealgIndexByte.indexByte) := ⟨Tryz.f137, Tryz.func137, by kernel_rfl, by kernel_rfl, by kernel_rfl, by kernel_rfl⟩
theorem externs : ∀ p ∈ cfg.ext, AM.ExtOne cfg.P p.1 p.2 := fun p hp => by
  simp only [cfg, List.mem_cons, List.mem_nil_iff, or_false] at hp
  rcases hp with rfl | rfl
  · exact ext110
  · exact ext137
set_option maxRecDepth 100000 in
theorem ran : AM.isT (AM.callA cfg 100000 7 [] ⟨.lf, 400⟩) = true := by kernel_rfl
theorem calls (w : World) : Calls Tryz.prog 7 #[] w fun e w' => e = .returned (.bool true) ∧ Below w.heap.size w w' := by
  obtain ⟨h', e⟩ := AM.isT_some ran
  exact AM.closed_calls (C := cfg) Tryz.checked.mixed externs named Tryz.func7 (c := Tryz.f7.body.getD .skip) (by kernel_rfl) few e w
end Go.Proofs.YtkhgfdlinobabaaGreatDoor.RunjournalFixed
