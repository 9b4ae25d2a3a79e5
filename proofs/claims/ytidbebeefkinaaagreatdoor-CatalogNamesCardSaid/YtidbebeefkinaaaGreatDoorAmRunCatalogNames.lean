/- CatalogNames: the run itself, over the known call. -/
import Derived.Test.YtidbebeefkinaaaGreatDoorAmRunCatalogAlive
import Derived.KernelRfl
namespace Go.Proofs.YtidbebeefkinaaaGreatDoor.RunCatalogNames
open Go.RowKit
noncomputable def cfg : AM.Cfg := ⟨Tryz.prog, [(23, .closed)], []⟩
theorem ext23 : AM.ExtOne Tryz.prog RunCatalogAlive.Facts 23 .closed := ⟨Tryz.f23, Tryz.func23, by kernel_rfl, Tryz.f23.body.getD .skip, by kernel_rfl, fun w F => RunCatalogAlive.calls_of w F⟩
theorem externs : ∀ p ∈ cfg.ext, AM.ExtOne cfg.P RunCatalogAlive.Facts p.1 p.2 := fun p hp => by
  have hp : p ∈ [(23, AM.Ek.closed)] := hp
  simp only [List.mem_cons, List.mem_nil_iff, or_false] at hp
  subst hp
  exact ext23
set_option maxRecDepth 100000 in
theorem ran : AM.isT (AM.callA cfg 100000 (.fn 6) [] ⟨RunCatalogAlive.table, 400⟩) = true := by kernel_rfl
theorem calls (w : World) (h : laidMetH Tryz.prog Rows.catalogNamesRow.laid w) (hsh : w.ShapedOpen Tryz.prog) : Calls Tryz.prog 6 #[] w fun e w' => e = .returned (.bool true) ∧ Below w.heap.size w w' := by
  obtain ⟨h', e⟩ := AM.isT_some ran
  exact AM.closed_calls_by (C := cfg) Tryz.checked.mixed externs RunCatalogAlive.named rfl Tryz.func6 (c := Tryz.f6.body.getD .skip) (by kernel_rfl) e w (RunCatalogAlive.rel h hsh) (fun w' hb _ => AM.move_rel (RunCatalogAlive.rel h hsh) hb)
end Go.Proofs.YtidbebeefkinaaaGreatDoor.RunCatalogNames
