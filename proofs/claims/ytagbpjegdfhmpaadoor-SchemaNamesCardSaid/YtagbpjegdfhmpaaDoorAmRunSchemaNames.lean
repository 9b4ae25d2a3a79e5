/- SchemaNames: the run itself, reckoned by the smaller machine. -/
import Derived.Test.YtagbpjegdfhmpaaDoorChecked
import Derived.Test.YtagbpjegdfhmpaaDoorAmTop
import Derived.Test.YtagbpjegdfhmpaaDoorGTexts
import Derived.Test.YtagbpjegdfhmpaaDoorRows
import Derived.KernelRfl
namespace Go.Proofs.YtagbpjegdfhmpaaDoor.RunSchemaNames
open Go.RowKit
/-- The library's functions without a text that the run comes to. -/
noncomputable def cfg : AM.Cfg := ⟨Tryd.prog, [(129, .noEscape), (120, .plain Extern.BytealgCount.count), (163, .plain Extern.BytealgIndexByte.indexByte), (155, .bytes 5)]⟩
theorem few : cfg.P.globals.size ≤ 400 := of_decide_eq_true (by kernel_rfl)
theorem named : cfg.P.funcs.all (fun fn => !(fn.name == "runtime.NumGoroutine")) = true := by kernel_rfl
theorem ext129 : AM.ExtOne Tryd.prog 129 (.noEscape) := ⟨Tryd.f129, Tryd.func129, by kernel_rfl, by kernel_rfl, by kernel_rfl, (show Extern.find Tryd.f129 = some (Extern.AbiNoEscape.same) from by kernel_rfl)⟩
theorem ext120 : AM.ExtOne Tryd.prog 120 (.plain Extern.BytealgCount.count) := ⟨Tryd.f120, Tryd.func120, by kernel_rfl, by kernel_rfl, by kernel_rfl, (show Extern.find Tryd.f120 = some (Extern.BytealgCount.count) from by kernel_rfl)⟩
theorem ext163 : AM.ExtOne Tryd.prog 163 (.plain Extern.BytealgIndexByte.indexByte) := ⟨Tryd.f163, Tryd.func163, by kernel_rfl, by kernel_rfl, by kernel_rfl, (show Extern.find Tryd.f163 = some (Extern.BytealgIndexByte.indexByte) from by kernel_rfl)⟩
theorem ext155 : AM.ExtOne Tryd.prog 155 (.bytes 5) := ⟨Tryd.f155, Tryd.func155, by kernel_rfl, by kernel_rfl, by kernel_rfl, ⟨Tryd.f155.params, 125, by kernel_rfl, by kernel_rfl⟩⟩
theorem externs : ∀ p ∈ cfg.ext, AM.ExtOne cfg.P p.1 p.2 := fun p hp => by
  simp only [cfg, List.mem_cons, List.mem_nil_iff, or_false] at hp
  rcases hp with rfl | rfl | rfl | rfl
  · exact ext129
  · exact ext120
  · exact ext163
  · exact ext155
noncomputable def texts : List (List UInt8) := [[], [116, 101, 120, 116], [110, 117, 109], [108, 105, 115, 116]]
noncomputable def table : AM.T AM.O := AM.textsT 0 132 4 texts
theorem rel {W : World} (h : laidMetH Tryd.prog Rows.schemaNamesRow.laid W) (hsh : W.ShapedOpen Tryd.prog) : AM.HRel Tryd.prog.globals.size W.heap.size W (AM.Mu.of Tryd.prog.globals.size table) ⟨table, 400⟩ W :=
  AM.texts_rel (P := Tryd.prog) (name := "muster/schema.kinds") (zs := texts) (rest := []) (g := 0) (t := 132) (e := 9) (n := 4) (zero := #[.string ⟨#[]⟩, .string ⟨#[]⟩, .string ⟨#[]⟩, .string ⟨#[]⟩]) few (by kernel_rfl) (by kernel_rfl) (by kernel_rfl) (by kernel_rfl) (by kernel_rfl) (by kernel_rfl)
    (of_decide_eq_true (by kernel_rfl)) (by kernel_rfl) rfl rfl (laidMetH.filter (fun x => x.1 == "muster/schema.kinds") h) hsh
set_option maxRecDepth 100000 in
theorem ran : AM.isT (AM.callA cfg 100000 (.fn 6) [] ⟨table, 400⟩) = true := by kernel_rfl
theorem calls (w : World) (h : laidMetH Tryd.prog Rows.schemaNamesRow.laid w) (hsh : w.ShapedOpen Tryd.prog) : Calls Tryd.prog 6 #[] w fun e w' => e = .returned (.bool true) ∧ Below w.heap.size w w' := by
  obtain ⟨h', e⟩ := AM.isT_some ran
  exact AM.closed_calls_of (C := cfg) Tryd.checked.mixed externs named Tryd.func6 (c := Tryd.f6.body.getD .skip) (by kernel_rfl) e w (rel h hsh)
end Go.Proofs.YtagbpjegdfhmpaaDoor.RunSchemaNames
