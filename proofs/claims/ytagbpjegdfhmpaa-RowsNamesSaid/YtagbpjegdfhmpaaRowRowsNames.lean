/- RowsNames: the law answers true for every input. -/
import Derived.Test.YtagbpjegdfhmpaaRows
import Derived.Test.YtagbpjegdfhmpaaAmTop
import Derived.WalkKit
import Derived.ProofKit
import Derived.OpenShut
import Derived.Below
import Derived.SizedLaws
import Derived.Deep.DeepHandedRow
import Derived.Deep.DeepWitnessRowRef
namespace Go.Proofs.Ytagbpjegdfhmpaa.rowsNames
open Go.ChangeShapes Go.WideShapes Go.ChangeAt Go.RowKit
set_option linter.unusedVariables false
theorem own : ownKnob Try.prog.godebug = none := by kernel_rfl
/-- The externs that the run comes to. -/
noncomputable def cfg : AM.Cfg := ⟨Try.prog, [(89, .noEscape)]⟩
theorem few : cfg.P.globals.size ≤ 100 := of_decide_eq_true (by kernel_rfl)
theorem named : cfg.P.funcs.all (fun fn => !(fn.name == "runtime.NumGoroutine")) = true := by kernel_rfl
theorem one : AM.ExtOne Try.prog 89 .noEscape := ⟨Try.f89, Try.func89, by kernel_rfl, by kernel_rfl, by kernel_rfl, by kernel_rfl⟩
theorem externs : ∀ p ∈ cfg.ext, AM.ExtOne cfg.P p.1 p.2 := fun p hp => by
  cases hp with
  | head => exact one
  | tail _ h => cases h
set_option maxRecDepth 100000 in
/-- The run itself. -/
theorem ran : AM.isT (AM.callA cfg 100000 3 [] ⟨.lf, 100⟩) = true := by kernel_rfl
theorem calls (w : World) : Calls Try.prog 3 #[] w fun e w' => e = .returned (.bool true) ∧ Below w.heap.size w w' := by
  obtain ⟨h', e⟩ := AM.isT_some ran
  exact AM.closed_calls (C := cfg) Try.checked.mixed externs named Try.func3 (c := Try.f3.body.getD .skip) (by kernel_rfl) few e w

/-- A world for the witness. -/
noncomputable def world (os : Os) : World := World.settled Try.prog os
theorem reads (os : Os) {H : Type} (enc : TypeId × Value → H) : ∃ places, DataW.whole enc Try.prog ((world os).forCall (fun _ _ => 0) ⟨#[], #[], []⟩).memory Try.f3.params.toList Rows.rowsNamesSpec.vars false (#[] : Array Value).toList 8 = some ([], [], places) :=
  ⟨[], by kernel_rfl⟩
set_option maxRecDepth 100000 in
theorem lifted (os : Os) (started : os.Started) (H : Type) (enc : TypeId × Value → H) (F : Stop.Interp) :
    ReturnsInHanded {} Try.checked os 3 .any ((OpenSpec.ofChange Rows.rowsNamesSpec).preRow enc Try.prog Try.f3 Rows.rowsNamesRow.domain false Rows.rowsNamesRow.laid) (((OpenSpec.ofChange Rows.rowsNamesSpec).at F).post enc Try.prog Try.f3 false true false false) := by
  obtain ⟨places, hx⟩ := reads os enc
  refine returnsInHanded_of_row (C := Try.checked) (s := (OpenSpec.ofChange Rows.rowsNamesSpec)) own started (by kernel_rfl) Try.func3
    (witness_row_atRef (enc := enc) (C := Try.checked) false (world os) #[] rfl (by kernel_rfl) (by kernel_rfl) (by kernel_rfl)
      (OpenSpec.preRow_of_cond 8 hx (by kernel_rfl) (fun k hk => by cases hk) (by kernel_rfl) (laidMet_of_run' 10 (by kernel_rfl) (by kernel_rfl)))) ?_
  intro W base args ds gs before hval0 hW _ hcond _ hL hsh _
  have hW' := hW
  obtain ⟨p, q, hA0, hV, rfl, hfz, hnd⟩ := hW
  have hA : DataW.TrodAll enc Try.prog W 0 (fun _ => true) true Try.f3.params.toList args.toList ds p := hA0
  rw [Try.params3] at hA
  obtain ⟨rfl, rfl, rfl⟩ := trodAll_none hA
  obtain ⟨rfl, rfl⟩ := trodVars_none hV
  refine (calls W).mono fun e W' ⟨he, bel⟩ => ?_
  subst he
  exact ⟨_, rfl, _, _, _, [], _, [], hW', trodAll_mk1 (shut_bool Try.underlying4 _), trodAll_mk0, rfl, bel.frame _, fun h => by cases h⟩
theorem said : Rows.RowsNamesSaid :=
  OpenClaim.holds_of_cond 3 Try.f3 rfl rfl rfl rfl rfl rfl rfl ⟨rfl, rfl, rfl, rfl, rfl⟩ rfl rfl rfl rfl rfl (by kernel_rfl) Try.func3 (by kernel_rfl)
    (of_decide_eq_true (by kernel_rfl)) (by unfold Func.isWrapper; first | (rw [if_pos (by decide +kernel)]; kernel_rfl) | (rw [if_neg (by decide +kernel)]; exact ⟨rfl, rfl⟩))
    (fun os started H enc _ F => by rw [OpenClaim.pre_eq_preRow]; exact lifted os started H enc F)
end Go.Proofs.Ytagbpjegdfhmpaa.rowsNames
namespace Go.Proofs.Ytagbpjegdfhmpaa
/-- The statement, under a short name, for the claim. -/
theorem rowsNames_holds : Rows.RowsNamesSaid := rowsNames.said
end Go.Proofs.Ytagbpjegdfhmpaa
