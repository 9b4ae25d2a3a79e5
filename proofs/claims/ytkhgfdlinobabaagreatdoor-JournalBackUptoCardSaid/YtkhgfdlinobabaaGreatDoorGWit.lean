/- What the package variables hold when a call of this seat begins: out of the rows' lists; and a world for the witness. -/
import Derived.Test.YtkhgfdlinobabaaGreatDoorRows
import Derived.Test.YtkhgfdlinobabaaGreatDoorGVars
import Derived.Test.YtkhgfdlinobabaaGreatDoorShelf
import Derived.ProofKit
import Derived.LaidSub
import Derived.Lib.LaidTab
import Derived.Deep.DeepHandedRow
import Derived.Deep.DeepWitnessRowRef
namespace Go.Proofs.YtkhgfdlinobabaaGreatDoor.G
open Go.ChangeShapes Go.WideShapes Go.ChangeAt Go.RowKit
set_option linter.unusedVariables false

theorem own : ownKnob Tryz.prog.godebug = none := by kernel_rfl
theorem laidOut : laidOutB Tryz.prog = true := by kernel_rfl
theorem gTab : Tryz.prog.globalNamed "internal/strconv.uint64pow10" = some 3 := by kernel_rfl
theorem gTabType : (Tryz.prog.globals[3]?).map (·.type) = some 196 := by kernel_rfl
theorem gSyn : Tryz.prog.globalNamed "strconv.ErrSyntax" = some 0 := by kernel_rfl
theorem gSynType : (Tryz.prog.globals[0]?).map (·.type) = some 142 := by kernel_rfl
theorem gRng : Tryz.prog.globalNamed "strconv.ErrRange" = some 1 := by kernel_rfl
theorem gRngType : (Tryz.prog.globals[1]?).map (·.type) = some 142 := by kernel_rfl
theorem cellsTab : Tryz.prog.cellsOf 196 = 20 := by kernel_rfl
theorem cellsNum : Tryz.prog.cellsOf 22 = 1 := by kernel_rfl
theorem ifaceErr : Tryz.prog.underlying 142 = some (.interface (Tryz.prog.methodsAt 142)) := by kernel_rfl

theorem iface_of_head {P : Program} {W : World} {name tn : String} {d : DataW Unit} {rest : List (String × DataW Unit)} {g t : Nat} {ms : Array (String × TypeId)}
    (hg : P.globalNamed name = some g) (hty : (P.globals[g]?).map (·.type) = some t) (ht : P.underlying t = some (.interface ms)) (h : laidMet P ((name, .iface tn d) :: rest) W) : ∃ te pe, W.cell? ⟨g, 0, none⟩ = some (.iface te pe) := by
  obtain ⟨ps, ⟨g', t', cs, fuel, p, q, hg', ht', hvar, hd, _, _⟩, _⟩ := h
  obtain rfl := Option.some.inj (hg.symm.trans hg')
  obtain rfl := Option.some.inj (hty.symm.trans ht')
  obtain ⟨_, u, v, hcs, _, _⟩ := iface_of_trod ht hd
  obtain rfl : cs = #[.iface u v] := by cases cs; simp_all
  have := World.var?_cell hg hvar 0
  exact ⟨u, v, by simpa using this⟩

/-- The list that the rows bear. -/
def laidList : List (String × DataW Unit) := Rows.journalEncodesRow.laid
theorem vars_of {W : World} (h : laidMetH Tryz.prog laidList W) (hsh : W.ShapedOpen Tryz.prog) : VarsOk W := by
  refine ⟨?_, ?_, ?_, ?_⟩
  · exact cell_of_shapedOpen_int (zero := #[.int .i64 0]) (t := 3) hsh (of_decide_eq_true (by kernel_rfl)) (by kernel_rfl) rfl (by kernel_rfl) (by kernel_rfl) Tryz.underlying3
  · exact iface_of_head (rest := []) gSyn gSynType ifaceErr (laidMetH.filter (fun x => x.1 == "strconv.ErrSyntax") h)
  · exact iface_of_head (rest := []) gRng gRngType ifaceErr (laidMetH.filter (fun x => x.1 == "strconv.ErrRange") h)
  · exact Lib.tabIs_of_head (rest := []) gTab gTabType Tryz.underlying196 Tryz.underlying22 cellsNum cellsTab (laidMetH.filter (fun x => x.1 == "internal/strconv.uint64pow10") h)

/-- Plain data as cells. -/
def litVals : DataW Unit → List Value
  | .lit (.int k n) => [.int k n]
  | .lit (.bool b) => [.bool b]
  | .lit (.string l) => [.string ⟨l.toArray⟩]
  | .agg ps => litAll ps
  | _ => []
where litAll : List (DataW Unit) → List Value
  | [] => []
  | d :: r => litVals d ++ litAll r
/-- The settled world with the listed variables laid. -/
noncomputable def laidWorld (os : Os) : World :=
  let N := (World.settled Tryz.prog os).heap.size
  let w0 := World.holding Tryz.prog os ⟨#[.cells #[.string ⟨#[118, 97, 108, 117, 101, 32, 111, 117, 116, 32, 111, 102, 32, 114, 97, 110, 103, 101]⟩] 194, .cells #[.string ⟨#[105, 110, 118, 97, 108, 105, 100, 32, 115, 121, 110, 116, 97, 120]⟩] 194], #[], []⟩
  let put (h : Array Obj) (g : Nat) (cs : Array Value) : Array Obj := h.modify g fun
    | .cells _ t frozen => .cells cs t frozen
    | o => o
  { w0 with heap := put (put (put (put (put (put (put w0.heap 6 (litVals Rows.laid_math_bits_deBruijn32tab).toArray) 7 (litVals Rows.laid_math_bits_deBruijn64tab).toArray)
      3 (litVals Rows.laid_internal_strconv_uint64pow10).toArray) 5 (litVals Rows.laid_unicode_utf8_acceptRanges).toArray) 4 (litVals Rows.laid_unicode_utf8_first).toArray)
      1 #[.iface 192 (.pointer (some ⟨N, 0, none⟩))]) 0 #[.iface 192 (.pointer (some ⟨N + 1, 0, none⟩))] }
set_option maxRecDepth 100000 in
theorem laid_met (os : Os) (args : Array Value) : laidMet Tryz.prog laidList ((laidWorld os).forCall (fun _ _ => 0) ⟨#[], args, []⟩).memory :=
  laidMet_of_run' 10 (by kernel_rfl) (by kernel_rfl)
end Go.Proofs.YtkhgfdlinobabaaGreatDoor.G
