/-
  No cell of these rows narrows 'for every input' (looked for: loops, veiled, ifaces, maps, wideKeys, modest, calm, conditions, laid).
  DERIVED. THE GIVEN ROWS OF THIS SEAT. 5 by the template 'for every input the law returns true; each argument reads behind the call as it read before'; 0 by the template 'total and deterministic' (their statements: YtagbpjegdfhmpaaTotals.lean).
  GIVEN WITH THE SEED: the statements are not yours to turn. If you find one false, say at which input.
  Laid BY PROGRAM, IN A SANDBOX (cutbox-rows.mjs): the forced cells as the released guide's own fill.sh prints them over the translation 03940ddad5106b60… (all of the seat's roots in one cut). By AI agents, Wed Nov 11 2026. No macro, syntax, notation, axiom, sorry.
-/
import Derived.Test.YtagbpjegdfhmpaaChecked
import GoSem.Claim
import GoSem.ClaimJoined
import GoSem.ClaimMapViews
import Derived.JoinedTies
import Derived.KernelRfl
namespace Go.Proofs.Ytagbpjegdfhmpaa
/- THE CELL 'sum', in the pinned program and in every row, IS THE sha256 OF THE DUMP (.gsa) THAT YtagbpjegdfhmpaaProg.lean LOADS. Nothing in Lean hashes anything: it is a label: what it is worth is what the hold of that sum in a sandbox is worth. -/
noncomputable def Try.pinned : Pinned := { name := "ytagbpjegdfhmpaa", sum := "03940ddad5106b607ea9d843774ff6e205fc1cee46b05d1158f35beee3f1b24e", checked := Try.checked }
namespace Rows
def none {H : Type} : Left H := { results := [], args := [] }

/-- 'musterlaw07.RowsNames': WHATEVER THE INPUT: true; the input reads as it did. -/
def rowsNamesSpec : ChangeSpec := { name := "rowsNames", fn := fun _ => fun
  | [] => { results := [.lit (.bool true)], args := [] }
  | _ => none }
def rowsNamesRow : OpenClaim := { program := "ytagbpjegdfhmpaa", sum := "03940ddad5106b607ea9d843774ff6e205fc1cee46b05d1158f35beee3f1b24e", func := "muster/musterlaw07.RowsNames", spec := "rowsNames", inPlace := ["internal/abi.NoEscape"], unfollowed := true, recurses := true, apart := false }
def RowsNamesSaid : Prop := rowsNamesRow.holds Try.pinned (OpenSpec.ofChange rowsNamesSpec)

/-- ITS FALSE NEIGHBOUR: 'it returns false'. Refute it at one input. -/
def rowsNamesWrong : ChangeSpec := { name := "rowsNames", fn := fun _ => fun
  | [] => { results := [.lit (.bool false)], args := [] }
  | _ => none }
def RowsNamesWrongFalsely : Prop := rowsNamesRow.holds Try.pinned (OpenSpec.ofChange rowsNamesWrong)

/-- 'musterlaw07.RowsFits': WHATEVER THE INPUT: true; the input reads as it did. -/
def rowsFitsSpec : ChangeSpec := { name := "rowsFits", fn := fun _ => fun
  | [d1, d2, d3] => { results := [.lit (.bool true)], args := [d1, d2, d3] }
  | _ => none }
def rowsFitsRow : OpenClaim := { program := "ytagbpjegdfhmpaa", sum := "03940ddad5106b607ea9d843774ff6e205fc1cee46b05d1158f35beee3f1b24e", func := "muster/musterlaw07.RowsFits", spec := "rowsFits", inPlace := ["internal/abi.NoEscape"], unfollowed := true, recurses := true, apart := false }
def RowsFitsSaid : Prop := rowsFitsRow.holds Try.pinned (OpenSpec.ofChange rowsFitsSpec)

/-- ITS FALSE NEIGHBOUR: 'it returns false'. Refute it at one input. -/
def rowsFitsWrong : ChangeSpec := { name := "rowsFits", fn := fun _ => fun
  | [d1, d2, d3] => { results := [.lit (.bool false)], args := [d1, d2, d3] }
  | _ => none }
def RowsFitsWrongFalsely : Prop := rowsFitsRow.holds Try.pinned (OpenSpec.ofChange rowsFitsWrong)

/-- 'musterlaw07.RowsKeys': WHATEVER THE INPUT: true; the input reads as it did. -/
def rowsKeysSpec : ChangeSpec := { name := "rowsKeys", fn := fun _ => fun
  | [d1, d2, d3] => { results := [.lit (.bool true)], args := [d1, d2, d3] }
  | _ => none }
def rowsKeysRow : OpenClaim := { program := "ytagbpjegdfhmpaa", sum := "03940ddad5106b607ea9d843774ff6e205fc1cee46b05d1158f35beee3f1b24e", func := "muster/musterlaw07.RowsKeys", spec := "rowsKeys", inPlace := ["internal/abi.NoEscape"], unfollowed := true, recurses := true, apart := false }
def RowsKeysSaid : Prop := rowsKeysRow.holds Try.pinned (OpenSpec.ofChange rowsKeysSpec)

/-- ITS FALSE NEIGHBOUR: 'it returns false'. Refute it at one input. -/
def rowsKeysWrong : ChangeSpec := { name := "rowsKeys", fn := fun _ => fun
  | [d1, d2, d3] => { results := [.lit (.bool false)], args := [d1, d2, d3] }
  | _ => none }
def RowsKeysWrongFalsely : Prop := rowsKeysRow.holds Try.pinned (OpenSpec.ofChange rowsKeysWrong)

/-- 'musterlaw07.RowsLow': WHATEVER THE INPUT: true; the input reads as it did. -/
def rowsLowSpec : ChangeSpec := { name := "rowsLow", fn := fun _ => fun
  | [d] => { results := [.lit (.bool true)], args := [d] }
  | _ => none }
def rowsLowRow : OpenClaim := { program := "ytagbpjegdfhmpaa", sum := "03940ddad5106b607ea9d843774ff6e205fc1cee46b05d1158f35beee3f1b24e", func := "muster/musterlaw07.RowsLow", spec := "rowsLow", inPlace := ["internal/abi.NoEscape"], unfollowed := true, recurses := true, apart := false }
def RowsLowSaid : Prop := rowsLowRow.holds Try.pinned (OpenSpec.ofChange rowsLowSpec)

/-- ITS FALSE NEIGHBOUR: 'it returns false'. Refute it at one input. -/
def rowsLowWrong : ChangeSpec := { name := "rowsLow", fn := fun _ => fun
  | [d] => { results := [.lit (.bool false)], args := [d] }
  | _ => none }
def RowsLowWrongFalsely : Prop := rowsLowRow.holds Try.pinned (OpenSpec.ofChange rowsLowWrong)

/-- 'musterlaw07.RowsLists': WHATEVER THE INPUT: true; the input reads as it did. -/
def rowsListsSpec : ChangeSpec := { name := "rowsLists", fn := fun _ => fun
  | [d1, d2] => { results := [.lit (.bool true)], args := [d1, d2] }
  | _ => none }
def rowsListsRow : OpenClaim := { program := "ytagbpjegdfhmpaa", sum := "03940ddad5106b607ea9d843774ff6e205fc1cee46b05d1158f35beee3f1b24e", func := "muster/musterlaw07.RowsLists", spec := "rowsLists", inPlace := ["internal/abi.NoEscape"], unfollowed := true, recurses := true, apart := false }
def RowsListsSaid : Prop := rowsListsRow.holds Try.pinned (OpenSpec.ofChange rowsListsSpec)

/-- ITS FALSE NEIGHBOUR: 'it returns false'. Refute it at one input. -/
def rowsListsWrong : ChangeSpec := { name := "rowsLists", fn := fun _ => fun
  | [d1, d2] => { results := [.lit (.bool false)], args := [d1, d2] }
  | _ => none }
def RowsListsWrongFalsely : Prop := rowsListsRow.holds Try.pinned (OpenSpec.ofChange rowsListsWrong)

/- THE SECOND FORM. 'bulk': how many values and letters a reading holds, each counted each time it is reached (what is shared counts as often as it is met; a slice's spare places count too). A statement '..UptoSaid' is the law's where the arguments, and the package variables that the reading takes, are together of bulk at most 1048576: NARROWER than '..Said'. Prove '..Said' where nothing that the law and all that it calls make is longer than what came in: it says more and counts as full. Else prove '..UptoSaid'. A law counts once. -/
mutual
def uptoBulk {H : Type} : DataW H → Nat
  | .lit (.string bytes) => bytes.length + 1
  | .lit _ => 1
  | .nil => 1
  | .ptr d => uptoBulk d + 1
  | .slice elems spare => uptoBulkAll elems + uptoBulkAll spare + 1
  | .agg parts => uptoBulkAll parts + 1
  | .iface _ d => uptoBulk d + 1
  | .map entries => uptoBulkEntries entries + 1
  | .held _ => 1
def uptoBulkAll {H : Type} : List (DataW H) → Nat
  | [] => 0
  | d :: r => uptoBulk d + uptoBulkAll r
def uptoBulkEntries {H : Type} : List (Lit × DataW H) → Nat
  | [] => 0
  | x :: r => uptoBulkEntry x + uptoBulkEntries r
def uptoBulkEntry {H : Type} : Lit × DataW H → Nat
  | (.string bytes, d) => bytes.length + uptoBulk d + 1
  | (_, d) => uptoBulk d + 1
 end
def uptoSmall : (H : Type) → List (DataW H) → Bool := fun _ ds => decide (uptoBulkAll ds ≤ 1048576)
def OpenSpec.upto (s : _root_.Go.ChangeSpec) : _root_.Go.OpenSpec := { _root_.Go.OpenSpec.ofChange s with cond := some uptoSmall }

/-- 'musterlaw07.RowsNames', WHERE WHAT IT READS IS OF BULK AT MOST 1048576: true; the input reads as it did. -/
def rowsNamesUptoRow : OpenClaim := { program := "ytagbpjegdfhmpaa", sum := "03940ddad5106b607ea9d843774ff6e205fc1cee46b05d1158f35beee3f1b24e", func := "muster/musterlaw07.RowsNames", spec := "rowsNames", inPlace := ["internal/abi.NoEscape"], unfollowed := true, recurses := true, apart := false, narrowed := true }
def RowsNamesUptoSaid : Prop := rowsNamesUptoRow.holds Try.pinned (OpenSpec.upto rowsNamesSpec)

/-- 'musterlaw07.RowsFits', WHERE WHAT IT READS IS OF BULK AT MOST 1048576: true; the input reads as it did. -/
def rowsFitsUptoRow : OpenClaim := { program := "ytagbpjegdfhmpaa", sum := "03940ddad5106b607ea9d843774ff6e205fc1cee46b05d1158f35beee3f1b24e", func := "muster/musterlaw07.RowsFits", spec := "rowsFits", inPlace := ["internal/abi.NoEscape"], unfollowed := true, recurses := true, apart := false, narrowed := true }
def RowsFitsUptoSaid : Prop := rowsFitsUptoRow.holds Try.pinned (OpenSpec.upto rowsFitsSpec)

/-- 'musterlaw07.RowsKeys', WHERE WHAT IT READS IS OF BULK AT MOST 1048576: true; the input reads as it did. -/
def rowsKeysUptoRow : OpenClaim := { program := "ytagbpjegdfhmpaa", sum := "03940ddad5106b607ea9d843774ff6e205fc1cee46b05d1158f35beee3f1b24e", func := "muster/musterlaw07.RowsKeys", spec := "rowsKeys", inPlace := ["internal/abi.NoEscape"], unfollowed := true, recurses := true, apart := false, narrowed := true }
def RowsKeysUptoSaid : Prop := rowsKeysUptoRow.holds Try.pinned (OpenSpec.upto rowsKeysSpec)

/-- 'musterlaw07.RowsLow', WHERE WHAT IT READS IS OF BULK AT MOST 1048576: true; the input reads as it did. -/
def rowsLowUptoRow : OpenClaim := { program := "ytagbpjegdfhmpaa", sum := "03940ddad5106b607ea9d843774ff6e205fc1cee46b05d1158f35beee3f1b24e", func := "muster/musterlaw07.RowsLow", spec := "rowsLow", inPlace := ["internal/abi.NoEscape"], unfollowed := true, recurses := true, apart := false, narrowed := true }
def RowsLowUptoSaid : Prop := rowsLowUptoRow.holds Try.pinned (OpenSpec.upto rowsLowSpec)

/-- 'musterlaw07.RowsLists', WHERE WHAT IT READS IS OF BULK AT MOST 1048576: true; the input reads as it did. -/
def rowsListsUptoRow : OpenClaim := { program := "ytagbpjegdfhmpaa", sum := "03940ddad5106b607ea9d843774ff6e205fc1cee46b05d1158f35beee3f1b24e", func := "muster/musterlaw07.RowsLists", spec := "rowsLists", inPlace := ["internal/abi.NoEscape"], unfollowed := true, recurses := true, apart := false, narrowed := true }
def RowsListsUptoSaid : Prop := rowsListsUptoRow.holds Try.pinned (OpenSpec.upto rowsListsSpec)

end Rows
end Go.Proofs.Ytagbpjegdfhmpaa
