/- The chapter's example stands: by the smaller machine's run. -/
import Derived.Test.YtagbpjegdfhmpaaAmRunrowsFixed
namespace Go.Proofs.Ytagbpjegdfhmpaa.G
open Go.RowKit
def musterlaw07_rowsFixed.f : Option Bool := some true
theorem musterlaw07_rowsFixed.calls (r : Bool) (w : World) (h : musterlaw07_rowsFixed.f = some r) :
    Calls Try.prog 8 #[] w fun e w' => e = .returned (.bool r) ∧ Below w.heap.size w w' := by
  obtain rfl := Option.some.inj h
  exact RunrowsFixed.calls w
end Go.Proofs.Ytagbpjegdfhmpaa.G
