/- The journal's example stands: by the smaller machine's run. -/
import Derived.Test.YtkhgfdlinobabaaDoorAmRunjournalFixed
namespace Go.Proofs.YtkhgfdlinobabaaDoor.G
open Go.RowKit
def musterlaw13_journalFixed.f : Option Bool := some true
theorem musterlaw13_journalFixed.calls (r : Bool) (w : World) (h : musterlaw13_journalFixed.f = some r) :
    Calls Tryd.prog 6 #[] w fun e w' => e = .returned (.bool r) ∧ Below w.heap.size w w' := by
  obtain rfl := Option.some.inj h
  exact RunjournalFixed.calls w
end Go.Proofs.YtkhgfdlinobabaaDoor.G
