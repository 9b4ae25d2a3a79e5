/- musterlaw10.catalogAlive: a stage. -/
import Derived.Test.YtidbebeefkinaaaGreatDoorAmRunCatalogAliveDL
import Derived.KernelRfl
namespace Go.Proofs.YtidbebeefkinaaaGreatDoor.RunCatalogAlive
open Go.RowKit
set_option maxRecDepth 100000 in
theorem ends_L : AM.leavesL cfg2 100000 Tryz.f23 outs_L9 [[2], [2]] = some [(.bool true, ⟨.n none .lf (.n (some (.row ⟨[.str [], .str [116, 101, 120, 116], .str [110, 117, 109], .str [108, 105, 115, 116]], 86, 4, 0, false, true, true⟩)) .lf .lf), 15962⟩), (.bool true, ⟨.n none .lf (.n (some (.row ⟨[.str [], .str [116, 101, 120, 116], .str [110, 117, 109], .str [108, 105, 115, 116]], 86, 4, 0, false, true, true⟩)) .lf .lf), 15962⟩)] := by kernel_rfl
end Go.Proofs.YtidbebeefkinaaaGreatDoor.RunCatalogAlive
