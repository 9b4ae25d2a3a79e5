/- musterlaw12.queueAlive: the stages' states (Q). -/
import Derived.Test.YtidbebeefkinaaaGreatDoorAmRunQueueAlive0
namespace Go.Proofs.YtidbebeefkinaaaGreatDoor.RunQueueAlive
open Go.RowKit
noncomputable def body_Q : Code := Tryz.f70.body.getD .skip
noncomputable def items_Q0 : List Code := AM.flat body_Q
noncomputable def args_Q : List AM.V := [.int .i64 (.ofNat 1)]
noncomputable def h_Q : AM.H := ⟨.n (some (.row ⟨[.iface 432 (.ptr 390 0)], 59, 1, 0, false, true, true⟩)) (.n (some (.row ⟨[.iface 432 (.ptr 391 0)], 59, 1, 0, false, true, true⟩)) .lf .lf) (.n (some (.row ⟨[.str [], .str [116, 101, 120, 116], .str [110, 117, 109], .str [108, 105, 115, 116]], 86, 4, 0, false, true, true⟩)) .lf .lf), 401⟩
noncomputable def s_Q : AM.S := ⟨AM.putArgs args_Q 0 .lf, args_Q.length + (Tryz.f70.ntmps - args_Q.length), h_Q, []⟩
noncomputable def s_Q1_0 : AM.S := ⟨.n none .lf (.n (some (.ptr 402 0)) .lf .lf), 8, ⟨.n (some (.row ⟨[.iface 432 (.ptr 390 0)], 59, 1, 0, false, true, true⟩)) (.n (some (.row ⟨[.iface 432 (.ptr 391 0)], 59, 1, 0, false, true, true⟩)) .lf (.n none (.n none (.n none .lf (.n none (.n none (.n none .lf (.n (some (.map [] 0)) .lf .lf)) .lf) .lf)) .lf) .lf)) (.n (some (.row ⟨[.str [], .str [116, 101, 120, 116], .str [110, 117, 109], .str [108, 105, 115, 116]], 86, 4, 0, false, true, true⟩)) .lf (.n none (.n none (.n none .lf (.n none (.n none (.n none .lf (.n (some (.row ⟨[.int .i32 (.ofNat 0), .int .u32 (.ofNat 0), .int .i64 (.ofNat 1), .int .u64 (.ofNat 0), .nilsl, .map 401, .bool false], 253, 1, 0, false, false, true⟩)) .lf .lf)) .lf) .lf)) .lf) .lf)), 403⟩, []⟩
noncomputable def outs_Q1 : List (AM.X × AM.S) := [(.ret, s_Q1_0)]
noncomputable def memo_Q : AM.Memo := ⟨70, args_Q, h_Q, [(.ptr 402 0, ⟨.n (some (.row ⟨[.iface 432 (.ptr 390 0)], 59, 1, 0, false, true, true⟩)) (.n (some (.row ⟨[.iface 432 (.ptr 391 0)], 59, 1, 0, false, true, true⟩)) .lf (.n none (.n none (.n none .lf (.n none (.n none (.n none .lf (.n (some (.map [] 0)) .lf .lf)) .lf) .lf)) .lf) .lf)) (.n (some (.row ⟨[.str [], .str [116, 101, 120, 116], .str [110, 117, 109], .str [108, 105, 115, 116]], 86, 4, 0, false, true, true⟩)) .lf (.n none (.n none (.n none .lf (.n none (.n none (.n none .lf (.n (some (.row ⟨[.int .i32 (.ofNat 0), .int .u32 (.ofNat 0), .int .i64 (.ofNat 1), .int .u64 (.ofNat 0), .nilsl, .map 401, .bool false], 253, 1, 0, false, false, true⟩)) .lf .lf)) .lf) .lf)) .lf) .lf)), 403⟩)]⟩
end Go.Proofs.YtidbebeefkinaaaGreatDoor.RunQueueAlive
