/- QueueFull: its states, by formula. -/
import Derived.Test.YtojkkmoflcfglaaGreatDoorAmRunQueueAlive
namespace Go.Proofs.YtojkkmoflcfglaaGreatDoor.RunQueueAlive
open Go.RowKit
theorem extA : AM.ExtOne Tryz.prog Facts 4 .closed := ⟨Tryz.f4, Tryz.func4, by kernel_rfl, Tryz.f4.body.getD .skip, by kernel_rfl, fun w F => calls_of w F⟩
noncomputable def extsF : List (Nat × AM.Ek) := (4, .closed) :: exts
theorem externsF : ∀ p ∈ extsF, AM.ExtOne Tryz.prog Facts p.1 p.2 := fun p hp => by
  rcases List.mem_cons.1 hp with rfl | hp
  · exact extA
  · exact externs p hp
noncomputable def cfgF : AM.Cfg := ⟨Tryz.prog, extsF, [memo_N, memo_A]⟩
noncomputable def bodyF : Code := Tryz.f3.body.getD .skip
noncomputable def itemsF : List Code := AM.flat bodyF
def loopBody : Code → Code
  | .block _ (.loop b) => b
  | c => c
noncomputable def B1 : Code := loopBody (itemsF.getD 9 .skip)
noncomputable def B2 : Code := loopBody (itemsF.getD 11 .skip)
noncomputable def opsO : AM.O := .row ⟨[.int .i64 (.ofNat 1), .str [97], .str [49, 48, 46, 48, 46, 48, 46, 49], .int .u64 (.ofNat 0), .int .u64 (.ofNat 0), .str [], .str [], .str [], .int .i64 (.ofNat 0), .nilsl, .int .u64 (.ofNat 0), .int .u64 (.ofNat 0), .str [], .str [], .str [], .int .i64 (.ofNat 0), .str [], .int .u64 (.ofNat 0), .int .u64 (.ofNat 0), .bool false, .int .u64 (.ofNat 0)], 86, 21, 0, false, false, false⟩
/-- The line behind i rounds. -/
def lineC : Nat → List AM.V
  | 0 => []
  | i + 1 => lineC i ++ [.int .u64 (.ofNat (i + 1)), .sl (8589 + 48 * i) 0 1 none]
def lineId (i : Nat) : Nat := 8605 + 48 * (i - 1)
def qFront : List AM.V := [.int .i32 (.ofNat 0), .int .u32 (.ofNat 0)]
def qBack (i : Nat) : List AM.V := [.int .u64 (.ofNat i), (match i with | 0 => .nilsl | i + 1 => .sl (lineId (i + 1)) 0 (i + 1) none), .map 402, .bool false]
noncomputable def qrow (i : Nat) (mv : AM.V) : AM.O := .row ⟨qFront ++ mv :: qBack i, 54, 1, 0, false, false, true⟩
def cids : List Nat := [2, 1, 0, 8260, 8261, 8380, 8381, 6485, 6486, 6327, 6328, 6218, 6320, 6479, 5510, 5511, 5470, 5471, 5365, 5463, 6451, 8403, 8404, 8238, 8239, 8122, 8231, 8397, 7452, 7453, 7287, 7288, 7171, 7280, 7446, 8405, 8376, 8259, 8256, 8406, 8449, 4641, 4636, 4604, 4615, 4443, 4199, 4014, 3763, 4209, 3514, 2879, 2705, 2889, 2456, 1835, 1846, 1676, 4295, 4639, 1000]
noncomputable def outN : AM.V × AM.H := memo_N.outs.headD (.undef, h0)
/-- What stands besides the queue's own row. -/
noncomputable def rest : Nat → AM.T AM.O
  | 0 => (AM.keepT outN.2.objs cids).put 402 (some (.map [] 0))
  | i + 1 => (((AM.keepT outN.2.objs cids).put 402 (some (.map [] 0))).put 8589 (some opsO)).put (lineId (i + 1)) (some (.row ⟨lineC (i + 1), 89, 2, 0, false, false, false⟩))
noncomputable def heap (i : Nat) (mv : AM.V) : AM.H := ⟨(rest i).put 403 (some (qrow i mv)), 8566 + 48 * i⟩
noncomputable def more0 : AM.V := .nv 1 0 0 100 none
def mv (lo : Nat) : AM.V := .nv 2 0 (.ofNat lo) 100 none
noncomputable def env1 (i : Nat) : AM.T AM.V := (((AM.T.lf.put 1 (some more0)).put 5 (some (.ptr 403 0))).put 6 (some (.ptr 1000 0))).put 7 (some (.int .i64 (.ofNat i)))
noncomputable def env2 : AM.T AM.V := ((AM.T.lf.put 1 (some more0)).put 5 (some (.ptr 403 0))).put 6 (some (.ptr 1000 0))
noncomputable def env3 : AM.T AM.V := (AM.T.lf.put 5 (some (.ptr 403 0))).put 6 (some (.ptr 1000 0))
noncomputable def ntm : Nat := Tryz.f3.ntmps
/-- At the head of the first loop. -/
noncomputable def st1 (i : Nat) (mv : AM.V) : AM.S := ⟨(env1 i).put 0 (some mv), ntm, heap i mv, []⟩
/-- Behind it. -/
noncomputable def st2 (i : Nat) (mv : AM.V) : AM.S := ⟨env2.put 0 (some mv), ntm, heap i mv, []⟩
/-- At the head of the second loop. -/
noncomputable def st3 (i : Nat) (j more : AM.V) : AM.S := ⟨((env3.put 0 (some (.int .i64 (.ofNat i)))).put 10 (some j)).put 1 (some more), ntm, heap i (.int .i64 (.ofNat i)), []⟩
noncomputable def moreB (b : Bool) : AM.V := .nv 1 0 0 100 (some (0, b))
noncomputable def jj : AM.V := .nv 0 0 0 101 none
def ids (i : Nat) : List Nat := 403 :: (match i with | 0 => [] | i + 1 => [lineId (i + 1), 8589]) ++ (402 :: cids)
noncomputable def num (i : Nat) : AM.V := .int .i64 (.ofNat i)
/-- Behind a round of the second loop; the same, looked at again; the end. -/
noncomputable def st4 (i : Nat) : AM.S := ⟨((env3.put 0 (some (num i))).put 10 (some (.nv 0 1 1 102 none))).put 1 (some (moreB true)), ntm, ⟨(heap i (num i)).objs, 8566 + 48 * i + 51⟩, []⟩
noncomputable def st5 (i : Nat) : AM.S := ⟨env3.put 0 (some (num i)), ntm, heap i (num i), []⟩
noncomputable def st6 (k : Nat) : AM.S := ⟨AM.T.lf.put 4 (some (.bool true)), ntm, ⟨.lf, k⟩, []⟩
noncomputable def rest3 : List Code := itemsF.drop 12
noncomputable def it10 : Code := itemsF.getD 10 .skip
/-- One round of the first loop; its end; the way to the second; one round of it; its end; the rest. -/
def Round1 (i : Nat) : Prop := AM.stageA cfgF [] 100000 [B1] [([0, 1, 5, 6, 7], ids (i + 1))] (st1 i (mv (i + 1))) = some [(.norm, st1 (i + 1) (mv (i + 1)))]
def Ends (i : Nat) : Prop := AM.stageA cfgF [] 100000 [B1] [([0, 1, 5, 6], ids i)] (st1 i (num i)) = some [(.exit 0, st2 i (num i))] ∧ AM.stageA cfgF [] 100000 [it10] [([0, 1, 5, 6, 10], ids i)] (st2 i (num i)) = some [(.norm, st3 i (num 0) more0)] ∧
  AM.stageA cfgF [] 100000 [B2] [([0, 1, 5, 6, 10], ids i)] (st3 i jj (moreB true)) = some [(.norm, st4 i)] ∧ AM.backS (8566 + 48 * i) [0, 5, 6] (ids i) (st4 i) = st5 i ∧ AM.okTmps (8566 + 48 * i) (st4 i).env [0, 5, 6] = true ∧ AM.okIds (8566 + 48 * i) (st4 i).h.objs (ids i) = true ∧
  AM.stageA cfgF [] 100000 [B2] [([0, 5, 6], ids i)] (st3 i jj (moreB false)) = some [(.exit 2, st5 i)] ∧ AM.stageA cfgF [] 100000 rest3 [([4], [])] (st5 i) = some [(.ret, st6 36189)]
end Go.Proofs.YtojkkmoflcfglaaGreatDoor.RunQueueAlive
