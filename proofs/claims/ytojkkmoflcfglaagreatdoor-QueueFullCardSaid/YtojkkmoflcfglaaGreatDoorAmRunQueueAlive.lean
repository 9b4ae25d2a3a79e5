/- musterlaw12.queueAlive: the stages joined. -/
import Derived.Test.YtojkkmoflcfglaaGreatDoorAmRunQueueAliveN2
import Derived.Test.YtojkkmoflcfglaaGreatDoorAmRunQueueAliveN1
import Derived.Test.YtojkkmoflcfglaaGreatDoorAmRunQueueAliveA7
import Derived.Test.YtojkkmoflcfglaaGreatDoorAmRunQueueAliveA4
import Derived.Test.YtojkkmoflcfglaaGreatDoorAmRunQueueAliveendsA
import Derived.Test.YtojkkmoflcfglaaGreatDoorAmRunQueueAliveL9
import Derived.Test.YtojkkmoflcfglaaGreatDoorAmRunQueueAliveL13
import Derived.KernelRfl
namespace Go.Proofs.YtojkkmoflcfglaaGreatDoor.RunQueueAlive
open Go.RowKit
set_option maxRecDepth 100000
section
variable [AM.Syms]
theorem goes_N3 : AM.Goes cfg0 items_N2 s_N2_0 outs_N3 := AM.stage Tryz.checked.mixed (AM.named_ok named) ran_N3
theorem goes_N2 : AM.Goes cfg0 items_N1 s_N1_0 outs_N2 := AM.goes_split (k := 3) (AM.stage Tryz.checked.mixed (AM.named_ok named) ran_N2) goes_N3
theorem goes_N1 : AM.Goes cfg0 items_N0 s_N outs_N1 := AM.goes_split (k := 3) (AM.stage Tryz.checked.mixed (AM.named_ok named) ran_N1) goes_N2
theorem one_N {N0 : Nat} {w0 : World} (hx : AM.ExtOK Tryz.prog N0 w0 exts) : AM.MemoOne Tryz.prog N0 w0 memo_N := AM.memo_of (C := cfg0) Tryz.checked.mixed named Tryz.func6 (c := body_N) (by kernel_rfl) goes_N1 ends_N hx (AM.noMemo rfl)
theorem goes_A7 : AM.Goes cfg0 items_A6 s_A6_0 outs_A7 := AM.stage Tryz.checked.mixed (AM.named_ok named) ran_A7
theorem goes_A8 : AM.Goes cfg0 items_A6 s_A6_1 outs_A8 := AM.stage Tryz.checked.mixed (AM.named_ok named) ran_A8
theorem goes_A6 : AM.Goes cfg0 items_A5 s_A5_0 outs_A6 := AM.goes_split2 (k := 1) (AM.stage Tryz.checked.mixed (AM.named_ok named) ran_A6) goes_A7 goes_A8
theorem goes_A5 : AM.Goes cfg0 items_A4 s_A4_0 outs_A5 := AM.goes_split (k := 4) (AM.stage Tryz.checked.mixed (AM.named_ok named) ran_A5) goes_A6
theorem goes_A4 : AM.Goes cfg0 items_A0 s_A outs_A4 := AM.goes_split (k := 9) (AM.stage Tryz.checked.mixed (AM.named_ok named) ran_A4) goes_A5
theorem one_A {N0 : Nat} {w0 : World} (hx : AM.ExtOK Tryz.prog N0 w0 exts) : AM.MemoOne Tryz.prog N0 w0 memo_A := AM.MemoOne.sub (AM.memo_of (C := cfg0) Tryz.checked.mixed named Tryz.func25 (c := body_A) (by kernel_rfl) goes_A4 ends_A hx (AM.noMemo rfl)) (fun o ho => by simpa using ho)
theorem goes_L14 : AM.Goes cfg2 items_L13 s_L13_0 outs_L14 := AM.stage Tryz.checked.mixed (AM.named_ok named) ran_L14
theorem goes_L13 : AM.Goes cfg2 items_L12 s_L12_0 outs_L13 := AM.goes_split (k := 1) (AM.stage Tryz.checked.mixed (AM.named_ok named) ran_L13) goes_L14
theorem goes_L12 : AM.Goes cfg2 items_L11 s_L11_0 outs_L12 := AM.goes_split (k := 1) (AM.stage Tryz.checked.mixed (AM.named_ok named) ran_L12) goes_L13
theorem goes_L11 : AM.Goes cfg2 items_L10 s_L10_0 outs_L11 := AM.goes_split (k := 1) (AM.stage Tryz.checked.mixed (AM.named_ok named) ran_L11) goes_L12
theorem goes_L10 : AM.Goes cfg2 items_L9 s_L9_0 outs_L10 := AM.goes_split (k := 2) (AM.stage Tryz.checked.mixed (AM.named_ok named) ran_L10) goes_L11
theorem goes_L9 : AM.Goes cfg2 items_L0 s_L outs_L9 := AM.goes_split (k := 2) (AM.stage Tryz.checked.mixed (AM.named_ok named) ran_L9) goes_L10
theorem memos {N0 : Nat} {w0 : World} (hx : AM.ExtOK Tryz.prog N0 w0 exts) : AM.MemoOK Tryz.prog N0 w0 cfg2.memo := fun e he => by
  have he : e ∈ [memo_N, memo_A] := he
  simp only [List.mem_cons, List.mem_nil_iff, or_false] at he
  rcases he with rfl | rfl
  · exact one_N hx
  · exact one_A hx
end
theorem calls_of (w : World) (R : Facts w) : Calls Tryz.prog 4 #[] w fun e w' => e = .returned (.bool true) ∧ Below w.heap.size w w' := by
  obtain ⟨b1, o1, b2, o2, R⟩ := R
  exact AM.goes_calls (C := cfg2) Tryz.checked.mixed externs named Tryz.func4 (c := body_L) (by kernel_rfl) goes_L9 ends_L (by kernel_rfl) w R (fun w' hb _ => ⟨b1, o1, b2, o2, AM.move_rel R hb⟩) memos
end Go.Proofs.YtojkkmoflcfglaaGreatDoor.RunQueueAlive
