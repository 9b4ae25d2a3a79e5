/- A transaction's sorted keys, and a signal's look at its channel. -/
import Derived.Test.YtejnegabdjpipaaGreatDoorIter
import Derived.WalkKit
import Derived.OwnWalkIn
import Derived.WalkSpells
import Derived.Test.YtejnegabdjpipaaGreatDoorChecked
import Derived.Conc.LoneSelect
import Derived.KernelRfl
import Derived.Laws.Rows
namespace Go.Proofs
open Go.RowKit Go.Maps Go.Sort Go.Shelf
set_option maxHeartbeats 1000000 in
theorem Tryz.touched {H : Type} (b o mb n : Nat) (D0 : DataW H) (R : Value → Option (DataW H × List MemPlace)) (w : World) (h1 : w.cell? ⟨b, o + 3, none⟩ = some (.bool false)) (h2 : w.cell? ⟨b, o + 2, none⟩ = some (.map (some mb)))
    (hown : w.ownsMap Tryz.prog 9 R mb n D0) (hmax : Maps.size D0 ≤ maxLen) (hbytes : Maps.size D0 * 16 ≤ 140737488355328) :
    Calls Tryz.prog 73 #[.pointer (some ⟨b, o, none⟩)] w fun e w' => ∃ (v : Value) (ss : List (List UInt8)), e = .returned v ∧ ss.Perm (strKeys D0) ∧
      w'.ownsRow w.heap.size 9 1 v ss.length ((ss.mergeSort leB).map encStr) ∧ (v = .slice none 0 0 ↔ ss = []) ∧ Below w.heap.size w w' := by
  refine (callsIn_wide (n := 6)).1 ?_
  have hfK : Fence.wide.fn 117 := trivial
  have hfS : Fence.wide.fn 89 := trivial
  refine callsIn_of_wp Tryz.func73 rfl trivial ?_ rfl
  simp only [Tryz.ntmps73, List.size_toArray, List.length_cons, List.length_nil, Nat.reduceAdd, Nat.reduceSub, Array.replicate_succ, Array.replicate_zero, List.push_toArray, List.append_toArray, List.nil_append, List.cons_append]
  gi_wp2_with (first
    | (gi_at_call 117; refine (Tryz.maps_Keys_117 _ _).mono ?_; rintro e w' ⟨rfl, rfl⟩)
    | (gi_at_call 89; refine (Tryz.slices_Sorted_keys_89_117 mb n D0 R w hown hmax hbytes).mono ?_; rintro e w' ⟨v, ss, rfl, hS, hrow, hnil, hb⟩))
  go_ret
  exact ⟨v, ss, rfl, hS, ownsRow_base_a hrow (by simp), hnil, ((Below.refl _ w).alloc (Nat.le_refl _) _).trans (hb.mono (by simp))⟩
end Go.Proofs
namespace Go.Proofs
open Go.Conc Go.RowKit
set_option maxRecDepth 100000 in
theorem Tryz.fired_open (w : World) (b o cb : Nat) (h1 : w.cell? ⟨b, o + 3, none⟩ = some (.chan (some cb))) (h2 : w.heap[cb]? = some (.chan 0 #[] false 0 0 false)) :
    Calls Tryz.prog 19 #[.pointer (some ⟨b, o, none⟩)] w fun e w' => e = .returned (.bool false) ∧ w' = w := by
  refine calls_of_loneTo fun cs => ?_
  have e : Frame.enter Tryz.prog 19 #[.pointer (some ⟨b, o, none⟩)] .normal = (base 19).at ⟨#[.pointer (some ⟨b, o, none⟩), undef, undef, undef, undef, undef, undef, undef, undef, undef], []⟩ [.code (Tryz.f19.body.getD .skip)] := by
    simp [Frame.enter, Frame.at, Tryz.func19, base, Tryz.f19]
  rw [e]
  refine LoneTo.goes (n := 13) ?_
  simp only [Tryz.f19, Option.getD_some]
  s_c stepG_seq
  s_reg
  s_op
  s_c stepG_region_end
  s_c stepG_seq
  s_reg
  s_op
  s_op
  s_op
  s_op
  s_c stepG_region_end
  s_c stepG_seq
  s_reg
  s_stop
  refine LoneTo.step (step_lone_select_default (c := cb) (z := .agg #[]) (cap := 0) (s := 0) (r := 0) (tm := false) (stepG_comm (cases := #[rcase cb (.agg #[])]) (blocking := false) (shape := .select) (w' := w) rfl rfl (by decide) (by simp [go_sem, execOp, rcase, Act.eval])) h2) ?_
  rw [Frame.finish_at]
  walk_nrm
  refine LoneTo.goes (n := 10) ?_
  s_op
  s_op
  s_c stepG_region_end
  s_c stepG_block
  s_cond false
  s_c stepG_seq
  s_reg
  s_op
  s_c stepG_region_end
  s_c stepG_ret'
  s_stop
  exact LoneTo.done ⟨.returned (.bool false), _, rfl, ⟨rfl, rfl⟩, rfl, rfl, rfl, rfl, _, Tryz.func19, by simp [results, Tryz.f19, Frame.at]⟩
set_option maxRecDepth 100000 in
theorem Tryz.fired_shut (w : World) (b o cb : Nat) (h1 : w.cell? ⟨b, o + 3, none⟩ = some (.chan (some cb))) (h2 : w.heap[cb]? = some (.chan 0 #[] true 0 0 false)) :
    Calls Tryz.prog 19 #[.pointer (some ⟨b, o, none⟩)] w fun e w' => e = .returned (.bool true) ∧ w' = w := by
  refine calls_of_loneTo fun cs => ?_
  have e : Frame.enter Tryz.prog 19 #[.pointer (some ⟨b, o, none⟩)] .normal = (base 19).at ⟨#[.pointer (some ⟨b, o, none⟩), undef, undef, undef, undef, undef, undef, undef, undef, undef], []⟩ [.code (Tryz.f19.body.getD .skip)] := by
    simp [Frame.enter, Frame.at, Tryz.func19, base, Tryz.f19]
  rw [e]
  refine LoneTo.goes (n := 13) ?_
  simp only [Tryz.f19, Option.getD_some]
  s_c stepG_seq
  s_reg
  s_op
  s_c stepG_region_end
  s_c stepG_seq
  s_reg
  s_op
  s_op
  s_op
  s_op
  s_c stepG_region_end
  s_c stepG_seq
  s_reg
  s_stop
  refine LoneTo.step (step_lone_select_recv_shut (c := cb) (z := .agg #[]) (cap := 0) (s := 0) (r := 0) (tm := false) (stepG_comm (cases := #[rcase cb (.agg #[])]) (blocking := false) (shape := .select) (w' := w) rfl rfl (by decide) (by simp [go_sem, execOp, rcase, Act.eval])) h2) ?_
  rw [Frame.finish_at]
  walk_nrm
  refine LoneTo.goes (n := 10) ?_
  s_op
  s_op
  s_c stepG_region_end
  s_c stepG_block
  s_cond true
  s_c stepG_seq
  s_reg
  s_op
  s_c stepG_region_end
  s_c stepG_ret'
  s_stop
  exact LoneTo.done ⟨.returned (.bool true), _, rfl, ⟨rfl, rfl⟩, rfl, rfl, rfl, rfl, _, Tryz.func19, by simp [results, Tryz.f19, Frame.at]⟩
end Go.Proofs
namespace Go.Proofs
theorem Tryz.fired (w : World) (b o cb : Nat) (cl : Bool) (h1 : w.cell? ⟨b, o + 3, none⟩ = some (.chan (some cb))) (h2 : w.heap[cb]? = some (.chan 0 #[] cl 0 0 false)) :
    Calls Tryz.prog 19 #[.pointer (some ⟨b, o, none⟩)] w fun e w' => e = .returned (.bool cl) ∧ w'.heap = w.heap ∧ w'.os = w.os ∧ w'.tape = w.tape ∧ w'.output = w.output := by
  cases cl with
  | false => exact (Tryz.fired_open w b o cb h1 h2).mono fun e w' ⟨he, hw⟩ => by subst hw; exact ⟨he, rfl, rfl, rfl, rfl⟩
  | true => exact (Tryz.fired_shut w b o cb h1 h2).mono fun e w' ⟨he, hw⟩ => by subst hw; exact ⟨he, rfl, rfl, rfl, rfl⟩
end Go.Proofs
