/- QueueNames: the walk over the known call, and the two errors. -/
import Derived.Test.YtidbebeefkinaaaGreatDoorAmRunQueueAlive
import Derived.WalkKit
import Derived.WalkSpells
import Derived.LaidEql
import Derived.KernelRfl
namespace Go.Proofs.YtidbebeefkinaaaGreatDoor.RunQueueNames
open Go.RowKit

theorem run_neq_iface_ptr_other {P : Program} (w : World) {ti tp te : TypeId} {ms : Array (String × TypeId)} {i j : TypeInfo} {a b : Addr} {ca cb : Array Value} {ta tb : TypeId}
    (hi : P.underlying ti = some (.interface ms)) (hp : P.underlying tp = some (.pointer te)) (hinfo : P.info? tp = some i) (hcomp : i.comparable = true) (hte : P.info? te = some j) (hsz : j.size ≠ 0)
    (hne : a ≠ b) (ha : w.heap[a.block]? = some (.cells ca ta (0, 0))) (hb : w.heap[b.block]? = some (.cells cb tb (0, 0))) :
    (binOp .neq ti (.iface tp (.pointer (some a))) (.iface tp (.pointer (some b)))).run P w = .ok (.bool true) w := by
  simp only [binOp]
  simp [Op.equal, Op.maxDepth, run_equalIn_iface_ptr_other w 9998 hi hp hinfo hcomp hte hsz hne ha hb]

/-- A fact laid aside. -/
structure Hid (p : Prop) : Prop where mk :: (out : p)
/-- An error's text. -/
theorem text (b o : Nat) (s : ByteArray) (w : World) (h : w.cell? ⟨b, o, none⟩ = some (.string s)) : Calls Tryz.prog 365 #[.pointer (some ⟨b, o, none⟩)] w fun e w' => e = .returned (.string s) ∧ w' = w := by
  go_enter Tryz.func365, Tryz.ntmps365
  go_wp2
  go_ret
  exact ⟨rfl, rfl⟩

set_option maxRecDepth 100000 in
set_option maxHeartbeats 1000000 in
theorem calls (w : World) (h : laidMetH Tryz.prog Rows.queueNamesRow.laid w) (hsh : w.ShapedOpen Tryz.prog) : Calls Tryz.prog 7 #[] w fun e w' => e = .returned (.bool true) ∧ Below w.heap.size w w' := by
  obtain ⟨b1, o1, b2, o2, ⟨⟨c1, t1, p1, p2, p3⟩, c2, t2, q1, q2, q3⟩, F⟩ := RunQueueAlive.rel h hsh
  have hne : (⟨b1, o1, none⟩ : Addr) ≠ ⟨b2, o2, none⟩ := by
    intro e
    rw [e, q2] at p2
    cases p2
  have l0 : 0 < w.heap.size := by
    rcases Nat.lt_or_ge 0 w.heap.size with h | h
    · exact h
    · simp [Array.getElem?_eq_none h] at p1
  have l1 : 1 < w.heap.size := by
    rcases Nat.lt_or_ge 1 w.heap.size with h | h
    · exact h
    · simp [Array.getElem?_eq_none h] at q1
  have lb1 : b1 < w.heap.size := by
    rcases Nat.lt_or_ge b1 w.heap.size with h | h
    · exact h
    · simp [Array.getElem?_eq_none h] at p3
  have lb2 : b2 < w.heap.size := by
    rcases Nat.lt_or_ge b2 w.heap.size with h | h
    · exact h
    · simp [Array.getElem?_eq_none h] at q3
  have hcmp : ((Tryz.prog.info? 432).map (·.comparable)) = some true := by kernel_rfl
  obtain ⟨i, hi, hci⟩ := Option.map_eq_some_iff.1 hcmp
  have hsz : ((Tryz.prog.info? 434).map (·.size)) = some 1 := by kernel_rfl
  obtain ⟨j, hj, hsj⟩ := Option.map_eq_some_iff.1 hsz
  have key : ∀ w', Below w.heap.size w w' → w'.cell? ⟨0, 0, none⟩ = some (.iface 432 (.pointer (some ⟨b1, o1, none⟩))) ∧ w'.cell? ⟨1, 0, none⟩ = some (.iface 432 (.pointer (some ⟨b2, o2, none⟩))) ∧
      w'.cell? ⟨b1, o1, none⟩ = some (.string ⟨#[102, 117, 108, 108]⟩) ∧ w'.cell? ⟨b2, o2, none⟩ = some (.string ⟨#[99, 108, 111, 115, 101, 100]⟩) ∧
      (binOp .neq 59 (.iface 432 (.pointer (some ⟨b1, o1, none⟩))) (.iface 432 (.pointer (some ⟨b2, o2, none⟩)))).run Tryz.prog w' = .ok (.bool true) w' := fun w' hb => by
    have e1 := hb.block _ lb1
    have e2 := hb.block _ lb2
    refine ⟨?_, ?_, ?_, ?_, ?_⟩
    · simp [World.cell?, hb.block _ l0, p1]
    · simp [World.cell?, hb.block _ l1, q1]
    · have : w'.cell? ⟨b1, o1, none⟩ = w.cell? ⟨b1, o1, none⟩ := by simp [World.cell?, e1]
      rw [this, p2]
    · have : w'.cell? ⟨b2, o2, none⟩ = w.cell? ⟨b2, o2, none⟩ := by simp [World.cell?, e2]
      rw [this, q2]
    · exact run_neq_iface_ptr_other w' Tryz.underlying59 Tryz.underlying432 hi hci hj (by rw [hsj]; decide) hne (e1.trans p3) (e2.trans q3)
  have hA := RunQueueAlive.calls_of w F
  clear p1 p2 p3 q1 q2 q3 F h hsh hne l0 l1 lb1 lb2 hcmp hi hci hsz hj hsj
  have hm1 : ∀ w : World, (method 577 432 (.pointer (some ⟨b1, o1, none⟩)) "Error").run Tryz.prog w = .ok (365, .pointer (some ⟨b1, o1, none⟩)) w := fun _ => by kernel_rfl
  have hm2 : ∀ w : World, (method 577 432 (.pointer (some ⟨b2, o2, none⟩)) "Error").run Tryz.prog w = .ok (365, .pointer (some ⟨b2, o2, none⟩)) w := fun _ => by kernel_rfl
  go_enter Tryz.func7, Tryz.ntmps7
  go_wp2_with (first
    | (go_at_call 24; refine hA.mono ?_; rintro e w' ⟨rfl, hb⟩; obtain ⟨k1, k2, k3, k4, k5⟩ := key w' hb; have HB := Hid.mk hb; clear hb key hA)
    | (go_at_call 365; refine (text _ _ _ _ (by assumption)).mono ?_; rintro e w' ⟨rfl, rfl⟩))
  go_ret
  exact ⟨rfl, HB.out⟩
end Go.Proofs.YtidbebeefkinaaaGreatDoor.RunQueueNames
