/- Short words for steps that the printed walks repeat: a block that later worlds keep, a world that lies above, elements that are kept. -/
import Derived.Test.YtagbpjegdfhmpaaDoorWWords
import Derived.Test.YtagbpjegdfhmpaaDoorWLast
import Derived.Test.YtagbpjegdfhmpaaDoorWMore
namespace Go.Proofs.YtagbpjegdfhmpaaDoor.G
open Go.RowKit Go.Proofs.YtagbpjegdfhmpaaDoorW.PrintWords Go.Proofs.YtagbpjegdfhmpaaDoorW.PrintLast Go.Proofs.YtagbpjegdfhmpaaDoorW.PrintMore
theorem pk_ {P Q : Prop} (b : Aside0 P) (h : P → Q := by intro h_; (with_reducible repeat (first | exact h_ | refine blk_drewN ?_ _ | refine blk_drew ?_ | refine blk_alloc ?_ _ | refine blk_far ?_ (Aside0.out (by assumption)) _)); all_goals exact h_) : Q := h b.out
theorem pl_ {P Q : Prop} (b : Aside0 P) (h : P → Q := by intro h_; repeat (first | (with_reducible first | exact h_ | apply below_alloc | apply pw_below_drewN | apply below_drew1 | refine below_set ?_ (Aside0.out (by assumption))) | exact h_)) : Q := h b.out
theorem pr_ {P Q : Prop} (b : Aside0 P) (h : P → Q := by intro h_; (with_reducible repeat (first | exact h_ | apply Kd.R_alloc | apply Kd.R_drewN | apply Kd.R_drew)); all_goals exact h_) : Q := h b.out
theorem pb_ {w w' w1 : World} {g : Nat} {o : Obj} (b : Aside0 (w.heap[g]? = some o)) (hb : Below w'.heap.size w' w1) (h : w.heap[g]? = some o → w'.heap[g]? = some o := by intro h_; (with_reducible repeat (first | exact h_ | refine blk_drewN ?_ _ | refine blk_drew ?_ | refine blk_alloc ?_ _ | refine blk_far ?_ (Aside0.out (by assumption)) _)); all_goals exact h_) : Aside0 (w1.heap[g]? = some o) := ⟨blk_below (h b.out) hb⟩
theorem ie_t {l : List UInt8} (h : (l == ([] : List UInt8)) = true) : l.isEmpty = true := List.isEmpty_iff.mpr (beq_iff_eq.mp h)
theorem ie_f {l : List UInt8} (h : (l == ([] : List UInt8)) = false) : l.isEmpty = false := by cases l <;> simp_all
end Go.Proofs.YtagbpjegdfhmpaaDoor.G
