/- Short words for steps that the printed walks repeat: a block that later worlds keep, a world that lies above, elements that are kept. -/
import Derived.Test.YtkhgfdlinobabaaDoorWWords
import Derived.Test.YtkhgfdlinobabaaDoorWLast
import Derived.Test.YtkhgfdlinobabaaDoorWMore
import Derived.Laws.Tables
import Derived.Laws.CopyOwn
namespace Go.Proofs.YtkhgfdlinobabaaDoor.G
open Go.RowKit Go.Proofs.YtkhgfdlinobabaaDoorW.PrintWords Go.Proofs.YtkhgfdlinobabaaDoorW.PrintLast Go.Proofs.YtkhgfdlinobabaaDoorW.PrintMore
theorem pk_ {P Q : Prop} (b : Aside0 P) (h : P → Q := by intro h_; (with_reducible repeat (first | exact h_ | refine blk_drewN ?_ _ | refine blk_drew ?_ | refine blk_alloc ?_ _ | refine blk_far ?_ (Aside0.out (by assumption)) _)); all_goals exact h_) : Q := h b.out
theorem pl_ {P Q : Prop} (b : Aside0 P) (h : P → Q := by intro h_; repeat (first | (with_reducible first | exact h_ | apply below_alloc | apply pw_below_drewN | apply below_drew1 | refine below_set ?_ (Aside0.out (by assumption))) | exact h_)) : Q := h b.out
theorem pr_ {P Q : Prop} (b : Aside0 P) (h : P → Q := by intro h_; (with_reducible repeat (first | exact h_ | apply Kd.R_alloc | apply Kd.R_drewN | apply Kd.R_drew)); all_goals exact h_) : Q := h b.out
theorem pb_ {w w' w1 : World} {g : Nat} {o : Obj} (b : Aside0 (w.heap[g]? = some o)) (hb : Below w'.heap.size w' w1) (h : w.heap[g]? = some o → w'.heap[g]? = some o := by intro h_; (with_reducible repeat (first | exact h_ | refine blk_drewN ?_ _ | refine blk_drew ?_ | refine blk_alloc ?_ _ | refine blk_far ?_ (Aside0.out (by assumption)) _)); all_goals exact h_) : Aside0 (w1.heap[g]? = some o) := ⟨blk_below (h b.out) hb⟩
theorem ie_t {l : List UInt8} (h : (l == ([] : List UInt8)) = true) : l.isEmpty = true := List.isEmpty_iff.mpr (beq_iff_eq.mp h)
theorem ie_f {l : List UInt8} (h : (l == ([] : List UInt8)) = false) : l.isEmpty = false := by cases l <;> simp_all
section
variable {P : Program} {ops : Array Oper} {rest : List Oper} {o : Oper} {a : Act} {Q : Exit → Act → World → Prop}
/-- A store of a whole variable, as one step. -/
theorem store_whole_ {W : World} (hgd : o.guard = none) {t : TypeId} {p : Tmp} {v : Operand} (ho : o.op = .store t (.tmp p) v) (hN : o.dst = none) {g : Nat} {old cells : Array Value} {e : TypeId}
    (hx : a.eval (.tmp p) = .pointer (some ⟨g, 0, none⟩)) (hy : a.eval v = .agg cells) (hg : W.heap[g]? = some (.cells old e (0, 0))) (hi : (P.info? t).map (·.size) = some cells.size) (hold : old.size = cells.size) (h1 : cells.toList.all (·.oneCell') = true)
    (h : ∀ w', w' = W.setRow g cells → w'.heap[g]? = some (.cells cells e (0, 0)) → (∀ k, k ≠ g → w'.heap[k]? = W.heap[k]?) → wpList P ops Q rest a w') : wpList P ops Q (o :: rest) a W := by
  refine wpList_plain hgd fun K hK => ?_
  refine wp_store_row t (.tmp p) v ho g cells hx hy e old hg hi hold (by rw [← Array.all_toList]; exact h1) ?_
  rw [hN]
  exact hK _ _ (h _ rfl (setRow_heap W g old cells e (0, 0) hg) (fun k hk => setRow_other W g k cells hk))
end
theorem far4_ {w : World} {g g' : Nat} {i j1 j2 j3 j4 : Nat} {x : Option Value} {u1 u2 u3 u4 : Value} (h : g ≠ g') (hc : w.cell? ⟨g, i, none⟩ = x) : ((((w.setCell ⟨g', j1, none⟩ u1).setCell ⟨g', j2, none⟩ u2).setCell ⟨g', j3, none⟩ u3).setCell ⟨g', j4, none⟩ u4).cell? ⟨g, i, none⟩ = x := by
  rw [cell_far (p := ⟨g', _, none⟩) h]; rw [cell_far (p := ⟨g', _, none⟩) h]; rw [cell_far (p := ⟨g', _, none⟩) h]; rw [cell_far (p := ⟨g', _, none⟩) h]; exact hc
theorem far7_ {w : World} {g g' : Nat} {i j1 j2 j3 j4 j5 j6 j7 : Nat} {x : Option Value} {u1 u2 u3 u4 u5 u6 u7 : Value} (h : g ≠ g') (hc : w.cell? ⟨g, i, none⟩ = x) : (((((((w.setCell ⟨g', j1, none⟩ u1).setCell ⟨g', j2, none⟩ u2).setCell ⟨g', j3, none⟩ u3).setCell ⟨g', j4, none⟩ u4).setCell ⟨g', j5, none⟩ u5).setCell ⟨g', j6, none⟩ u6).setCell ⟨g', j7, none⟩ u7).cell? ⟨g, i, none⟩ = x := by
  rw [cell_far (p := ⟨g', _, none⟩) h]; rw [cell_far (p := ⟨g', _, none⟩) h]; rw [cell_far (p := ⟨g', _, none⟩) h]; rw [cell_far (p := ⟨g', _, none⟩) h]; rw [cell_far (p := ⟨g', _, none⟩) h]; rw [cell_far (p := ⟨g', _, none⟩) h]; rw [cell_far (p := ⟨g', _, none⟩) h]; exact hc
theorem far21_ {w : World} {g g' : Nat} {i j1 j2 j3 j4 j5 j6 j7 j8 j9 j10 j11 j12 j13 j14 j15 j16 j17 j18 j19 j20 j21 : Nat} {x : Option Value} {u1 u2 u3 u4 u5 u6 u7 u8 u9 u10 u11 u12 u13 u14 u15 u16 u17 u18 u19 u20 u21 : Value} (h : g ≠ g') (hc : w.cell? ⟨g, i, none⟩ = x) : (((((((((((((((((((((w.setCell ⟨g', j1, none⟩ u1).setCell ⟨g', j2, none⟩ u2).setCell ⟨g', j3, none⟩ u3).setCell ⟨g', j4, none⟩ u4).setCell ⟨g', j5, none⟩ u5).setCell ⟨g', j6, none⟩ u6).setCell ⟨g', j7, none⟩ u7).setCell ⟨g', j8, none⟩ u8).setCell ⟨g', j9, none⟩ u9).setCell ⟨g', j10, none⟩ u10).setCell ⟨g', j11, none⟩ u11).setCell ⟨g', j12, none⟩ u12).setCell ⟨g', j13, none⟩ u13).setCell ⟨g', j14, none⟩ u14).setCell ⟨g', j15, none⟩ u15).setCell ⟨g', j16, none⟩ u16).setCell ⟨g', j17, none⟩ u17).setCell ⟨g', j18, none⟩ u18).setCell ⟨g', j19, none⟩ u19).setCell ⟨g', j20, none⟩ u20).setCell ⟨g', j21, none⟩ u21).cell? ⟨g, i, none⟩ = x := by
  rw [cell_far (p := ⟨g', _, none⟩) h]; rw [cell_far (p := ⟨g', _, none⟩) h]; rw [cell_far (p := ⟨g', _, none⟩) h]; rw [cell_far (p := ⟨g', _, none⟩) h]; rw [cell_far (p := ⟨g', _, none⟩) h]; rw [cell_far (p := ⟨g', _, none⟩) h]; rw [cell_far (p := ⟨g', _, none⟩) h]; rw [cell_far (p := ⟨g', _, none⟩) h]; rw [cell_far (p := ⟨g', _, none⟩) h]; rw [cell_far (p := ⟨g', _, none⟩) h]; rw [cell_far (p := ⟨g', _, none⟩) h]; rw [cell_far (p := ⟨g', _, none⟩) h]; rw [cell_far (p := ⟨g', _, none⟩) h]; rw [cell_far (p := ⟨g', _, none⟩) h]; rw [cell_far (p := ⟨g', _, none⟩) h]; rw [cell_far (p := ⟨g', _, none⟩) h]; rw [cell_far (p := ⟨g', _, none⟩) h]; rw [cell_far (p := ⟨g', _, none⟩) h]; rw [cell_far (p := ⟨g', _, none⟩) h]; rw [cell_far (p := ⟨g', _, none⟩) h]; rw [cell_far (p := ⟨g', _, none⟩) h]; exact hc
end Go.Proofs.YtkhgfdlinobabaaDoor.G
