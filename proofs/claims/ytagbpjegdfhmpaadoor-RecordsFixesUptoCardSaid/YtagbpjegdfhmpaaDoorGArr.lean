/- Arrays of four bytes are equal where their bytes are. -/
import Derived.Test.YtagbpjegdfhmpaaDoorProg
import Derived.WalkKit
import Derived.KernelRfl
import Derived.ChangeKeysEq
import Derived.Laws.StructEq
namespace Go.Proofs.YtagbpjegdfhmpaaDoor.G
open Go.RowKit
section
variable {P : Program} {d c i : Nat} {e : TypeId} {xs ys : Array Value} {is : List Nat} {a b : Value} {r s : Bool} {w : World}
theorem eqi_cons (ha : (part e xs (i * c)).run P w = .ok a w) (hb : (part e ys (i * c)).run P w = .ok b w) (he : (Op.equalIn d e a b).run P w = .ok r w) (hr : (Op.eqItems d e c xs ys is).run P w = .ok s w) : (Op.eqItems d e c xs ys (i :: is)).run P w = .ok (r && s) w := by
  simp only [Op.eqItems, Sem.run_bind, ha, hb, he, Result.andThen_ok]
  cases r
  · simp
  · simpa using hr
theorem eqi_last (ha : (part e xs (i * c)).run P w = .ok a w) (hb : (part e ys (i * c)).run P w = .ok b w) (he : (Op.equalIn d e a b).run P w = .ok r w) : (Op.eqItems d e c xs ys [i]).run P w = .ok r w := by
  have h := eqi_cons (s := true) (is := []) ha hb he (by simp [Op.eqItems])
  rwa [Bool.and_true] at h
end
theorem cells5 : Tryd.prog.cellsOf 5 = 1 := by kernel_rfl
theorem info5' : ∃ i, Tryd.prog.info? 5 = some i := by
  have h : (Tryd.prog.info? 5).isSome = true := by kernel_rfl
  exact Option.isSome_iff_exists.1 h
theorem eqA28 (d : Nat) (w : World) (x0 y0 : Int) (x1 y1 : Int) (x2 y2 : Int) (x3 y3 : Int) :
    (Op.equalIn (d + 2) 28 (.agg #[.int .u8 x0, .int .u8 x1, .int .u8 x2, .int .u8 x3]) (.agg #[.int .u8 y0, .int .u8 y1, .int .u8 y2, .int .u8 y3])).run Tryd.prog w = .ok (x0 == y0 && (x1 == y1 && (x2 == y2 && (x3 == y3)))) w := by
  obtain ⟨i, hi⟩ := info5'
  rw [run_equalIn_array w (d + 1) _ _ Tryd.underlying28 hi, cells5]
  show (Op.eqItems (d + 1) 5 1 _ _ [0, 1, 2, 3]).run Tryd.prog w = _
  refine eqi_cons (by go_simp; rfl) (by go_simp; rfl) (by go_simp) ?_
  refine eqi_cons (by go_simp; rfl) (by go_simp; rfl) (by go_simp) ?_
  refine eqi_cons (by go_simp; rfl) (by go_simp; rfl) (by go_simp) ?_
  exact eqi_last (by go_simp; rfl) (by go_simp; rfl) (by go_simp)
end Go.Proofs.YtagbpjegdfhmpaaDoor.G
