/- What the package variables of Go's library hold when a call begins, and that later worlds hold it, too. -/
import Derived.Test.YtkhgfdlinobabaaGreatDoorProg
import Derived.WalkKit
import Derived.Below
import Derived.KernelRfl
import Derived.Lib.LaidTab
import Derived.Lib.ItoaNum
namespace Go.Proofs.YtkhgfdlinobabaaGreatDoor.G
open Go.RowKit

/-- The search's limit is a number; the two errors of strconv are errors; the table of powers of ten is as its text has it. -/
structure VarsOk (w : World) : Prop where
  maxLen : ∃ m : Int, w.cell? ⟨2, 0, none⟩ = some (.int .i64 m)
  syn : ∃ te pe, w.cell? ⟨0, 0, none⟩ = some (.iface te pe)
  rng : ∃ te pe, w.cell? ⟨1, 0, none⟩ = some (.iface te pe)
  tab : Lib.TabIs Tryz.prog w "internal/strconv.uint64pow10" .u64 Lib.pow10Tab

theorem cell_keep {w w' : World} (hb : Below w.heap.size w w') {a : Addr} {v : Value} (hc : w.cell? a = some v) : w'.cell? a = some v := (hb.cell (World.block_lt_of_cell? w a hc)).trans hc
theorem var_keep {P : Program} {w w' : World} (hb : Below w.heap.size w w') {n : String} {cs : Array Value} (h : w.var? P n = some cs) : w'.var? P n = some cs := by
  unfold World.var? at h ⊢
  cases hg : P.globalNamed n with
  | none => simp [hg] at h
  | some g =>
    simp only [hg, Option.bind_some] at h ⊢
    have hlt : g < w.heap.size := by
      rcases Nat.lt_or_ge g w.heap.size with h' | h'
      · exact h'
      · simp [Array.getElem?_eq_none h'] at h
    rw [hb.block g hlt]
    exact h
theorem VarsOk.below {w w' : World} (h : VarsOk w) (hb : Below w.heap.size w w') : VarsOk w' :=
  ⟨h.maxLen.imp fun _ x => cell_keep hb x, h.syn.imp fun _ x => x.imp fun _ y => cell_keep hb y, h.rng.imp fun _ x => x.imp fun _ y => cell_keep hb y, var_keep hb h.tab⟩
end Go.Proofs.YtkhgfdlinobabaaGreatDoor.G
