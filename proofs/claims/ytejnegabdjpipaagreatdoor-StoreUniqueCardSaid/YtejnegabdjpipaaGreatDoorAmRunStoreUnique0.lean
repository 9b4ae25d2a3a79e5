/- StoreUnique: the run itself: the outer functions, the start, the names. -/
import Derived.Test.YtejnegabdjpipaaGreatDoorChecked
import Derived.Test.YtejnegabdjpipaaGreatDoorAmStg
import Derived.Test.YtejnegabdjpipaaGreatDoorGTexts
import Derived.Test.YtejnegabdjpipaaGreatDoorGEnc
import Derived.Test.YtejnegabdjpipaaGreatDoorRows
import Derived.Test.YtejnegabdjpipaaGreatDoorOwn
import Derived.KernelRfl
namespace Go.Proofs.YtejnegabdjpipaaGreatDoor.RunStoreUnique
open Go.RowKit
/-- What is written of a text tells it from every other one. -/
theorem tail_pfx : ∀ a b : List UInt8, AM.tailText a <+: AM.tailText b → a = b
  | [], [], _ => rfl
  | [], y :: b, h => by
    exfalso
    have h : [0, 1] <+: (if y = 0 then 0 :: 255 :: AM.escText b else y :: AM.escText b) ++ [0, 1] := h
    split at h
    · rw [List.cons_append, List.cons_append, List.cons_prefix_cons, List.cons_prefix_cons] at h
      exact absurd h.2.1 (by decide)
    · rename_i hy
      rw [List.cons_append, List.cons_prefix_cons] at h
      exact hy h.1.symm
  | x :: a, [], h => by
    exfalso
    have h : (if x = 0 then 0 :: 255 :: AM.escText a else x :: AM.escText a) ++ [0, 1] <+: [0, 1] := h
    split at h
    · rw [List.cons_append, List.cons_append, List.cons_prefix_cons, List.cons_prefix_cons] at h
      exact absurd h.2.1 (by decide)
    · rename_i hx
      rw [List.cons_append, List.cons_prefix_cons] at h
      exact hx h.1
  | x :: a, y :: b, h => by
    have h : (if x = 0 then 0 :: 255 :: AM.escText a else x :: AM.escText a) ++ [0, 1] <+: (if y = 0 then 0 :: 255 :: AM.escText b else y :: AM.escText b) ++ [0, 1] := h
    by_cases hx : x = 0
    · by_cases hy : y = 0
      · rw [if_pos hx, if_pos hy, List.cons_append, List.cons_append, List.cons_append, List.cons_append, List.cons_prefix_cons, List.cons_prefix_cons] at h
        rw [hx, hy, tail_pfx a b h.2.2]
      · rw [if_pos hx, if_neg hy, List.cons_append, List.cons_append, List.cons_append, List.cons_prefix_cons] at h
        exact absurd h.1.symm hy
    · by_cases hy : y = 0
      · rw [if_neg hx, if_pos hy, List.cons_append, List.cons_append, List.cons_append, List.cons_prefix_cons] at h
        exact absurd h.1 hx
      · rw [if_neg hx, if_neg hy, List.cons_append, List.cons_append, List.cons_prefix_cons] at h
        rw [h.1, tail_pfx a b h.2]
theorem tail_tri {a b : List UInt8} (h : a ≠ b) : AM.tailText a < AM.tailText b ∨ AM.tailText b < AM.tailText a := by
  by_cases h1 : AM.tailText a < AM.tailText b
  · exact .inl h1
  · by_cases h2 : AM.tailText b < AM.tailText a
    · exact .inr h2
    · have e : AM.tailText a = AM.tailText b := List.le_antisymm h2 h1
      exact absurd (tail_pfx a b (by rw [e]; exact List.prefix_rfl)) h
/-- What the names stand for. -/
def txs (p q a b : List UInt8) (n : Int) (k : Nat) : List UInt8 :=
  cond (Nat.beq k 1) p (cond (Nat.beq k 2) q (cond (Nat.beq k 998) a (cond (Nat.beq k 999) b (cond (Nat.beq k 1000) (AM.tailText a) (cond (Nat.beq k 1001) (AM.tailText b) (cond (Nat.beq k 1002) (AM.tailNum n) []))))))
def nms (p q a b : List UInt8) (n : Int) (k : Nat) : Int := cond (Nat.blt k 2000) n ((txs p q a b n (k - 2000)).length : Int)
abbrev mkS (p q a b : List UInt8) (n : Int) (h : a ≠ b) (hl : AM.tailText a < AM.tailText b) : AM.Syms where
  tx := txs p q a b n
  nm := nms p q a b n
  ls := fun _ => [[]]
  ne := fun _ => by simp
  few := fun _ => by simp
  ln := fun k => by
    show cond (Nat.blt (2000 + k) 2000) n ((txs p q a b n (2000 + k - 2000)).length : Int) = _
    rw [show Nat.blt (2000 + k) 2000 = false from by rw [Bool.eq_false_iff]; intro h; have := Nat.le_of_ble_eq_true h; omega, Nat.add_sub_cancel_left]
    rfl
  df := h
  pf := ⟨fun e => h (tail_pfx a b e), fun e => h (tail_pfx b a e).symm⟩
  lt := hl
  en := ⟨rfl, rfl, rfl⟩
/-- Some names. -/
noncomputable instance dflt : AM.Syms := mkS [] [] [1] [2] 0 (by decide) (by decide)
/-- The outer functions that the run comes to. -/
noncomputable def exts : List (Nat × AM.Ek) := [(219, .noEscape), (164, .plain Extern.BytealgCount.count), (211, .plain Extern.BytealgIndexByte.indexByte), (95, .aload none), (208, .aload (some .u32)), (92, .astore), (217, .astore), (137, .acas .i32), (157, .aadd .i32), (135, .note), (136, .note), (138, .noteAt), (156, .noteAt), (188, .overlaps), (150, .insert), (73, .touched 2 3 9), (19, .fired 3)]
noncomputable def cfg0 : AM.Cfg := ⟨Tryz.prog, exts, []⟩
theorem few : Tryz.prog.globals.size ≤ 400 := of_decide_eq_true (by kernel_rfl)
theorem named : Tryz.prog.funcs.all (fun fn => !(fn.name == "runtime.NumGoroutine")) = true := by kernel_rfl
noncomputable def texts : List (List UInt8) := [[], [116, 101, 120, 116], [110, 117, 109], [108, 105, 115, 116]]
noncomputable def table : AM.T AM.O := AM.textsT 0 181 4 texts
noncomputable def h0 : AM.H := ⟨table, 400⟩
/-- The world as the rows know it. -/
def Facts (w : World) : Prop := AM.HRel Tryz.prog.globals.size w.heap.size w (AM.Mu.of Tryz.prog.globals.size table) ⟨table, 400⟩ w
theorem ext219 : AM.ExtOne Tryz.prog Facts 219 (.noEscape) := ⟨Tryz.f219, Tryz.func219, by kernel_rfl, ⟨⟨by kernel_rfl, by kernel_rfl⟩, (show Extern.find Tryz.f219 = some (Extern.AbiNoEscape.same) from by kernel_rfl)⟩⟩
theorem ext164 : AM.ExtOne Tryz.prog Facts 164 (.plain Extern.BytealgCount.count) := ⟨Tryz.f164, Tryz.func164, by kernel_rfl, ⟨⟨by kernel_rfl, by kernel_rfl⟩, (show Extern.find Tryz.f164 = some (Extern.BytealgCount.count) from by kernel_rfl)⟩⟩
theorem ext211 : AM.ExtOne Tryz.prog Facts 211 (.plain Extern.BytealgIndexByte.indexByte) := ⟨Tryz.f211, Tryz.func211, by kernel_rfl, ⟨⟨by kernel_rfl, by kernel_rfl⟩, (show Extern.find Tryz.f211 = some (Extern.BytealgIndexByte.indexByte) from by kernel_rfl)⟩⟩
theorem ext95 : AM.ExtOne Tryz.prog Facts 95 (.aload none) := ⟨Tryz.f95, Tryz.func95, by kernel_rfl, ⟨⟨by kernel_rfl, by kernel_rfl⟩, (show Extern.find Tryz.f95 = some (Extern.Atomic.loadT .ptr) from by kernel_rfl)⟩⟩
theorem ext208 : AM.ExtOne Tryz.prog Facts 208 (.aload (some .u32)) := ⟨Tryz.f208, Tryz.func208, by kernel_rfl, ⟨⟨by kernel_rfl, by kernel_rfl⟩, (show Extern.find Tryz.f208 = some (Extern.Atomic.loadT (.int .u32)) from by kernel_rfl)⟩⟩
theorem ext92 : AM.ExtOne Tryz.prog Facts 92 (.astore) := ⟨Tryz.f92, Tryz.func92, by kernel_rfl, ⟨⟨by kernel_rfl, by kernel_rfl⟩, (show Extern.find Tryz.f92 = some (Extern.Atomic.storeT) from by kernel_rfl)⟩⟩
theorem ext217 : AM.ExtOne Tryz.prog Facts 217 (.astore) := ⟨Tryz.f217, Tryz.func217, by kernel_rfl, ⟨⟨by kernel_rfl, by kernel_rfl⟩, (show Extern.find Tryz.f217 = some (Extern.Atomic.storeT) from by kernel_rfl)⟩⟩
theorem ext137 : AM.ExtOne Tryz.prog Facts 137 (.acas .i32) := ⟨Tryz.f137, Tryz.func137, by kernel_rfl, ⟨⟨by kernel_rfl, by kernel_rfl⟩, (show Extern.find Tryz.f137 = some (Extern.Atomic.casT (.int .i32)) from by kernel_rfl)⟩⟩
theorem ext157 : AM.ExtOne Tryz.prog Facts 157 (.aadd .i32) := ⟨Tryz.f157, Tryz.func157, by kernel_rfl, ⟨⟨by kernel_rfl, by kernel_rfl⟩, (show Extern.find Tryz.f157 = some (Extern.Atomic.update (Op.intArith .add) .i32 true) from by kernel_rfl)⟩⟩
theorem ext135 : AM.ExtOne Tryz.prog Facts 135 (.note) := ⟨Tryz.f135, Tryz.func135, by kernel_rfl, ⟨⟨by kernel_rfl, by kernel_rfl⟩, ⟨_, (show Extern.find Tryz.f135 = some (fun _ => do mark .disable; pure Extern.Race.none_) from by kernel_rfl), fun _ => rfl⟩⟩⟩
theorem ext136 : AM.ExtOne Tryz.prog Facts 136 (.note) := ⟨Tryz.f136, Tryz.func136, by kernel_rfl, ⟨⟨by kernel_rfl, by kernel_rfl⟩, ⟨_, (show Extern.find Tryz.f136 = some (fun _ => do mark .enable; pure Extern.Race.none_) from by kernel_rfl), fun _ => rfl⟩⟩⟩
theorem ext138 : AM.ExtOne Tryz.prog Facts 138 (.noteAt) := ⟨Tryz.f138, Tryz.func138, by kernel_rfl, ⟨⟨by kernel_rfl, by kernel_rfl⟩, ⟨_, (show Extern.find Tryz.f138 = some (Extern.Race.marked .acquire) from by kernel_rfl), fun _ _ => rfl⟩⟩⟩
theorem ext156 : AM.ExtOne Tryz.prog Facts 156 (.noteAt) := ⟨Tryz.f156, Tryz.func156, by kernel_rfl, ⟨⟨by kernel_rfl, by kernel_rfl⟩, ⟨_, (show Extern.find Tryz.f156 = some (Extern.Race.marked .releaseMerge) from by kernel_rfl), fun _ _ => rfl⟩⟩⟩
theorem ext188 : AM.ExtOne Tryz.prog Facts 188 (.overlaps) := ⟨Tryz.f188, Tryz.func188, by kernel_rfl, ⟨⟨by kernel_rfl, by kernel_rfl⟩, Tryz.f188.params, Tryz.f188.resultTypes, 164, 162, 1, by kernel_rfl, by kernel_rfl, by kernel_rfl, by kernel_rfl⟩⟩
theorem ext150 : AM.ExtOne Tryz.prog Facts 150 (.insert) := ⟨Tryz.f150, Tryz.func150, by kernel_rfl, trivial⟩
theorem ext73 : AM.ExtOne Tryz.prog Facts 73 (.touched 2 3 9) := ⟨Tryz.f73, Tryz.func73, by kernel_rfl, ⟨Tryz.f73.body.getD .skip, by kernel_rfl, Tryz.underlying9, fun w b o mb n D0 h1 h2 h3 h4 h5 => Tryz.touched b o mb n D0 _ w h1 h2 h3 h4 h5⟩⟩
theorem ext19 : AM.ExtOne Tryz.prog Facts 19 (.fired 3) := ⟨Tryz.f19, Tryz.func19, by kernel_rfl, ⟨Tryz.f19.body.getD .skip, by kernel_rfl, fun w b o cb cl h1 h2 => Tryz.fired w b o cb cl h1 h2⟩⟩
theorem ext98 : AM.ExtOne Tryz.prog Facts 98 (.encode) := ⟨Tryz.f98, Tryz.func98, by kernel_rfl, ⟨Tryz.f98.body.getD .skip, by kernel_rfl, Tryz.enc_text, Tryz.enc_num⟩⟩
theorem ext71 : AM.ExtOne Tryz.prog Facts 71 (.hasPfx) := ⟨Tryz.f71, Tryz.func71, by kernel_rfl, ⟨Tryz.f71.body.getD .skip, by kernel_rfl, Tryz.pfx⟩⟩
theorem ext103 : AM.ExtOne Tryz.prog Facts 103 (.clone) := ⟨Tryz.f103, Tryz.func103, by kernel_rfl, ⟨Tryz.f103.body.getD .skip, by kernel_rfl, Tryz.clone⟩⟩
theorem externs : ∀ p ∈ exts, AM.ExtOne Tryz.prog Facts p.1 p.2 := fun p hp => by
  simp only [exts, List.mem_cons, List.mem_nil_iff, or_false] at hp
  rcases hp with rfl | rfl | rfl | rfl | rfl | rfl | rfl | rfl | rfl | rfl | rfl | rfl | rfl | rfl | rfl | rfl | rfl
  · exact ext219
  · exact ext164
  · exact ext211
  · exact ext95
  · exact ext208
  · exact ext92
  · exact ext217
  · exact ext137
  · exact ext157
  · exact ext135
  · exact ext136
  · exact ext138
  · exact ext156
  · exact ext188
  · exact ext150
  · exact ext73
  · exact ext19
theorem rel {W : World} (h : laidMetH Tryz.prog Rows.storeUniqueRow.laid W) (hsh : W.ShapedOpen Tryz.prog) : Facts W :=
  AM.texts_rel (P := Tryz.prog) (name := "muster/schema.kinds") (zs := texts) (rest := []) (g := 0) (t := 181) (e := 9) (n := 4) (zero := #[.string ⟨#[]⟩, .string ⟨#[]⟩, .string ⟨#[]⟩, .string ⟨#[]⟩]) few (by kernel_rfl) (by kernel_rfl) (by kernel_rfl) (by kernel_rfl) (by kernel_rfl) (by kernel_rfl)
    (of_decide_eq_true (by kernel_rfl)) (by kernel_rfl) rfl rfl (laidMetH.filter (fun x => x.1 == "muster/schema.kinds") h) hsh
end Go.Proofs.YtejnegabdjpipaaGreatDoor.RunStoreUnique
