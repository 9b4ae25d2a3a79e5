/- musterlaw12.queueAlive: the run itself, in stages: the outer functions, the start. -/
import Derived.Test.YtojkkmoflcfglaaGreatDoorChecked
import Derived.Test.YtojkkmoflcfglaaGreatDoorAmStg
import Derived.Test.YtojkkmoflcfglaaGreatDoorGErrs
import Derived.Test.YtojkkmoflcfglaaGreatDoorGIs
import Derived.Test.YtojkkmoflcfglaaGreatDoorRows
import Derived.Test.YtojkkmoflcfglaaGreatDoorOwn
import Derived.KernelRfl
namespace Go.Proofs.YtojkkmoflcfglaaGreatDoor.RunQueueAlive
open Go.RowKit
/-- No names. -/
noncomputable instance dflt : AM.Syms := ⟨fun _ => [], fun _ => 0, fun _ => [[]], fun _ => by simp, fun _ => by simp⟩
/-- The outer functions that the run comes to. -/
noncomputable def exts : List (Nat × AM.Ek) := [(163, .noEscape), (206, .plain Extern.BytealgCount.count), (266, .plain Extern.BytealgIndexByte.indexByte), (164, .bytes 5), (107, .aload none), (254, .aload (some .u32)), (102, .astore), (270, .astore), (124, .acas .i32), (129, .aadd .i32), (123, .note), (125, .note), (126, .noteAt), (128, .noteAt), (9, .errIs 74 438 1), (229, .overlaps), (178, .insert), (75, .touched 2 3 9)]
noncomputable def cfg0 : AM.Cfg := ⟨Tryz.prog, exts, []⟩
theorem few : Tryz.prog.globals.size ≤ 400 := of_decide_eq_true (by kernel_rfl)
theorem named : Tryz.prog.funcs.all (fun fn => !(fn.name == "runtime.NumGoroutine")) = true := by kernel_rfl
noncomputable def texts : List (List UInt8) := [[], [116, 101, 120, 116], [110, 117, 109], [108, 105, 115, 116]]
noncomputable def row2 : AM.O := .row ⟨texts.map AM.V.str, 64, 4, 0, false, true, true⟩
noncomputable def row0 : AM.O := .row ⟨[.iface 438 (.ptr 390 0)], 29, 1, 0, false, true, true⟩
noncomputable def row1 : AM.O := .row ⟨[.iface 438 (.ptr 391 0)], 29, 1, 0, false, true, true⟩
noncomputable def table : AM.T AM.O := ((AM.T.lf.put 2 (some row2)).put 0 (some row0)).put 1 (some row1)
noncomputable def h0 : AM.H := ⟨table, 400⟩
/-- Where the errors' texts lie: nobody looks there. -/
noncomputable def mu (b1 o1 b2 o2 : Nat) : AM.Mu := fun i => if i = 390 then some ⟨b1, o1, o1, 0⟩ else if i = 391 then some ⟨b2, o2, o2, 0⟩ else AM.Mu.of Tryz.prog.globals.size table i
/-- The world as the rows know it. -/
def Facts (w : World) : Prop := ∃ b1 o1 b2 o2, AM.HRel Tryz.prog.globals.size w.heap.size w (mu b1 o1 b2 o2) ⟨table, 400⟩ w
theorem ext163 : AM.ExtOne Tryz.prog Facts 163 (.noEscape) := ⟨Tryz.f163, Tryz.func163, by kernel_rfl, ⟨⟨by kernel_rfl, by kernel_rfl⟩, (show Extern.find Tryz.f163 = some (Extern.AbiNoEscape.same) from by kernel_rfl)⟩⟩
theorem ext206 : AM.ExtOne Tryz.prog Facts 206 (.plain Extern.BytealgCount.count) := ⟨Tryz.f206, Tryz.func206, by kernel_rfl, ⟨⟨by kernel_rfl, by kernel_rfl⟩, (show Extern.find Tryz.f206 = some (Extern.BytealgCount.count) from by kernel_rfl)⟩⟩
theorem ext266 : AM.ExtOne Tryz.prog Facts 266 (.plain Extern.BytealgIndexByte.indexByte) := ⟨Tryz.f266, Tryz.func266, by kernel_rfl, ⟨⟨by kernel_rfl, by kernel_rfl⟩, (show Extern.find Tryz.f266 = some (Extern.BytealgIndexByte.indexByte) from by kernel_rfl)⟩⟩
theorem ext164 : AM.ExtOne Tryz.prog Facts 164 (.bytes 5) := ⟨Tryz.f164, Tryz.func164, by kernel_rfl, ⟨⟨by kernel_rfl, by kernel_rfl⟩, ⟨Tryz.f164.params, 179, by kernel_rfl, by kernel_rfl⟩⟩⟩
theorem ext107 : AM.ExtOne Tryz.prog Facts 107 (.aload none) := ⟨Tryz.f107, Tryz.func107, by kernel_rfl, ⟨⟨by kernel_rfl, by kernel_rfl⟩, (show Extern.find Tryz.f107 = some (Extern.Atomic.loadT .ptr) from by kernel_rfl)⟩⟩
theorem ext254 : AM.ExtOne Tryz.prog Facts 254 (.aload (some .u32)) := ⟨Tryz.f254, Tryz.func254, by kernel_rfl, ⟨⟨by kernel_rfl, by kernel_rfl⟩, (show Extern.find Tryz.f254 = some (Extern.Atomic.loadT (.int .u32)) from by kernel_rfl)⟩⟩
theorem ext102 : AM.ExtOne Tryz.prog Facts 102 (.astore) := ⟨Tryz.f102, Tryz.func102, by kernel_rfl, ⟨⟨by kernel_rfl, by kernel_rfl⟩, (show Extern.find Tryz.f102 = some (Extern.Atomic.storeT) from by kernel_rfl)⟩⟩
theorem ext270 : AM.ExtOne Tryz.prog Facts 270 (.astore) := ⟨Tryz.f270, Tryz.func270, by kernel_rfl, ⟨⟨by kernel_rfl, by kernel_rfl⟩, (show Extern.find Tryz.f270 = some (Extern.Atomic.storeT) from by kernel_rfl)⟩⟩
theorem ext124 : AM.ExtOne Tryz.prog Facts 124 (.acas .i32) := ⟨Tryz.f124, Tryz.func124, by kernel_rfl, ⟨⟨by kernel_rfl, by kernel_rfl⟩, (show Extern.find Tryz.f124 = some (Extern.Atomic.casT (.int .i32)) from by kernel_rfl)⟩⟩
theorem ext129 : AM.ExtOne Tryz.prog Facts 129 (.aadd .i32) := ⟨Tryz.f129, Tryz.func129, by kernel_rfl, ⟨⟨by kernel_rfl, by kernel_rfl⟩, (show Extern.find Tryz.f129 = some (Extern.Atomic.update (Op.intArith .add) .i32 true) from by kernel_rfl)⟩⟩
theorem ext123 : AM.ExtOne Tryz.prog Facts 123 (.note) := ⟨Tryz.f123, Tryz.func123, by kernel_rfl, ⟨⟨by kernel_rfl, by kernel_rfl⟩, ⟨_, (show Extern.find Tryz.f123 = some (fun _ => do mark .disable; pure Extern.Race.none_) from by kernel_rfl), fun _ => rfl⟩⟩⟩
theorem ext125 : AM.ExtOne Tryz.prog Facts 125 (.note) := ⟨Tryz.f125, Tryz.func125, by kernel_rfl, ⟨⟨by kernel_rfl, by kernel_rfl⟩, ⟨_, (show Extern.find Tryz.f125 = some (fun _ => do mark .enable; pure Extern.Race.none_) from by kernel_rfl), fun _ => rfl⟩⟩⟩
theorem ext126 : AM.ExtOne Tryz.prog Facts 126 (.noteAt) := ⟨Tryz.f126, Tryz.func126, by kernel_rfl, ⟨⟨by kernel_rfl, by kernel_rfl⟩, ⟨_, (show Extern.find Tryz.f126 = some (Extern.Race.marked .acquire) from by kernel_rfl), fun _ _ => rfl⟩⟩⟩
theorem ext128 : AM.ExtOne Tryz.prog Facts 128 (.noteAt) := ⟨Tryz.f128, Tryz.func128, by kernel_rfl, ⟨⟨by kernel_rfl, by kernel_rfl⟩, ⟨_, (show Extern.find Tryz.f128 = some (Extern.Race.marked .releaseMerge) from by kernel_rfl), fun _ _ => rfl⟩⟩⟩
theorem ext9 : AM.ExtOne Tryz.prog Facts 9 (.errIs 74 438 1) := ⟨Tryz.f9, Tryz.func9, by kernel_rfl, ⟨Tryz.f9.body.getD .skip, by kernel_rfl, Is.errIs⟩⟩
theorem ext229 : AM.ExtOne Tryz.prog Facts 229 (.overlaps) := ⟨Tryz.f229, Tryz.func229, by kernel_rfl, ⟨⟨by kernel_rfl, by kernel_rfl⟩, Tryz.f229.params, Tryz.f229.resultTypes, 232, 228, 1, by kernel_rfl, by kernel_rfl, by kernel_rfl, by kernel_rfl⟩⟩
theorem ext178 : AM.ExtOne Tryz.prog Facts 178 (.insert) := ⟨Tryz.f178, Tryz.func178, by kernel_rfl, trivial⟩
theorem ext75 : AM.ExtOne Tryz.prog Facts 75 (.touched 2 3 9) := ⟨Tryz.f75, Tryz.func75, by kernel_rfl, ⟨Tryz.f75.body.getD .skip, by kernel_rfl, Tryz.underlying9, fun w b o mb n D0 h1 h2 h3 h4 h5 => Tryz.touched b o mb n D0 _ w h1 h2 h3 h4 h5⟩⟩
theorem externs : ∀ p ∈ exts, AM.ExtOne Tryz.prog Facts p.1 p.2 := fun p hp => by
  simp only [exts, List.mem_cons, List.mem_nil_iff, or_false] at hp
  rcases hp with rfl | rfl | rfl | rfl | rfl | rfl | rfl | rfl | rfl | rfl | rfl | rfl | rfl | rfl | rfl | rfl | rfl | rfl
  · exact ext163
  · exact ext206
  · exact ext266
  · exact ext164
  · exact ext107
  · exact ext254
  · exact ext102
  · exact ext270
  · exact ext124
  · exact ext129
  · exact ext123
  · exact ext125
  · exact ext126
  · exact ext128
  · exact ext9
  · exact ext229
  · exact ext178
  · exact ext75
/-- What the listed errors give of the world. -/
def Errs (w : World) (b1 o1 b2 o2 : Nat) : Prop := (∃ cb tb, w.heap[0]? = some (.cells #[.iface 438 (.pointer (some ⟨b1, o1, none⟩))] 29 (0, 0)) ∧ w.cell? ⟨b1, o1, none⟩ = some (.string ⟨([102, 117, 108, 108] : List UInt8).toArray⟩) ∧ w.heap[b1]? = some (.cells cb tb (0, 0))) ∧
  ∃ cb tb, w.heap[1]? = some (.cells #[.iface 438 (.pointer (some ⟨b2, o2, none⟩))] 29 (0, 0)) ∧ w.cell? ⟨b2, o2, none⟩ = some (.string ⟨([99, 108, 111, 115, 101, 100] : List UInt8).toArray⟩) ∧ w.heap[b2]? = some (.cells cb tb (0, 0))
theorem star : "*" ++ "errors.errorString" = "*errors.errorString" := by decide
theorem oneRow (u : TypeId) (h : Tryz.prog.typeName? 3 u = some "*errors.errorString") : u = 438 := typeName_ptr_named (nm := "errors.errorString") (by rw [star]; kernel_rfl) (by kernel_rfl) (by decide) u (by rw [star]; exact h)
theorem err0 {W : World} (h : laidMetH Tryz.prog Rows.queueFullRow.laid W) (hsh : W.ShapedOpen Tryz.prog) : ∃ b o cb tb, W.heap[0]? = some (.cells #[.iface 438 (.pointer (some ⟨b, o, none⟩))] 29 (0, 0)) ∧ W.cell? ⟨b, o, none⟩ = some (.string ⟨([102, 117, 108, 108] : List UInt8).toArray⟩) ∧ W.heap[b]? = some (.cells cb tb (0, 0)) :=
  AM.err_laid (P := Tryz.prog) (name := "muster/api.ErrFull") (rest := []) (zero := #[.nilIface]) (by kernel_rfl) (by kernel_rfl) Tryz.underlying29 oneRow Tryz.underlying438 Tryz.underlying440 rfl Tryz.underlying9 (by kernel_rfl) (by kernel_rfl) (of_decide_eq_true (by kernel_rfl)) (by kernel_rfl)
    (laidMetH.filter (fun x => x.1 == "muster/api.ErrFull") h) hsh
theorem err1 {W : World} (h : laidMetH Tryz.prog Rows.queueFullRow.laid W) (hsh : W.ShapedOpen Tryz.prog) : ∃ b o cb tb, W.heap[1]? = some (.cells #[.iface 438 (.pointer (some ⟨b, o, none⟩))] 29 (0, 0)) ∧ W.cell? ⟨b, o, none⟩ = some (.string ⟨([99, 108, 111, 115, 101, 100] : List UInt8).toArray⟩) ∧ W.heap[b]? = some (.cells cb tb (0, 0)) :=
  AM.err_laid (P := Tryz.prog) (name := "muster/api.ErrClosed") (rest := []) (zero := #[.nilIface]) (by kernel_rfl) (by kernel_rfl) Tryz.underlying29 oneRow Tryz.underlying438 Tryz.underlying440 rfl Tryz.underlying9 (by kernel_rfl) (by kernel_rfl) (of_decide_eq_true (by kernel_rfl)) (by kernel_rfl)
    (laidMetH.filter (fun x => x.1 == "muster/api.ErrClosed") h) hsh
theorem texts_in {W : World} (m : AM.Mu) (h : laidMetH Tryz.prog Rows.queueFullRow.laid W) (hsh : W.ShapedOpen Tryz.prog) : 2 < W.heap.size ∧ AM.ORel m W ⟨2, 0, 4, 4⟩ row2 :=
  AM.texts_row (P := Tryz.prog) (name := "muster/schema.kinds") (zs := texts) (rest := []) (g := 2) (t := 64) (e := 9) (n := 4) (zero := #[.string ⟨#[]⟩, .string ⟨#[]⟩, .string ⟨#[]⟩, .string ⟨#[]⟩]) (by kernel_rfl) (by kernel_rfl) (by kernel_rfl) (by kernel_rfl) (by kernel_rfl) (by kernel_rfl)
    (of_decide_eq_true (by kernel_rfl)) (by kernel_rfl) rfl rfl (laidMetH.filter (fun x => x.1 == "muster/schema.kinds") h) hsh
theorem rel {W : World} (h : laidMetH Tryz.prog Rows.queueFullRow.laid W) (hsh : W.ShapedOpen Tryz.prog) : ∃ b1 o1 b2 o2, Errs W b1 o1 b2 o2 ∧ Facts W := by
  obtain ⟨b1, o1, c1, t1, p1, p2, p3⟩ := err0 h hsh
  obtain ⟨b2, o2, c2, t2, q1, q2, q3⟩ := err1 h hsh
  refine ⟨b1, o1, b2, o2, ⟨⟨c1, t1, p1, p2, p3⟩, c2, t2, q1, q2, q3⟩, b1, o1, b2, o2, AM.of_rel' W (fun g hg => ?_) (fun id hid => ?_) (fun g o hg => ?_)⟩
  · have hs : Tryz.prog.globals.size ≤ 390 := of_decide_eq_true (by kernel_rfl)
    have h1 : g ≠ 390 := by omega
    have h2 : g ≠ 391 := by omega
    simp only [mu]; rw [if_neg h1, if_neg h2]
  · have hs : Tryz.prog.globals.size ≤ 390 := of_decide_eq_true (by kernel_rfl)
    have h1 : id ≠ 390 := by omega
    have h2 : id ≠ 391 := by omega
    simp only [mu]; rw [if_neg h1, if_neg h2]; simp only [AM.Mu.of]; rw [if_neg (by omega)]
  · have m1 : mu b1 o1 b2 o2 390 = some ⟨b1, o1, o1, 0⟩ := by simp [mu]
    have m2 : mu b1 o1 b2 o2 391 = some ⟨b2, o2, o2, 0⟩ := by simp [mu]
    by_cases e1 : g = 1
    · subst e1
      rw [show table.get 1 = some row1 from AM.T.put_get _ _ _] at hg
      injection hg with hg; subst hg
      exact ⟨_, rfl, of_decide_eq_true (by kernel_rfl), (AM.err_row m2 q1).1, rfl, (AM.err_row m2 q1).2⟩
    rw [show table.get g = _ from AM.T.put_get_other _ _ _ _ (Ne.symm e1)] at hg
    by_cases e0 : g = 0
    · subst e0
      rw [AM.T.put_get] at hg
      injection hg with hg; subst hg
      exact ⟨_, rfl, of_decide_eq_true (by kernel_rfl), (AM.err_row m1 p1).1, rfl, (AM.err_row m1 p1).2⟩
    rw [AM.T.put_get_other _ _ _ _ (Ne.symm e0)] at hg
    by_cases e2 : g = 2
    · subst e2
      rw [AM.T.put_get] at hg
      injection hg with hg; subst hg
      exact ⟨_, rfl, of_decide_eq_true (by kernel_rfl), (texts_in (mu b1 o1 b2 o2) h hsh).1, rfl, (texts_in (mu b1 o1 b2 o2) h hsh).2⟩
    rw [AM.T.put_get_other _ _ _ _ (Ne.symm e2)] at hg
    cases hg
end Go.Proofs.YtojkkmoflcfglaaGreatDoor.RunQueueAlive
