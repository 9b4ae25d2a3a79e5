/- musterlaw12.queueAlive: the run itself, in stages: the outer functions, the start. -/
import Derived.Test.YtidbebeefkinaaaGreatDoorChecked
import Derived.Test.YtidbebeefkinaaaGreatDoorAmTop
import Derived.Test.YtidbebeefkinaaaGreatDoorGErrs
import Derived.Test.YtidbebeefkinaaaGreatDoorRows
import Derived.Test.YtidbebeefkinaaaGreatDoorOwn
import Derived.KernelRfl
namespace Go.Proofs.YtidbebeefkinaaaGreatDoor.RunQueueAlive
open Go.RowKit
/-- The outer functions that the run comes to. -/
noncomputable def exts : List (Nat × AM.Ek) := [(153, .noEscape), (200, .plain Extern.BytealgCount.count), (306, .plain Extern.BytealgIndexByte.indexByte), (203, .bytes 5), (228, .aload none), (327, .aload (some .u32)), (225, .astore), (330, .astore), (247, .acas .i32), (252, .aadd .i32), (246, .note), (248, .note), (249, .noteAt), (251, .noteAt), (320, .overlaps), (287, .insert), (176, .touched 2 3 9)]
noncomputable def cfg0 : AM.Cfg := ⟨Tryz.prog, exts, []⟩
theorem few : Tryz.prog.globals.size ≤ 400 := of_decide_eq_true (by kernel_rfl)
theorem named : Tryz.prog.funcs.all (fun fn => !(fn.name == "runtime.NumGoroutine")) = true := by kernel_rfl
noncomputable def texts : List (List UInt8) := [[], [116, 101, 120, 116], [110, 117, 109], [108, 105, 115, 116]]
noncomputable def row2 : AM.O := .row ⟨texts.map AM.V.str, 86, 4, 0, false, true, true⟩
noncomputable def row0 : AM.O := .row ⟨[.iface 432 (.ptr 390 0)], 59, 1, 0, false, true, true⟩
noncomputable def row1 : AM.O := .row ⟨[.iface 432 (.ptr 391 0)], 59, 1, 0, false, true, true⟩
noncomputable def table : AM.T AM.O := ((AM.T.lf.put 2 (some row2)).put 0 (some row0)).put 1 (some row1)
noncomputable def h0 : AM.H := ⟨table, 400⟩
/-- Where the errors' texts lie: nobody looks there. -/
noncomputable def mu (b1 o1 b2 o2 : Nat) : AM.Mu := fun i => if i = 390 then some ⟨b1, o1, o1, 0⟩ else if i = 391 then some ⟨b2, o2, o2, 0⟩ else AM.Mu.of Tryz.prog.globals.size table i
/-- The world as the rows know it. -/
def Facts (w : World) : Prop := ∃ b1 o1 b2 o2, AM.HRel Tryz.prog.globals.size w.heap.size w (mu b1 o1 b2 o2) ⟨table, 400⟩ w
theorem ext153 : AM.ExtOne Tryz.prog Facts 153 (.noEscape) := ⟨Tryz.f153, Tryz.func153, by kernel_rfl, ⟨⟨by kernel_rfl, by kernel_rfl⟩, (show Extern.find Tryz.f153 = some (Extern.AbiNoEscape.same) from by kernel_rfl)⟩⟩
theorem ext200 : AM.ExtOne Tryz.prog Facts 200 (.plain Extern.BytealgCount.count) := ⟨Tryz.f200, Tryz.func200, by kernel_rfl, ⟨⟨by kernel_rfl, by kernel_rfl⟩, (show Extern.find Tryz.f200 = some (Extern.BytealgCount.count) from by kernel_rfl)⟩⟩
theorem ext306 : AM.ExtOne Tryz.prog Facts 306 (.plain Extern.BytealgIndexByte.indexByte) := ⟨Tryz.f306, Tryz.func306, by kernel_rfl, ⟨⟨by kernel_rfl, by kernel_rfl⟩, (show Extern.find Tryz.f306 = some (Extern.BytealgIndexByte.indexByte) from by kernel_rfl)⟩⟩
theorem ext203 : AM.ExtOne Tryz.prog Facts 203 (.bytes 5) := ⟨Tryz.f203, Tryz.func203, by kernel_rfl, ⟨⟨by kernel_rfl, by kernel_rfl⟩, ⟨Tryz.f203.params, 79, by kernel_rfl, by kernel_rfl⟩⟩⟩
theorem ext228 : AM.ExtOne Tryz.prog Facts 228 (.aload none) := ⟨Tryz.f228, Tryz.func228, by kernel_rfl, ⟨⟨by kernel_rfl, by kernel_rfl⟩, (show Extern.find Tryz.f228 = some (Extern.Atomic.loadT .ptr) from by kernel_rfl)⟩⟩
theorem ext327 : AM.ExtOne Tryz.prog Facts 327 (.aload (some .u32)) := ⟨Tryz.f327, Tryz.func327, by kernel_rfl, ⟨⟨by kernel_rfl, by kernel_rfl⟩, (show Extern.find Tryz.f327 = some (Extern.Atomic.loadT (.int .u32)) from by kernel_rfl)⟩⟩
theorem ext225 : AM.ExtOne Tryz.prog Facts 225 (.astore) := ⟨Tryz.f225, Tryz.func225, by kernel_rfl, ⟨⟨by kernel_rfl, by kernel_rfl⟩, (show Extern.find Tryz.f225 = some (Extern.Atomic.storeT) from by kernel_rfl)⟩⟩
theorem ext330 : AM.ExtOne Tryz.prog Facts 330 (.astore) := ⟨Tryz.f330, Tryz.func330, by kernel_rfl, ⟨⟨by kernel_rfl, by kernel_rfl⟩, (show Extern.find Tryz.f330 = some (Extern.Atomic.storeT) from by kernel_rfl)⟩⟩
theorem ext247 : AM.ExtOne Tryz.prog Facts 247 (.acas .i32) := ⟨Tryz.f247, Tryz.func247, by kernel_rfl, ⟨⟨by kernel_rfl, by kernel_rfl⟩, (show Extern.find Tryz.f247 = some (Extern.Atomic.casT (.int .i32)) from by kernel_rfl)⟩⟩
theorem ext252 : AM.ExtOne Tryz.prog Facts 252 (.aadd .i32) := ⟨Tryz.f252, Tryz.func252, by kernel_rfl, ⟨⟨by kernel_rfl, by kernel_rfl⟩, (show Extern.find Tryz.f252 = some (Extern.Atomic.update (Op.intArith .add) .i32 true) from by kernel_rfl)⟩⟩
theorem ext246 : AM.ExtOne Tryz.prog Facts 246 (.note) := ⟨Tryz.f246, Tryz.func246, by kernel_rfl, ⟨⟨by kernel_rfl, by kernel_rfl⟩, ⟨_, (show Extern.find Tryz.f246 = some (fun _ => do mark .disable; pure Extern.Race.none_) from by kernel_rfl), fun _ => rfl⟩⟩⟩
theorem ext248 : AM.ExtOne Tryz.prog Facts 248 (.note) := ⟨Tryz.f248, Tryz.func248, by kernel_rfl, ⟨⟨by kernel_rfl, by kernel_rfl⟩, ⟨_, (show Extern.find Tryz.f248 = some (fun _ => do mark .enable; pure Extern.Race.none_) from by kernel_rfl), fun _ => rfl⟩⟩⟩
theorem ext249 : AM.ExtOne Tryz.prog Facts 249 (.noteAt) := ⟨Tryz.f249, Tryz.func249, by kernel_rfl, ⟨⟨by kernel_rfl, by kernel_rfl⟩, ⟨_, (show Extern.find Tryz.f249 = some (Extern.Race.marked .acquire) from by kernel_rfl), fun _ _ => rfl⟩⟩⟩
theorem ext251 : AM.ExtOne Tryz.prog Facts 251 (.noteAt) := ⟨Tryz.f251, Tryz.func251, by kernel_rfl, ⟨⟨by kernel_rfl, by kernel_rfl⟩, ⟨_, (show Extern.find Tryz.f251 = some (Extern.Race.marked .releaseMerge) from by kernel_rfl), fun _ _ => rfl⟩⟩⟩
theorem ext320 : AM.ExtOne Tryz.prog Facts 320 (.overlaps) := ⟨Tryz.f320, Tryz.func320, by kernel_rfl, ⟨⟨by kernel_rfl, by kernel_rfl⟩, Tryz.f320.params, Tryz.f320.resultTypes, 319, 317, 1, by kernel_rfl, by kernel_rfl, by kernel_rfl, by kernel_rfl⟩⟩
theorem ext287 : AM.ExtOne Tryz.prog Facts 287 (.insert) := ⟨Tryz.f287, Tryz.func287, by kernel_rfl, trivial⟩
theorem ext176 : AM.ExtOne Tryz.prog Facts 176 (.touched 2 3 9) := ⟨Tryz.f176, Tryz.func176, by kernel_rfl, ⟨Tryz.f176.body.getD .skip, by kernel_rfl, Tryz.underlying9, fun w b o mb n D0 h1 h2 h3 h4 h5 => Tryz.touched b o mb n D0 _ w h1 h2 h3 h4 h5⟩⟩
theorem externs : ∀ p ∈ exts, AM.ExtOne Tryz.prog Facts p.1 p.2 := fun p hp => by
  simp only [exts, List.mem_cons, List.mem_nil_iff, or_false] at hp
  rcases hp with rfl | rfl | rfl | rfl | rfl | rfl | rfl | rfl | rfl | rfl | rfl | rfl | rfl | rfl | rfl | rfl | rfl
  · exact ext153
  · exact ext200
  · exact ext306
  · exact ext203
  · exact ext228
  · exact ext327
  · exact ext225
  · exact ext330
  · exact ext247
  · exact ext252
  · exact ext246
  · exact ext248
  · exact ext249
  · exact ext251
  · exact ext320
  · exact ext287
  · exact ext176
/-- What the listed errors give of the world. -/
def Errs (w : World) (b1 o1 b2 o2 : Nat) : Prop := (∃ cb tb, w.heap[0]? = some (.cells #[.iface 432 (.pointer (some ⟨b1, o1, none⟩))] 59 (0, 0)) ∧ w.cell? ⟨b1, o1, none⟩ = some (.string ⟨([102, 117, 108, 108] : List UInt8).toArray⟩) ∧ w.heap[b1]? = some (.cells cb tb (0, 0))) ∧
  ∃ cb tb, w.heap[1]? = some (.cells #[.iface 432 (.pointer (some ⟨b2, o2, none⟩))] 59 (0, 0)) ∧ w.cell? ⟨b2, o2, none⟩ = some (.string ⟨([99, 108, 111, 115, 101, 100] : List UInt8).toArray⟩) ∧ w.heap[b2]? = some (.cells cb tb (0, 0))
theorem star : "*" ++ "errors.errorString" = "*errors.errorString" := by decide
theorem oneRow (u : TypeId) (h : Tryz.prog.typeName? 3 u = some "*errors.errorString") : u = 432 := typeName_ptr_named (nm := "errors.errorString") (by rw [star]; kernel_rfl) (by kernel_rfl) (by decide) u (by rw [star]; exact h)
theorem err0 {W : World} (h : laidMetH Tryz.prog Rows.queueNamesRow.laid W) (hsh : W.ShapedOpen Tryz.prog) : ∃ b o cb tb, W.heap[0]? = some (.cells #[.iface 432 (.pointer (some ⟨b, o, none⟩))] 59 (0, 0)) ∧ W.cell? ⟨b, o, none⟩ = some (.string ⟨([102, 117, 108, 108] : List UInt8).toArray⟩) ∧ W.heap[b]? = some (.cells cb tb (0, 0)) :=
  AM.err_laid (P := Tryz.prog) (name := "muster/api.ErrFull") (rest := []) (zero := #[.nilIface]) (by kernel_rfl) (by kernel_rfl) Tryz.underlying59 oneRow Tryz.underlying432 Tryz.underlying434 rfl Tryz.underlying9 (by kernel_rfl) (by kernel_rfl) (of_decide_eq_true (by kernel_rfl)) (by kernel_rfl)
    (laidMetH.filter (fun x => x.1 == "muster/api.ErrFull") h) hsh
theorem err1 {W : World} (h : laidMetH Tryz.prog Rows.queueNamesRow.laid W) (hsh : W.ShapedOpen Tryz.prog) : ∃ b o cb tb, W.heap[1]? = some (.cells #[.iface 432 (.pointer (some ⟨b, o, none⟩))] 59 (0, 0)) ∧ W.cell? ⟨b, o, none⟩ = some (.string ⟨([99, 108, 111, 115, 101, 100] : List UInt8).toArray⟩) ∧ W.heap[b]? = some (.cells cb tb (0, 0)) :=
  AM.err_laid (P := Tryz.prog) (name := "muster/api.ErrClosed") (rest := []) (zero := #[.nilIface]) (by kernel_rfl) (by kernel_rfl) Tryz.underlying59 oneRow Tryz.underlying432 Tryz.underlying434 rfl Tryz.underlying9 (by kernel_rfl) (by kernel_rfl) (of_decide_eq_true (by kernel_rfl)) (by kernel_rfl)
    (laidMetH.filter (fun x => x.1 == "muster/api.ErrClosed") h) hsh
theorem texts_in {W : World} (m : AM.Mu) (h : laidMetH Tryz.prog Rows.queueNamesRow.laid W) (hsh : W.ShapedOpen Tryz.prog) : 2 < W.heap.size ∧ AM.ORel m W ⟨2, 0, 4, 4⟩ row2 :=
  AM.texts_row (P := Tryz.prog) (name := "muster/schema.kinds") (zs := texts) (rest := []) (g := 2) (t := 86) (e := 9) (n := 4) (zero := #[.string ⟨#[]⟩, .string ⟨#[]⟩, .string ⟨#[]⟩, .string ⟨#[]⟩]) (by kernel_rfl) (by kernel_rfl) (by kernel_rfl) (by kernel_rfl) (by kernel_rfl) (by kernel_rfl)
    (of_decide_eq_true (by kernel_rfl)) (by kernel_rfl) rfl rfl (laidMetH.filter (fun x => x.1 == "muster/schema.kinds") h) hsh
theorem rel {W : World} (h : laidMetH Tryz.prog Rows.queueNamesRow.laid W) (hsh : W.ShapedOpen Tryz.prog) : ∃ b1 o1 b2 o2, Errs W b1 o1 b2 o2 ∧ Facts W := by
  obtain ⟨b1, o1, c1, t1, p1, p2, p3⟩ := err0 h hsh
  obtain ⟨b2, o2, c2, t2, q1, q2, q3⟩ := err1 h hsh
  refine ⟨b1, o1, b2, o2, ⟨⟨c1, t1, p1, p2, p3⟩, c2, t2, q1, q2, q3⟩, b1, o1, b2, o2, AM.of_rel' W (fun g hg => ?_) (fun id hid => ?_) (fun g o hg => ?_)⟩
  · have hs : Tryz.prog.globals.size ≤ 390 := of_decide_eq_true (by kernel_rfl)
    have h1 : g ≠ 390 := by omega
    have h2 : g ≠ 391 := by omega
    simp only [mu]; rw [if_neg h1, if_neg h2]
  · have hs : Tryz.prog.globals.size ≤ 390 := of_decide_eq_true (by kernel_rfl)
    have h1 : id ≠ 390 := by omega
    have h2 : id ≠ 391 := by omega
    simp only [mu]; rw [if_neg h1, if_neg h2]; simp only [AM.Mu.of]; rw [if_neg (by omega)]
  · have m1 : mu b1 o1 b2 o2 390 = some ⟨b1, o1, o1, 0⟩ := by simp [mu]
    have m2 : mu b1 o1 b2 o2 391 = some ⟨b2, o2, o2, 0⟩ := by simp [mu]
    by_cases e1 : g = 1
    · subst e1
      rw [show table.get 1 = some row1 from AM.T.put_get _ _ _] at hg
      injection hg with hg; subst hg
      exact ⟨_, rfl, of_decide_eq_true (by kernel_rfl), (AM.err_row m2 q1).1, rfl, (AM.err_row m2 q1).2⟩
    rw [show table.get g = _ from AM.T.put_get_other _ _ _ _ (Ne.symm e1)] at hg
    by_cases e0 : g = 0
    · subst e0
      rw [AM.T.put_get] at hg
      injection hg with hg; subst hg
      exact ⟨_, rfl, of_decide_eq_true (by kernel_rfl), (AM.err_row m1 p1).1, rfl, (AM.err_row m1 p1).2⟩
    rw [AM.T.put_get_other _ _ _ _ (Ne.symm e0)] at hg
    by_cases e2 : g = 2
    · subst e2
      rw [AM.T.put_get] at hg
      injection hg with hg; subst hg
      exact ⟨_, rfl, of_decide_eq_true (by kernel_rfl), (texts_in (mu b1 o1 b2 o2) h hsh).1, rfl, (texts_in (mu b1 o1 b2 o2) h hsh).2⟩
    rw [AM.T.put_get_other _ _ _ _ (Ne.symm e2)] at hg
    cases hg
end Go.Proofs.YtidbebeefkinaaaGreatDoor.RunQueueAlive
