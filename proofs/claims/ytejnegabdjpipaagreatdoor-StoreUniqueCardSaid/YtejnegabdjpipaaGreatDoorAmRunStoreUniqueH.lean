/- StoreUnique: the early ends, the two orders, all joined. -/
import Derived.Test.YtejnegabdjpipaaGreatDoorAmRunStoreUnique
import Derived.Test.YtejnegabdjpipaaGreatDoorAmRunStoreUniqueM6
import Derived.Test.YtejnegabdjpipaaGreatDoorAmRunStoreUniqueM7
import Derived.Test.YtejnegabdjpipaaGreatDoorAmRunStoreUniqueM8
import Derived.Test.YtejnegabdjpipaaGreatDoorAmRunStoreUniqueM9
import Derived.Test.YtejnegabdjpipaaGreatDoorAmRunStoreUniqueM10
import Derived.Test.YtejnegabdjpipaaGreatDoorAmRunStoreUniqueM11
import Derived.Test.YtejnegabdjpipaaGreatDoorAmRunStoreUniqueM12
import Derived.Test.YtejnegabdjpipaaGreatDoorAmRunStoreUniqueW13
import Derived.Test.YtejnegabdjpipaaGreatDoorAmRunStoreUniqueW14
import Derived.Test.YtejnegabdjpipaaGreatDoorAmRunStoreUniqueW15
import Derived.Test.YtejnegabdjpipaaGreatDoorAmRunStoreUniqueW16
import Derived.Test.YtejnegabdjpipaaGreatDoorAmRunStoreUniqueW17
import Derived.Test.YtejnegabdjpipaaGreatDoorAmRunStoreUniqueW18
import Derived.Test.YtejnegabdjpipaaGreatDoorAmRunStoreUniqueW19
import Derived.KernelRfl
namespace Go.Proofs.YtejnegabdjpipaaGreatDoor.RunStoreUnique
open Go.RowKit
set_option maxRecDepth 100000
set_option linter.unusedVariables false
section
variable [AM.Syms]
theorem goes_M12 : AM.Goes cfgF items_M11 s_M11_0 [(.ret, s_M12_0)] := AM.stage Tryz.checked.mixed (AM.named_ok named) ran_M12
theorem goes_M11 : AM.Goes cfgF items_M10 s_M10_0 [(.ret, s_M12_0)] := AM.goes_split (k := 3) (AM.stage Tryz.checked.mixed (AM.named_ok named) ran_M11) goes_M12
theorem goes_M10 : AM.Goes cfgF items_M9 s_M9_0 [(.ret, s_M12_0)] := AM.goes_split (k := 3) (AM.stage Tryz.checked.mixed (AM.named_ok named) ran_M10) goes_M11
theorem goes_M9 : AM.Goes cfgF items_M8 s_M8_0 [(.ret, s_M12_0)] := AM.goes_split (k := 5) (AM.stage Tryz.checked.mixed (AM.named_ok named) ran_M9) goes_M10
theorem goes_M8 : AM.Goes cfgF items_M7 s_M7_0 [(.ret, s_M12_0)] := AM.goes_split (k := 1) (AM.stage Tryz.checked.mixed (AM.named_ok named) ran_M8) goes_M9
theorem goes_M7 : AM.Goes cfgF items_M6 s_M6_0 [(.ret, s_M12_0)] := AM.goes_split (k := 8) (AM.stage Tryz.checked.mixed (AM.named_ok named) ran_M7) goes_M8
theorem goes_M6 : AM.Goes cfgF items_M0 s_M [(.ret, s_M12_0)] := AM.goes_split (k := 6) (AM.stage Tryz.checked.mixed (AM.named_ok named) ran_M6) goes_M7
theorem goes_W19 : AM.Goes cfgF items_W18 s_W18_0 [(.ret, s_W19_0)] := AM.stage Tryz.checked.mixed (AM.named_ok named) ran_W19
theorem goes_W18 : AM.Goes cfgF items_W17 s_W17_0 [(.ret, s_W19_0)] := AM.goes_split (k := 3) (AM.stage Tryz.checked.mixed (AM.named_ok named) ran_W18) goes_W19
theorem goes_W17 : AM.Goes cfgF items_W16 s_W16_0 [(.ret, s_W19_0)] := AM.goes_split (k := 3) (AM.stage Tryz.checked.mixed (AM.named_ok named) ran_W17) goes_W18
theorem goes_W16 : AM.Goes cfgF items_W15 s_W15_0 [(.ret, s_W19_0)] := AM.goes_split (k := 5) (AM.stage Tryz.checked.mixed (AM.named_ok named) ran_W16) goes_W17
theorem goes_W15 : AM.Goes cfgF items_W14 s_W14_0 [(.ret, s_W19_0)] := AM.goes_split (k := 1) (AM.stage Tryz.checked.mixed (AM.named_ok named) ran_W15) goes_W16
theorem goes_W14 : AM.Goes cfgF items_W13 s_W13_0 [(.ret, s_W19_0)] := AM.goes_split (k := 8) (AM.stage Tryz.checked.mixed (AM.named_ok named) ran_W14) goes_W15
theorem goes_W13 : AM.Goes cfgF items_W0 s_W [(.ret, s_W19_0)] := AM.goes_split (k := 6) (AM.stage Tryz.checked.mixed (AM.named_ok named) ran_W13) goes_W14
end
theorem extA : AM.ExtOne Tryz.prog Facts 4 .closed := ⟨Tryz.f4, Tryz.func4, by kernel_rfl, Tryz.f4.body.getD .skip, by kernel_rfl, fun w F => calls_of w F⟩
theorem externsF : ∀ p ∈ extsF, AM.ExtOne Tryz.prog Facts p.1 p.2 := fun p hp => by
  simp only [extsF, List.mem_cons] at hp
  rcases hp with rfl | rfl | rfl | rfl | hp
  · exact extA
  · exact ext98
  · exact ext71
  · exact ext103
  · exact externs p hp
noncomputable def bodyF : Code := Tryz.f3.body.getD .skip
noncomputable def itemsF : List Code := AM.flat bodyF
noncomputable def start (a b : AM.V) : AM.S := ⟨AM.putArgs [a, b, .nm .u64 7] 0 .lf, 3 + (Tryz.f3.ntmps - 3), h0, []⟩
def big : Nat := 9223372036854775807
noncomputable def sE : AM.S := ⟨.n none .lf (.n none .lf (.n (some (.bool true)) .lf .lf)), 196, ⟨.n (some (.row ⟨[.str [], .str [116, 101, 120, 116], .str [110, 117, 109], .str [108, 105, 115, 116]], 181, 4, 0, false, true, true⟩)) .lf .lf, 401⟩, []⟩
theorem ranA : AM.stageA cfgF [] 100000 (itemsF.take 5) [([6], [0])] (start (.str []) (.tp [] 2 0 big)) = some [(.ret, sE)] := by kernel_rfl
theorem ranB : AM.stageA cfgF [] 100000 (itemsF.take 5) [([6], [0])] (start (.tp [] 1 1 big) (.str [])) = some [(.ret, sE)] := by kernel_rfl
theorem ranC : AM.stageA cfgF [] 100000 (itemsF.take 5) [([6], [0])] (start (.tp [] 1 101 big) (.tp [] 2 1 big)) = some [(.ret, sE)] := by kernel_rfl
theorem ranD : AM.stageA cfgF [] 100000 (itemsF.take 5) [([6], [0])] (start (.tp [] 1 1 100) (.tp [] 2 101 big)) = some [(.ret, sE)] := by kernel_rfl
theorem ranE : AM.stageA cfgF [] 100000 (itemsF.take 5) [([6], [0])] (start (.tp [] 1 1 100) (.tp [] 1 1 100)) = some [(.ret, sE)] := by kernel_rfl
theorem resE : AM.resultsA Tryz.prog sE.env sE.h Tryz.f3.results.toList = some [.bool true] := by kernel_rfl
theorem resM : AM.resultsA Tryz.prog s_M12_0.env s_M12_0.h Tryz.f3.results.toList = some [.bool true] := by kernel_rfl
theorem resW : AM.resultsA Tryz.prog s_W19_0.env s_W19_0.h Tryz.f3.results.toList = some [.bool true] := by kernel_rfl
theorem back0 : AM.okIds 400 table [0] = true ∧ AM.keepT table [0] = table := ⟨by kernel_rfl, by kernel_rfl⟩
section
variable {w0 : World} {N0 : Nat}
/-- What the law's end says. -/
theorem fin_of [AM.Syms] {s : AM.S} (hs : s.ds = []) (hr : AM.resultsA Tryz.prog s.env s.h Tryz.f3.results.toList = some [.bool true]) {e : Exit} {a : Act} {w : World} (h : AM.PostW Tryz.prog N0 w0 [(.ret, s)] e a w) : AM.Fin Tryz.prog N0 w0 Tryz.f3 e a w := by
  obtain ⟨o, ho, rfl, m, dl, R, D⟩ := h
  cases ho with
  | head =>
    rw [hs] at D; cases D
    exact ⟨.inr rfl, s, m, R, hr⟩
  | tail _ ho => cases ho
/-- The beginning, where it is the end. -/
theorem early [AM.Syms] (hx : AM.ExtOK Tryz.prog N0 w0 extsF) {s : AM.S} (e : AM.stageA cfgF [] 100000 (itemsF.take 5) [([6], [0])] s = some [(.ret, sE)]) (hs : s.ds = []) {m : AM.Mu} {a : Act} {w : World} (R : AM.SRel Tryz.prog N0 w0 m s.env s.n s.h [] a w) : AM.wpL (AM.FW none) 0 Tryz.prog (AM.Fin Tryz.prog N0 w0 Tryz.f3) itemsF a w := by
  rw [← List.take_append_drop 5 itemsF]
  refine AM.wpL_append _ _ _ (AM.part_of (C := cfgF) Tryz.checked.mixed named hx (AM.noMemo rfl) e R (by rw [hs]; exact .nil) fun e a w h => ?_)
  have := fin_of (s := sE) rfl resE h
  obtain ⟨o, ho, rfl, m, dl, R, D⟩ := h
  cases ho with
  | head => exact this
  | tail _ ho => cases ho
end
set_option maxHeartbeats 1000000 in
theorem calls (a0 a1 : ByteArray) (n : Int) (y0 : a0.size ≤ maxLen) (y1 : a1.size ≤ maxLen) (hw : (Lit.int .u64 n).wf = true) (W : World) (hL : laidMetH Tryz.prog Rows.storeUniqueRow.laid W) (hsh : W.ShapedOpen Tryz.prog) :
    Calls Tryz.prog 3 #[.string a0, .string a1, .int .u64 n] W fun e w' => e = .returned (.bool true) ∧ Below W.heap.size W w' := by
  have RR : AM.HRel Tryz.prog.globals.size W.heap.size W (AM.Mu.of Tryz.prog.globals.size table) ⟨table, 400⟩ W := rel hL hsh
  have hFx : ∀ w', Below W.heap.size W w' → W.heap.size ≤ w'.heap.size → Facts w' := fun w' hb _ => AM.move_rel RR hb
  have hx : ∀ S : AM.Syms, @AM.ExtOK S Tryz.prog W.heap.size W extsF := fun S => @AM.ext_ok S _ _ _ _ hFx _ externsF
  have hg : Tryz.prog.globals.size ≤ 400 := few
  have R00 : ∀ σ : AM.SymsB, @AM.HRel σ.1 Tryz.prog.globals.size W.heap.size W ((AM.Mu.of Tryz.prog.globals.size table).low 400) h0 W := fun σ => by
    have := AM.HRel.reset (σ := σ) (h := ⟨table, 400⟩) (n := 400) (ids := [0]) RR hg back0.1
    rw [show AM.keepT (⟨table, 400⟩ : AM.H).objs [0] = table from back0.2] at this
    exact this
  have R0 : ∀ S : AM.Syms, @AM.HRel S Tryz.prog.globals.size W.heap.size W ((AM.Mu.of Tryz.prog.globals.size table).low 400) h0 W := fun S => R00 ⟨S, trivial⟩
  obtain ⟨x, rfl⟩ : ∃ l : List UInt8, a0 = ⟨l.toArray⟩ := ⟨a0.data.toList, by simp⟩
  obtain ⟨y, rfl⟩ : ∃ l : List UInt8, a1 = ⟨l.toArray⟩ := ⟨a1.data.toList, by simp⟩
  have y0 : x.length ≤ 9223372036854775807 := by have : x.toArray.size ≤ maxLen := y0; simpa [maxLen] using this
  have y1 : y.length ≤ 9223372036854775807 := by have : y.toArray.size ≤ maxLen := y1; simpa [maxLen] using this
  have wf : IntKind.u64.wrap n = n := by
    simp [Lit.wf, IntKind.min, IntKind.max, IntKind.bits, IntKind.signed] at hw
    simp [IntKind.wrap, IntKind.bits, IntKind.signed]; omega
  have go : ∀ (S : AM.Syms) (a b : AM.V), @AM.VsRel S ((AM.Mu.of Tryz.prog.globals.size table).low 400) [a, b, .nm .u64 7] [.string ⟨x.toArray⟩, .string ⟨y.toArray⟩, .int .u64 n] →
      (∀ ac, @AM.SRel S Tryz.prog W.heap.size W ((AM.Mu.of Tryz.prog.globals.size table).low 400) (start a b).env (start a b).n (start a b).h [] ac W → AM.wpL (AM.FW none) 0 Tryz.prog (@AM.Fin S Tryz.prog W.heap.size W Tryz.f3) itemsF ac W) →
      Calls Tryz.prog 3 #[.string ⟨x.toArray⟩, .string ⟨y.toArray⟩, .int .u64 n] W fun e w' => e = .returned (.bool true) ∧ Below W.heap.size W w' := fun S a b hv H =>
    @AM.calls_by S cfgF Tryz.checked.mixed named 3 _ bodyF Tryz.func3 (by kernel_rfl) [a, b, .nm .u64 7] [.string ⟨x.toArray⟩, .string ⟨y.toArray⟩, .int .u64 n] _ _ _ (R0 S) hv (hx S) (@AM.noMemo S _ _ _ _ rfl) (fun ac R => H ac R)
  have args : ∀ (S : AM.Syms) (a b : AM.V), AM.Syms.nm 7 = n → @AM.VRel S ((AM.Mu.of Tryz.prog.globals.size table).low 400) a (.string ⟨x.toArray⟩) → @AM.VRel S ((AM.Mu.of Tryz.prog.globals.size table).low 400) b (.string ⟨y.toArray⟩) → @AM.VsRel S ((AM.Mu.of Tryz.prog.globals.size table).low 400) [a, b, .nm .u64 7] [.string ⟨x.toArray⟩, .string ⟨y.toArray⟩, .int .u64 n] := fun S a b hn h1 h2 =>
    .cons _ _ _ _ h1 (.cons _ _ _ _ h2 (.cons _ _ _ _ (by have := @AM.VRel.nm S ((AM.Mu.of Tryz.prog.globals.size table).low 400) .u64 7; rw [hn, wf] at this; exact this) .nil))
  have tp : ∀ (S : AM.Syms) (k lo hi : Nat) (z : List UInt8), AM.Syms.tx k = z → lo ≤ z.length → z.length ≤ hi → @AM.VRel S ((AM.Mu.of Tryz.prog.globals.size table).low 400) (.tp [] k lo hi) (.string ⟨z.toArray⟩) := fun S k lo hi z e h1 h2 => by subst e; exact @AM.VRel.tp S _ [] k lo hi h1 h2
  have E : ∀ (S : AM.Syms) (a b : AM.V), AM.Syms.nm 7 = n → @AM.VRel S ((AM.Mu.of Tryz.prog.globals.size table).low 400) a (.string ⟨x.toArray⟩) → @AM.VRel S ((AM.Mu.of Tryz.prog.globals.size table).low 400) b (.string ⟨y.toArray⟩) → AM.stageA cfgF [] 100000 (itemsF.take 5) [([6], [0])] (start a b) = some [(.ret, sE)] →
      Calls Tryz.prog 3 #[.string ⟨x.toArray⟩, .string ⟨y.toArray⟩, .int .u64 n] W fun e w' => e = .returned (.bool true) ∧ Below W.heap.size W w' := fun S a b hn h1 h2 e =>
    go S a b (args S a b hn h1 h2) (fun ac R => @early _ _ S (hx S) (start a b) e rfl _ _ _ R)
  by_cases c1 : x = []
  · subst c1
    exact E (mkS [] y [1] [2] n (by decide) (by decide)) (.str []) (.tp [] 2 0 big) rfl (@AM.VRel.str (mkS [] y [1] [2] n (by decide) (by decide)) _ []) (tp (mkS [] y [1] [2] n (by decide) (by decide)) 2 0 big y rfl (Nat.zero_le _) y1) ranA
  have l1 : 1 ≤ x.length := by cases x with | nil => exact absurd rfl c1 | cons _ _ => simp
  by_cases c2 : y = []
  · subst c2
    exact E (mkS x [] [1] [2] n (by decide) (by decide)) (.tp [] 1 1 big) (.str []) rfl (tp (mkS x [] [1] [2] n (by decide) (by decide)) 1 1 big x rfl l1 y0) (@AM.VRel.str (mkS x [] [1] [2] n (by decide) (by decide)) _ []) ranB
  have l2 : 1 ≤ y.length := by cases y with | nil => exact absurd rfl c2 | cons _ _ => simp
  have S0 : ∃ S : AM.Syms, AM.Syms.nm 7 = n ∧ AM.Syms.tx 1 = x ∧ AM.Syms.tx 2 = y := ⟨mkS x y [1] [2] n (by decide) (by decide), rfl, rfl, rfl⟩
  obtain ⟨S, n7, t1, t2⟩ := S0
  by_cases c3 : 101 ≤ x.length
  · exact E S (.tp [] 1 101 big) (.tp [] 2 1 big) n7 (tp S 1 101 big x t1 c3 y0) (tp S 2 1 big y t2 l2 y1) ranC
  have u1 : x.length ≤ 100 := by omega
  by_cases c4 : 101 ≤ y.length
  · exact E S (.tp [] 1 1 100) (.tp [] 2 101 big) n7 (tp S 1 1 100 x t1 l1 u1) (tp S 2 101 big y t2 c4 y1) ranD
  have u2 : y.length ≤ 100 := by omega
  by_cases c5 : x = y
  · exact E S (.tp [] 1 1 100) (.tp [] 1 1 100) n7 (tp S 1 1 100 x t1 l1 u1) (tp S 1 1 100 y (by rw [t1, c5]) l2 u2) ranE
  clear S n7 t1 t2
  rcases tail_tri c5 with c6 | c6
  · obtain ⟨S, n7, t1, t2⟩ : ∃ S : AM.Syms, AM.Syms.nm 7 = n ∧ AM.Syms.tx 998 = x ∧ AM.Syms.tx 999 = y := ⟨mkS [] [] x y n c5 c6, rfl, rfl, rfl⟩
    exact go S (.tp [] 998 1 100) (.tp [] 999 1 100) (args S _ _ n7 (tp S 998 1 100 x t1 l1 u1) (tp S 999 1 100 y t2 l2 u2)) (fun ac R => AM.wpL_mono (fun _ _ _ h => @fin_of _ _ S _ rfl resM _ _ _ h) _ _ _ ((@goes_M6 S).weak (hx S) (@AM.noMemo S _ _ _ _ rfl) R .nil))
  · obtain ⟨S, n7, t1, t2⟩ : ∃ S : AM.Syms, AM.Syms.nm 7 = n ∧ AM.Syms.tx 998 = y ∧ AM.Syms.tx 999 = x := ⟨mkS [] [] y x n (Ne.symm c5) c6, rfl, rfl, rfl⟩
    exact go S (.tp [] 999 1 100) (.tp [] 998 1 100) (args S _ _ n7 (tp S 999 1 100 x t2 l1 u1) (tp S 998 1 100 y t1 l2 u2)) (fun ac R => AM.wpL_mono (fun _ _ _ h => @fin_of _ _ S _ rfl resW _ _ _ h) _ _ _ ((@goes_W13 S).weak (hx S) (@AM.noMemo S _ _ _ _ rfl) R .nil))

end Go.Proofs.YtejnegabdjpipaaGreatDoor.RunStoreUnique
