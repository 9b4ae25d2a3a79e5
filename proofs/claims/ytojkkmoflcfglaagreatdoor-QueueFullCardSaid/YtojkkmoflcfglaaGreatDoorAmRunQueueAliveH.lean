/- QueueFull: the first part, the loops by hand, the rest. -/
import Derived.Test.YtojkkmoflcfglaaGreatDoorAmRunQueueAliveG1
import Derived.Test.YtojkkmoflcfglaaGreatDoorAmRunQueueAliveG2
import Derived.Test.YtojkkmoflcfglaaGreatDoorAmRunQueueAliveG3
import Derived.Test.YtojkkmoflcfglaaGreatDoorAmRunQueueAliveG4
import Derived.Test.YtojkkmoflcfglaaGreatDoorAmRunQueueAliveG5
import Derived.Test.YtojkkmoflcfglaaGreatDoorAmRunQueueAliveG6
import Derived.KernelRfl
namespace Go.Proofs.YtojkkmoflcfglaaGreatDoor.RunQueueAlive
open Go.RowKit
set_option maxRecDepth 100000
set_option linter.unusedVariables false
theorem round1 : ∀ i, i < 100 → Round1 i
  | 0, _ => round1_0
  | 1, _ => round1_1
  | 2, _ => round1_2
  | 3, _ => round1_3
  | 4, _ => round1_4
  | 5, _ => round1_5
  | 6, _ => round1_6
  | 7, _ => round1_7
  | 8, _ => round1_8
  | 9, _ => round1_9
  | 10, _ => round1_10
  | 11, _ => round1_11
  | 12, _ => round1_12
  | 13, _ => round1_13
  | 14, _ => round1_14
  | 15, _ => round1_15
  | 16, _ => round1_16
  | 17, _ => round1_17
  | 18, _ => round1_18
  | 19, _ => round1_19
  | 20, _ => round1_20
  | 21, _ => round1_21
  | 22, _ => round1_22
  | 23, _ => round1_23
  | 24, _ => round1_24
  | 25, _ => round1_25
  | 26, _ => round1_26
  | 27, _ => round1_27
  | 28, _ => round1_28
  | 29, _ => round1_29
  | 30, _ => round1_30
  | 31, _ => round1_31
  | 32, _ => round1_32
  | 33, _ => round1_33
  | 34, _ => round1_34
  | 35, _ => round1_35
  | 36, _ => round1_36
  | 37, _ => round1_37
  | 38, _ => round1_38
  | 39, _ => round1_39
  | 40, _ => round1_40
  | 41, _ => round1_41
  | 42, _ => round1_42
  | 43, _ => round1_43
  | 44, _ => round1_44
  | 45, _ => round1_45
  | 46, _ => round1_46
  | 47, _ => round1_47
  | 48, _ => round1_48
  | 49, _ => round1_49
  | 50, _ => round1_50
  | 51, _ => round1_51
  | 52, _ => round1_52
  | 53, _ => round1_53
  | 54, _ => round1_54
  | 55, _ => round1_55
  | 56, _ => round1_56
  | 57, _ => round1_57
  | 58, _ => round1_58
  | 59, _ => round1_59
  | 60, _ => round1_60
  | 61, _ => round1_61
  | 62, _ => round1_62
  | 63, _ => round1_63
  | 64, _ => round1_64
  | 65, _ => round1_65
  | 66, _ => round1_66
  | 67, _ => round1_67
  | 68, _ => round1_68
  | 69, _ => round1_69
  | 70, _ => round1_70
  | 71, _ => round1_71
  | 72, _ => round1_72
  | 73, _ => round1_73
  | 74, _ => round1_74
  | 75, _ => round1_75
  | 76, _ => round1_76
  | 77, _ => round1_77
  | 78, _ => round1_78
  | 79, _ => round1_79
  | 80, _ => round1_80
  | 81, _ => round1_81
  | 82, _ => round1_82
  | 83, _ => round1_83
  | 84, _ => round1_84
  | 85, _ => round1_85
  | 86, _ => round1_86
  | 87, _ => round1_87
  | 88, _ => round1_88
  | 89, _ => round1_89
  | 90, _ => round1_90
  | 91, _ => round1_91
  | 92, _ => round1_92
  | 93, _ => round1_93
  | 94, _ => round1_94
  | 95, _ => round1_95
  | 96, _ => round1_96
  | 97, _ => round1_97
  | 98, _ => round1_98
  | 99, _ => round1_99
  | n + 100, h => absurd h (by omega)
theorem ends : ∀ i, 1 ≤ i → i ≤ 100 → Ends i
  | 0, h, _ => absurd h (by omega)
  | 1, _, _ => ends_1
  | 2, _, _ => ends_2
  | 3, _, _ => ends_3
  | 4, _, _ => ends_4
  | 5, _, _ => ends_5
  | 6, _, _ => ends_6
  | 7, _, _ => ends_7
  | 8, _, _ => ends_8
  | 9, _, _ => ends_9
  | 10, _, _ => ends_10
  | 11, _, _ => ends_11
  | 12, _, _ => ends_12
  | 13, _, _ => ends_13
  | 14, _, _ => ends_14
  | 15, _, _ => ends_15
  | 16, _, _ => ends_16
  | 17, _, _ => ends_17
  | 18, _, _ => ends_18
  | 19, _, _ => ends_19
  | 20, _, _ => ends_20
  | 21, _, _ => ends_21
  | 22, _, _ => ends_22
  | 23, _, _ => ends_23
  | 24, _, _ => ends_24
  | 25, _, _ => ends_25
  | 26, _, _ => ends_26
  | 27, _, _ => ends_27
  | 28, _, _ => ends_28
  | 29, _, _ => ends_29
  | 30, _, _ => ends_30
  | 31, _, _ => ends_31
  | 32, _, _ => ends_32
  | 33, _, _ => ends_33
  | 34, _, _ => ends_34
  | 35, _, _ => ends_35
  | 36, _, _ => ends_36
  | 37, _, _ => ends_37
  | 38, _, _ => ends_38
  | 39, _, _ => ends_39
  | 40, _, _ => ends_40
  | 41, _, _ => ends_41
  | 42, _, _ => ends_42
  | 43, _, _ => ends_43
  | 44, _, _ => ends_44
  | 45, _, _ => ends_45
  | 46, _, _ => ends_46
  | 47, _, _ => ends_47
  | 48, _, _ => ends_48
  | 49, _, _ => ends_49
  | 50, _, _ => ends_50
  | 51, _, _ => ends_51
  | 52, _, _ => ends_52
  | 53, _, _ => ends_53
  | 54, _, _ => ends_54
  | 55, _, _ => ends_55
  | 56, _, _ => ends_56
  | 57, _, _ => ends_57
  | 58, _, _ => ends_58
  | 59, _, _ => ends_59
  | 60, _, _ => ends_60
  | 61, _, _ => ends_61
  | 62, _, _ => ends_62
  | 63, _, _ => ends_63
  | 64, _, _ => ends_64
  | 65, _, _ => ends_65
  | 66, _, _ => ends_66
  | 67, _, _ => ends_67
  | 68, _, _ => ends_68
  | 69, _, _ => ends_69
  | 70, _, _ => ends_70
  | 71, _, _ => ends_71
  | 72, _, _ => ends_72
  | 73, _, _ => ends_73
  | 74, _, _ => ends_74
  | 75, _, _ => ends_75
  | 76, _, _ => ends_76
  | 77, _, _ => ends_77
  | 78, _, _ => ends_78
  | 79, _, _ => ends_79
  | 80, _, _ => ends_80
  | 81, _, _ => ends_81
  | 82, _, _ => ends_82
  | 83, _, _ => ends_83
  | 84, _, _ => ends_84
  | 85, _, _ => ends_85
  | 86, _, _ => ends_86
  | 87, _, _ => ends_87
  | 88, _, _ => ends_88
  | 89, _, _ => ends_89
  | 90, _, _ => ends_90
  | 91, _, _ => ends_91
  | 92, _, _ => ends_92
  | 93, _, _ => ends_93
  | 94, _, _ => ends_94
  | 95, _, _ => ends_95
  | 96, _, _ => ends_96
  | 97, _, _ => ends_97
  | 98, _, _ => ends_98
  | 99, _, _ => ends_99
  | 100, _, _ => ends_100
  | n + 101, _, h => absurd h (by omega)

theorem split : itemsF = itemsF.take 9 ++ (.block 0 (.loop B1) :: it10 :: .block 2 (.loop B2) :: rest3) := by kernel_rfl
noncomputable def h0F : AM.H := h0
noncomputable def start (a b : AM.V) : AM.S := ⟨AM.putArgs [a, b] 0 .lf, 2 + (Tryz.f3.ntmps - 2), h0, []⟩
noncomputable def big : Int := 9223372036854775807
noncomputable def low : Int := -9223372036854775808
theorem ran0 : AM.stageA cfgF [] 100000 (itemsF.take 9) [([0, 1, 5, 6, 7], ids 0)] (start (mv 1) more0) = some [(.norm, st1 0 (mv 1))] := by kernel_rfl
theorem ranA : AM.stageA cfgF [] 100000 (itemsF.take 9) [([4], [])] (start (.nv 2 0 low 0 none) (.nv 1 0 low big none)) = some [(.ret, st6 401)] := by kernel_rfl
theorem ranB : AM.stageA cfgF [] 100000 (itemsF.take 9) [([4], [])] (start (.nv 2 0 101 big none) (.nv 1 0 low big none)) = some [(.ret, st6 401)] := by kernel_rfl
theorem ranC : AM.stageA cfgF [] 100000 (itemsF.take 9) [([4], [])] (start (mv 1) (.nv 1 0 low (-1) none)) = some [(.ret, st6 401)] := by kernel_rfl
theorem ranD : AM.stageA cfgF [] 100000 (itemsF.take 9) [([4], [])] (start (mv 1) (.nv 1 0 101 big none)) = some [(.ret, st6 401)] := by kernel_rfl
theorem res (k : Nat) : AM.resultsA Tryz.prog (st6 k).env (st6 k).h Tryz.f3.results.toList = some [.bool true] := by kernel_rfl
theorem back6 : AM.okTmps 36189 (st6 36189).env [4] = true ∧ AM.resultsA Tryz.prog (AM.backS 36189 [4] [] (st6 36189)).env (AM.backS 36189 [4] [] (st6 36189)).h Tryz.f3.results.toList = some [.bool true] := ⟨by kernel_rfl, by kernel_rfl⟩
theorem back0 : AM.okIds 400 table [0, 1, 2] = true ∧ AM.keepT table [0, 1, 2] = table := ⟨by kernel_rfl, by kernel_rfl⟩

/-- The names: 0 the second loop's count, 1 'more', 2 'most'. -/
abbrev names (j more most : Int) : AM.Syms := ⟨fun _ => [], fun k => match k with | 0 => j | 1 => more | _ => most, fun _ => [[]], fun _ => by simp, fun _ => by simp⟩
section
variable {w0 : World} {N0 : Nat}
/-- What the law's end says. -/
theorem fin6 [AM.Syms] {k : Nat} {e : Exit} {a : Act} {w : World} (h : AM.PostW Tryz.prog N0 w0 [(.ret, st6 k)] e a w) : AM.Fin Tryz.prog N0 w0 Tryz.f3 e a w := by
  obtain ⟨o, ho, rfl, m, dl, R, D⟩ := h
  cases ho with
  | head =>
    cases D
    exact ⟨.inr rfl, st6 k, m, R, res k⟩
  | tail _ ho => cases ho
theorem one_of [AM.Syms] {x : AM.X} {s : AM.S} {e : Exit} {a : Act} {w : World} (hs : s.ds = []) (h : AM.PostW Tryz.prog N0 w0 [(x, s)] e a w) : e = x.toExit ∧ ∃ m, AM.SRel Tryz.prog N0 w0 m s.env s.n s.h [] a w := by
  obtain ⟨o, ho, rfl, m, dl, R, D⟩ := h
  cases ho with
  | head => rw [hs] at D; cases D; exact ⟨rfl, m, R⟩
  | tail _ ho => cases ho
/-- One part, run; its one way out. -/
theorem part [AM.Syms] (hx : AM.ExtOK Tryz.prog N0 w0 extsF) (hmo : AM.MemoOK Tryz.prog N0 w0 cfgF.memo) {cs : List Code} {keeps : List (List Nat × List Nat)} {s s' : AM.S} {x : AM.X} (e : AM.stageA cfgF [] 100000 cs keeps s = some [(x, s')]) (hs : s.ds = []) (hs' : s'.ds = []) {m : AM.Mu} {a : Act} {w : World} (R : AM.SRel Tryz.prog N0 w0 m s.env s.n s.h [] a w)
    {Q : Exit → Act → World → Prop} (hQ : ∀ m a w, AM.SRel Tryz.prog N0 w0 m s'.env s'.n s'.h [] a w → Q x.toExit a w) : AM.wpL (AM.FW none) 0 Tryz.prog Q cs a w :=
  AM.part_of (C := cfgF) Tryz.checked.mixed named hx hmo e R (by rw [hs]; exact .nil) fun e a w h => by
    obtain ⟨rfl, m', R'⟩ := one_of hs' h
    exact hQ m' a w R'
theorem single {c : Code} {Q : Exit → Act → World → Prop} {a : Act} {w : World} (h : AM.wpL (AM.FW none) 0 Tryz.prog Q [c] a w) : c.wpIn (AM.FW none) 0 Tryz.prog Q a w :=
  wpIn_mono h fun e a w h => by cases e <;> exact h
end
section
variable {w0 : World} {N0 : Nat}
/-- Another value for 'most'. -/
theorem most_swap [AM.Syms] {m : AM.Mu} {a : Act} {w : World} {i : Nat} {v1 v2 : AM.V} (hv : ∀ x, AM.VRel m v1 x → AM.VRel m v2 x) (R : AM.SRel Tryz.prog N0 w0 m (st1 i v1).env (st1 i v1).n (st1 i v1).h [] a w) : AM.SRel Tryz.prog N0 w0 m (st1 i v2).env (st1 i v2).n (st1 i v2).h [] a w := by
  have R1 : AM.SRel Tryz.prog N0 w0 m ((env1 i).put 0 (some v1)) ntm (heap i v1) [] a w := R
  have R2 := R1.swap hv
  have R3 : AM.HRel Tryz.prog.globals.size N0 w0 m ⟨(rest i).put 403 (some (qrow i v1)), 8566 + 48 * i⟩ w := R2.rel
  have R4 := R3.swap (o2 := qrow i v2) rfl (fun L k => AM.ORel.cell qFront (qBack i) hv k)
  exact ⟨R2.defers, R2.size, R2.vals, R4⟩
theorem mid_swap [AM.Syms] {m : AM.Mu} {a : Act} {w : World} {e : AM.T AM.V} {v1 v2 x : AM.V} {n : Nat} {h : AM.H} (hv : ∀ y, AM.VRel m v1 y → AM.VRel m v2 y) (R : AM.SRel Tryz.prog N0 w0 m ((e.put 10 (some v1)).put 1 (some x)) n h [] a w) : AM.SRel Tryz.prog N0 w0 m ((e.put 10 (some v2)).put 1 (some x)) n h [] a w where
  defers := R.defers
  size := R.size
  vals := fun u y hy => by
    by_cases h1 : 1 = u
    · subst h1
      rw [AM.T.put_get] at hy
      exact R.vals 1 y (by rw [AM.T.put_get]; exact hy)
    · rw [AM.T.put_get_other _ _ _ _ h1] at hy
      by_cases h2 : 10 = u
      · subst h2
        rw [AM.T.put_get] at hy; injection hy with hy; subst hy
        obtain ⟨z, e1, e2⟩ := R.vals 10 v1 (by rw [AM.T.put_get_other _ _ _ _ h1, AM.T.put_get])
        exact ⟨z, e1, hv z e2⟩
      · rw [AM.T.put_get_other _ _ _ _ h2] at hy
        exact R.vals u y (by rw [AM.T.put_get_other _ _ _ _ h1, AM.T.put_get_other _ _ _ _ h2]; exact hy)
  rel := R.rel
theorem loop1 [AM.Syms] (hx : AM.ExtOK Tryz.prog N0 w0 extsF) (hmo : AM.MemoOK Tryz.prog N0 w0 cfgF.memo) {M : Nat} (hS : AM.Syms.nm 2 = (M : Int)) (h1 : 1 ≤ M) (h2 : M ≤ 100) {Q : Exit → Act → World → Prop}
    (hQ : ∀ m a w, AM.SRel Tryz.prog N0 w0 m (st2 M (num M)).env (st2 M (num M)).n (st2 M (num M)).h [] a w → Q (.exit 0) a w) :
    ∀ (d i : Nat), i + d = M → ∀ m a w, AM.SRel Tryz.prog N0 w0 m (st1 i (mv 1)).env (st1 i (mv 1)).n (st1 i (mv 1)).h [] a w → Code.roundsIn (AM.FW none) 0 Tryz.prog B1 Q (d + 1) a w
  | 0, i, hi, m, a, w, R => by
    obtain rfl : i = M := by omega
    have R' := most_swap (v2 := num i) (fun x hx => by
      obtain ⟨v, rfl, e, _, _, _⟩ := AM.nv_inv hx
      have : v = (Int.ofNat i) := by rw [e, hS]; exact Int.add_zero _
      subst this; exact .int _ _) R
    exact single (part hx hmo (ends i h1 h2).1 rfl rfl R' fun m a w R => hQ m a w R)
  | d + 1, i, hi, m, a, w, R => by
    have R' := most_swap (v2 := mv (i + 1)) (fun x hx => by
      obtain ⟨v, rfl, e, f1, f2, _⟩ := AM.nv_inv hx
      refine .nv 2 0 _ 100 none v e ?_ f2 trivial
      rw [e, hS]
      show ((i + 1 : Nat) : Int) ≤ (M : Int) + 0
      omega) R
    exact single (part hx hmo (round1 i (by omega)) rfl rfl R' fun m a w R => loop1 hx hmo hS h1 h2 hQ d (i + 1) (by omega) m a w (most_swap (v2 := mv 1) (fun x hx => by
      obtain ⟨v, rfl, e, f1, f2, _⟩ := AM.nv_inv hx
      refine .nv 2 0 _ 100 none v e ?_ f2 trivial
      have f1 : ((i + 1 : Nat) : Int) ≤ v := f1
      show ((1 : Nat) : Int) ≤ v
      omega) R))
theorem st4_10 (M : Nat) : (st4 M).env.get 10 = some (.nv 0 1 1 102 none) := by
  show (((env3.put 0 (some (num M))).put 10 (some (.nv 0 1 1 102 none))).put 1 (some (moreB true))).get 10 = _
  rw [AM.T.put_get_other _ _ _ _ (by decide), AM.T.put_get]
theorem st4_1 (M : Nat) : (st4 M).env.get 1 = some (moreB true) := by
  show (((env3.put 0 (some (num M))).put 10 (some (.nv 0 1 1 102 none))).put 1 (some (moreB true))).get 1 = _
  rw [AM.T.put_get]
theorem loop2 (hx : ∀ S : AM.Syms, @AM.ExtOK S Tryz.prog N0 w0 extsF) (hmo : ∀ S : AM.Syms, @AM.MemoOK S Tryz.prog N0 w0 cfgF.memo) {M more : Nat} (h1 : 1 ≤ M) (h2 : M ≤ 100) (h3 : more ≤ 100) {Q : Exit → Act → World → Prop}
    (hQ : ∀ (S : AM.Syms) m a w, @AM.SRel S Tryz.prog N0 w0 m (st5 M).env (st5 M).n (st5 M).h [] a w → Q (.exit 2) a w) :
    ∀ (d j : Nat), j + d = more + 1 → ∀ m a w, @AM.SRel (names j more M) Tryz.prog N0 w0 m (st3 M jj more0).env (st3 M jj more0).n (st3 M jj more0).h [] a w → Code.roundsIn (AM.FW none) 0 Tryz.prog B2 Q (d + 1) a w
  | 0, j, hj, m, a, w, R => by
    letI S : AM.Syms := names j more M
    have R1 : AM.SRel Tryz.prog N0 w0 m (((env3.put 0 (some (num M))).put 10 (some jj)).put 1 (some more0)) ntm (heap M (num M)) [] a w := R
    have R2 := R1.swap (v2 := moreB false) (fun x hx => by
      obtain ⟨v, rfl, e, f1, f2, _⟩ := AM.nv_inv hx
      refine .nv 1 0 _ _ (some (0, false)) v e f1 f2 ?_
      have e : v = (more : Int) + 0 := e
      show v < (j : Int)
      omega)
    exact single (part (hx S) (hmo S) (s := st3 M jj (moreB false)) (ends M h1 h2).2.2.2.2.2.2.1 rfl rfl R2 fun m a w R => hQ S m a w R)
  | d + 1, j, hj, m, a, w, R => by
    letI S : AM.Syms := names j more M
    have R1 : AM.SRel Tryz.prog N0 w0 m (((env3.put 0 (some (num M))).put 10 (some jj)).put 1 (some more0)) ntm (heap M (num M)) [] a w := R
    have R2 := R1.swap (v2 := moreB true) (fun x hx => by
      obtain ⟨v, rfl, e, f1, f2, _⟩ := AM.nv_inv hx
      refine .nv 1 0 _ _ (some (0, true)) v e f1 f2 ?_
      have e : v = (more : Int) + 0 := e
      show (j : Int) ≤ v
      omega)
    obtain ⟨_, _, k3, k4, k5, k6, _, _⟩ := ends M h1 h2
    refine single (part (hx S) (hmo S) (s := st3 M jj (moreB true)) k3 rfl rfl R2 fun m a w R => ?_)
    have v10 := R.vals 10 (.nv 0 1 1 102 none) (st4_10 M)
    have v1 := R.vals 1 (moreB true) (st4_1 M)
    obtain ⟨x10, t10, r10⟩ := v10
    obtain ⟨x1, t1, r1⟩ := v1
    obtain ⟨u10, rfl, e10, _, _, _⟩ := AM.nv_inv r10
    obtain ⟨u1, rfl, e1, g1, g2, _⟩ := AM.nv_inv r1
    have e10 : u10 = (j : Int) + 1 := e10
    have e1 : u1 = (more : Int) + 0 := e1
    have hg : Tryz.prog.globals.size ≤ 8566 + 48 * M := by have := few; omega
    have R3 := R.reset (σ := ⟨names (j + 1 : Nat) more M, trivial⟩) hg k5 k6
    rw [k4] at R3
    letI S2 : AM.Syms := names (j + 1 : Nat) more M
    have R4 : @AM.SRel S2 Tryz.prog N0 w0 (m.low (8566 + 48 * M)) (env3.put 0 (some (num M))) ntm (heap M (num M)) [] a w := R3
    have R5 := @AM.SRel.put Tryz.prog N0 w0 S2 _ _ _ _ _ _ _ R4 10 jj _ t10 (@AM.VRel.nv S2 _ 0 0 0 101 none u10 (by show u10 = ((j + 1 : Nat) : Int) + 0; omega) (by omega) (by omega) trivial)
    have R6 := @AM.SRel.put Tryz.prog N0 w0 S2 _ _ _ _ _ _ _ R5 1 more0 _ t1 (@AM.VRel.nv S2 _ 1 0 0 100 none u1 (by show u1 = (more : Int) + 0; omega) (by omega) (by omega) trivial)
    exact loop2 hx hmo h1 h2 h3 hQ d (j + 1) (by omega) _ a w R6
end
set_option maxHeartbeats 1000000 in
theorem calls (most more : Int) (hw1 : (Lit.int .i64 most).wf = true) (hw2 : (Lit.int .i64 more).wf = true) (W : World) (hL : laidMetH Tryz.prog Rows.queueFullRow.laid W) (hsh : W.ShapedOpen Tryz.prog) :
    Calls Tryz.prog 3 #[.int .i64 most, .int .i64 more] W fun e w' => e = .returned (.bool true) ∧ Below W.heap.size W w' := by
  obtain ⟨_, _, _, _, _, FF⟩ := rel hL hsh
  obtain ⟨b1, o1, b2, o2, RR⟩ := FF
  have hFx : ∀ w', Below W.heap.size W w' → W.heap.size ≤ w'.heap.size → Facts w' := fun w' hb _ => ⟨b1, o1, b2, o2, AM.move_rel RR hb⟩
  have hx : ∀ S : AM.Syms, @AM.ExtOK S Tryz.prog W.heap.size W extsF := fun S => @AM.ext_ok S _ _ _ _ hFx _ externsF
  have hmo : ∀ S : AM.Syms, @AM.MemoOK S Tryz.prog W.heap.size W cfgF.memo := fun S => @memos S _ _ (@AM.ext_ok S _ _ _ _ hFx _ externs)
  have wf : ∀ n : Int, (Lit.int .i64 n).wf = true → -9223372036854775808 ≤ n ∧ n ≤ 9223372036854775807 := fun n h => by
    simp [Lit.wf, IntKind.min, IntKind.max, IntKind.bits, IntKind.signed] at h; omega
  obtain ⟨l1, u1⟩ := wf _ hw1
  obtain ⟨l2, u2⟩ := wf _ hw2
  have hg : Tryz.prog.globals.size ≤ 400 := few
  have R0 : @AM.HRel (names 0 more most) Tryz.prog.globals.size W.heap.size W ((mu b1 o1 b2 o2).low 400) h0 W := by
    have := RR.reset (σ := ⟨names 0 more most, trivial⟩) hg back0.1
    rw [show AM.keepT (⟨table, 400⟩ : AM.H).objs [0, 1, 2] = table from back0.2] at this
    exact this
  letI S : AM.Syms := names 0 more most
  have go : ∀ (a b : AM.V), AM.VsRel ((mu b1 o1 b2 o2).low 400) [a, b] [.int .i64 most, .int .i64 more] →
      (∀ ac, AM.SRel Tryz.prog W.heap.size W ((mu b1 o1 b2 o2).low 400) (start a b).env (start a b).n (start a b).h [] ac W → AM.wpL (AM.FW none) 0 Tryz.prog (AM.Fin Tryz.prog W.heap.size W Tryz.f3) itemsF ac W) →
      Calls Tryz.prog 3 #[.int .i64 most, .int .i64 more] W fun e w' => e = .returned (.bool true) ∧ Below W.heap.size W w' := fun a b hv H =>
    AM.calls_by (C := cfgF) Tryz.checked.mixed named Tryz.func3 (c := bodyF) (by kernel_rfl) (args := [a, b]) (args' := [.int .i64 most, .int .i64 more]) R0 hv (hx S) (hmo S) (fun ac R => H ac R)
  have early : ∀ (a b : AM.V), AM.stageA cfgF [] 100000 (itemsF.take 9) [([4], [])] (start a b) = some [(.ret, st6 401)] → ∀ ac, AM.SRel Tryz.prog W.heap.size W ((mu b1 o1 b2 o2).low 400) (start a b).env (start a b).n (start a b).h [] ac W → AM.wpL (AM.FW none) 0 Tryz.prog (AM.Fin Tryz.prog W.heap.size W Tryz.f3) itemsF ac W := fun a b e ac R => by
    rw [split]
    exact AM.wpL_append _ _ _ (part (hx S) (hmo S) e rfl rfl R fun m a w R => ⟨.inr rfl, st6 401, m, R, res 401⟩)
  have nmv : ∀ (lo hi : Int) (k : Nat) (v : Int), v = AM.Syms.nm k → lo ≤ v → v ≤ hi → AM.VRel ((mu b1 o1 b2 o2).low 400) (.nv k 0 lo hi none) (.int .i64 v) := fun lo hi k v e p q => .nv k 0 lo hi none v (by omega) p q trivial
  have two : ∀ (l1 h1 l2 h2 : Int), l1 ≤ most → most ≤ h1 → l2 ≤ more → more ≤ h2 → AM.VsRel ((mu b1 o1 b2 o2).low 400) [.nv 2 0 l1 h1 none, .nv 1 0 l2 h2 none] [.int .i64 most, .int .i64 more] := fun _ _ _ _ p q r s =>
    .cons _ _ _ _ (nmv _ _ 2 most rfl p q) (.cons _ _ _ _ (nmv _ _ 1 more rfl r s) .nil)
  by_cases c1 : most < 1
  · exact go _ _ (two low 0 low big l1 (by omega) l2 u2) (early _ _ ranA)
  by_cases c2 : most > 100
  · exact go _ _ (two 101 big low big (by omega) u1 l2 u2) (early _ _ ranB)
  by_cases c3 : more < 0
  · exact go _ _ (two 1 100 low (-1) (by omega) (by omega) l2 (by omega)) (early _ _ ranC)
  by_cases c4 : more > 100
  · exact go _ _ (two 1 100 101 big (by omega) (by omega) (by omega) u2) (early _ _ ranD)
  obtain ⟨M, rfl⟩ : ∃ M : Nat, most = M := ⟨most.toNat, by omega⟩
  obtain ⟨K, rfl⟩ : ∃ K : Nat, more = K := ⟨more.toNat, by omega⟩
  refine go _ _ (two 1 100 0 100 (by omega) (by omega) (by omega) (by omega)) fun ac R => ?_
  rw [split]
  refine AM.wpL_append _ _ _ (part (hx S) (hmo S) ran0 rfl rfl R fun m a w R => ?_)
  show (Code.block 0 (.loop B1)).wpIn (AM.FW none) 0 Tryz.prog _ a w
  refine wpIn_block (wpIn_loop_rounds (M + 1) (loop1 (hx S) (hmo S) (M := M) rfl (by omega) (by omega) (fun m a w R => ?_) M 0 (by omega) m a w R))
  simp only [Exit.inBlock, if_true, Exit.then]
  obtain ⟨_, k2, _, _, _, _, _, k8⟩ := ends M (by omega) (by omega)
  refine single (part (hx S) (hmo S) k2 rfl rfl R fun m a w R => ?_)
  show (Code.block 2 (.loop B2)).wpIn (AM.FW none) 0 Tryz.prog _ a w
  have R1 : AM.SRel Tryz.prog W.heap.size W m (((env3.put 0 (some (num M))).put 10 (some (num 0))).put 1 (some more0)) ntm (heap M (num M)) [] a w := R
  have R2 := mid_swap (v2 := jj) (fun y hy => by
    obtain rfl := AM.int_inv hy
    exact .nv 0 0 0 101 none _ (by show (Int.ofNat 0) = (0 : Int) + 0; rfl) (by decide) (by decide) trivial) R1
  refine wpIn_block (wpIn_loop_rounds (K + 2) (loop2 hx hmo (M := M) (more := K) (by omega) (by omega) (by omega) (fun S2 m a w R => ?_) (K + 1) 0 (by omega) m a w R2))
  simp only [Exit.inBlock, if_true, Exit.then]
  refine @part W W.heap.size S2 (hx S2) (hmo S2) _ _ _ _ _ k8 rfl rfl _ _ _ R _ (fun m a w R => ?_)
  have hg2 : Tryz.prog.globals.size ≤ 36189 := Nat.le_trans few (by decide)
  have R3 := @AM.SRel.reset Tryz.prog W.heap.size W ⟨S, trivial⟩ S2 _ (st6 36189) _ _ _ 36189 [4] [] R hg2 back6.1 rfl
  exact ⟨.inr rfl, AM.backS 36189 [4] [] (st6 36189), _, R3, back6.2⟩

end Go.Proofs.YtojkkmoflcfglaaGreatDoor.RunQueueAlive
