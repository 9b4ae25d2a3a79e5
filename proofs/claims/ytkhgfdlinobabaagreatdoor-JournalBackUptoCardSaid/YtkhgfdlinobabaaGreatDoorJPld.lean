/- journal.payload: the sound entry that the bytes write, or none. -/
import Derived.Test.YtkhgfdlinobabaaGreatDoorJRdOp
import Derived.Test.YtkhgfdlinobabaaGreatDoorJShort
import Derived.Defers
import Derived.Recover
import Derived.Tactics2
import Derived.Deep.RegionLaw
namespace Go.Proofs.YtkhgfdlinobabaaGreatDoor.G
open Go.RowKit
set_option linter.unusedVariables false
set_option linter.unusedSimpArgs false
set_option maxHeartbeats 2000000 in
theorem catch_pan {p q : Nat} {x0 x1 : Value} {b : Bool} (w : World) (hp : w.heap[p]? = some (.cells #[x0, x1] 25 (0, 0))) (hq : w.heap[q]? = some (.cells #[.bool b] 4 (0, 0))) (hne : p ≠ q) :
    CallsD Tryz.prog 54 #[.pointer (some ⟨p, 0, none⟩), .pointer (some ⟨q, 0, none⟩)] (.panicking torn) w fun e u' w' =>
      e = .returned (.tuple #[]) ∧ u' = .panicking [{ v := .iface 106 (.agg #[]), recovered := true }] ∧ w' = ((w.setCell ⟨p, 0, none⟩ (.int .u64 0)).setCell ⟨p, 1, none⟩ (.slice none 0 0)).setCell ⟨q, 0, none⟩ (.bool false) := by
  have c0 := Blk.cell hp 0
  have c1 := Blk.cell hp 1
  have d0 := Blk.cell hq 0
  have f0 := Blk.free hp 0
  have f1 := Blk.free hp 1
  have g0 := Blk.free hq 0
  simp only [List.getElem?_toArray, List.getElem?_cons_zero, List.getElem?_cons_succ] at c0 c1 d0
  refine callsD_of_wpS Tryz.func54 rfl fun c₀ cs hu => ?_
  apply wpS_seq
  apply wpS_region
  simp [wpOpsS, go_sem, recoverD, hu, Tryz.ntmps54, Exit.thenS]
  refine wpS_of_wp ?_
  go_wp2
  · refine ⟨rfl, _, rfl, .tuple #[], by simp [results, Tryz.results54], rfl, rfl, rfl⟩
theorem catch_idle {p q : Nat} (w : World) :
    CallsD Tryz.prog 54 #[.pointer (some ⟨p, 0, none⟩), .pointer (some ⟨q, 0, none⟩)] .returning w fun e u' w' => e = .returned (.tuple #[]) ∧ u' = .returning ∧ w' = w := by
  refine callsD_of_wpS Tryz.func54 rfl fun c₀ cs hu => ?_
  apply wpS_seq
  apply wpS_region
  simp [wpOpsS, go_sem, recoverD, hu, Tryz.ntmps54, Exit.thenS]
  refine wpS_of_wp ?_
  go_wp2
  refine ⟨rfl, .returning, ?_, .tuple #[], by simp [results, Tryz.results54], rfl, rfl, rfl⟩
  cases c₀
  simp_all
theorem rdNum_le {n : Nat} {l l' : List UInt8} {x : Nat} (h : rdNum n l = some (x, l')) : x < 256 ^ n := rdNum_lt h
theorem rdCas_lt {l l' : List UInt8} {c : Bool × Nat} (h : rdCas l = some (c, l')) : c.2 < 18446744073709551616 := by
  unfold rdCas at h
  obtain ⟨⟨x, l1⟩, h1, h2⟩ := Option.bind_eq_some_iff.1 h
  simp only at h2
  split at h2
  · have := (Prod.mk.inj (Option.some.inj h2)).1
    rw [← this]; decide
  · split at h2
    · obtain ⟨⟨y, l2⟩, h3, h4⟩ := Option.map_eq_some_iff.1 h2
      have := (Prod.mk.inj h4).1
      rw [← this]
      exact rdNum_lt h3
    · cases h2
theorem rdRec_small {k : Nat} {l l' : List UInt8} {n : Nod} {s : Svc} {c : Chk} (h : rdRec k l = some ((n, s, c), l')) : ∀ (kd : Int) (cas : Bool) (want : Int), OpSmall ⟨kd, n, s, c, cas, want⟩ := by
  have le : ∀ {l l' : List UInt8} {t : ByteArray}, rdText l = some (t, l') → t.size ≤ 1048576 := fun h => by have := rdText_sz h; omega
  have ez : E0.size ≤ 1048576 := by decide
  have zt : ∀ t ∈ ([] : List ByteArray), t.size ≤ 1048576 := fun t ht => by simp at ht
  unfold rdRec at h
  split at h
  · obtain ⟨⟨a, l1⟩, h1, h⟩ := Option.bind_eq_some_iff.1 h
    obtain ⟨⟨b, l2⟩, h2, h⟩ := Option.map_eq_some_iff.1 h
    obtain ⟨⟨rfl, rfl, rfl⟩, _⟩ : (_ ∧ _ ∧ _) ∧ _ := by simpa using h
    exact fun _ _ _ => ⟨le h1, le h2, ez, ez, ez, zt, Nat.zero_le _, ez, ez, ez, ez⟩
  split at h
  · obtain ⟨⟨a, l1⟩, h1, h⟩ := Option.bind_eq_some_iff.1 h
    obtain ⟨⟨b, l2⟩, h2, h⟩ := Option.bind_eq_some_iff.1 h
    obtain ⟨⟨c', l3⟩, h3, h⟩ := Option.bind_eq_some_iff.1 h
    obtain ⟨⟨d, l4⟩, h4, h⟩ := Option.bind_eq_some_iff.1 h
    obtain ⟨⟨e, l5⟩, h5, h⟩ := Option.bind_eq_some_iff.1 h
    obtain ⟨⟨f, l6⟩, h6, h⟩ := Option.map_eq_some_iff.1 h
    obtain ⟨⟨rfl, rfl, rfl⟩, _⟩ : (_ ∧ _ ∧ _) ∧ _ := by simpa using h
    obtain ⟨hl, hs⟩ := rdTexts_sz _ _ _ _ h6
    have he := rdNum_lt h5
    exact fun _ _ _ => ⟨ez, ez, le h1, le h2, le h3, fun t ht => by have := hs t ht; omega, by show f.length ≤ _; omega, ez, ez, ez, ez⟩
  split at h
  · obtain ⟨⟨a, l1⟩, h1, h⟩ := Option.bind_eq_some_iff.1 h
    obtain ⟨⟨b, l2⟩, h2, h⟩ := Option.bind_eq_some_iff.1 h
    obtain ⟨⟨c', l3⟩, h3, h⟩ := Option.bind_eq_some_iff.1 h
    obtain ⟨⟨d, l4⟩, h4, h⟩ := Option.bind_eq_some_iff.1 h
    obtain ⟨⟨e, l5⟩, h5, h⟩ := Option.map_eq_some_iff.1 h
    obtain ⟨⟨rfl, rfl, rfl⟩, _⟩ : (_ ∧ _ ∧ _) ∧ _ := by simpa using h
    exact fun _ _ _ => ⟨ez, ez, ez, ez, ez, zt, Nat.zero_le _, le h1, le h2, le h3, le h5⟩
  split at h
  · obtain ⟨⟨a, l1⟩, h1, h⟩ := Option.map_eq_some_iff.1 h
    obtain ⟨⟨rfl, rfl, rfl⟩, _⟩ : (_ ∧ _ ∧ _) ∧ _ := by simpa using h
    exact fun _ _ _ => ⟨le h1, ez, ez, ez, ez, zt, Nat.zero_le _, ez, ez, ez, ez⟩
  split at h
  · obtain ⟨⟨a, l1⟩, h1, h⟩ := Option.bind_eq_some_iff.1 h
    obtain ⟨⟨b, l2⟩, h2, h⟩ := Option.map_eq_some_iff.1 h
    obtain ⟨⟨rfl, rfl, rfl⟩, _⟩ : (_ ∧ _ ∧ _) ∧ _ := by simpa using h
    exact fun _ _ _ => ⟨ez, ez, le h1, le h2, ez, zt, Nat.zero_le _, ez, ez, ez, ez⟩
  split at h
  · obtain ⟨⟨a, l1⟩, h1, h⟩ := Option.bind_eq_some_iff.1 h
    obtain ⟨⟨b, l2⟩, h2, h⟩ := Option.map_eq_some_iff.1 h
    obtain ⟨⟨rfl, rfl, rfl⟩, _⟩ : (_ ∧ _ ∧ _) ∧ _ := by simpa using h
    exact fun _ _ _ => ⟨ez, ez, ez, ez, ez, zt, Nat.zero_le _, le h1, le h2, ez, ez⟩
  · obtain ⟨⟨rfl, rfl, rfl⟩, _⟩ : (_ ∧ _ ∧ _) ∧ _ := by simpa using h
    exact fun _ _ _ => ⟨ez, ez, ez, ez, ez, zt, Nat.zero_le _, ez, ez, ez, ez⟩
theorem rdOp_small {l l' : List UInt8} {o : OpV} (h : rdOp l = some (o, l')) : OpSmall o ∧ 0 ≤ o.want ∧ o.want < 18446744073709551616 := by
  unfold rdOp at h
  obtain ⟨⟨k, l1⟩, h1, h⟩ := Option.bind_eq_some_iff.1 h
  obtain ⟨⟨⟨c, wn⟩, l2⟩, h2, h⟩ := Option.bind_eq_some_iff.1 h
  obtain ⟨⟨⟨n, s, x⟩, l3⟩, h3, h⟩ := Option.map_eq_some_iff.1 h
  have e := (Prod.mk.inj h).1
  have hw := rdCas_lt h2
  simp only at e hw
  rw [← e]
  exact ⟨rdRec_small h3 _ _ _, Int.natCast_nonneg _, by show (wn : Int) < _; omega⟩
theorem rdOps_small : ∀ (n : Nat) (l l' : List UInt8) (os : List OpV), rdOps n l = some (os, l') → os.length = n ∧ ∀ j, j < os.length → OpSmall (os.getD j OpV.zero) ∧ 0 ≤ (os.getD j OpV.zero).want ∧ (os.getD j OpV.zero).want < 18446744073709551616
  | 0, l, l', os, h => by
    obtain rfl := (Prod.mk.inj (Option.some.inj h)).1
    exact ⟨rfl, fun j hj => by simp at hj⟩
  | n + 1, l, l', os, h => by
    rw [rdOps] at h
    obtain ⟨⟨o, l1⟩, h1, h⟩ := Option.bind_eq_some_iff.1 h
    obtain ⟨⟨us, l2⟩, h2, h⟩ := Option.map_eq_some_iff.1 h
    obtain ⟨i1, i2⟩ := rdOps_small n _ _ _ h2
    have e := (Prod.mk.inj h).1
    simp only at e
    subst e
    refine ⟨by rw [List.length_cons, i1], fun j hj => ?_⟩
    cases j with
    | zero => exact rdOp_small h1
    | succ j => exact i2 j (by simpa using hj)
/-- What payload answers. -/
def PldPost (l : List UInt8) (w0 : World) (e : Ending) (w' : World) : Prop :=
  (∃ (idx : Nat) (os : List OpV) (vo : Value) (vts : List Value), rdPay l = some (idx, os) ∧ SoundV os ∧ e = .returned (.tuple #[.agg #[.int .u64 (idx : Int), vo], .bool true]) ∧ OwnOps w0.heap.size w' vo os vts ∧ Below w0.heap.size w0 w') ∨
  ((∀ idx os, rdPay l = some (idx, os) → ¬ SoundV os) ∧ e = .returned (.tuple #[.agg #[.int .u64 0, .slice none 0 0], .bool false]) ∧ Below w0.heap.size w0 w')
/-- What is kept while a payload is read. -/
structure PldSt (w0 w : World) (idx : Int) (vo : Value) (os : List OpV) (vts : List Value) (q : List UInt8) : Prop where
  bel : Below w0.heap.size w0 w
  ent : w.heap[w0.heap.size]? = some (.cells #[.int .u64 idx, vo] 25 (0, 0))
  okc : w.heap[w0.heap.size + 1]? = some (.cells #[.bool false] 4 (0, 0))
  rd : Rd w0.heap.size (w0.heap.size + 1 + 1) w q
  own : OwnOps w0.heap.size w vo os vts
theorem results_pld {T : Array Value} {W : World} {p q : Nat} {x0 x1 : Value} {b : Bool} (h2 : T.getD 2 undef = .pointer (some ⟨p, 0, none⟩)) (h3 : T.getD 3 undef = .pointer (some ⟨q, 0, none⟩))
    (he : W.heap[p]? = some (.cells #[x0, x1] 25 (0, 0))) (ho : W.heap[q]? = some (.cells #[.bool b] 4 (0, 0))) : (results Tryz.f39 T).run Tryz.prog W = .ok (.tuple #[.agg #[x0, x1], .bool b]) W := by
  have h2' : T[2]?.getD undef = .pointer (some ⟨p, 0, none⟩) := by simpa using h2
  have h3' : T[3]?.getD undef = .pointer (some ⟨q, 0, none⟩) := by simpa using h3
  have c0 : W.cell? ⟨p, 0, none⟩ = some x0 := Blk.cell he 0
  have c1 : W.cell? ⟨p, 1, none⟩ = some x1 := Blk.cell he 1
  have d0 : W.cell? ⟨q, 0, none⟩ = some (.bool b) := Blk.cell ho 0
  simp [results, Tryz.results39, h2', h3', asAddr, go_sem, c0, c1, d0]
theorem pld_die {l : List UInt8} {w0 w : World} {idx : Int} {vo : Value} {T : Array Value} (bel : Below w0.heap.size w0 w) (ent : w.heap[w0.heap.size]? = some (.cells #[.int .u64 idx, vo] 25 (0, 0))) (okc : w.heap[w0.heap.size + 1]? = some (.cells #[.bool false] 4 (0, 0))) (hbad : ∀ idx os, rdPay l = some (idx, os) → ¬ SoundV os)
    (h2 : T.getD 2 undef = .pointer (some ⟨w0.heap.size, 0, none⟩)) (h3 : T.getD 3 undef = .pointer (some ⟨w0.heap.size + 1, 0, none⟩)) :
    bodyPostD Tryz.prog Tryz.f39 (PldPost l w0) (Exit.panic torn) { tmps := T, defers := [{ target := Target.fn (Fn.func 54) #[.pointer (some ⟨w0.heap.size, 0, none⟩), .pointer (some ⟨w0.heap.size + 1, 0, none⟩)], args := #[] }] } w := by
  refine leaves_cons (f := 54) (args := #[.pointer (some ⟨w0.heap.size, 0, none⟩), .pointer (some ⟨w0.heap.size + 1, 0, none⟩)]) (by simp) (by simp [go_sem]) ?_
  refine (catch_pan w ent okc (by omega)).mono ?_
  rintro e u' w'' ⟨rfl, rfl, rfl⟩
  have hne : w0.heap.size ≠ w0.heap.size + 1 := by omega
  have a1 : (w.setCell ⟨w0.heap.size, 0, none⟩ (.int .u64 0)).heap[w0.heap.size]? = some (.cells #[.int .u64 0, vo] 25 (0, 0)) := set_blk _ ent
  have a2 : ((w.setCell ⟨w0.heap.size, 0, none⟩ (.int .u64 0)).setCell ⟨w0.heap.size, 1, none⟩ (.slice none 0 0)).heap[w0.heap.size]? = some (.cells #[.int .u64 0, .slice none 0 0] 25 (0, 0)) := set_blk _ a1
  have q1 : (((w.setCell ⟨w0.heap.size, 0, none⟩ (.int .u64 0)).setCell ⟨w0.heap.size, 1, none⟩ (.slice none 0 0)).setCell ⟨w0.heap.size + 1, 0, none⟩ (.bool false)).heap[w0.heap.size]? = some (.cells #[.int .u64 0, .slice none 0 0] 25 (0, 0)) := set_far _ hne a2
  have b1 : (w.setCell ⟨w0.heap.size, 0, none⟩ (.int .u64 0)).heap[w0.heap.size + 1]? = some (.cells #[.bool false] 4 (0, 0)) := set_far _ hne.symm okc
  have b2 : ((w.setCell ⟨w0.heap.size, 0, none⟩ (.int .u64 0)).setCell ⟨w0.heap.size, 1, none⟩ (.slice none 0 0)).heap[w0.heap.size + 1]? = some (.cells #[.bool false] 4 (0, 0)) := set_far _ hne.symm b1
  have q2 : (((w.setCell ⟨w0.heap.size, 0, none⟩ (.int .u64 0)).setCell ⟨w0.heap.size, 1, none⟩ (.slice none 0 0)).setCell ⟨w0.heap.size + 1, 0, none⟩ (.bool false)).heap[w0.heap.size + 1]? = some (.cells #[.bool false] 4 (0, 0)) := set_blk _ b2
  have hr := results_pld h2 h3 q1 q2
  have hp : PldPost l w0 (.returned (.tuple #[.agg #[.int .u64 0, .slice none 0 0], .bool false])) (((w.setCell ⟨w0.heap.size, 0, none⟩ (.int .u64 0)).setCell ⟨w0.heap.size, 1, none⟩ (.slice none 0 0)).setCell ⟨w0.heap.size + 1, 0, none⟩ (.bool false)) :=
    .inr ⟨hbad, rfl, ((bel.setCell (p := ⟨w0.heap.size, 0, none⟩) (Nat.le_refl _) _).setCell (p := ⟨w0.heap.size, 1, none⟩) (Nat.le_refl _) _).setCell (p := ⟨w0.heap.size + 1, 0, none⟩) (by show _ ≤ w0.heap.size + 1; omega) _⟩
  simp [Leaves, settle]
  exact ⟨_, hr, hp⟩
theorem pld_end {l : List UInt8} {w0 w : World} {x0 x1 : Value} {b : Bool} {T : Array Value} (he : w.heap[w0.heap.size]? = some (.cells #[x0, x1] 25 (0, 0))) (ho : w.heap[w0.heap.size + 1]? = some (.cells #[.bool b] 4 (0, 0)))
    (hp : PldPost l w0 (.returned (.tuple #[.agg #[x0, x1], .bool b])) w) (h2 : T.getD 2 undef = .pointer (some ⟨w0.heap.size, 0, none⟩)) (h3 : T.getD 3 undef = .pointer (some ⟨w0.heap.size + 1, 0, none⟩)) :
    bodyPostD Tryz.prog Tryz.f39 (PldPost l w0) Exit.ret { tmps := T, defers := [{ target := Target.fn (Fn.func 54) #[.pointer (some ⟨w0.heap.size, 0, none⟩), .pointer (some ⟨w0.heap.size + 1, 0, none⟩)], args := #[] }] } w := by
  refine leaves_cons (f := 54) (args := #[.pointer (some ⟨w0.heap.size, 0, none⟩), .pointer (some ⟨w0.heap.size + 1, 0, none⟩)]) (by simp) (by simp [go_sem]) ?_
  refine (catch_idle w).mono ?_
  rintro e u' w'' ⟨rfl, rfl, rfl⟩
  have hr := results_pld h2 h3 he ho
  simp [Leaves, settle]
  exact ⟨_, hr, hp⟩
section
variable {w0 w w' : World} {idx : Int} {vo : Value} {os : List OpV} {vts : List Value} {q q' : List UInt8}
theorem PldSt.call (S : PldSt w0 w idx vo os vts q) (hg : w.grownBy w' (some (w0.heap.size + 1 + 1))) (hr : Rd w0.heap.size (w0.heap.size + 1 + 1) w' q') : PldSt w0 w' idx vo os vts q' := by
  obtain ⟨bel, ent, okc, rd, own⟩ := S
  obtain ⟨⟨y, hy, _⟩, _⟩ := rd
  have hne : ∀ k, some k ≠ some (w0.heap.size + 1 + 1) → k < w.heap.size → w'.heap[k]? = w.heap[k]? := fun k h hk => hg.block k hk h
  have n1 : ∀ {e sz n : Nat} {v : Value} {xs : List Value}, w.ownsRow w0.heap.size e sz v n xs → e ≠ 83 → w'.ownsRow w0.heap.size e sz v n xs := fun h hn => own_grown h hg (fun k hk e => own_ne h hy hn k hk (Option.some.inj e))
  exact ⟨bel.grown hg bel.size (fun k hk => by cases hk; omega), (hne _ (fun e => by have := Option.some.inj e; omega) (Array.getElem?_eq_some_iff.1 ent).1).trans ent, (hne _ (fun e => by have := Option.some.inj e; omega) (Array.getElem?_eq_some_iff.1 okc).1).trans okc, hr, own.1, n1 own.2.1 (by decide), fun j hj => n1 (own.2.2 j hj) (by decide)⟩
theorem PldSt.setIdx (S : PldSt w0 w idx vo os vts q) (i : Int) : PldSt w0 (w.setCell ⟨w0.heap.size, 0, none⟩ (.int .u64 i)) i vo os vts q := by
  obtain ⟨bel, ent, okc, ⟨⟨y, hy, hb⟩, hl⟩, own⟩ := S
  exact ⟨bel.setCell (p := ⟨w0.heap.size, 0, none⟩) (Nat.le_refl _) _, (set_blk _ ent).trans rfl, set_far _ (by omega) okc, ⟨⟨y, set_far _ (by omega) hy, hb.keep fun k hk => set_far _ (show k ≠ w0.heap.size from by omega) rfl⟩, hl⟩, own.setCell ent (by decide) (by decide) _ _⟩
end
section
variable {w0 w w' w2 : World} {idx : Int} {vo : Value} {os : List OpV} {vts : List Value} {q q' : List UInt8}
theorem PldSt.drewN (S : PldSt w0 w idx vo os vts q) (n : Nat) : PldSt w0 (w.drewN n) idx vo os vts q := by
  obtain ⟨bel, ent, okc, ⟨⟨y, hy, hb⟩, hl⟩, own⟩ := S
  exact ⟨⟨bel.os, bel.tape, bel.output, bel.size, bel.block⟩, ent, okc, ⟨⟨y, hy, hb.keep fun _ _ => rfl⟩, hl⟩, own⟩
theorem PldSt.grow (S : PldSt w0 w idx vo os vts q) {x : Obj} {row : Option Nat} (hg : (w.alloc x).grownBy w2 row) (hr : ∀ k, row = some k → w0.heap.size ≤ k ∧ k ≠ w0.heap.size ∧ k ≠ w0.heap.size + 1 ∧ k ≠ w0.heap.size + 1 + 1)
    {v2 : Value} {os2 : List OpV} {vts2 : List Value} (ho : OwnOps w0.heap.size w2 v2 os2 vts2) : PldSt w0 (w2.setCell ⟨w0.heap.size, 1, none⟩ v2) idx v2 os2 vts2 q := by
  obtain ⟨bel, ent, okc, ⟨⟨y, hy, hb⟩, hl⟩, own⟩ := S
  have one : ∀ k, k < w.heap.size → (k < w0.heap.size ∨ k = w0.heap.size ∨ k = w0.heap.size + 1 ∨ k = w0.heap.size + 1 + 1) → w2.heap[k]? = w.heap[k]? := fun k hk h => (hg.block k (by simp; omega) (fun e => by have := hr k e.symm; omega)).trans (Lib.alloc_old w x k hk)
  have z1 := (Array.getElem?_eq_some_iff.1 ent).1
  have z2 := (Array.getElem?_eq_some_iff.1 okc).1
  have z3 := (Array.getElem?_eq_some_iff.1 hy).1
  have e2 := (one _ z1 (by omega)).trans ent
  have B2 : Below w0.heap.size w0 w2 := (bel.alloc bel.size x).grown hg (by simp; have := bel.size; omega) (fun k hk => (hr k hk).1)
  exact ⟨B2.setCell (p := ⟨w0.heap.size, 1, none⟩) (Nat.le_refl _) _, (set_blk _ e2).trans rfl, set_far _ (by omega) ((one _ z2 (by omega)).trans okc), ⟨⟨y, set_far _ (by omega) ((one _ z3 (by omega)).trans hy), hb.keep fun k hk => (set_far _ (show k ≠ w0.heap.size from by omega) rfl).trans (one k (by omega) (by omega))⟩, hl⟩, ho.setCell e2 (by decide) (by decide) _ _⟩
end
theorem Rd.drewN {base g : Nat} {w : World} {l : List UInt8} (h : Rd base g w l) (n : Nat) : Rd base g (w.drewN n) l := by
  obtain ⟨⟨y, hy, hb⟩, hl⟩ := h
  exact ⟨⟨y, hy, hb.keep fun _ _ => rfl⟩, hl⟩
theorem pld_bad {l : List UInt8} {w0 w : World} {idx : Int} {vo : Value} {T : Array Value} (bel : Below w0.heap.size w0 w) (ent : w.heap[w0.heap.size]? = some (.cells #[.int .u64 idx, vo] 25 (0, 0))) (okc : w.heap[w0.heap.size + 1]? = some (.cells #[.bool false] 4 (0, 0))) (hbad : ∀ idx os, rdPay l = some (idx, os) → ¬ SoundV os)
    (h2 : T.getD 2 undef = .pointer (some ⟨w0.heap.size, 0, none⟩)) (h3 : T.getD 3 undef = .pointer (some ⟨w0.heap.size + 1, 0, none⟩)) :
    bodyPostD Tryz.prog Tryz.f39 (PldPost l w0) Exit.ret { tmps := T, defers := [{ target := Target.fn (Fn.func 54) #[.pointer (some ⟨w0.heap.size, 0, none⟩), .pointer (some ⟨w0.heap.size + 1, 0, none⟩)], args := #[] }] } (((w.setCell ⟨w0.heap.size, 0, none⟩ (.int .u64 0)).setCell ⟨w0.heap.size, 1, none⟩ (.slice none 0 0)).setCell ⟨w0.heap.size + 1, 0, none⟩ (.bool false)) := by
  have hne : w0.heap.size ≠ w0.heap.size + 1 := by omega
  have a1 : (w.setCell ⟨w0.heap.size, 0, none⟩ (.int .u64 0)).heap[w0.heap.size]? = some (.cells #[.int .u64 0, vo] 25 (0, 0)) := set_blk _ ent
  have a2 : ((w.setCell ⟨w0.heap.size, 0, none⟩ (.int .u64 0)).setCell ⟨w0.heap.size, 1, none⟩ (.slice none 0 0)).heap[w0.heap.size]? = some (.cells #[.int .u64 0, .slice none 0 0] 25 (0, 0)) := set_blk _ a1
  have b1 : (w.setCell ⟨w0.heap.size, 0, none⟩ (.int .u64 0)).heap[w0.heap.size + 1]? = some (.cells #[.bool false] 4 (0, 0)) := set_far _ hne.symm okc
  have b2 : ((w.setCell ⟨w0.heap.size, 0, none⟩ (.int .u64 0)).setCell ⟨w0.heap.size, 1, none⟩ (.slice none 0 0)).heap[w0.heap.size + 1]? = some (.cells #[.bool false] 4 (0, 0)) := set_far _ hne.symm b1
  refine pld_end (x0 := .int .u64 0) (x1 := .slice none 0 0) (b := false) (set_far _ hne a2) (set_blk _ b2) ?_ h2 h3
  exact .inr ⟨hbad, rfl, ((bel.setCell (p := ⟨w0.heap.size, 0, none⟩) (Nat.le_refl _) _).setCell (p := ⟨w0.heap.size, 1, none⟩) (Nat.le_refl _) _).setCell (p := ⟨w0.heap.size + 1, 0, none⟩) (by show _ ≤ w0.heap.size + 1; omega) _⟩
theorem pld_ok {l : List UInt8} {w0 w : World} {idx : Nat} {vo : Value} {os : List OpV} {vts : List Value} {T : Array Value} (bel : Below w0.heap.size w0 w) (ent : w.heap[w0.heap.size]? = some (.cells #[.int .u64 (idx : Int), vo] 25 (0, 0))) (okc : w.heap[w0.heap.size + 1]? = some (.cells #[.bool false] 4 (0, 0))) (hp : rdPay l = some (idx, os)) (hs : SoundV os) (own : OwnOps w0.heap.size w vo os vts)
    (h2 : T.getD 2 undef = .pointer (some ⟨w0.heap.size, 0, none⟩)) (h3 : T.getD 3 undef = .pointer (some ⟨w0.heap.size + 1, 0, none⟩)) :
    bodyPostD Tryz.prog Tryz.f39 (PldPost l w0) Exit.ret { tmps := T, defers := [{ target := Target.fn (Fn.func 54) #[.pointer (some ⟨w0.heap.size, 0, none⟩), .pointer (some ⟨w0.heap.size + 1, 0, none⟩)], args := #[] }] } (((w.setCell ⟨w0.heap.size, 0, none⟩ (.int .u64 (idx : Int))).setCell ⟨w0.heap.size, 1, none⟩ vo).setCell ⟨w0.heap.size + 1, 0, none⟩ (.bool true)) := by
  have hne : w0.heap.size ≠ w0.heap.size + 1 := by omega
  have a1 : (w.setCell ⟨w0.heap.size, 0, none⟩ (.int .u64 (idx : Int))).heap[w0.heap.size]? = some (.cells #[.int .u64 (idx : Int), vo] 25 (0, 0)) := set_blk _ ent
  have a2 : ((w.setCell ⟨w0.heap.size, 0, none⟩ (.int .u64 (idx : Int))).setCell ⟨w0.heap.size, 1, none⟩ vo).heap[w0.heap.size]? = some (.cells #[.int .u64 (idx : Int), vo] 25 (0, 0)) := set_blk _ a1
  have b1 : (w.setCell ⟨w0.heap.size, 0, none⟩ (.int .u64 (idx : Int))).heap[w0.heap.size + 1]? = some (.cells #[.bool false] 4 (0, 0)) := set_far _ hne.symm okc
  have b2 : ((w.setCell ⟨w0.heap.size, 0, none⟩ (.int .u64 (idx : Int))).setCell ⟨w0.heap.size, 1, none⟩ vo).heap[w0.heap.size + 1]? = some (.cells #[.bool false] 4 (0, 0)) := set_far _ hne.symm b1
  refine pld_end (x0 := .int .u64 (idx : Int)) (x1 := vo) (b := true) (set_far _ hne a2) (set_blk _ b2) ?_ h2 h3
  exact .inl ⟨idx, os, vo, vts, hp, hs, rfl, ((own.setCell ent (by decide) (by decide) _ _).setCell a1 (by decide) (by decide) _ _).setCell b2 (by decide) (by decide) _ _, ((bel.setCell (p := ⟨w0.heap.size, 0, none⟩) (Nat.le_refl _) _).setCell (p := ⟨w0.heap.size, 1, none⟩) (Nat.le_refl _) _).setCell (p := ⟨w0.heap.size + 1, 0, none⟩) (by show _ ≤ w0.heap.size + 1; omega) _⟩
/-- An operation behind a list of operations of one's own, as one step. -/
theorem step_op1 {ops : Array Oper} {o : Oper} {a : Act} {K : Act → World → Prop} {Q : Exit → Act → World → Prop} {E : Prop} {W : World} (hgd : o.guard = none) (s x : Operand) (ho : o.op = .call { callee := .builtin .append, args := #[s, x], argTypes := #[23, 23] }) (base : Nat) (v : Value) (os : List OpV) (vts : List Value) (c : OpV) (A : Option Addr) (p g : Nat)
    (hs : a.eval s = v) (hx : a.eval x = .slice (some ⟨g, 0, none⟩) 1 1) (hg : W.heap[g]? = some (.cells (opc c (.slice A c.svc.tags.length p)) 53 (0, 0))) (hl : os.length ≤ 1048576) (hb : base ≤ W.heap.size) (h1 : OwnOps base W v os vts)
    (ht : W.ownsRow base 9 1 (.slice A c.svc.tags.length p) c.svc.tags.length (tx c.svc.tags))
    (h : ∀ v' w', Hid (OwnOps base w' v' (os ++ [c]) (vts ++ [.slice A c.svc.tags.length p])) → Hid (W.grownBy w' v.ownBlock) → K (a.put o.dst v') w') : if Region.wanted o (yielded ops a.tmps) = true then Oper.wp Tryz.prog o a W K Q else E := by
  obtain ⟨i0, hi, hz0, hz1, hz2⟩ := info_parts info_op
  have hw : Region.wanted o (yielded ops a.tmps) = true := by simp [Region.wanted, hgd]
  rw [if_pos hw]
  obtain ⟨v', w', hr, ho2, hg2, _, hat⟩ := run_append_own_at (P := Tryz.prog) W base 23 o.type 53 i0 _ 21 256 Tryz.underlying23 hi hz0 hz1 hz2 rfl (by decide) v os.length (opsCells os vts) h1.2.1 ⟨g, 0, none⟩ 1 1 (opc c (.slice A c.svc.tags.length p)).toList rfl (by
    intro j u hj
    rw [Addr.add_mid, Nat.zero_add, Blk.cell hg j]
    simpa using hj) (by intro u hu; simp at hu; rcases hu with rfl | rfl | rfl | rfl | rfl | rfl | rfl | rfl | rfl | rfl | rfl | rfl | rfl | rfl | rfl | rfl | rfl | rfl | rfl | rfl | rfl <;> rfl) (by unfold maxLen; omega) (by omega) hb
  unfold Oper.wp execOp
  simp only [ho, resolve, invoke, builtin, Sem.run_bind, Sem.run_pure, Result.andThen_ok, List.map_toArray, List.map_cons, List.map_nil, hs, hx, hr]
  exact h v' w' (Lib.hid (h1.snoc c _ ht hg2 ho2)) (Lib.hid hg2)
theorem hf_op (v : Value) (W : World) : (callFunc 55 #[v]).run Tryz.prog W = .ok (.enter 55 #[v]) W := by
  have h1 : ¬ Tryz.f55.name = "runtime.NumGoroutine" := fun e => by have h : (Tryz.f55.name == "runtime.NumGoroutine") = false := by kernel_rfl
                                                                    rw [e] at h; exact absurd h (by decide)
  have h2 : ¬ Tryz.f55.body = none := fun e => by have h : Tryz.f55.body.isNone = false := by kernel_rfl
                                                  rw [e] at h; exact absurd h (by decide)
  simp [callFunc, go_sem, Tryz.func55, h1, h2]
theorem rdPay_none {l : List UInt8} (h : rdPay l = none) : ∀ idx os, rdPay l = some (idx, os) → ¬ SoundV os := fun idx os e => by rw [h] at e; cases e
set_option maxHeartbeats 4000000 in
set_option maxRecDepth 100000 in
theorem payload_calls (v : Value) (l : List UInt8) (hl : l.length ≤ 4000000) (w : World) (hv : VarsOk w) (hb : BytesAt w v l) :
    Calls Tryz.prog 39 #[v] w (PldPost l w) := by
  have hmf : ∀ (fn : Fn) (first cap : Array Value) (w : World), (Instr.makeFunc fn first cap).run Tryz.prog w = .ok (.func fn first cap) w := fun _ _ _ _ => rfl
  have HV := Lib.hid hv
  have HBL := Lib.hid (BytesLow.of_at hb)
  clear hv hb
  obtain ⟨A, cp, rfl⟩ := HBL.out.form
  go_enter_defers Tryz.func39, Tryz.ntmps39
  have S0 : Hid (PldSt w (((w.alloc (.cells #[.int .u64 0, .slice none 0 0] 25)).alloc (.cells #[.bool false] 4)).alloc (.cells #[.slice A l.length cp] 83)) 0 (.slice none 0 0) [] [] l) := Lib.hid
    ⟨below_alloc3 w _ _ _, alloc1 w _ _ _, alloc2 w _ _ _, ⟨⟨_, alloc3 w _ _ _, HBL.out.keep fun k hk => (below_alloc3 w _ _ _).block k hk⟩, by omega⟩, rfl, World.ownsRow_nil _ _ _ _, fun j hj => by simp at hj⟩
  go_wp2_with (go_at_call 37; refine (calls_hid (num_any w.heap.size (w.heap.size + 1 + 1) l 8 (by decide) (by omega) _ S0.out.rd)).mono ?_)
  rintro e w1 hh
  rcases hh.out with ⟨h1, rfl, rfl⟩ | ⟨idx, l1, h1, hx, hl1, rfl, hg1, hz1, hr1⟩
  · clear hh
    exact pld_die S0.out.bel S0.out.ent S0.out.okc (rdPay_none (by unfold rdPay; rw [h1]; rfl)) rfl rfl
  clear hh
  have S1 := Lib.hid (S0.out.call hg1 hr1)
  have H1 := Lib.hid h1
  have c0 : w1.cell? ⟨w.heap.size, 0, none⟩ = some (.int .u64 0) := Blk.cell S1.out.ent 0
  have f0 := Blk.free S1.out.ent 0
  have hidx : idx < 18446744073709551616 := by simpa using hx
  have S2 : Hid (PldSt w (w1.setCell ⟨w.heap.size, 0, none⟩ (.int .u64 (idx : Int))) (idx : Int) (.slice none 0 0) [] [] l1) := Lib.hid (S1.out.setIdx _)
  clear h1 hg1 hz1 hr1 hx S0
  go_wp2_with (go_at_call 37; refine (calls_hid (num_any w.heap.size (w.heap.size + 1 + 1) l1 1 (by decide) (by omega) _ S2.out.rd)).mono ?_)
  rintro e w2 hh
  rcases hh.out with ⟨h2, rfl, rfl⟩ | ⟨n, l2, h2, hx, hl2, rfl, hg2, hz2, hr2⟩
  · clear hh
    exact pld_die S2.out.bel S2.out.ent S2.out.okc (rdPay_none (by unfold rdPay; rw [H1.out]; simp [h2])) rfl rfl
  clear hh
  have S3 := Lib.hid (S2.out.call hg2 hr2)
  have H2 := Lib.hid h2
  have hn : n < 256 := by simpa using hx
  clear h2 hg2 hz2 hr2 hx S2 S1 c0 f0
  go_wp2
  go_loopw [14] (fun i wr => ∃ (m : Nat) (os : List OpV) (vo : Value) (vts : List Value) (q : List UInt8), m ≤ n ∧ i = .int .u64 m ∧ os.length = m ∧ q.length ≤ l.length ∧ Hid (rdOps n l2 = (rdOps (n - m) q).map (fun y => (os ++ y.1, y.2))) ∧ Hid (PldSt w wr (idx : Int) vo os vts q)) (fun i _ => n - (intOf i).toNat)
  case atStart => exact ⟨0, [], .slice none 0 0, [], l2, Nat.zero_le _, rfl, rfl, by omega, Lib.hid (by simp), S3⟩
  case round =>
    obtain ⟨m, os, vo, vts, q, hm, rfl, hos, hq, hT, hS⟩ := hrel
    subst hos
    by_cases hlt : os.length < n
    · have hstep : n - os.length = (n - (os.length + 1)) + 1 := by omega
      obtain ⟨A9, p9, rfl⟩ := hS.out.own.slice
      have c9 : wr.cell? ⟨w.heap.size, 1, none⟩ = some (.slice A9 os.length p9) := Blk.cell hS.out.ent 1
      have t1 : decide ((os.length : Int) < (n : Int)) = true := decide_eq_true (by omega)
      have hos6 : os.length ≤ 1048576 := by omega
      have zw := hS.out.bel.size
      have zrd := (Array.getElem?_eq_some_iff.1 hS.out.rd.ex.choose_spec.1).1
      have HN := Lib.hid (fun (h : rdOp q = none) => (show rdPay l = none from by
        have e6 := hT.out
        rw [hstep, rdOps, h] at e6
        simp [rdPay, H1.out, H2.out, e6]))
      have HT6 := Lib.hid (fun (y : OpV) (r : List UInt8) (h : rdOp q = some (y, r)) => (show rdOps n l2 = (rdOps (n - (os.length + 1)) r).map (fun z => ((os ++ [y]) ++ z.1, z.2)) from by
        have e6 := hT.out
        rw [hstep, rdOps, h] at e6
        simp only [Option.bind_some] at e6
        rw [e6]
        cases rdOps (n - (os.length + 1)) r <;> simp))
      have hne5 := own_ne hS.out.own.2.1 hS.out.ent (by decide)
      have hne6 := own_ne hS.out.own.2.1 hS.out.okc (by decide)
      have hne7 := own_ne hS.out.own.2.1 hS.out.rd.ex.choose_spec.1 (by decide)
      have hge7 := fun k hk => (hS.out.own.2.1.lt k hk).1
      go_upto_region 6 with fail
      first | (go_region_law (first | (refine step_op1 (by rfl) (.tmp 17) (.tmp 20) (by rfl) w.heap.size _ os vts o6 A6 p6 v6.heap.size (by rfl) (by rfl) (by exact blk_new _ _) hos6 (by simp; omega) (by exact hS6.own.below ((Below.refl _ v6).alloc (Nat.le_refl _) _)) (by exact own_below hO6 ((Below.refl _ v6).alloc (Nat.le_refl _) _)) ?_; intro v7 w7 hO7 hg7; obtain ⟨A7, p7, hv7⟩ := hO7.out.slice; rw [show (os ++ [o6]).length = os.length + 1 from by simp] at hv7; subst hv7; have h7 := (hg7.out.block w.heap.size (by simp; omega) (fun e => hne5 _ e.symm rfl)).trans (blk_old hS6.ent); have c97 : w7.cell? ⟨w.heap.size, 1, none⟩ = some (.slice A9 os.length p9) := Blk.cell h7 1; have f97 := Blk.free h7 1) | (refine step_call1 (by rfl) 55 (.tmp 18) 81 (by rfl) (.pointer (some ⟨w.heap.size + 1 + 1, 0, none⟩)) (by rfl) (hf_op _ _) (rdop_calls w.heap.size (w.heap.size + 1 + 1) q (by omega) (wr.drewN 1) zrd (hS.out.rd.drewN 1)) ?_; intro e v6 hh; rcases hh with ⟨h, rfl, hgx⟩ | ⟨o6, vt6, q6, h, hle6, rfl, hg6, hr6, ht6⟩; (exact pld_die ((hS.out.drewN 1).bel.grown hgx zw (fun k hk => by cases hk; omega)) ((hgx.block _ (Array.getElem?_eq_some_iff.1 hS.out.ent).1 (fun e => by have := Option.some.inj e; omega)).trans hS.out.ent) ((hgx.block _ (Array.getElem?_eq_some_iff.1 hS.out.okc).1 (fun e => by have := Option.some.inj e; omega)).trans hS.out.okc) (rdPay_none (HN.out h)) rfl rfl); have hS6 := (hS.out.drewN 1).call hg6 hr6; have hO6 := own_raise ht6 zw; obtain ⟨A6, p6, rfl⟩ := own_slice hO6; have z6 := hg6.size; have z7 := (Array.getElem?_eq_some_iff.1 hS6.ent).1; have c96 : v6.cell? ⟨w.heap.size, 1, none⟩ = some (.slice A9 os.length p9) := Blk.cell hS6.ent 1))) | fail
      all_goals (
        have S7 : Hid (PldSt w (w7.setCell ⟨w.heap.size, 1, none⟩ (.slice A7 (os.length + 1) p7)) (idx : Int) (.slice A7 (os.length + 1) p7) (os ++ [o6]) (vts ++ [.slice A6 o6.svc.tags.length p6]) q6) := Lib.hid (hS6.grow hg7.out (fun k hk => ⟨hge7 k hk, hne5 k hk, hne6 k hk, hne7 k hk⟩) hO7.out)
        have T7 := Lib.hid (HT6.out _ _ h)
        have hq6 : q6.length ≤ l.length := by omega
        clear hS6 hg6 hO6 hO7 hg7 h7 c96 c97 f97 c9 h hr6 ht6
        go_wp2
        go_roundw
        case rel => exact ⟨os.length + 1, os ++ [o6], _, _, q6, by omega, by go_num, by simp, hq6, T7, S7⟩
        case measure => simp [intOf]; omega)
    · obtain rfl : n = os.length := by omega
      have t1 : decide ((os.length : Int) < (os.length : Int)) = false := decide_eq_false (by omega)
      have hT2 := hT.out
      rw [Nat.sub_self] at hT2
      have HT := Lib.hid (show rdOps os.length l2 = some (os, q) from by rw [hT2]; simp [rdOps])
      clear hT2 hT
      obtain ⟨y, hy, hby⟩ := hS.out.rd.ex
      obtain ⟨A3, p3, rfl⟩ := hby.form
      have r0 : wr.cell? ⟨w.heap.size + 1 + 1, 0, none⟩ = some (.slice A3 q.length p3) := Blk.cell hy 0
      obtain ⟨A9, p9, rfl⟩ := hS.out.own.slice
      have c0 : wr.cell? ⟨w.heap.size, 0, none⟩ = some (.int .u64 (idx : Int)) := Blk.cell hS.out.ent 0
      have c1 : wr.cell? ⟨w.heap.size, 1, none⟩ = some (.slice A9 os.length p9) := Blk.cell hS.out.ent 1
      have f0 := Blk.free hS.out.ent 0
      have f1 := Blk.free hS.out.ent 1
      have d0 : wr.cell? ⟨w.heap.size + 1, 0, none⟩ = some (.bool false) := Blk.cell hS.out.okc 0
      have g0 := Blk.free hS.out.okc 0
      clear hy hby
      by_cases hq0 : q = []
      · subst hq0
        have HP := Lib.hid (show rdPay l = some (idx, os) from by simp [rdPay, H1.out, H2.out, HT.out])
        have hsm := rdOps_small _ _ _ _ HT.out
        have HSM := Lib.hid (fun j hj => (hsm.2 j hj).1)
        go_wp2_with (go_at_call 24; refine (calls_hid (sound_calls (idx : Int) _ os HSM.out (by omega) _ (HV.out.below hS.out.bel) hS.out.own.at_)).mono ?_)
        rintro e w3 hh
        obtain ⟨hd, hb3⟩ := hh.out
        clear hh
        have ent3 := (hb3.block _ (Array.getElem?_eq_some_iff.1 hS.out.ent).1).trans hS.out.ent
        have okc3 := (hb3.block _ (Array.getElem?_eq_some_iff.1 hS.out.okc).1).trans hS.out.okc
        have own3 := Lib.hid (hS.out.own.below hb3)
        have HB3 := Lib.hid (hS.out.bel.trans (hb3.mono hS.out.bel.size))
        have HE3 := Lib.hid ent3
        have HK3 := Lib.hid okc3
        have k0 : w3.cell? ⟨w.heap.size, 0, none⟩ = some (.int .u64 (idx : Int)) := Blk.cell ent3 0
        have k1 : w3.cell? ⟨w.heap.size, 1, none⟩ = some (.slice A9 os.length p9) := Blk.cell ent3 1
        have l0 := Blk.free ent3 0
        have l1' := Blk.free ent3 1
        have d3 : w3.cell? ⟨w.heap.size + 1, 0, none⟩ = some (.bool false) := Blk.cell okc3 0
        have g3 := Blk.free okc3 0
        clear hb3 r0 c0 c1 f0 f1 d0 g0 ent3 okc3
        rcases hd with ⟨rfl, hx⟩ | ⟨rfl, hx⟩
        · have HXb := Lib.hid (show ∀ i s, rdPay l = some (i, s) → ¬ SoundV s from fun i s e => by rw [HP.out] at e; injection e with e; injection e with _ e2; rw [← e2]; exact hx)
          clear hx
          go_wp2
          exact pld_bad HB3.out HE3.out HK3.out HXb.out rfl rfl
        · have HXg := Lib.hid (show SoundV os from hx)
          clear hx
          go_wp2
          exact pld_ok HB3.out HE3.out HK3.out HP.out HXg.out own3.out rfl rfl
      · have hq1 : 0 < q.length := List.length_pos_iff.2 hq0
        have t2 : decide (0 < (q.length : Int)) = true := decide_eq_true (by omega)
        have HP := Lib.hid (show rdPay l = none from by simp [rdPay, H1.out, H2.out, HT.out, hq0])
        go_wp2
        exact pld_bad hS.out.bel hS.out.ent hS.out.okc (rdPay_none HP.out) rfl rfl
end Go.Proofs.YtkhgfdlinobabaaGreatDoor.G
