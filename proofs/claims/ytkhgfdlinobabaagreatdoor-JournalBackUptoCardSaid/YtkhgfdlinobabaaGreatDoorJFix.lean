/- records.FixNode, FixCheck, fixTags, FixService, FixOp: what they answer. -/
import Derived.Test.YtkhgfdlinobabaaGreatDoorJLab
import Derived.Test.YtkhgfdlinobabaaGreatDoorGAddr
import Derived.Test.YtkhgfdlinobabaaGreatDoorJSort
import Derived.WalkKit
import Derived.KernelRfl
namespace Go.Proofs.YtkhgfdlinobabaaGreatDoor.G
open Go.RowKit
set_option linter.unusedVariables false
set_option linter.unusedSimpArgs false
/-- The error of an address. -/
def addrE (s : ByteArray) : Int := (addrS s).2.2.2.2
theorem addr_calls (s : ByteArray) (hs : s.size < 4294967281) (w : World) (hv : VarsOk w) :
    Calls Tryz.prog 70 #[.string s] w fun e w' => (∃ a b c d, e = .returned (.tuple #[.agg #[.int .u8 a, .int .u8 b, .int .u8 c, .int .u8 d], .int .i64 (addrE s)])) ∧ Below w.heap.size w w' :=
  (records_Addr.calls s (addrS s).1 (addrS s).2.1 (addrS s).2.2.1 (addrS s).2.2.2.1 (addrS s).2.2.2.2 w hv (by unfold records_Addr.f; rw [if_pos hs])).mono fun e w' h => ⟨⟨_, _, _, _, h.1⟩, h.2⟩
theorem blk_keep {w w' : World} (hb : Below w.heap.size w w') {k : Nat} {cs : Array Value} {t : TypeId} (h : w.heap[k]? = some (.cells cs t (0, 0))) : w'.heap[k]? = some (.cells cs t (0, 0)) :=
  (hb.block k (Array.getElem?_eq_some_iff.1 h).1).trans h
theorem blk_new (w : World) (o : Obj) : (w.alloc o).heap[w.heap.size]? = some o := heap_alloc_new w o
theorem blk_old {w : World} {o : Obj} {k : Nat} {x : Obj} (h : w.heap[k]? = some x) : (w.alloc o).heap[k]? = some x := (Lib.alloc_old w o k (Array.getElem?_eq_some_iff.1 h).1).trans h
/-- What records.FixNode answers: name, address, error. -/
noncomputable def fixNodeV (nm ad : ByteArray) : ByteArray × ByteArray × Int :=
  if firstE [(labelV nm).2, addrE ad] = 0 then ((labelV nm).1, ad, 0) else (⟨#[]⟩, ⟨#[]⟩, firstE [(labelV nm).2, addrE ad])
set_option maxHeartbeats 2000000 in
set_option maxRecDepth 100000 in
theorem fixNode_calls (nm ad : ByteArray) (m c : Int) (h1 : nm.size ≤ 140737488355328) (h2 : ad.size < 4294967281) (w : World) (hv : VarsOk w) :
    Calls Tryz.prog 58 #[.agg #[.string nm, .string ad, .int .u64 m, .int .u64 c]] w fun e w' => e = .returned (.tuple #[.agg #[.string (fixNodeV nm ad).1, .string (fixNodeV nm ad).2.1, .int .u64 0, .int .u64 0], .int .i64 (fixNodeV nm ad).2.2]) ∧ Below w.heap.size w w' := by
  have HV := Lib.hid hv
  clear hv
  go_enter Tryz.func58, Tryz.ntmps58
  go_wp2_with (go_at_call 61; refine (label_calls nm h1 _).mono ?_)
  rintro e w1 ⟨rfl, hb1⟩
  have p1 := blk_keep hb1 (blk_old (blk_new w _))
  have q1 := blk_keep hb1 (blk_new _ _)
  have B1 : Below w.heap.size w w1 := (((Below.refl _ w).alloc (Nat.le_refl _) _).alloc (by simp) _).trans (hb1.mono (by simp; omega))
  have s1 : w.heap.size + 1 < w1.heap.size := by have := hb1.size; simp at this; omega
  have HB := Lib.hid B1
  clear hb1 B1
  rw [show (w.alloc (.cells #[.string nm, .string ad, .int .u64 m, .int .u64 c] 49)).heap.size = w.heap.size + 1 by simp] at q1
  have c1 := Blk.cell p1 1
  simp only [List.getElem?_toArray, List.getElem?_cons_zero, List.getElem?_cons_succ] at c1
  have hv1 : VarsOk w1 := HV.out.below HB.out
  go_wp2_with (go_at_call 70; refine (addr_calls ad h2 _ hv1).mono ?_)
  rintro e w2 ⟨⟨a, b, c', d, rfl⟩, hb2⟩
  have p2 := blk_keep hb2 p1
  have q2 := blk_keep hb2 q1
  have s2 : w.heap.size + 1 < w2.heap.size := by have := hb2.size; omega
  have s3 : w.heap.size < w2.heap.size := by omega
  have HB := Lib.hid (HB.out.trans (hb2.mono (by omega)))
  clear hb2 p1 q1 c1 s1 hv1
  go_wp2_with (go_at_call 62; refine (first_calls [(labelV nm).2, addrE ad] (by simp) _ _ 0 2 ?hc (by simp)).mono ?_)
  case hc =>
    intro j hj
    match j, hj with
    | 0, _ => simp
    | 1, _ => simp
  rintro e w3 ⟨rfl, rfl⟩
  have c1 := Blk.cell p2 1
  have d0 := Blk.cell q2 0
  have d1 := Blk.cell q2 1
  have d2 := Blk.cell q2 2
  have d3 := Blk.cell q2 3
  simp only [List.getElem?_toArray, List.getElem?_cons_zero, List.getElem?_cons_succ] at c1 d0 d1 d2 d3
  have f0 := Blk.free q2 0
  have f1 := Blk.free q2 1
  have f2 := Blk.free q2 2
  have f3 := Blk.free q2 3
  have HF : Hid (fixNodeV nm ad = if firstE [(labelV nm).2, addrE ad] = 0 then ((labelV nm).1, ad, 0) else (⟨#[]⟩, ⟨#[]⟩, firstE [(labelV nm).2, addrE ad])) := Lib.hid rfl
  clear p2 q2
  by_cases hz : firstE [(labelV nm).2, addrE ad] = 0
  · have hr : fixNodeV nm ad = ((labelV nm).1, ad, 0) := by rw [HF.out, if_pos hz]
    rw [hz]
    have t1 : ((0 : Int) != 0) = false := rfl
    go_wp2
    refine bodyPost_ret (v := .tuple #[.agg #[.string (labelV nm).1, .string ad, .int .u64 0, .int .u64 0], .int .i64 0]) (by simp [results, Tryz.results58, go_sem, d0, d1, d2, d3, s2, s3]) rfl ⟨by rw [hr], ?_⟩
    exact ((((HB.out.setCell (p := ⟨w.heap.size + 1, 0, none⟩) (by simp) _).setCell (p := ⟨w.heap.size + 1, 1, none⟩) (by simp) _).setCell (p := ⟨w.heap.size + 1, 2, none⟩) (by simp) _).setCell (p := ⟨w.heap.size + 1, 3, none⟩) (by simp) _).alloc (by simp; omega) _ |>.alloc (by simp; omega) _
  · have hr : fixNodeV nm ad = (⟨#[]⟩, ⟨#[]⟩, firstE [(labelV nm).2, addrE ad]) := by rw [HF.out, if_neg hz]
    generalize hx : firstE [(labelV nm).2, addrE ad] = x at hz
    have Hx := Lib.hid hx
    clear hx
    have t1 : (x != 0) = true := bne_iff_ne.2 hz
    go_wp2
    refine bodyPost_ret (v := .tuple #[.agg #[.string ⟨#[]⟩, .string ⟨#[]⟩, .int .u64 0, .int .u64 0], .int .i64 x]) (by simp [results, Tryz.results58, go_sem, d0, d1, d2, d3, s2, s3]) rfl ⟨by rw [hr, Hx.out], ?_⟩
    exact ((((HB.out.setCell (p := ⟨w.heap.size + 1, 0, none⟩) (by simp) _).setCell (p := ⟨w.heap.size + 1, 1, none⟩) (by simp) _).setCell (p := ⟨w.heap.size + 1, 2, none⟩) (by simp) _).setCell (p := ⟨w.heap.size + 1, 3, none⟩) (by simp) _).alloc (by simp; omega) _ |>.alloc (by simp; omega) _
/-- A list of texts, as it is read. -/
def TextsAt (w : World) (v : Value) (l : List ByteArray) : Prop :=
  ∃ A cap, v = .slice A l.length cap ∧ l.length ≤ cap ∧ (l ≠ [] → ∃ b o, A = some ⟨b, o, none⟩ ∧ ∀ j, j < l.length → w.cell? ⟨b, o + j, none⟩ = some (.string (l.getD j ByteArray.empty)))
theorem TextsAt.below {w w' : World} {v : Value} {l : List ByteArray} (h : TextsAt w v l) (hb : Below w.heap.size w w') : TextsAt w' v l := by
  obtain ⟨A, cap, hv, hc, h⟩ := h
  refine ⟨A, cap, hv, hc, fun hn => ?_⟩
  obtain ⟨b, o, hA, hcell⟩ := h hn
  exact ⟨b, o, hA, fun j hj => cell_keep hb (hcell j hj)⟩
theorem TextsAt.of_own {w : World} {base : Nat} {v : Value} {l : List ByteArray} (h : w.ownsRow base 9 1 v l.length (tx l)) : TextsAt w v l := by
  have hc := fun (g : Nat) (hg : v.ownBlock = some g) => h.cells hg
  rcases h.2 with ⟨hv, h0⟩ | ⟨g, cap, cur, hv, hb, hh, hn, _⟩
  · have : l = [] := List.eq_nil_of_length_eq_zero h0
    subst this
    exact ⟨none, 0, hv, Nat.le_refl _, fun h => absurd rfl h⟩
  · refine ⟨_, cap, hv, hn, fun _ => ⟨g, 0, rfl, fun j hj => ?_⟩⟩
    have := hc g (by rw [hv]; rfl) j (.string l[j]) (by simp [hj])
    have hadd : (⟨g, 0, none⟩ : Addr).add j = ⟨g, 0 + j, none⟩ := by unfold Addr.add; split <;> simp_all
    rw [hadd] at this
    rw [this]
    simp [hj, List.getD]
theorem own_below {w w' : World} {base e sz n : Nat} {v : Value} {xs : List Value} (h : w.ownsRow base e sz v n xs) (hb : Below w.heap.size w w') : w'.ownsRow base e sz v n xs := by
  refine ⟨h.1, ?_⟩
  rcases h.2 with h2 | ⟨g, cap, cur, hv, hg, hh, r⟩
  · exact .inl h2
  · exact .inr ⟨g, cap, cur, hv, hg, (hb.block g (Array.getElem?_eq_some_iff.1 hh).1).trans hh, r⟩
/-- The tags in normal form, and the error. -/
noncomputable def tagsV (l : List ByteArray) : List ByteArray × Int :=
  if 16 < l.length then ([], 93) else if ∀ j, j < l.length → (labelV (l.getD j ByteArray.empty)).2 = 0 then (compactS (sortS (l.map fun t => (labelV t).1)), 0) else ([], 93)
theorem tagsV_long {l : List ByteArray} (h : 16 < l.length) : tagsV l = ([], 93) := if_pos h
theorem tagsV_bad {l : List ByteArray} (h : ¬ 16 < l.length) {j : Nat} (hj : j < l.length) (hb : (labelV (l.getD j ByteArray.empty)).2 ≠ 0) : tagsV l = ([], 93) := by
  unfold tagsV
  rw [if_neg h, if_neg (fun q => hb (q j hj))]
theorem tagsV_ok {l : List ByteArray} (h : ¬ 16 < l.length) (hg : ∀ j, j < l.length → (labelV (l.getD j ByteArray.empty)).2 = 0) : tagsV l = (compactS (sortS (l.map fun t => (labelV t).1)), 0) := by
  unfold tagsV
  rw [if_neg h, if_pos hg]
theorem info_str : (Tryz.prog.info? 9).map (fun i => (i.zero, i.size, i.bytes)) = some (some (.string ⟨#[]⟩), 1, 16) := by kernel_rfl
theorem take_map_snoc {α : Type} (f : ByteArray → α) (l : List ByteArray) (k : Nat) (h : k < l.length) : (l.take (k + 1)).map f = (l.take k).map f ++ [f (l.getD k ByteArray.empty)] := by
  rw [List.take_add_one, List.getElem?_eq_getElem h, List.map_append]
  congr 1
  simp [List.getD, h]
set_option maxHeartbeats 2000000 in
set_option maxRecDepth 100000 in
theorem fixTags_calls (v : Value) (l : List ByteArray) (hs : ∀ t ∈ l, t.size ≤ 140737488355328) (w : World) (h : TextsAt w v l) :
    Calls Tryz.prog 71 #[v] w fun e w' => ∃ v', e = .returned (.tuple #[v', .int .i64 (tagsV l).2]) ∧ w'.ownsRow w.heap.size 9 1 v' (tagsV l).1.length (tx (tagsV l).1) ∧ Below w.heap.size w w' := by
  obtain ⟨A, cap, rfl, hcap, hcell⟩ := h
  have HC := Lib.hid hcell
  have HS := Lib.hid hs
  clear hcell hs
  obtain ⟨i0, hi, hz0, hz1, hz2⟩ := info_parts info_str
  by_cases hlen : 16 < l.length
  · rw [tagsV_long hlen]
    go_enter Tryz.func71, Tryz.ntmps71
    go_wp2
    go_ret2
    exact ⟨_, rfl, World.ownsRow_nil _ _ _ _, Below.refl _ _⟩
  · have t1 : decide (16 < (l.length : Int)) = false := decide_eq_false (by omega)
    go_enter Tryz.func71, Tryz.ntmps71
    go_wp2
    go_loopw [4, 14] (fun v i wr => ∃ k : Nat, k ≤ l.length ∧ i = .int .i64 k ∧ Hid (wr.ownsRow w.heap.size 9 1 v k (((l.take k).map fun t => (labelV t).1).map Value.string)) ∧ Hid (Below w.heap.size w wr) ∧ Hid (∀ j, j < k → (labelV (l.getD j ByteArray.empty)).2 = 0)) (fun _ i _ => l.length - (intOf i).toNat)
    case atStart => exact ⟨0, Nat.zero_le _, rfl, Lib.hid (World.ownsRow_nil _ _ _ _), Lib.hid (Below.refl _ _), Lib.hid (fun j hj => absurd hj (Nat.not_lt_zero _))⟩
    case round =>
      obtain ⟨k, hk, rfl, hown, hB, hG⟩ := hrel
      by_cases hlt : k < l.length
      · obtain ⟨b, o, rfl, hc⟩ := HC.out (by intro e; subst e; simp at hlt)
        have c0 := cell_keep hB.out (hc k hlt)
        have hts := HS.out (l.getD k ByteArray.empty) (by simp [List.getD, hlt])
        have hn := take_map_snoc (fun t => (labelV t).1) l k hlt
        have hg2 : ∀ (_ : (labelV (l.getD k ByteArray.empty)).2 = 0), Hid (∀ j, j < k + 1 → (labelV (l.getD j ByteArray.empty)).2 = 0) := fun e => Lib.hid (fun j hj => by
          by_cases e2 : j = k
          · subst e2; exact e
          · exact hG.out j (by omega))
        have hbad := fun (e : (labelV (l.getD k ByteArray.empty)).2 ≠ 0) => tagsV_bad hlen hlt e
        have Hn := Lib.hid hn
        clear hn hc
        generalize l.getD k ByteArray.empty = t at c0 hts Hn hg2 hbad
        go_wp2_with (go_at_call 61; refine (label_calls t hts _).mono ?_)
        rintro e w1 ⟨rfl, hb⟩
        have hown1 := own_below hown.out hb
        have hsz : w.heap.size ≤ w1.heap.size := Nat.le_trans hB.out.size hb.size
        have HB1 := Lib.hid (hB.out.trans (hb.mono hB.out.size))
        clear hb c0 hts
        by_cases hz : (labelV t).2 = 0
        · have hg3 := hg2 hz
          rw [hz]
          clear hz hbad hg2
          generalize (labelV t).1 = x at Hn
          obtain ⟨cs, hcs⟩ : ∃ cs, cs = ((l.take k).map fun t => (labelV t).1).map Value.string := ⟨_, rfl⟩
          rw [← hcs] at hown1
          have Hcs := Lib.hid hcs
          clear hcs
          go_wp2_with (at_builtin; refine wpList_append_own _ rfl _ _ 45 rfl w.heap.size 9 i0 (.string ⟨#[]⟩) 1 16 Tryz.underlying45 hi hz0 hz1 hz2 rfl (by decide) _ _ _ rfl (hown1.alloc _) ⟨w1.heap.size, 0, none⟩ 1 1 [.string x] rfl rfl ?c1 ?c2 ?c3 ?c4 ?c5 ?_)
          case c1 =>
            intro j u hj
            match j, hj with
            | 0, hj => simp at hj; subst hj; simp [Addr.add]
          case c2 => intro u hu; simp at hu; subst hu; rfl
          case c3 => unfold maxLen; omega
          case c4 => omega
          case c5 => simp; omega
          intro v' w2 hown2 hgrow _
          have hB2 : Below w.heap.size w w2 := (HB1.out.alloc hsz _).grown hgrow (by simp; omega) (fun q hq => (hown1.lt q hq).1)
          have hx : ((l.take (k + 1)).map fun t => (labelV t).1).map Value.string = cs ++ [.string x] := by rw [Hn.out, Hcs.out, List.map_append]; rfl
          rw [← hx] at hown2
          have HO := Lib.hid hown2
          have HB2 := Lib.hid hB2
          clear hown2 hgrow hB2 hx hown1
          go_wp2
          go_roundw
          case rel => exact ⟨k + 1, by omega, by go_num, HO, HB2, hg3⟩
          case measure => simp [intOf]; omega
        · have hr := hbad hz
          clear hbad hg2
          go_wp2
          go_ret2
          exact ⟨_, by rw [hr]; rfl, by rw [hr]; exact World.ownsRow_nil _ _ _ _, HB1.out⟩
      · obtain rfl : k = l.length := by omega
        have hr := tagsV_ok hlen hG.out
        have ho := hown.out
        rw [List.take_length] at ho
        have ho2 : wr.ownsRow w.heap.size 9 1 u4 (l.map fun t => (labelV t).1).length (tx (l.map fun t => (labelV t).1)) := by rw [List.length_map]; exact ho
        have hl2 : (l.map fun t => (labelV t).1).length < 4611686018427387904 := by rw [List.length_map]; omega
        clear ho
        generalize (l.map fun t => (labelV t).1) = L at ho2 hl2 hr
        have Hr := Lib.hid hr
        clear hr
        go_wp2_with (go_at_call 80; refine (sort_calls w.heap.size u4 L _ ho2 hl2 hB.out.size).mono ?_)
        rintro e w1 ⟨rfl, ho3, hb1⟩
        have hl3 : (sortS L).length ≤ 9223372036854775807 := by rw [sortS_length]; omega
        have ho4 : w1.ownsRow w.heap.size 9 1 u4 (sortS L).length (tx (sortS L)) := by rw [sortS_length]; exact ho3
        have HB1 := Lib.hid (hB.out.trans hb1)
        clear ho2 hl2 ho3 hb1
        generalize sortS L = M at ho4 hl3 Hr
        go_wp2_with (go_at_call 81; refine (compact_calls w.heap.size u4 M _ ho4 hl3).mono ?_)
        rintro e w2 ⟨v2, rfl, ho5, hb2⟩
        have HB2 := Lib.hid (HB1.out.trans hb2)
        go_wp2
        go_ret2
        exact ⟨_, by rw [Hr.out]; rfl, by rw [Hr.out]; exact ho5, HB2.out⟩
end Go.Proofs.YtkhgfdlinobabaaGreatDoor.G
