/- A sound operation is short enough to be read again. -/
import Derived.Test.YtkhgfdlinobabaaGreatDoorJPay
namespace Go.Proofs.YtkhgfdlinobabaaGreatDoor.G
open Go.RowKit
set_option linter.unusedVariables false
set_option linter.unusedSimpArgs false
theorem splitB_sum (sep : ByteArray) : ∀ (k : Nat) (s : ByteArray), s.size ≤ ((Lib.splitB sep 0 k s).map ByteArray.size).sum + k * sep.size
  | 0, s => by rw [Lib.splitB_zero]; simp
  | k + 1, s => by
    unfold Lib.splitB
    split
    · simp
    · have ih := splitB_sum sep k (s.extract ((Lib.indexB s sep).toNat + sep.size) s.size)
      generalize (Lib.indexB s sep).toNat = i at ih
      rw [ByteArray.size_extract] at ih
      simp only [List.map_cons, List.sum_cons]
      rw [ByteArray.size_extract, Nat.add_mul]
      omega
theorem itoa_three : ∀ v : Fin 256, (Lib.itoa ((v.1 : Nat) : Int)).length ≤ 3 := by decide +kernel
theorem decB_size {t : ByteArray} (h : (decB t).isSome = true) : t.size ≤ 3 := by
  unfold decB at h
  split at h
  · rename_i v _
    split at h
    · split at h
      · split at h
        · rename_i h0 h1 h2
          obtain ⟨n, rfl⟩ := Int.eq_ofNat_of_zero_le h0
          have := itoa_three ⟨n, by omega⟩
          have e : t.data.toList.length = t.size := by simp
          rw [← e, ← h2]
          exact this
        · simp at h
      · simp at h
    · simp at h
  · simp at h
theorem addr_size {s : ByteArray} (h : addrE s = 0) : s.size ≤ 63 := by
  have h1 : (four (parts s)).isSome = true := by
    unfold addrE addrS at h
    split at h
    · rename_i e; rw [e]; rfl
    · simp at h
  have hs := splitB_sum dot (Lib.countB s dot) s
  have hl := parts_len s
  have hd : dot.size = 1 := rfl
  rw [show Lib.splitB dot 0 (Lib.countB s dot) s = parts s from rfl, hd] at hs
  unfold four at h1
  split at h1
  · rename_i a b c d e
    rw [e] at hs hl
    simp only [List.length_cons, List.length_nil] at hl
    simp only [List.map_cons, List.map_nil, List.sum_cons, List.sum_nil] at hs
    obtain ⟨_, h2⟩ := Option.isSome_iff_exists.1 h1
    obtain ⟨x, hx, h3⟩ := Option.bind_eq_some_iff.1 h2
    obtain ⟨y, hy, h4⟩ := Option.bind_eq_some_iff.1 h3
    obtain ⟨z, hz, h5⟩ := Option.bind_eq_some_iff.1 h4
    obtain ⟨u, hu, h6⟩ := Option.bind_eq_some_iff.1 h5
    have d1 := decB_size (t := a) (by rw [hx]; rfl)
    have d2 := decB_size (t := b) (by rw [hy]; rfl)
    have d3 := decB_size (t := c) (by rw [hz]; rfl)
    have d4 := decB_size (t := d) (by rw [hu]; rfl)
    omega
  · simp at h1
theorem lab_small {s : ByteArray} (h : (labelV s).2 = 0) : s.size ≤ 63 := by
  unfold labelV at h
  split at h
  · rename_i hk; have := hk.2.1; omega
  · simp at h
theorem note_small {s : ByteArray} (h : noteE s = 0) : s.size ≤ 200 := by
  unfold noteE at h
  split at h
  · rename_i hk; have := hk.1; omega
  · simp at h
theorem tags_small {l : List ByteArray} (h : (tagsV l).2 = 0) : l.length ≤ 16 ∧ ∀ t ∈ l, t.size ≤ 63 := by
  unfold tagsV at h
  split at h
  · simp at h
  · split at h
    · rename_i hn hk
      refine ⟨by omega, fun t ht => ?_⟩
      obtain ⟨j, hj, rfl⟩ := List.getElem_of_mem ht
      have := hk j hj
      simp only [List.getD, List.getElem?_eq_getElem hj, Option.getD_some] at this
      exact lab_small this
    · simp at h
theorem short_mk {k : Int} {n : Nod} {s : Svc} {c : Chk} {cas : Bool} {want : Int} (hp : OpPlain ⟨k, n, s, c, cas, want⟩) (hn : n.name.size ≤ 63 ∧ n.addr.size ≤ 63 ∧ n.made = 0 ∧ n.changed = 0)
    (hs : s.node.size ≤ 63 ∧ s.id.size ≤ 63 ∧ s.name.size ≤ 63 ∧ (∀ t ∈ s.tags, t.size ≤ 63) ∧ s.tags.length ≤ 16 ∧ s.made = 0 ∧ s.changed = 0) (hc : c.node.size ≤ 63 ∧ c.id.size ≤ 63 ∧ c.service.size ≤ 63 ∧ c.note.size ≤ 200 ∧ c.made = 0 ∧ c.changed = 0)
    (hcz : cas = false → want = 0) (n1 : k ≠ 1 → k ≠ 4 → n = Nod.zero) (n2 : k ≠ 2 → k ≠ 5 → s = Svc.zero) (n3 : k ≠ 3 → k ≠ 6 → c = Chk.zero) (k4 : k = 4 → n.addr = E0) (k5 : k = 5 → s.name = E0 ∧ s.port = 0 ∧ s.tags = []) (k6 : k = 6 → c.service = E0 ∧ c.status = 0 ∧ c.note = E0) : OpShort ⟨k, n, s, c, cas, want⟩ :=
  ⟨hp, hn.1, hn.2.1, hs.1, hs.2.1, hs.2.2.1, hs.2.2.2.1, hs.2.2.2.2.1, hc.1, hc.2.1, hc.2.2.1, hc.2.2.2.1, hcz, n1, n2, n3, hn.2.2, hs.2.2.2.2.2, hc.2.2.2.2, k4, k5, k6⟩
theorem fix_short {o : OpV} (h : fixOp o = (o, 0)) (hw : 0 ≤ o.want ∧ o.want < 18446744073709551616) : OpShort o := by
  have hp := fixOp_plain h hw
  have hz : firstE [(fixRec o).2.2.2.1, (fixRec o).2.2.2.2] = 0 := by
    unfold fixOp at h
    split at h
    · assumption
    · exact (Prod.mk.inj h).2
  have heq : (⟨o.kind, (fixRec o).1, (fixRec o).2.1, (fixRec o).2.2.1, o.cas, if o.cas then o.want else 0⟩ : OpV) = o := by
    unfold fixOp at h
    rw [if_pos hz] at h
    exact (Prod.mk.inj h).1
  have e1 := firstE_zero _ hz (fixRec o).2.2.2.1 (by simp)
  have e2 := firstE_zero _ hz (fixRec o).2.2.2.2 (by simp)
  have hn : (fixRec o).1 = o.nod := congrArg OpV.nod heq
  have hs : (fixRec o).2.1 = o.svc := congrArg OpV.svc heq
  have hc : (fixRec o).2.2.1 = o.chk := congrArg OpV.chk heq
  have hwt : (if o.cas then o.want else 0) = o.want := congrArg OpV.want heq
  have hcz : o.cas = false → o.want = 0 := fun e => by rw [e] at hwt; simpa using hwt.symm
  clear heq h hz hwt
  have zn : Nod.zero.name.size ≤ 63 ∧ Nod.zero.addr.size ≤ 63 ∧ Nod.zero.made = 0 ∧ Nod.zero.changed = 0 := by decide
  have zs : Svc.zero.node.size ≤ 63 ∧ Svc.zero.id.size ≤ 63 ∧ Svc.zero.name.size ≤ 63 ∧ (∀ t ∈ Svc.zero.tags, t.size ≤ 63) ∧ Svc.zero.tags.length ≤ 16 ∧ Svc.zero.made = 0 ∧ Svc.zero.changed = 0 := ⟨by decide, by decide, by decide, by intro t ht; simp [Svc.zero] at ht, by decide, rfl, rfl⟩
  have zc : Chk.zero.node.size ≤ 63 ∧ Chk.zero.id.size ≤ 63 ∧ Chk.zero.service.size ≤ 63 ∧ Chk.zero.note.size ≤ 200 ∧ Chk.zero.made = 0 ∧ Chk.zero.changed = 0 := by decide
  have ez : E0.size ≤ 63 := by decide
  have ez2 : E0.size ≤ 200 := by decide
  have hk := hp.kind
  have le16 : ∀ l : List ByteArray, (tagsV l).2 = 0 → ∀ m, m = l → m.length ≤ 16 := fun l h m e => by rw [e]; exact (tags_small h).1
  obtain ⟨k, n, s, c, cas, want⟩ := o
  simp only at hk hw hn hs hc e1 e2 hcz
  rcases (show k = 1 ∨ k = 2 ∨ k = 3 ∨ k = 4 ∨ k = 5 ∨ k = 6 by omega) with rfl | rfl | rfl | rfl | rfl | rfl
  · unfold fixRec at hn hs hc e1
    rw [if_pos rfl] at hn hs hc e1
    simp only at hn hs hc e1
    subst hs hc
    have f0 : firstE [(labelV n.name).2, addrE n.addr] = 0 := by
      unfold fixNodeV at e1
      split at e1
      · assumption
      · exact e1
    exact short_mk hp ⟨lab_small (firstE_zero _ f0 (labelV n.name).2 (by simp)), addr_size (firstE_zero _ f0 (addrE n.addr) (by simp)), by rw [← hn], by rw [← hn]⟩ zs zc hcz (fun h => absurd rfl h) (fun _ _ => rfl) (fun _ _ => rfl) (fun h => by omega) (fun h => by omega) (fun h => by omega)
  · unfold fixRec at hn hs hc e1
    rw [if_neg (show ¬ (2 : Int) = 1 from by decide), if_pos rfl] at hn hs hc e1
    simp only at hn hs hc e1
    subst hn hc
    have f0 : svcE s = 0 := by
      by_cases hs : svcE s = 0
      · exact hs
      · rw [fixSvc_bad hs] at e1; exact e1
    have g := fun x hx => firstE_zero _ f0 x hx
    have ht := tags_small (g (tagsV s.tags).2 (by simp))
    have hm : s.made = 0 ∧ s.changed = 0 := by
      unfold fixSvc at hs
      rw [if_pos f0] at hs
      rw [← hs]; exact ⟨rfl, rfl⟩
    exact short_mk hp zn ⟨lab_small (g (labelV s.node).2 (by simp)), lab_small (g (labelV s.id).2 (by simp)), lab_small (g (labelV s.name).2 (by simp)), ht.2, ht.1, hm.1, hm.2⟩ zc hcz (fun _ _ => rfl) (fun h => absurd rfl h) (fun _ _ => rfl) (fun h => by omega) (fun h => by omega) (fun h => by omega)
  · unfold fixRec at hn hs hc e1
    rw [if_neg (show ¬ (3 : Int) = 1 from by decide), if_neg (show ¬ (3 : Int) = 2 from by decide), if_pos rfl] at hn hs hc e1
    simp only at hn hs hc e1
    subst hn hs
    have f0 : chkE c = 0 := by
      by_cases hs : chkE c = 0
      · exact hs
      · rw [fixChk_bad hs] at e1; exact e1
    have g := fun x hx => firstE_zero _ f0 x hx
    have hm : c.made = 0 ∧ c.changed = 0 := by
      unfold fixChk at hc
      rw [if_pos f0] at hc
      rw [← hc]; exact ⟨rfl, rfl⟩
    have h3 : c.service.size ≤ 63 := by
      have := g (if c.service = E0 then 0 else (labelV c.service).2) (by simp)
      split at this
      · rename_i e; rw [e]; exact ez
      · exact lab_small this
    exact short_mk hp zn zs ⟨lab_small (g (labelV c.node).2 (by simp)), lab_small (g (labelV c.id).2 (by simp)), h3, note_small (g (noteE c.note) (by simp)), hm.1, hm.2⟩ hcz (fun _ _ => rfl) (fun _ _ => rfl) (fun h => absurd rfl h) (fun h => by omega) (fun h => by omega) (fun h => by omega)
  · unfold fixRec at hn hs hc e1
    rw [if_neg (show ¬ (4 : Int) = 1 from by decide), if_neg (show ¬ (4 : Int) = 2 from by decide), if_neg (show ¬ (4 : Int) = 3 from by decide), if_pos rfl] at hn hs hc e1
    simp only at hn hs hc e1
    subst hs hc
    have ha : n.addr = E0 := by rw [← hn]
    exact short_mk hp ⟨lab_small e1, by rw [ha]; exact ez, by rw [← hn], by rw [← hn]⟩ zs zc hcz (fun _ h => absurd rfl h) (fun _ _ => rfl) (fun _ _ => rfl) (fun _ => ha) (fun h => by omega) (fun h => by omega)
  · unfold fixRec at hn hs hc e1 e2
    rw [if_neg (show ¬ (5 : Int) = 1 from by decide), if_neg (show ¬ (5 : Int) = 2 from by decide), if_neg (show ¬ (5 : Int) = 3 from by decide), if_neg (show ¬ (5 : Int) = 4 from by decide), if_pos rfl] at hn hs hc e1 e2
    simp only at hn hs hc e1 e2
    subst hn hc
    have h5 : s.name = E0 ∧ s.port = 0 ∧ s.tags = [] := by rw [← hs]; exact ⟨rfl, rfl, rfl⟩
    exact short_mk hp zn ⟨lab_small e1, lab_small e2, by rw [h5.1]; exact ez, by rw [h5.2.2]; intro t ht; simp at ht, by rw [h5.2.2]; decide, by rw [← hs], by rw [← hs]⟩ zc hcz (fun _ _ => rfl) (fun _ h => absurd rfl h) (fun _ _ => rfl) (fun h => by omega) (fun _ => h5) (fun h => by omega)
  · unfold fixRec at hn hs hc e1 e2
    rw [if_neg (show ¬ (6 : Int) = 1 from by decide), if_neg (show ¬ (6 : Int) = 2 from by decide), if_neg (show ¬ (6 : Int) = 3 from by decide), if_neg (show ¬ (6 : Int) = 4 from by decide), if_neg (show ¬ (6 : Int) = 5 from by decide), if_pos rfl] at hn hs hc e1 e2
    simp only at hn hs hc e1 e2
    subst hn hs
    have h6 : c.service = E0 ∧ c.status = 0 ∧ c.note = E0 := by rw [← hc]; exact ⟨rfl, rfl, rfl⟩
    exact short_mk hp zn zs ⟨lab_small e1, lab_small e2, by rw [h6.1]; exact ez, by rw [h6.2.2]; exact ez2, by rw [← hc], by rw [← hc]⟩ hcz (fun _ _ => rfl) (fun _ _ => rfl) (fun _ h => absurd rfl h) (fun h => by omega) (fun h => by omega) (fun _ => h6)
theorem sound_short {os : List OpV} (h : SoundV os) (hw : ∀ j, j < os.length → 0 ≤ (os.getD j OpV.zero).want ∧ (os.getD j OpV.zero).want < 18446744073709551616) : ∀ o ∈ os, OpShort o := by
  intro o ho
  obtain ⟨j, hj, rfl⟩ := List.getElem_of_mem ho
  have e : os.getD j OpV.zero = os[j] := by simp [List.getD, hj]
  have h1 := h.2 j hj
  have h2 := hw j hj
  rw [e] at h1 h2
  exact fix_short h1 h2
end Go.Proofs.YtkhgfdlinobabaaGreatDoor.G
