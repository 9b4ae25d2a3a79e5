/- What journal's reader makes of bytes, in plain Lean; what was written is read again. -/
import Derived.Test.YtkhgfdlinobabaaGreatDoorJTell
namespace Go.Proofs.YtkhgfdlinobabaaGreatDoor.G
open Go.RowKit
set_option linter.unusedVariables false
set_option linter.unusedSimpArgs false
/-- none: the reader throws. -/
def rdTake (n : Nat) (l : List UInt8) : Option (List UInt8 × List UInt8) := if n ≤ l.length then some (l.take n, l.drop n) else none
def rdNum (n : Nat) (l : List UInt8) : Option (Nat × List UInt8) := if n ≤ l.length then some (numB (l.take n), l.drop n) else none
def rdText (l : List UInt8) : Option (ByteArray × List UInt8) := (rdNum 1 l).bind fun x => (rdTake x.1 x.2).map fun y => (toB y.1, y.2)
def rdTexts : Nat → List UInt8 → Option (List ByteArray × List UInt8)
  | 0, l => some ([], l)
  | n + 1, l => (rdText l).bind fun x => (rdTexts n x.2).map fun y => (x.1 :: y.1, y.2)
def rdCas (l : List UInt8) : Option ((Bool × Nat) × List UInt8) :=
  (rdNum 1 l).bind fun x => if x.1 = 0 then some ((false, 0), x.2) else if x.1 = 1 then (rdNum 8 x.2).map fun y => ((true, y.1), y.2) else none
def rdRec (k : Nat) (l : List UInt8) : Option ((Nod × Svc × Chk) × List UInt8) :=
  if k = 1 then (rdText l).bind fun a => (rdText a.2).map fun b => ((⟨a.1, b.1, 0, 0⟩, Svc.zero, Chk.zero), b.2)
  else if k = 2 then (rdText l).bind fun a => (rdText a.2).bind fun b => (rdText b.2).bind fun c => (rdNum 2 c.2).bind fun d => (rdNum 1 d.2).bind fun e => (rdTexts e.1 e.2).map fun f => ((Nod.zero, ⟨a.1, b.1, c.1, (d.1 : Int), f.1, 0, 0⟩, Chk.zero), f.2)
  else if k = 3 then (rdText l).bind fun a => (rdText a.2).bind fun b => (rdText b.2).bind fun c => (rdNum 1 c.2).bind fun d => (rdText d.2).map fun e => ((Nod.zero, Svc.zero, ⟨a.1, b.1, c.1, (d.1 : Int), e.1, 0, 0⟩), e.2)
  else if k = 4 then (rdText l).map fun a => ((⟨a.1, E0, 0, 0⟩, Svc.zero, Chk.zero), a.2)
  else if k = 5 then (rdText l).bind fun a => (rdText a.2).map fun b => ((Nod.zero, ⟨a.1, b.1, E0, 0, [], 0, 0⟩, Chk.zero), b.2)
  else if k = 6 then (rdText l).bind fun a => (rdText a.2).map fun b => ((Nod.zero, Svc.zero, ⟨a.1, b.1, E0, 0, E0, 0, 0⟩), b.2)
  else some ((Nod.zero, Svc.zero, Chk.zero), l)
def rdOp (l : List UInt8) : Option (OpV × List UInt8) :=
  (rdNum 1 l).bind fun k => (rdCas k.2).bind fun c => (rdRec k.1 c.2).map fun r => (⟨(k.1 : Int), r.1.1, r.1.2.1, r.1.2.2, c.1.1, (c.1.2 : Int)⟩, r.2)
def rdOps : Nat → List UInt8 → Option (List OpV × List UInt8)
  | 0, l => some ([], l)
  | n + 1, l => (rdOp l).bind fun x => (rdOps n x.2).map fun y => (x.1 :: y.1, y.2)
/-- The entry that a payload writes, sound or not. -/
def rdPay (l : List UInt8) : Option (Nat × List OpV) := (rdNum 8 l).bind fun i => (rdNum 1 i.2).bind fun n => (rdOps n.1 n.2).bind fun o => if o.2 = [] then some (i.1, o.1) else none
theorem rdNum_big (n s : Nat) (h : n < 256 ^ s) (r : List UInt8) : rdNum s (bigB n s ++ r) = some (n, r) := by
  have hl := bigB_len n s
  unfold rdNum
  rw [if_pos (by rw [List.length_append]; omega), List.take_append, List.drop_append, hl, Nat.sub_self]
  rw [List.take_of_length_le (by omega), List.drop_eq_nil_of_le (by omega)]
  simp only [List.take_zero, List.append_nil, List.drop_zero, List.nil_append]
  rw [numB_big, Nat.mod_eq_of_lt h]
theorem rdNum_one (n : Nat) (h : n < 256) (r : List UInt8) : rdNum 1 (UInt8.ofNat n :: r) = some (n, r) := by
  have := rdNum_big n 1 (by omega) r
  have e : bigB n 1 = [UInt8.ofNat n] := by
    simp only [bigB, Nat.pow_zero, Nat.div_one]
    rw [Nat.mod_eq_of_lt h]
  rw [e] at this
  exact this
theorem toB_toList (s : ByteArray) : toB s.data.toList = s := by
  cases s
  simp [toB]
theorem rdText_text (s : ByteArray) (h : s.size ≤ 255) (r : List UInt8) : rdText (UInt8.ofNat (s.size % 256) :: (s.data.toList ++ r)) = some (s, r) := by
  have hz : s.data.toList.length = s.size := by simp
  unfold rdText
  rw [Nat.mod_eq_of_lt (by omega), rdNum_one _ (by omega)]
  simp only [Option.bind_some]
  unfold rdTake
  rw [if_pos (by rw [List.length_append]; omega), List.take_append, List.drop_append, hz, Nat.sub_self, List.take_of_length_le (by omega), List.drop_eq_nil_of_le (by omega)]
  simp [toB_toList]
theorem rdText_textB (s : ByteArray) (h : s.size ≤ 255) (ls : List ByteArray) (r : List UInt8) : rdText (textB (s :: ls) ++ r) = some (s, textB ls ++ r) := by
  have : textB (s :: ls) ++ r = UInt8.ofNat (s.size % 256) :: (s.data.toList ++ (textB ls ++ r)) := by simp [textB]
  rw [this, rdText_text s h]
theorem rdTexts_textB : ∀ (ls : List ByteArray) (h : ∀ t ∈ ls, t.size ≤ 255) (r : List UInt8), rdTexts ls.length (textB ls ++ r) = some (ls, r)
  | [], _, r => rfl
  | s :: ls, h, r => by
    have h1 := rdText_textB s (h s (by simp)) ls r
    have h2 := rdTexts_textB ls (fun t ht => h t (List.mem_cons_of_mem _ ht)) r
    rw [List.length_cons, rdTexts, h1]
    simp only [Option.bind_some]
    rw [h2]
    rfl
theorem rdCas_cas (cas : Bool) (wn : Nat) (hw : wn < 18446744073709551616) (hz : cas = false → wn = 0) (r : List UInt8) : rdCas (casB cas wn ++ r) = some ((cas, wn), r) := by
  unfold rdCas casB
  cases cas
  · have := rdNum_one 0 (by decide) r
    have e : (UInt8.ofNat 0 : UInt8) = 0 := rfl
    rw [e] at this
    simp only [Bool.false_eq_true, if_false, List.cons_append, List.nil_append]
    rw [this, hz rfl]
    rfl
  · have := rdNum_one 1 (by decide) (bigB wn 8 ++ r)
    have e : (UInt8.ofNat 1 : UInt8) = 1 := rfl
    rw [e] at this
    simp only [if_true, List.cons_append]
    rw [this]
    simp only [Option.bind_some]
    rw [if_neg (by decide), if_pos trivial, rdNum_big wn 8 hw]
    rfl
/-- What an operation must be to be read again. -/
structure OpShort (o : OpV) : Prop where
  plain : OpPlain o
  h1 : o.nod.name.size ≤ 63
  h2 : o.nod.addr.size ≤ 63
  h3 : o.svc.node.size ≤ 63
  h4 : o.svc.id.size ≤ 63
  h5 : o.svc.name.size ≤ 63
  ht : ∀ t ∈ o.svc.tags, t.size ≤ 63
  hl : o.svc.tags.length ≤ 16
  h6 : o.chk.node.size ≤ 63
  h7 : o.chk.id.size ≤ 63
  h8 : o.chk.service.size ≤ 63
  h9 : o.chk.note.size ≤ 200
  cas : o.cas = false → o.want = 0
  n1 : o.kind ≠ 1 → o.kind ≠ 4 → o.nod = Nod.zero
  n2 : o.kind ≠ 2 → o.kind ≠ 5 → o.svc = Svc.zero
  n3 : o.kind ≠ 3 → o.kind ≠ 6 → o.chk = Chk.zero
  m1 : o.nod.made = 0 ∧ o.nod.changed = 0
  m2 : o.svc.made = 0 ∧ o.svc.changed = 0
  m3 : o.chk.made = 0 ∧ o.chk.changed = 0
  k4 : o.kind = 4 → o.nod.addr = E0
  k5 : o.kind = 5 → o.svc.name = E0 ∧ o.svc.port = 0 ∧ o.svc.tags = []
  k6 : o.kind = 6 → o.chk.service = E0 ∧ o.chk.status = 0 ∧ o.chk.note = E0
theorem recB_1 {o : OpV} (h : o.kind = 1) : recB o = textB [o.nod.name, o.nod.addr] := by unfold recB; rw [if_pos h]
theorem recB_2 {o : OpV} (h : o.kind = 2) : recB o = textB [o.svc.node, o.svc.id, o.svc.name] ++ (bigB o.svc.port.toNat 2 ++ (UInt8.ofNat (o.svc.tags.length % 256) :: textB o.svc.tags)) := by unfold recB; rw [if_neg (by omega), if_pos h]
theorem recB_3 {o : OpV} (h : o.kind = 3) : recB o = textB [o.chk.node, o.chk.id, o.chk.service] ++ (UInt8.ofNat o.chk.status.toNat :: textB [o.chk.note]) := by unfold recB; rw [if_neg (by omega), if_neg (by omega), if_pos h]
theorem recB_4 {o : OpV} (h : o.kind = 4) : recB o = textB [o.nod.name] := by unfold recB; rw [if_neg (by omega), if_neg (by omega), if_neg (by omega), if_pos h]
theorem recB_5 {o : OpV} (h : o.kind = 5) : recB o = textB [o.svc.node, o.svc.id] := by unfold recB; rw [if_neg (by omega), if_neg (by omega), if_neg (by omega), if_neg (by omega), if_pos h]
theorem recB_6 {o : OpV} (h : o.kind = 6) : recB o = textB [o.chk.node, o.chk.id] := by unfold recB; rw [if_neg (by omega), if_neg (by omega), if_neg (by omega), if_neg (by omega), if_neg (by omega), if_pos h]
theorem rdRec_1 (l : List UInt8) : rdRec 1 l = (rdText l).bind fun a => (rdText a.2).map fun b => ((⟨a.1, b.1, 0, 0⟩, Svc.zero, Chk.zero), b.2) := rfl
theorem rdRec_2 (l : List UInt8) : rdRec 2 l = (rdText l).bind fun a => (rdText a.2).bind fun b => (rdText b.2).bind fun c => (rdNum 2 c.2).bind fun d => (rdNum 1 d.2).bind fun e => (rdTexts e.1 e.2).map fun f => ((Nod.zero, ⟨a.1, b.1, c.1, (d.1 : Int), f.1, 0, 0⟩, Chk.zero), f.2) := rfl
theorem rdRec_3 (l : List UInt8) : rdRec 3 l = (rdText l).bind fun a => (rdText a.2).bind fun b => (rdText b.2).bind fun c => (rdNum 1 c.2).bind fun d => (rdText d.2).map fun e => ((Nod.zero, Svc.zero, ⟨a.1, b.1, c.1, (d.1 : Int), e.1, 0, 0⟩), e.2) := rfl
theorem rdRec_4 (l : List UInt8) : rdRec 4 l = (rdText l).map fun a => ((⟨a.1, E0, 0, 0⟩, Svc.zero, Chk.zero), a.2) := rfl
theorem rdRec_5 (l : List UInt8) : rdRec 5 l = (rdText l).bind fun a => (rdText a.2).map fun b => ((Nod.zero, ⟨a.1, b.1, E0, 0, [], 0, 0⟩, Chk.zero), b.2) := rfl
theorem rdRec_6 (l : List UInt8) : rdRec 6 l = (rdText l).bind fun a => (rdText a.2).map fun b => ((Nod.zero, Svc.zero, ⟨a.1, b.1, E0, 0, E0, 0, 0⟩), b.2) := rfl
theorem byteOf (n : Nat) : (UInt8.ofNat (n % 256)) = UInt8.ofNat n := by
  apply UInt8.toNat_inj.1
  rw [UInt8.toNat_ofNat', UInt8.toNat_ofNat']
  exact Nat.mod_mod _ _
theorem rdOp_op {o : OpV} (h : OpShort o) (r : List UInt8) : rdOp (opB o ++ r) = some (o, r) := by
  obtain ⟨k, ⟨nm, ad, m1, g1⟩, ⟨nd, id, sn, po, tg, m2, g2⟩, ⟨cn, ci, cs, st, nt, m3, g3⟩, cas, want⟩ := o
  obtain ⟨⟨hk, hpo, hst, hw⟩, h1, h2, h3, h4, h5, ht, hl, h6, h7, h8, h9, hc, n1, n2, n3, ⟨rfl, rfl⟩, ⟨rfl, rfl⟩, ⟨rfl, rfl⟩, k4, k5, k6⟩ := h
  simp only at hk hpo hst hw h1 h2 h3 h4 h5 ht hl h6 h7 h8 h9 hc n1 n2 n3 k4 k5 k6
  replace h1 : nm.size ≤ 255 := by omega
  replace h2 : ad.size ≤ 255 := by omega
  replace h3 : nd.size ≤ 255 := by omega
  replace h4 : id.size ≤ 255 := by omega
  replace h5 : sn.size ≤ 255 := by omega
  replace h6 : cn.size ≤ 255 := by omega
  replace h7 : ci.size ≤ 255 := by omega
  replace h8 : cs.size ≤ 255 := by omega
  replace h9 : nt.size ≤ 255 := by omega
  replace ht : ∀ t ∈ tg, t.size ≤ 255 := fun t h => by have := ht t h; omega
  obtain ⟨wn, rfl⟩ := Int.eq_ofNat_of_zero_le hw.1
  have hwn : wn < 18446744073709551616 := by omega
  have hcz : cas = false → wn = 0 := fun e => by have := hc e; omega
  obtain ⟨kn, rfl⟩ := Int.eq_ofNat_of_zero_le (show 0 ≤ k by omega)
  have hkn : 1 ≤ kn ∧ kn ≤ 6 := by omega
  have hrec : rdRec kn (recB ⟨(kn : Int), ⟨nm, ad, 0, 0⟩, ⟨nd, id, sn, po, tg, 0, 0⟩, ⟨cn, ci, cs, st, nt, 0, 0⟩, cas, (wn : Int)⟩ ++ r) = some ((⟨nm, ad, 0, 0⟩, ⟨nd, id, sn, po, tg, 0, 0⟩, ⟨cn, ci, cs, st, nt, 0, 0⟩), r) := by
    rcases (show kn = 1 ∨ kn = 2 ∨ kn = 3 ∨ kn = 4 ∨ kn = 5 ∨ kn = 6 by omega) with rfl | rfl | rfl | rfl | rfl | rfl
    · have e2 := n2 (by decide) (by decide)
      have e3 := n3 (by decide) (by decide)
      rw [e2, e3]
      rw [rdRec_1, recB_1 rfl]
      rw [rdText_textB _ h1]
      simp only [Option.bind_some]
      rw [rdText_textB _ h2]
      rfl
    · have e1 := n1 (by decide) (by decide)
      have e3 := n3 (by decide) (by decide)
      have hp := hpo rfl
      obtain ⟨pn, rfl⟩ := Int.eq_ofNat_of_zero_le hp.1
      rw [e1, e3]
      rw [rdRec_2, recB_2 rfl]
      simp only [List.append_assoc, List.cons_append]
      rw [rdText_textB _ h3]
      simp only [Option.bind_some]
      rw [rdText_textB _ h4]
      simp only [Option.bind_some]
      rw [rdText_textB _ h5]
      simp only [Option.bind_some, textB, List.nil_append]
      rw [rdNum_big _ 2 (by omega)]
      simp only [Option.bind_some]
      rw [rdNum_one _ (Nat.mod_lt _ (by decide))]
      simp only [Option.bind_some]
      rw [Nat.mod_eq_of_lt (by omega), rdTexts_textB _ ht]
      rfl
    · have e1 := n1 (by decide) (by decide)
      have e2 := n2 (by decide) (by decide)
      have hp := hst rfl
      obtain ⟨pn, rfl⟩ := Int.eq_ofNat_of_zero_le hp.1
      rw [e1, e2]
      rw [rdRec_3, recB_3 rfl]
      simp only [List.append_assoc, List.cons_append]
      rw [rdText_textB _ h6]
      simp only [Option.bind_some]
      rw [rdText_textB _ h7]
      simp only [Option.bind_some]
      rw [rdText_textB _ h8]
      simp only [Option.bind_some, textB, List.nil_append]
      rw [rdNum_one _ (by show pn < 256; omega)]
      simp only [Option.bind_some]
      rw [show (UInt8.ofNat (nt.size % 256) :: (nt.data.toList ++ []) ++ r) = UInt8.ofNat (nt.size % 256) :: (nt.data.toList ++ r) from by simp, rdText_text _ h9]
      rfl
    · have e2 := n2 (by decide) (by decide)
      have e3 := n3 (by decide) (by decide)
      rw [e2, e3]
      have := k4 rfl
      subst this
      rw [rdRec_4, recB_4 rfl]
      rw [rdText_textB _ h1]
      rfl
    · have e1 := n1 (by decide) (by decide)
      have e3 := n3 (by decide) (by decide)
      rw [e1, e3]
      obtain ⟨rfl, rfl, rfl⟩ := k5 rfl
      rw [rdRec_5, recB_5 rfl]
      rw [rdText_textB _ h3]
      simp only [Option.bind_some]
      rw [rdText_textB _ h4]
      rfl
    · have e1 := n1 (by decide) (by decide)
      have e2 := n2 (by decide) (by decide)
      rw [e1, e2]
      obtain ⟨rfl, rfl, rfl⟩ := k6 rfl
      rw [rdRec_6, recB_6 rfl]
      rw [rdText_textB _ h6]
      simp only [Option.bind_some]
      rw [rdText_textB _ h7]
      rfl
  unfold rdOp opB
  simp only [Int.toNat_natCast, List.cons_append, List.append_assoc]
  rw [rdNum_one _ (by omega)]
  simp only [Option.bind_some]
  rw [rdCas_cas cas wn hwn hcz]
  simp only [Option.bind_some]
  rw [hrec]
  rfl
theorem rdOps_ops : ∀ (os : List OpV) (h : ∀ o ∈ os, OpShort o) (r : List UInt8), rdOps os.length (opsB os ++ r) = some (os, r)
  | [], _, r => rfl
  | o :: os, h, r => by
    have h1 := rdOp_op (h o (by simp)) (opsB os ++ r)
    have h2 := rdOps_ops os (fun t ht => h t (List.mem_cons_of_mem _ ht)) r
    have e : opsB (o :: os) ++ r = opB o ++ (opsB os ++ r) := by simp [opsB]
    rw [List.length_cons, rdOps, e, h1]
    simp only [Option.bind_some]
    rw [h2]
    rfl
theorem rdPay_pay (idx : Nat) (hi : idx < 18446744073709551616) (os : List OpV) (hn : os.length ≤ 255) (h : ∀ o ∈ os, OpShort o) : rdPay (payB idx os) = some (idx, os) := by
  unfold rdPay payB
  rw [List.append_assoc, rdNum_big idx 8 hi]
  simp only [Option.bind_some, List.cons_append, List.nil_append]
  rw [rdNum_one _ (by omega)]
  simp only [Option.bind_some]
  have := rdOps_ops os h []
  rw [List.append_nil] at this
  rw [this]
  rfl
theorem textB_short (M : Nat) (ls : List ByteArray) (h : ∀ t ∈ ls, t.size ≤ M) : (textB ls).length ≤ ls.length * (M + 1) := by
  induction ls with
  | nil => simp [textB]
  | cons s a ih =>
    have h1 := h s (by simp)
    have h2 := ih (fun t ht => h t (List.mem_cons_of_mem _ ht))
    have h3 : s.data.toList.length = s.size := by simp
    simp only [textB, List.length_cons, List.length_append, Nat.add_mul]
    omega
theorem opB_short {o : OpV} (h : OpShort o) : (opB o).length ≤ 1300 := by
  have hc : (casB o.cas o.want.toNat).length ≤ 9 := by unfold casB; cases o.cas <;> simp [bigB_len]
  have t1 : ∀ a : ByteArray, ∀ M, a.size ≤ M → (textB [a]).length ≤ M + 1 := fun a M h1 => by
    have := textB_short M [a] (by intro t ht; simp at ht; subst ht; assumption)
    simpa using this
  have t2 : ∀ a b : ByteArray, a.size ≤ 63 → b.size ≤ 63 → (textB [a, b]).length ≤ 128 := fun a b h1 h2 => by
    have := textB_short 63 [a, b] (by intro t ht; simp at ht; rcases ht with rfl | rfl <;> assumption)
    simpa using this
  have t3 : ∀ a b c : ByteArray, a.size ≤ 63 → b.size ≤ 63 → c.size ≤ 63 → (textB [a, b, c]).length ≤ 192 := fun a b c h1 h2 h3 => by
    have := textB_short 63 [a, b, c] (by intro t ht; simp at ht; rcases ht with rfl | rfl | rfl <;> assumption)
    simpa using this
  have tt := textB_short 63 o.svc.tags h.ht
  have tl := h.hl
  have tm : o.svc.tags.length * (63 + 1) ≤ 16 * 64 := Nat.mul_le_mul_right _ tl
  have a1 := t2 _ _ h.h1 h.h2
  have a2 := t3 _ _ _ h.h3 h.h4 h.h5
  have a3 := t3 _ _ _ h.h6 h.h7 h.h8
  have a4 := t1 _ _ h.h9
  have a5 := t1 _ _ h.h1
  have a6 := t2 _ _ h.h3 h.h4
  have a7 := t2 _ _ h.h6 h.h7
  have hr : (recB o).length ≤ 1280 := by
    unfold recB
    split
    · omega
    split
    · simp only [List.length_append, List.length_cons, bigB_len]; omega
    split
    · simp only [List.length_append, List.length_cons]; omega
    split
    · omega
    split
    · omega
    split
    · omega
    · simp
  unfold opB
  simp only [List.length_cons, List.length_append]
  omega
theorem payB_short (idx : Nat) (os : List OpV) (hn : os.length ≤ 64) (h : ∀ o ∈ os, OpShort o) : (payB idx os).length ≤ 131072 := by
  have h1 : (opsB os).length ≤ os.length * 1300 := by
    clear hn
    induction os with
    | nil => simp [opsB]
    | cons o os ih =>
      have h1 := opB_short (h o (by simp))
      have h2 := ih (fun t ht => h t (List.mem_cons_of_mem _ ht))
      have e : opsB (o :: os) = opB o ++ opsB os := by simp [opsB]
      rw [e, List.length_append, List.length_cons, Nat.add_mul]
      omega
  have h2 : os.length * 1300 ≤ 64 * 1300 := Nat.mul_le_mul_right _ hn
  unfold payB
  simp only [List.length_append, bigB_len, List.length_cons, List.length_nil]
  omega
end Go.Proofs.YtkhgfdlinobabaaGreatDoor.G
