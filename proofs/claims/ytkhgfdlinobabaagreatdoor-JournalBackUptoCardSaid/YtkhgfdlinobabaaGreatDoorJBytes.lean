/- journal.big, journal.text: bytes that are put behind a list of one's own. -/
import Derived.Test.YtkhgfdlinobabaaGreatDoorJSound
import Derived.Lib.AppendStr
import Derived.Maps.AppendAt
namespace Go.Proofs.YtkhgfdlinobabaaGreatDoor.G
open Go.RowKit
set_option linter.unusedVariables false
set_option linter.unusedSimpArgs false
/-- Below base the world is as it was, and no block but those of bytes was written. -/
structure Kp (base : Nat) (w w' : World) : Prop where
  below : Below base w w'
  other : ∀ (k : Nat) (cs : Array Value) (t : TypeId) (fr : Nat × Nat), w.heap[k]? = some (Obj.cells cs t fr) → t ≠ 5 → w'.heap[k]? = some (Obj.cells cs t fr)
namespace Kp
variable {base : Nat} {w w' w2 : World}
theorem refl (base : Nat) (w : World) : Kp base w w := ⟨Below.refl _ _, fun _ _ _ _ h _ => h⟩
theorem trans (h : Kp base w w') (k : Kp base w' w2) : Kp base w w2 := ⟨h.below.trans k.below, fun i cs t fr e ne => k.other i cs t fr (h.other i cs t fr e ne) ne⟩
theorem of_below (h : Below w.heap.size w w') (hb : base ≤ w.heap.size) : Kp base w w' := ⟨h.mono hb, fun k cs t fr e _ => (h.block k (Array.getElem?_eq_some_iff.1 e).1).trans e⟩
theorem alloc (h : Kp base w w') (hb : base ≤ w'.heap.size) (o : Obj) : Kp base w (w'.alloc o) := h.trans (of_below ((Below.refl _ w').alloc (Nat.le_refl _) o) hb)
theorem append {v : Value} {n : Nat} {xs : List Value} (ho : w.ownsRow base 5 1 v n xs) (hg : w.grownBy w' v.ownBlock) (hb : base ≤ w.heap.size) : Kp base w w' :=
  ⟨(Below.refl _ w).grown hg hb (fun k hk => (ho.lt k hk).1), fun k cs t fr e ne => (hg.block k (Array.getElem?_eq_some_iff.1 e).1 (fun hk => own_ne ho e (Ne.symm ne) k hk.symm rfl)).trans e⟩
theorem size (h : Kp base w w') : w.heap.size ≤ w'.heap.size := h.below.size
end Kp
/-- What putting something behind the list v leaves: no block but v's own was written, and the new list lies there or in a new block. -/
structure App (base : Nat) (v : Value) (w : World) (v' : Value) (w' : World) : Prop where
  kp : Kp base w w'
  rest : ∀ (k : Nat) (o : Obj), w.heap[k]? = some o → v.ownBlock ≠ some k → w'.heap[k]? = some o
  at_ : v'.ownBlock = v.ownBlock ∨ ∃ g, v'.ownBlock = some g ∧ w.heap.size ≤ g
namespace App
variable {base : Nat} {v v1 v2 : Value} {w w1 w2 : World}
theorem refl (base : Nat) (v : Value) (w : World) : App base v w v w := ⟨Kp.refl _ _, fun _ _ h _ => h, .inl rfl⟩
theorem trans (h : App base v w v1 w1) (k : App base v1 w1 v2 w2) : App base v w v2 w2 := by
  refine ⟨h.kp.trans k.kp, fun i o e ne => k.rest i o (h.rest i o e ne) ?_, ?_⟩
  · have hi := (Array.getElem?_eq_some_iff.1 e).1
    rcases h.at_ with h1 | ⟨g, h1, h2⟩
    · rw [h1]; exact ne
    · rw [h1]; intro e2; have := Option.some.inj e2; omega
  · rcases k.at_ with h1 | ⟨g, h1, h2⟩
    · rw [h1]
      exact h.at_
    · exact .inr ⟨g, h1, Nat.le_trans h.kp.size h2⟩
theorem below (hb : Below w.heap.size w w1) (hbase : base ≤ w.heap.size) (k : App base v w1 v2 w2) : App base v w v2 w2 :=
  ⟨(Kp.of_below hb hbase).trans k.kp, fun i o e ne => k.rest i o ((hb.block i (Array.getElem?_eq_some_iff.1 e).1).trans e) ne, k.at_.imp id fun ⟨g, h1, h2⟩ => ⟨g, h1, Nat.le_trans hb.size h2⟩⟩
theorem size (h : App base v w v1 w1) : w.heap.size ≤ w1.heap.size := h.kp.size
theorem other (h : App base v w v1 w1) : ∀ (k : Nat) (cs : Array Value) (t : TypeId) (fr : Nat × Nat), w.heap[k]? = some (Obj.cells cs t fr) → t ≠ 5 → w1.heap[k]? = some (Obj.cells cs t fr) := h.kp.other
theorem grown {n : Nat} {xs : List Value} (ho : w.ownsRow base 5 1 v n xs) (hg : w.grownBy w1 v.ownBlock) (hb : base ≤ w.heap.size) (hat : v1.ownBlock = v.ownBlock ∨ v1.ownBlock = some w.heap.size) : App base v w v1 w1 :=
  ⟨Kp.append ho hg hb, fun k o e ne => (hg.block k (Array.getElem?_eq_some_iff.1 e).1 (fun h => ne h.symm)).trans e, hat.imp id fun h => ⟨_, h, Nat.le_refl _⟩⟩
end App
/-- Where the new list lies. -/
theorem str_at {P : Program} {w w' : World} {base : Nat} {t u ty e : TypeId} {i : TypeInfo} (ht : P.underlying t = some (.slice e)) (hu : P.underlying u = some .string) (hi : P.info? e = some i) (hz : i.zero = some (.int .u8 0)) (hsize : i.size = 1) (hby : i.bytes = 1)
    {v v' : Value} {n : Nat} {xs : List Value} (hown : w.ownsRow base e 1 v n xs) {s : ByteArray} (h63 : n + s.size ≤ maxLen) (hbytes : n + s.size ≤ 140737488355328) (hr : (Builtin.append_ #[t, u] ty #[v, .string s]).run P w = .ok v' w') (hn : v' = .slice none 0 0 ↔ v = .slice none 0 0 ∧ s.size = 0) :
    v'.ownBlock = v.ownBlock ∨ v'.ownBlock = some w.heap.size := by
  have hsmall : n + s.size ≤ 9223372036854775807 := by simp only [maxLen] at h63; omega
  have hxl : xs.length = n := by simpa using hown.1
  rcases hown.2 with ⟨rfl, rfl⟩ | ⟨g, cap, cur, rfl, hbg, hg, hnc, hcm, hcs, htake⟩
  · by_cases hm : s.size = 0
    · rw [hn.2 ⟨rfl, hm⟩]; exact .inl rfl
    · have h2 := run_append_nil_string (P := P) w t u ty e i (.int .u8 0) ht hu hi hz s (by omega) (by omega) (by rw [hby]; omega)
      rw [h2] at hr
      injection hr with h3 _
      rw [← h3]; exact .inr rfl
  · by_cases hroom : n + s.size ≤ cap
    · have hcs' : cur.size = cap := by simpa using hcs
      have h2 := Lib.run_append_room_string (P := P) w t u ty e i ht hu hi hsize g n cap cur hg s hroom (by omega)
      rw [h2] at hr
      injection hr with h3 _
      rw [← h3]; exact .inl rfl
    · have holds : ∀ j u, xs[j]? = some u → w.cell? ((⟨g, 0, none⟩ : Addr).add j) = some u := hown.cells (g := g) rfl
      have h2 := Lib.run_append_grow_string (P := P) w t u ty e i (.int .u8 0) ht hu hi hz ⟨g, 0, none⟩ n cap xs (by rw [hsize]; simpa using hxl) holds s (by omega) (by omega) (by rw [hby]; exact growslice_fits (by omega) (by omega))
      rw [h2] at hr
      injection hr with h3 _
      rw [← h3]; exact .inr rfl
/-- A list of bytes of one's own. -/
def Bs (base : Nat) (w : World) (v : Value) (l : List UInt8) : Prop := w.ownsRow base 5 1 v l.length (Lib.byteCells l)
theorem info_byte : (Tryz.prog.info? 5).map (fun i => (i.zero, i.size, i.bytes)) = some (some (.int .u8 0), 1, 1) := by kernel_rfl
theorem Bs.nil (base : Nat) (w : World) : Bs base w (.slice none 0 0) [] := World.ownsRow_nil _ _ _ _
/-- n in s bytes, the highest first. -/
def bigB (n : Nat) : Nat → List UInt8
  | 0 => []
  | s + 1 => UInt8.ofNat (n / 256 ^ s % 256) :: bigB n s
theorem bigB_len (n : Nat) : ∀ s, (bigB n s).length = s
  | 0 => rfl
  | s + 1 => by simp [bigB, bigB_len n s]
set_option maxHeartbeats 4000000 in
set_option maxRecDepth 100000 in
theorem big_calls (base : Nat) (v : Value) (l : List UInt8) (n s : Nat) (hn : n < 18446744073709551616) (hs : s ≤ 8) (hl : l.length ≤ 140737488000000) (w : World) (h : Bs base w v l) (hb : base ≤ w.heap.size) :
    Calls Tryz.prog 25 #[v, .int .u64 n, .int .i64 s] w fun e w' => ∃ v', e = .returned v' ∧ Bs base w' v' (l ++ bigB n s) ∧ App base v w v' w' := by
  obtain ⟨i0, hi, hz0, hz1, hz2⟩ := info_parts info_byte
  have HO := Lib.hid h
  clear h
  go_enter Tryz.func25, Tryz.ntmps25
  go_wp2
  go_loopw [0, 7] (fun vr i wr => ∃ k : Nat, k ≤ s ∧ i = .int .i64 ((k : Int) - 1) ∧ Hid (∃ l' : List UInt8, Bs base wr vr l' ∧ l'.length = l.length + (s - k) ∧ l' ++ bigB n k = l ++ bigB n s) ∧ Hid (App base v w vr wr)) (fun _ i _ => (intOf i + 1).toNat)
  case atStart => exact ⟨s, Nat.le_refl _, rfl, Lib.hid ⟨l, HO.out, by omega, rfl⟩, Lib.hid (App.refl _ _ _)⟩
  case round =>
    obtain ⟨k, hk, rfl, hL, hK⟩ := hrel
    cases k with
    | zero =>
      go_wp2
      go_ret
      obtain ⟨l', h1, h2, h3⟩ := hL.out
      exact ⟨_, rfl, by rw [← h3]; simpa [bigB] using h1, hK.out⟩
    | succ k =>
      obtain ⟨l', h1, h2, h3⟩ := hL.out
      have hb1 : base ≤ wr.heap.size := Nat.le_trans hb hK.out.size
      have t1 : decide (0 ≤ (((k + 1 : Nat) : Int) - 1)) = true := decide_eq_true (by omega)
      have e1 : (((k + 1 : Nat) : Int) - 1) = (k : Int) := by omega
      rw [e1]
      have H1 := Lib.hid h1
      have H3 := Lib.hid h3
      have H2 := Lib.hid h2
      have h4 : l'.length ≤ 140737488000008 := by omega
      clear h1 h2 h3 e1 t1
      have k1 : (0 : Int) ≤ (k : Int) := by omega
      have k2 : (k : Int) ≤ 7 := by omega
      go_wp2_with (at_builtin; refine wpList_append_own_at _ rfl _ _ 28 rfl base 5 i0 (.int .u8 0) 1 1 Tryz.underlying28 hi hz0 hz1 hz2 rfl (by decide) _ l'.length (Lib.byteCells l') rfl (H1.out.alloc _) ⟨wr.heap.size, 0, none⟩ 1 1 [.int .u8 ((n : Int) / 2 ^ (8 * k) % 256)] rfl rfl ?c1 ?c2 ?c3 ?c4 ?c5 ?_)
      case c1 =>
        intro j u hj
        match j, hj with
        | 0, hj => simp at hj; subst hj; simp [Addr.add]
      case c2 => intro u hu; simp at hu; subst hu; rfl
      case c3 => unfold maxLen; omega
      case c4 => omega
      case c5 => simp; omega
      intro v2 w2 hown2 hgrow _ hat
      have hv : (((UInt8.ofNat (n / 256 ^ k % 256)).toNat : Nat) : Int) = (n : Int) / 2 ^ (8 * k) % 256 := by
        have e : (2 : Nat) ^ (8 * k) = 256 ^ k := by rw [Nat.pow_mul]
        have e2 : (2 : Int) ^ (8 * k) = ((256 ^ k : Nat) : Int) := by rw [← e]; norm_cast
        rw [e2, UInt8.toNat_ofNat']
        have h1 : n / 256 ^ k % 256 % 2 ^ 8 = n / 256 ^ k % 256 := Nat.mod_mod _ _
        rw [h1]
        norm_cast
      have hL2 : Hid (∃ l2 : List UInt8, Bs base w2 v2 l2 ∧ l2.length = l.length + (s - k) ∧ l2 ++ bigB n k = l ++ bigB n s) := Lib.hid ⟨l' ++ [UInt8.ofNat (n / 256 ^ k % 256)], by
        show World.ownsRow _ _ _ _ _ _ _
        rw [Lib.byteCells_append]
        have : Lib.byteCells [UInt8.ofNat (n / 256 ^ k % 256)] = [.int .u8 ((n : Int) / 2 ^ (8 * k) % 256)] := by simp only [Lib.byteCells, List.map_cons, List.map_nil]; rw [hv]
        rw [this, List.length_append]
        exact hown2, by have := H2.out; rw [List.length_append]; simp; omega, by rw [← H3.out, List.append_assoc]; rfl⟩
      have hK2 : Hid (App base v w v2 w2) := Lib.hid (hK.out.trans (App.below ((Below.refl _ wr).alloc (Nat.le_refl _) _) hb1 (App.grown (World.ownsRow.alloc H1.out _) hgrow (by simp; omega) (by simpa using hat))))
      clear hown2 hgrow hv
      go_wp2
      go_roundw
      case rel => exact ⟨k, by omega, by go_num, hL2, hK2⟩
      case measure => simp [intOf]
section
variable {ops : Array Oper} {rest : List Oper} {o : Oper} {a : Act} {Q : Exit → Act → World → Prop} {w : World}
/-- One byte behind a list of one's own, as one step. -/
theorem app_byte (hgd : o.guard = none) (s x : Operand) (ho : o.op = .call { callee := .builtin .append, args := #[s, x], argTypes := #[28, 28] }) (base : Nat) (v : Value) (l : List UInt8) (x8 : UInt8) (c : Int)
    (hs : a.eval s = v) (hx : a.eval x = .slice (some ⟨w.heap.size, 0, none⟩) 1 1) (hc : (x8.toNat : Int) = c) (hl : l.length ≤ 140737488000000) (hb : base ≤ w.heap.size) (h1 : Bs base w v l)
    (h : ∀ v' w', Hid (Bs base w' v' (l ++ [x8])) → Hid (App base v w v' w') → wpList Tryz.prog ops Q rest (a.put o.dst v') w') : wpList Tryz.prog ops Q (o :: rest) a (w.alloc (.cells #[.int .u8 c] 5)) := by
  obtain ⟨i0, hi, hz0, hz1, hz2⟩ := info_parts info_byte
  refine wpList_append_own_at _ hgd s x 28 ho base 5 i0 (.int .u8 0) 1 1 Tryz.underlying28 hi hz0 hz1 hz2 rfl (by decide) v l.length (Lib.byteCells l) hs (h1.alloc _) ⟨w.heap.size, 0, none⟩ 1 1 [.int .u8 c] hx rfl ?_ ?_ ?_ ?_ ?_ ?_
  · intro j u hj
    match j, hj with
    | 0, hj => simp at hj; subst hj; simp [Addr.add]
  · intro u hu; simp at hu; subst hu; rfl
  · unfold maxLen; omega
  · omega
  · simp; omega
  · intro v' w' ho hg _ hat
    refine h v' w' (Lib.hid ?_) (Lib.hid (App.below ((Below.refl _ w).alloc (Nat.le_refl _) _) hb (App.grown (World.ownsRow.alloc h1 _) hg (by simp; omega) hat)))
    show World.ownsRow _ _ _ _ _ _ _
    rw [Lib.byteCells_append]
    have e : Lib.byteCells [x8] = [.int .u8 c] := by simp only [Lib.byteCells, List.map_cons, List.map_nil]; rw [hc]
    rw [e, List.length_append]
    exact ho
/-- A text behind a list of one's own, as one step. -/
theorem app_str (hgd : o.guard = none) (sl x : Operand) (ho : o.op = .call { callee := .builtin .append, args := #[sl, x], argTypes := #[28, 9] }) (base : Nat) (v : Value) (l : List UInt8) (s : ByteArray)
    (hs : a.eval sl = v) (hx : a.eval x = .string s) (hl : l.length ≤ 140737488000000) (hz : s.size ≤ 1048576) (hz2 : l.length + s.size ≤ 140737488355328) (hb : base ≤ w.heap.size) (h1 : Bs base w v l)
    (h : ∀ v' w', Hid (Bs base w' v' (l ++ s.data.toList)) → Hid (App base v w v' w') → wpList Tryz.prog ops Q rest (a.put o.dst v') w') : wpList Tryz.prog ops Q (o :: rest) a w := by
  obtain ⟨i0, hi, hz0, hz1, hz3⟩ := info_parts info_byte
  refine wpList_plain hgd fun K hK => ?_
  obtain ⟨v', w', hr, ho2, hg, h4⟩ := Lib.run_append_own_string (P := Tryz.prog) w base 28 9 o.type 5 i0 Tryz.underlying28 Tryz.underlying9 hi hz0 hz1 hz3 v l.length (Lib.byteCells l) h1 s (by unfold maxLen; omega) (by omega) hb
  have hat := str_at Tryz.underlying28 Tryz.underlying9 hi hz0 hz1 hz3 h1 (by unfold maxLen; omega) (by omega) hr h4
  unfold Oper.wp execOp
  simp only [ho, resolve, invoke, builtin, Sem.run_bind, Sem.run_pure, Result.andThen_ok, List.map_toArray, List.map_cons, List.map_nil, hs, hx, hr]
  refine hK _ _ (h v' w' (Lib.hid ?_) (Lib.hid (App.grown h1 hg hb hat)))
  show World.ownsRow _ _ _ _ _ _ _
  rw [Lib.byteCells_append, List.length_append]
  have e : s.data.toList.length = s.size := by simp
  rw [e]
  exact ho2
end
/-- Texts, each with its length ahead. -/
def textB : List ByteArray → List UInt8
  | [] => []
  | s :: ls => UInt8.ofNat (s.size % 256) :: (s.data.toList ++ textB ls)
theorem textB_append (a b : List ByteArray) : textB (a ++ b) = textB a ++ textB b := by
  induction a with
  | nil => rfl
  | cons s a ih => simp [textB, ih]
theorem textB_len (ls : List ByteArray) (h : ∀ t ∈ ls, t.size ≤ 1048576) : (textB ls).length ≤ ls.length * 1048577 := by
  induction ls with
  | nil => simp [textB]
  | cons s a ih =>
    have h1 := h s (by simp)
    have h2 := ih (fun t ht => h t (List.mem_cons_of_mem _ ht))
    have h3 : s.data.toList.length = s.size := by simp
    simp only [textB, List.length_cons, List.length_append]
    omega
/-- A list of texts whose block is no block of bytes of one's own. -/
def TxtK (base : Nat) (w : World) (vs : Value) (ls : List ByteArray) : Prop :=
  TextsAt w vs ls ∧ (ls ≠ [] → ∀ k, vs.ownBlock = some k → k < base ∨ ∃ (cs : Array Value) (fr : Nat × Nat), w.heap[k]? = some (Obj.cells cs 9 fr))
theorem TxtK.keep {base : Nat} {w w' : World} {vs : Value} {ls : List ByteArray} (h : TxtK base w vs ls) (hk : Kp base w w') : TxtK base w' vs ls := by
  obtain ⟨⟨A, cap, hv, hc, hx⟩, h2⟩ := h
  have key : ls ≠ [] → ∀ k, vs.ownBlock = some k → w'.heap[k]? = w.heap[k]? := by
    intro hn k e
    rcases h2 hn k e with h3 | ⟨cs, fr, h3⟩
    · exact hk.below.block k h3
    · rw [h3, hk.other k cs _ fr h3 (by decide)]
  refine ⟨⟨A, cap, hv, hc, fun hn => ?_⟩, fun hn k e => ?_⟩
  · obtain ⟨b, o, hA, hcell⟩ := hx hn
    refine ⟨b, o, hA, fun j hj => ?_⟩
    have e := key hn b (by rw [hv, hA]; rfl)
    have := hcell j hj
    unfold World.cell? at this ⊢
    simp only at this ⊢
    rw [e]; exact this
  · rw [key hn k e]
    exact h2 hn k e
theorem Bs.slice {base : Nat} {w : World} {v : Value} {l : List UInt8} (h : Bs base w v l) : ∃ A cap, v = .slice A l.length cap := own_slice h
set_option maxHeartbeats 4000000 in
set_option maxRecDepth 100000 in
theorem text_calls (base : Nat) (v : Value) (l : List UInt8) (vs : Value) (ls : List ByteArray) (hls : ls.length ≤ 1048576) (hsz : ∀ t ∈ ls, t.size ≤ 1048576) (hl : l.length ≤ 130000000000000) (w : World) (h : Bs base w v l) (ht : TxtK base w vs ls) (hb : base ≤ w.heap.size) :
    Calls Tryz.prog 44 #[v, vs] w fun e w' => ∃ v', e = .returned v' ∧ Bs base w' v' (l ++ textB ls) ∧ App base v w v' w' := by
  obtain ⟨i0, hi, hz0, hz1, hz2⟩ := info_parts info_byte
  have HO := Lib.hid h
  have HT := Lib.hid ht
  have HZ := Lib.hid hsz
  obtain ⟨A, cap, rfl, hcap, _⟩ := ht.1
  clear h ht hsz
  go_enter Tryz.func44, Tryz.ntmps44
  go_wp2
  go_loopw [0, 9] (fun vr i wr => ∃ k : Nat, k ≤ ls.length ∧ i = .int .i64 k ∧ Hid (Bs base wr vr (l ++ textB (ls.take k))) ∧ Hid (App base v w vr wr)) (fun _ i _ => ls.length - (intOf i).toNat)
  case atStart => exact ⟨0, Nat.zero_le _, rfl, Lib.hid (by simpa [textB] using HO.out), Lib.hid (App.refl _ _ _)⟩
  case round =>
    obtain ⟨k, hk, rfl, hL, hK⟩ := hrel
    by_cases hlt : k < ls.length
    · have ht2 := (HT.out.keep hK.out.kp).1
      obtain ⟨A', cap', hv', _, hx⟩ := ht2
      obtain ⟨rfl, rfl⟩ : A = A' ∧ cap = cap' := by injection hv' with h1 h2 h3; exact ⟨h1, h3⟩
      obtain ⟨b, o, rfl, hc⟩ := hx (by intro e; subst e; simp at hlt)
      have c0 := hc k hlt
      have hts := HZ.out (ls.getD k ByteArray.empty) (by simp [List.getD, hlt])
      have hb1 : base ≤ wr.heap.size := Nat.le_trans hb hK.out.size
      have hnx := Lib.hid (show ls.take (k + 1) = ls.take k ++ [ls.getD k ByteArray.empty] from by
        rw [List.take_add_one, List.getElem?_eq_getElem hlt]; simp [List.getD, hlt])
      generalize ls.getD k ByteArray.empty = t at c0 hts hnx
      have hll : (l ++ textB (ls.take k)).length ≤ 135000000000000 := by
        have h1 := textB_len (ls.take k) (fun t ht => HZ.out t (List.mem_of_mem_take ht))
        have h2 : (ls.take k).length ≤ 1048576 := by rw [List.length_take]; omega
        rw [List.length_append]
        have h3 : (ls.take k).length * 1048577 ≤ 1048576 * 1048577 := Nat.mul_le_mul_right _ h2
        omega
      obtain ⟨l', hl'⟩ : ∃ l', l' = l ++ textB (ls.take k) := ⟨_, rfl⟩
      have hL2 := hL.out
      rw [← hl'] at hL2 hll
      have HL' := Lib.hid hl'
      have H1 := Lib.hid hL2
      clear hc hv' hx hl' hL2
      have hz : ((UInt8.ofNat (t.size % 256)).toNat : Int) = (t.size : Int) % 256 := by
        rw [UInt8.toNat_ofNat']
        have : t.size % 256 % 2 ^ 8 = t.size % 256 := Nat.mod_mod _ _
        rw [this]; norm_cast
      have HZZ := Lib.hid hz
      clear hz
      go_wp2_with (first | (at_builtin; refine app_byte rfl (.tmp 13) (.tmp 17) rfl base _ l' (UInt8.ofNat (t.size % 256)) _ rfl rfl HZZ.out (by omega) hb1 H1.out ?_; intro v1 w1 hO1 hK1) | (at_builtin; refine app_str rfl (.tmp 18) (.tmp 19) rfl base _ (l' ++ [UInt8.ofNat (t.size % 256)]) t rfl rfl (by simp; omega) hts (by simp; omega) (Nat.le_trans hb1 hK1.out.size) hO1.out ?_; intro v2 w2 hO2 hK2))
      have hK3 := Lib.hid ((hK.out.trans hK1.out).trans hK2.out)
      have hO3 : Hid (Bs base w2 v2 (l ++ textB (ls.take (k + 1)))) := Lib.hid (by
        rw [hnx.out, textB_append, ← List.append_assoc, ← HL'.out]
        have := hO2.out
        rw [List.append_assoc] at this
        simpa [textB] using this)
      go_roundw
      case rel => exact ⟨k + 1, by omega, by go_num, hO3, hK3⟩
      case measure => simp [intOf]; omega
    · obtain rfl : k = ls.length := by omega
      have h1 := hL.out
      rw [List.take_length] at h1
      have H1 := Lib.hid h1
      clear h1
      go_wp2
      go_ret
      exact ⟨_, rfl, H1.out, hK.out⟩
end Go.Proofs.YtkhgfdlinobabaaGreatDoor.G
