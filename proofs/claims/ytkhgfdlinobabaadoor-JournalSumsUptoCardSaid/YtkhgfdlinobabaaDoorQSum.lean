/- The sum of bytes: the program's and the document's are alike; one byte changed is another sum. -/
import Derived.Test.YtkhgfdlinobabaaDoorPx1
import Derived.Test.YtkhgfdlinobabaaDoorPx1
import Derived.Laws.Bits64b
namespace Go.Proofs.YtkhgfdlinobabaaDoor.Q
open Go.RowKit Go.Proofs.YtkhgfdlinobabaaDoorW.PrintWords Go.Proofs.YtkhgfdlinobabaaDoorW.PrintLast Go.Proofs.YtkhgfdlinobabaaDoor.G Go.Proofs.YtkhgfdlinobabaaDoor.P

theorem wrap_u32 (n : Int) : IntKind.u32.wrap n = n % 4294967296 := by simp [IntKind.wrap, IntKind.bits, IntKind.signed]
theorem wrap_u8 (n : Int) : IntKind.u8.wrap n = n % 256 := by simp [IntKind.wrap, IntKind.bits, IntKind.signed]
theorem xor32 (a b : Nat) (ha : a < 4294967296) (hb : b < 4294967296) : bits .xor .u32 (a : Int) (b : Int) = ((a ^^^ b : Nat) : Int) := by
  have hx : a ^^^ b < 2 ^ 32 := Nat.xor_lt_two_pow (by omega) (by omega)
  have h1 : (BitVec.ofInt 32 (a : Int)).toNat = a := by
    rw [BitVec.ofInt_natCast, BitVec.toNat_ofNat]; exact Nat.mod_eq_of_lt (by omega)
  have h2 : (BitVec.ofInt 32 (b : Int)).toNat = b := by
    rw [BitVec.ofInt_natCast, BitVec.toNat_ofNat]; exact Nat.mod_eq_of_lt (by omega)
  show IntKind.u32.wrap ((BitVec.ofInt 32 (a : Int) ^^^ BitVec.ofInt 32 (b : Int)).toNat : Int) = _
  rw [BitVec.toNat_xor, h1, h2, wrap_u32]
  omega
theorem and32 (a b : Nat) (ha : a < 4294967296) (hb : b < 4294967296) : bits .and .u32 (a : Int) (b : Int) = ((a &&& b : Nat) : Int) := by
  have hx : a &&& b < 2 ^ 32 := Nat.and_lt_two_pow _ (by omega)
  have h1 : (BitVec.ofInt 32 (a : Int)).toNat = a := by
    rw [BitVec.ofInt_natCast, BitVec.toNat_ofNat]; exact Nat.mod_eq_of_lt (by omega)
  have h2 : (BitVec.ofInt 32 (b : Int)).toNat = b := by
    rw [BitVec.ofInt_natCast, BitVec.toNat_ofNat]; exact Nat.mod_eq_of_lt (by omega)
  show IntKind.u32.wrap ((BitVec.ofInt 32 (a : Int) &&& BitVec.ofInt 32 (b : Int)).toNat : Int) = _
  rw [BitVec.toNat_and, h1, h2, wrap_u32]
  omega
theorem xor8 (a b : Nat) (ha : a < 256) (hb : b < 256) : bits .xor .u8 (a : Int) (b : Int) = ((a ^^^ b : Nat) : Int) := by
  have hx : a ^^^ b < 2 ^ 8 := Nat.xor_lt_two_pow (by omega) (by omega)
  have h1 : (BitVec.ofInt 8 (a : Int)).toNat = a := by
    rw [BitVec.ofInt_natCast, BitVec.toNat_ofNat]; exact Nat.mod_eq_of_lt (by omega)
  have h2 : (BitVec.ofInt 8 (b : Int)).toNat = b := by
    rw [BitVec.ofInt_natCast, BitVec.toNat_ofNat]; exact Nat.mod_eq_of_lt (by omega)
  show IntKind.u8.wrap ((BitVec.ofInt 8 (a : Int) ^^^ BitVec.ofInt 8 (b : Int)).toNat : Int) = _
  rw [BitVec.toNat_xor, h1, h2, wrap_u8]
  omega

abbrev poly : Nat := 3988292384
/-- One bit's step. -/
def st1 (u : Nat) : Nat := if u % 2 = 0 then u / 2 else (u / 2) ^^^ poly
theorem st1_lt {u : Nat} (h : u < 4294967296) : st1 u < 4294967296 := by
  unfold st1
  split
  · omega
  · exact Nat.xor_lt_two_pow (n := 32) (by omega) (by decide)
def st : Nat → Nat → Nat
  | 0, u => u
  | n + 1, u => st n (st1 u)
theorem st_lt : ∀ (n : Nat) {u : Nat}, u < 4294967296 → st n u < 4294967296
  | 0, _, h => h
  | n + 1, _, h => st_lt n (st1_lt h)
theorem top {a : Nat} (h : a < 2147483648) : 2147483648 ≤ a ^^^ poly := by
  have h1 : (a ^^^ poly).testBit 31 = true := by
    rw [Nat.testBit_xor, Nat.testBit_lt_two_pow (show a < 2 ^ 31 by omega)]
    decide
  exact Nat.ge_two_pow_of_testBit h1
theorem st1_inj {u v : Nat} (hu : u < 4294967296) (hv : v < 4294967296) (h : st1 u = st1 v) : u = v := by
  unfold st1 at h
  by_cases h1 : u % 2 = 0 <;> by_cases h2 : v % 2 = 0
  · rw [if_pos h1, if_pos h2] at h; omega
  · rw [if_pos h1, if_neg h2] at h
    have := top (a := v / 2) (by omega)
    omega
  · rw [if_neg h1, if_pos h2] at h
    have := top (a := u / 2) (by omega)
    omega
  · rw [if_neg h1, if_neg h2] at h
    have h3 : u / 2 = v / 2 := by
      have := congrArg (· ^^^ poly) h
      simpa [Nat.xor_assoc] using this
    omega
theorem st_inj : ∀ (n : Nat) {u v : Nat}, u < 4294967296 → v < 4294967296 → st n u = st n v → u = v
  | 0, _, _, _, _, h => h
  | n + 1, _, _, hu, hv, h => st1_inj hu hv (st_inj n (st1_lt hu) (st1_lt hv) h)

/-- What one byte makes of the state. -/
def byteS (s c : Nat) : Nat := st 8 (s ^^^ c)
theorem byteS_lt {s c : Nat} (hs : s < 4294967296) (hc : c < 256) : byteS s c < 4294967296 := st_lt 8 (Nat.xor_lt_two_pow (n := 32) hs (by omega))
theorem xor_inj_left {a b c : Nat} (h : a ^^^ c = b ^^^ c) : a = b := by
  have := congrArg (· ^^^ c) h
  simpa [Nat.xor_assoc] using this
theorem xor_inj_right {a b c : Nat} (h : c ^^^ a = c ^^^ b) : a = b := by
  rw [Nat.xor_comm c a, Nat.xor_comm c b] at h
  exact xor_inj_left h
theorem byteS_inj_s {s t c : Nat} (hs : s < 4294967296) (ht : t < 4294967296) (hc : c < 256) (h : byteS s c = byteS t c) : s = t :=
  xor_inj_left (st_inj 8 (Nat.xor_lt_two_pow (n := 32) hs (by omega)) (Nat.xor_lt_two_pow (n := 32) ht (by omega)) h)
theorem byteS_inj_c {s c d : Nat} (hs : s < 4294967296) (hc : c < 256) (hd : d < 256) (h : byteS s c = byteS s d) : c = d :=
  xor_inj_right (st_inj 8 (Nat.xor_lt_two_pow (n := 32) hs (by omega)) (Nat.xor_lt_two_pow (n := 32) hs (by omega)) h)
def fold : Nat → List Nat → Nat
  | s, [] => s
  | s, c :: l => fold (byteS s c) l
theorem fold_lt : ∀ (l : List Nat) {s : Nat}, s < 4294967296 → (∀ c ∈ l, c < 256) → fold s l < 4294967296
  | [], _, h, _ => h
  | c :: l, _, h, hl => fold_lt l (byteS_lt h (hl c (by simp))) (fun d hd => hl d (List.mem_cons_of_mem _ hd))
theorem fold_inj : ∀ (l : List Nat) {s t : Nat}, s < 4294967296 → t < 4294967296 → (∀ c ∈ l, c < 256) → fold s l = fold t l → s = t
  | [], _, _, _, _, _, h => h
  | c :: l, _, _, hs, ht, hl, h => byteS_inj_s hs ht (hl c (by simp)) (fold_inj l (byteS_lt hs (hl c (by simp))) (byteS_lt ht (hl c (by simp))) (fun d hd => hl d (List.mem_cons_of_mem _ hd)) h)
/-- One byte changed is another state. -/
theorem fold_cons (s c : Nat) (l : List Nat) : fold s (c :: l) = fold (byteS s c) l := rfl
theorem fold_set0 (s c d : Nat) (l : List Nat) (hs : s < 4294967296) (hc : c < 256) (hd : d < 256) (hl : ∀ x ∈ l, x < 256) (hne : c ≠ d) : ¬ fold s (c :: l) = fold s (d :: l) := by
  rw [fold_cons, fold_cons]
  intro e
  exact hne (byteS_inj_c hs hc hd (fold_inj l (byteS_lt hs hc) (byteS_lt hs hd) hl e))
theorem fold_set (d : Nat) (hd : d < 256) (l : List Nat) : ∀ (i s : Nat), s < 4294967296 → (∀ c ∈ l, c < 256) → (h : i < l.length) → l[i] ≠ d → ¬ fold s l = fold s (l.set i d) := by
  induction l with
  | nil => intro i s hs hl h; exact absurd h (by simp)
  | cons c l ih =>
    intro i s hs hl h hne
    have hc := hl c (by simp)
    have hl' : ∀ x ∈ l, x < 256 := fun x hx => hl x (List.mem_cons_of_mem _ hx)
    rcases i with _ | i
    · have hne' : c ≠ d := hne
      have := fold_set0 s c d l hs hc hd hl' hne'
      rw [List.set_cons_zero]
      exact this
    · rw [List.set_cons_succ, fold_cons, fold_cons]
      exact ih i (byteS s c) (byteS_lt hs hc) hl' (by simpa using h) (by simpa using hne)

/-! The program's sum. -/
theorem and1 (u : Nat) : u &&& 1 = u % 2 := Nat.and_one_is_mod u
theorem low_wrap {i : Int} (h0 : 0 ≤ i) (h : i < 9223372036854775807) : wrap64 (i + 1) = i + 1 := by
  unfold wrap64
  omega
theorem sum_step (u : Nat) (hu : u < 4294967296) : bits .xor .u32 ((u : Int) / 2) (bits .and .u32 3988292384 ((-(bits .and .u32 (u : Int) 1)) % 4294967296)) = (st1 u : Int) := by
  have e1 : bits .and .u32 (u : Int) 1 = ((u % 2 : Nat) : Int) := by
    have := and32 u 1 hu (by omega)
    rw [and1] at this
    exact this
  rw [e1]
  have e2 : ((u : Int) / 2) = ((u / 2 : Nat) : Int) := by omega
  rw [e2]
  unfold st1
  by_cases h : u % 2 = 0
  · rw [h, if_pos rfl]
    have e3 : bits .and .u32 3988292384 ((-((0 : Nat) : Int)) % 4294967296) = ((0 : Nat) : Int) := by decide +kernel
    rw [e3, xor32 _ _ (by omega) (by omega), Nat.xor_zero]
  · have h' : u % 2 = 1 := by omega
    rw [h', if_neg (by omega)]
    have e3 : bits .and .u32 3988292384 ((-((1 : Nat) : Int)) % 4294967296) = ((poly : Nat) : Int) := by decide +kernel
    rw [e3, xor32 _ _ (by omega) (by decide)]
theorem sum_l1 (l : List Int) (n x8 : Int) (d : Nat) : ∀ (k : Nat) (u j : Nat), u < 4294967296 → j + d = 8 → journal_Sum.l1 (k + d + 1) (u : Int) l n x8 (j : Int) = journal_Sum.l0 k (st d u : Int) l n (wrap64 (x8 + 1)) := by
  induction d with
  | zero =>
    intro k u j hu hj
    simp only [journal_Sum.l1]
    rw [if_neg (by omega)]
    rfl
  | succ d ih =>
    intro k u j hu hj
    rw [show k + (d + 1) + 1 = (k + d + 1) + 1 by omega, journal_Sum.l1, if_pos (by omega), sum_step u hu, low_wrap (by omega) (by omega), show ((j : Int) + 1) = ((j + 1 : Nat) : Int) by omega, ih k (st1 u) (j + 1) (st1_lt hu) (by omega)]
    rfl
abbrev nums (l : List Nat) : List Int := l.map fun (n : Nat) => (n : Int)
theorem rd_nums (l : List Nat) (i : Nat) (h : i < l.length) : rd (nums l) (i : Int) = (l[i] : Int) := by simp [rd, List.getD, h]
theorem sum_loop (l : List Nat) (hl : ∀ c ∈ l, c < 256) (hn : l.length < 9223372036854775807) (d : Nat) : ∀ (k i s : Nat), i ≤ l.length → l.length - i = d → s < 4294967296 → 10 * d + 1 ≤ k →
    journal_Sum.l0 k (s : Int) (nums l) (l.length : Int) (i : Int) = some ((4294967295 ^^^ fold s (l.drop i) : Nat) : Int) := by
  induction d with
  | zero =>
    intro k i s hi hd hs hk
    obtain ⟨k, rfl⟩ : ∃ m, k = m + 1 := ⟨k - 1, by omega⟩
    simp only [journal_Sum.l0]
    rw [if_neg (by omega), List.drop_eq_nil_of_le (by omega : l.length ≤ i)]
    have := xor32 4294967295 s (by omega) hs
    exact congrArg some this
  | succ d ih =>
    intro k i s hi hd hs hk
    obtain ⟨k, rfl⟩ : ∃ m, k = m + 10 := ⟨k - 10, by omega⟩
    have hlt : i < l.length := by omega
    have hc := hl _ (List.getElem_mem hlt)
    have hx : s ^^^ l[i] < 4294967296 := Nat.xor_lt_two_pow (n := 32) hs (by omega)
    rw [show k + 10 = (k + 8 + 1) + 1 by omega, journal_Sum.l0, if_pos (by omega), if_pos (by omega), if_pos (by simp; omega), rd_nums l i hlt, show ((l[i] : Int) % 4294967296) = (l[i] : Int) by omega, xor32 s l[i] hs (by omega)]
    have h := sum_l1 (nums l) (l.length : Int) (i : Int) 8 k (s ^^^ l[i]) 0 hx rfl
    rw [show ((0 : Nat) : Int) = 0 from rfl] at h
    rw [h, low_wrap (by omega) (by omega), show ((i : Int) + 1) = ((i + 1 : Nat) : Int) by omega, ih k (i + 1) _ (by omega) (by omega) (st_lt 8 hx) (by omega), List.drop_eq_getElem_cons hlt]
    rfl
def sumS (l : List Nat) : Nat := 4294967295 ^^^ fold 4294967295 l
theorem sum (l : List Nat) (hl : ∀ c ∈ l, c < 256) (hn : l.length < 9223372036854775807) (k : Nat) (hk : 10 * l.length + 1 ≤ k) : journal_Sum.f k (nums l) = some (sumS l : Int) := by
  have h := sum_loop l hl hn l.length k 0 4294967295 (by omega) (by omega) (by omega) hk
  unfold journal_Sum.f sumS
  rw [show ((nums l).length : Int) = (l.length : Int) by simp]
  simpa using h

/-! The document's sum. -/
theorem xor_half (s c : Nat) : (s ^^^ c) / 2 = (s / 2) ^^^ (c / 2) := Nat.xor_div_two
theorem xor_odd (s c : Nat) : (s ^^^ c) % 2 = 0 ↔ s % 2 = c % 2 := by
  have h := Nat.testBit_xor s c 0
  simp only [Nat.testBit_zero] at h
  have h1 : (s ^^^ c) % 2 = 1 ↔ ¬ (s % 2 = 1 ↔ c % 2 = 1) := by
    rw [← decide_eq_true_iff (p := (s ^^^ c) % 2 = 1), h]
    by_cases a : s % 2 = 1 <;> by_cases b : c % 2 = 1 <;> simp [a, b]
  omega
theorem refsum_l1 (l : List Int) (n x10 : Int) (d : Nat) : ∀ (k : Nat) (s c j : Nat), s < 4294967296 → c < 2 ^ d → c < 256 → j + d = 8 → musterref13_Sum.l1 (k + d + 1) (s : Int) (c : Int) (j : Int) l n x10 = musterref13_Sum.l0 k (st d (s ^^^ c) : Int) l n (wrap64 (x10 + 1)) := by
  induction d with
  | zero =>
    intro k s c j hs hc _ hj
    obtain rfl : c = 0 := by omega
    simp only [musterref13_Sum.l1]
    rw [if_neg (by omega), Nat.xor_zero]
    rfl
  | succ d ih =>
    intro k s c j hs hc hc8 hj
    have hc2 : c / 2 < 2 ^ d := by rw [Nat.pow_succ] at hc; omega
    rw [show k + (d + 1) + 1 = (k + d + 1) + 1 by omega, musterref13_Sum.l1]
    have t1 : Int.tmod (s : Int) 2 = ((s % 2 : Nat) : Int) := by rw [Int.tmod_eq_emod_of_nonneg (by omega)]; omega
    have t2 : Int.tdiv (s : Int) 2 = ((s / 2 : Nat) : Int) := by rw [Int.tdiv_eq_ediv_of_nonneg (by omega)]; omega
    have t3 : Int.tdiv (c : Int) 2 = ((c / 2 : Nat) : Int) := by rw [Int.tdiv_eq_ediv_of_nonneg (by omega)]; omega
    rw [if_pos (by omega), t1, t2, t3, low_wrap (by omega) (by omega), show ((j : Int) + 1) = ((j + 1 : Nat) : Int) by omega, show (((s / 2 : Nat) : Int) % 4294967296) = ((s / 2 : Nat) : Int) by omega, show (((c / 2 : Nat) : Int) % 256) = ((c / 2 : Nat) : Int) by omega]
    show _ = musterref13_Sum.l0 k (st d (st1 (s ^^^ c)) : Int) l n (wrap64 (x10 + 1))
    unfold st1
    by_cases h : s % 2 = c % 2
    · rw [if_pos (by omega), ih k (s / 2) (c / 2) (j + 1) (by omega) hc2 (by omega) (by omega), if_pos ((xor_odd s c).2 h), xor_half]
    · rw [if_neg (by omega), show (3988292384 : Int) = ((poly : Nat) : Int) from rfl, xor32 (s / 2) poly (by omega) (by decide)]
      have hx : s / 2 ^^^ poly < 4294967296 := Nat.xor_lt_two_pow (n := 32) (by omega) (by decide)
      rw [ih k _ (c / 2) (j + 1) hx hc2 (by omega) (by omega), if_neg (fun h' => h ((xor_odd s c).1 h')), xor_half]
      rw [Nat.xor_assoc, Nat.xor_comm poly, ← Nat.xor_assoc]
theorem refsum_loop (l : List Nat) (hl : ∀ c ∈ l, c < 256) (hn : l.length < 9223372036854775807) (d : Nat) : ∀ (k i s : Nat), i ≤ l.length → l.length - i = d → s < 4294967296 → 10 * d + 1 ≤ k →
    musterref13_Sum.l0 k (s : Int) (nums l) (l.length : Int) (i : Int) = some ((4294967295 - fold s (l.drop i) : Nat) : Int) := by
  induction d with
  | zero =>
    intro k i s hi hd hs hk
    obtain ⟨k, rfl⟩ : ∃ m, k = m + 1 := ⟨k - 1, by omega⟩
    simp only [musterref13_Sum.l0]
    rw [if_neg (by omega), List.drop_eq_nil_of_le (by omega : l.length ≤ i)]
    congr 1
    show _ = ((4294967295 - s : Nat) : Int)
    omega
  | succ d ih =>
    intro k i s hi hd hs hk
    obtain ⟨k, rfl⟩ : ∃ m, k = m + 10 := ⟨k - 10, by omega⟩
    have hlt : i < l.length := by omega
    have hc := hl _ (List.getElem_mem hlt)
    have hx : s ^^^ l[i] < 4294967296 := Nat.xor_lt_two_pow (n := 32) hs (by omega)
    rw [show k + 10 = (k + 8 + 1) + 1 by omega, musterref13_Sum.l0, if_pos (by omega), if_pos (by omega), if_pos (by simp; omega), rd_nums l i hlt]
    have h := refsum_l1 (nums l) (l.length : Int) (i : Int) 8 k s l[i] 0 hs (by omega) hc rfl
    rw [show ((0 : Nat) : Int) = 0 from rfl] at h
    rw [h, low_wrap (by omega) (by omega), show ((i : Int) + 1) = ((i + 1 : Nat) : Int) by omega, ih k (i + 1) _ (by omega) (by omega) (st_lt 8 hx) (by omega), List.drop_eq_getElem_cons hlt]
    rfl
theorem compl (s : Nat) (h : s < 4294967296) : 4294967295 ^^^ s = 4294967295 - s := by
  have := @BitVec.toNat_not 32 (BitVec.ofNat 32 s)
  have e := BitVec.toNat_ofNat s 32
  rw [Nat.mod_eq_of_lt (by omega)] at e
  have h2 : (~~~ (BitVec.ofNat 32 s)) = BitVec.allOnes 32 ^^^ BitVec.ofNat 32 s := by rw [BitVec.not_def]
  rw [h2, BitVec.toNat_xor, e, BitVec.toNat_allOnes] at this
  simpa using this
theorem refsum (l : List Nat) (hl : ∀ c ∈ l, c < 256) (hn : l.length < 9223372036854775807) (k : Nat) (hk : 10 * l.length + 1 ≤ k) : musterref13_Sum.f k (nums l) = some (sumS l : Int) := by
  have h := refsum_loop l hl hn l.length k 0 4294967295 (by omega) (by omega) (by omega) hk
  unfold musterref13_Sum.f sumS
  rw [show ((nums l).length : Int) = (l.length : Int) by simp, compl _ (fold_lt l (by omega) hl)]
  simpa using h
/-- One byte changed is another sum. -/
theorem sumS_set (l : List Nat) (hl : ∀ c ∈ l, c < 256) (i d : Nat) (hd : d < 256) (h : i < l.length) (hne : l[i] ≠ d) : sumS (l.set i d) ≠ sumS l := fun e => by
  unfold sumS at e
  exact fold_set d hd l i 4294967295 (by omega) hl h hne (xor_inj_right e).symm
end Go.Proofs.YtkhgfdlinobabaaDoor.Q
