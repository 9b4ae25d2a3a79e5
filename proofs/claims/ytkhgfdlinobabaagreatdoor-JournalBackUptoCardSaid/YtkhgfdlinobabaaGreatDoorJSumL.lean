/- The sum of bytes, as plain numbers: one byte changed is another sum. -/
import Derived.Test.YtkhgfdlinobabaaGreatDoorProg
import Derived.WalkKit
import Derived.Laws.Bits64b
namespace Go.Proofs.YtkhgfdlinobabaaGreatDoor.G
open Go.RowKit
theorem wrap_u32 (n : Int) : IntKind.u32.wrap n = n % 4294967296 := by simp [IntKind.wrap, IntKind.bits, IntKind.signed]
theorem wrap_u8 (n : Int) : IntKind.u8.wrap n = n % 256 := by simp [IntKind.wrap, IntKind.bits, IntKind.signed]
theorem xor32 (a b : Nat) (ha : a < 4294967296) (hb : b < 4294967296) : bits .xor .u32 (a : Int) (b : Int) = ((a ^^^ b : Nat) : Int) := by
  have hx : a ^^^ b < 2 ^ 32 := Nat.xor_lt_two_pow (by omega) (by omega)
  have h1 : (BitVec.ofInt 32 (a : Int)).toNat = a := by
    rw [BitVec.ofInt_natCast, BitVec.toNat_ofNat]; exact Nat.mod_eq_of_lt (by omega)
  have h2 : (BitVec.ofInt 32 (b : Int)).toNat = b := by
    rw [BitVec.ofInt_natCast, BitVec.toNat_ofNat]; exact Nat.mod_eq_of_lt (by omega)
  show IntKind.u32.wrap ((BitVec.ofInt 32 (a : Int) ^^^ BitVec.ofInt 32 (b : Int)).toNat : Int) = _
  rw [BitVec.toNat_xor, h1, h2, wrap_u32]
  omega
theorem and32 (a b : Nat) (ha : a < 4294967296) (hb : b < 4294967296) : bits .and .u32 (a : Int) (b : Int) = ((a &&& b : Nat) : Int) := by
  have hx : a &&& b < 2 ^ 32 := Nat.and_lt_two_pow _ (by omega)
  have h1 : (BitVec.ofInt 32 (a : Int)).toNat = a := by
    rw [BitVec.ofInt_natCast, BitVec.toNat_ofNat]; exact Nat.mod_eq_of_lt (by omega)
  have h2 : (BitVec.ofInt 32 (b : Int)).toNat = b := by
    rw [BitVec.ofInt_natCast, BitVec.toNat_ofNat]; exact Nat.mod_eq_of_lt (by omega)
  show IntKind.u32.wrap ((BitVec.ofInt 32 (a : Int) &&& BitVec.ofInt 32 (b : Int)).toNat : Int) = _
  rw [BitVec.toNat_and, h1, h2, wrap_u32]
  omega
theorem xor8 (a b : Nat) (ha : a < 256) (hb : b < 256) : bits .xor .u8 (a : Int) (b : Int) = ((a ^^^ b : Nat) : Int) := by
  have hx : a ^^^ b < 2 ^ 8 := Nat.xor_lt_two_pow (by omega) (by omega)
  have h1 : (BitVec.ofInt 8 (a : Int)).toNat = a := by
    rw [BitVec.ofInt_natCast, BitVec.toNat_ofNat]; exact Nat.mod_eq_of_lt (by omega)
  have h2 : (BitVec.ofInt 8 (b : Int)).toNat = b := by
    rw [BitVec.ofInt_natCast, BitVec.toNat_ofNat]; exact Nat.mod_eq_of_lt (by omega)
  show IntKind.u8.wrap ((BitVec.ofInt 8 (a : Int) ^^^ BitVec.ofInt 8 (b : Int)).toNat : Int) = _
  rw [BitVec.toNat_xor, h1, h2, wrap_u8]
  omega

abbrev poly : Nat := 3988292384
/-- One bit's step. -/
def st1 (u : Nat) : Nat := if u % 2 = 0 then u / 2 else (u / 2) ^^^ poly
theorem st1_lt {u : Nat} (h : u < 4294967296) : st1 u < 4294967296 := by
  unfold st1
  split
  · omega
  · exact Nat.xor_lt_two_pow (n := 32) (by omega) (by decide)
def st : Nat → Nat → Nat
  | 0, u => u
  | n + 1, u => st n (st1 u)
theorem st_lt : ∀ (n : Nat) {u : Nat}, u < 4294967296 → st n u < 4294967296
  | 0, _, h => h
  | n + 1, _, h => st_lt n (st1_lt h)
theorem top {a : Nat} (h : a < 2147483648) : 2147483648 ≤ a ^^^ poly := by
  have h1 : (a ^^^ poly).testBit 31 = true := by
    rw [Nat.testBit_xor, Nat.testBit_lt_two_pow (show a < 2 ^ 31 by omega)]
    decide
  exact Nat.ge_two_pow_of_testBit h1
theorem st1_inj {u v : Nat} (hu : u < 4294967296) (hv : v < 4294967296) (h : st1 u = st1 v) : u = v := by
  unfold st1 at h
  by_cases h1 : u % 2 = 0 <;> by_cases h2 : v % 2 = 0
  · rw [if_pos h1, if_pos h2] at h; omega
  · rw [if_pos h1, if_neg h2] at h
    have := top (a := v / 2) (by omega)
    omega
  · rw [if_neg h1, if_pos h2] at h
    have := top (a := u / 2) (by omega)
    omega
  · rw [if_neg h1, if_neg h2] at h
    have h3 : u / 2 = v / 2 := by
      have := congrArg (· ^^^ poly) h
      simpa [Nat.xor_assoc] using this
    omega
theorem st_inj : ∀ (n : Nat) {u v : Nat}, u < 4294967296 → v < 4294967296 → st n u = st n v → u = v
  | 0, _, _, _, _, h => h
  | n + 1, _, _, hu, hv, h => st1_inj hu hv (st_inj n (st1_lt hu) (st1_lt hv) h)

/-- What one byte makes of the state. -/
def byteS (s c : Nat) : Nat := st 8 (s ^^^ c)
theorem byteS_lt {s c : Nat} (hs : s < 4294967296) (hc : c < 256) : byteS s c < 4294967296 := st_lt 8 (Nat.xor_lt_two_pow (n := 32) hs (by omega))
theorem xor_inj_left {a b c : Nat} (h : a ^^^ c = b ^^^ c) : a = b := by
  have := congrArg (· ^^^ c) h
  simpa [Nat.xor_assoc] using this
theorem xor_inj_right {a b c : Nat} (h : c ^^^ a = c ^^^ b) : a = b := by
  rw [Nat.xor_comm c a, Nat.xor_comm c b] at h
  exact xor_inj_left h
theorem byteS_inj_s {s t c : Nat} (hs : s < 4294967296) (ht : t < 4294967296) (hc : c < 256) (h : byteS s c = byteS t c) : s = t :=
  xor_inj_left (st_inj 8 (Nat.xor_lt_two_pow (n := 32) hs (by omega)) (Nat.xor_lt_two_pow (n := 32) ht (by omega)) h)
theorem byteS_inj_c {s c d : Nat} (hs : s < 4294967296) (hc : c < 256) (hd : d < 256) (h : byteS s c = byteS s d) : c = d :=
  xor_inj_right (st_inj 8 (Nat.xor_lt_two_pow (n := 32) hs (by omega)) (Nat.xor_lt_two_pow (n := 32) hs (by omega)) h)
def fold : Nat → List Nat → Nat
  | s, [] => s
  | s, c :: l => fold (byteS s c) l
theorem fold_lt : ∀ (l : List Nat) {s : Nat}, s < 4294967296 → (∀ c ∈ l, c < 256) → fold s l < 4294967296
  | [], _, h, _ => h
  | c :: l, _, h, hl => fold_lt l (byteS_lt h (hl c (by simp))) (fun d hd => hl d (List.mem_cons_of_mem _ hd))
theorem fold_inj : ∀ (l : List Nat) {s t : Nat}, s < 4294967296 → t < 4294967296 → (∀ c ∈ l, c < 256) → fold s l = fold t l → s = t
  | [], _, _, _, _, _, h => h
  | c :: l, _, _, hs, ht, hl, h => byteS_inj_s hs ht (hl c (by simp)) (fold_inj l (byteS_lt hs (hl c (by simp))) (byteS_lt ht (hl c (by simp))) (fun d hd => hl d (List.mem_cons_of_mem _ hd)) h)
/-- One byte changed is another state. -/
theorem fold_cons (s c : Nat) (l : List Nat) : fold s (c :: l) = fold (byteS s c) l := rfl
theorem fold_set0 (s c d : Nat) (l : List Nat) (hs : s < 4294967296) (hc : c < 256) (hd : d < 256) (hl : ∀ x ∈ l, x < 256) (hne : c ≠ d) : ¬ fold s (c :: l) = fold s (d :: l) := by
  rw [fold_cons, fold_cons]
  intro e
  exact hne (byteS_inj_c hs hc hd (fold_inj l (byteS_lt hs hc) (byteS_lt hs hd) hl e))
theorem fold_set (d : Nat) (hd : d < 256) (l : List Nat) : ∀ (i s : Nat), s < 4294967296 → (∀ c ∈ l, c < 256) → (h : i < l.length) → l[i] ≠ d → ¬ fold s l = fold s (l.set i d) := by
  induction l with
  | nil => intro i s hs hl h; exact absurd h (by simp)
  | cons c l ih =>
    intro i s hs hl h hne
    have hc := hl c (by simp)
    have hl' : ∀ x ∈ l, x < 256 := fun x hx => hl x (List.mem_cons_of_mem _ hx)
    rcases i with _ | i
    · have hne' : c ≠ d := hne
      have := fold_set0 s c d l hs hc hd hl' hne'
      rw [List.set_cons_zero]
      exact this
    · rw [List.set_cons_succ, fold_cons, fold_cons]
      exact ih i (byteS s c) (byteS_lt hs hc) hl' (by simpa using h) (by simpa using hne)

theorem and1 (u : Nat) : u &&& 1 = u % 2 := Nat.and_one_is_mod u
theorem sum_step (u : Nat) (hu : u < 4294967296) : bits .xor .u32 ((u : Int) / 2) (bits .and .u32 3988292384 ((-(bits .and .u32 (u : Int) 1)) % 4294967296)) = (st1 u : Int) := by
  have e1 : bits .and .u32 (u : Int) 1 = ((u % 2 : Nat) : Int) := by
    have := and32 u 1 hu (by omega)
    rw [and1] at this
    exact this
  rw [e1]
  have e2 : ((u : Int) / 2) = ((u / 2 : Nat) : Int) := by omega
  rw [e2]
  unfold st1
  by_cases h : u % 2 = 0
  · rw [h, if_pos rfl]
    have e3 : bits .and .u32 3988292384 ((-((0 : Nat) : Int)) % 4294967296) = ((0 : Nat) : Int) := by decide +kernel
    rw [e3, xor32 _ _ (by omega) (by omega), Nat.xor_zero]
  · have h' : u % 2 = 1 := by omega
    rw [h', if_neg (by omega)]
    have e3 : bits .and .u32 3988292384 ((-((1 : Nat) : Int)) % 4294967296) = ((poly : Nat) : Int) := by decide +kernel
    rw [e3, xor32 _ _ (by omega) (by decide)]
theorem compl (s : Nat) (h : s < 4294967296) : 4294967295 ^^^ s = 4294967295 - s := by
  have := @BitVec.toNat_not 32 (BitVec.ofNat 32 s)
  have e := BitVec.toNat_ofNat s 32
  rw [Nat.mod_eq_of_lt (by omega)] at e
  have h2 : (~~~ (BitVec.ofNat 32 s)) = BitVec.allOnes 32 ^^^ BitVec.ofNat 32 s := by rw [BitVec.not_def]
  rw [h2, BitVec.toNat_xor, e, BitVec.toNat_allOnes] at this
  simpa using this
def sumS (l : List Nat) : Nat := 4294967295 ^^^ fold 4294967295 l
theorem sumS_lt (l : List Nat) (hl : ∀ c ∈ l, c < 256) : sumS l < 4294967296 := Nat.xor_lt_two_pow (n := 32) (by decide) (fold_lt l (by omega) hl)
/-- One byte changed is another sum. -/
theorem sumS_set (l : List Nat) (hl : ∀ c ∈ l, c < 256) (i d : Nat) (hd : d < 256) (h : i < l.length) (hne : l[i] ≠ d) : sumS (l.set i d) ≠ sumS l := fun e => by
  unfold sumS at e
  exact fold_set d hd l i 4294967295 (by omega) hl h hne (xor_inj_right e).symm
end Go.Proofs.YtkhgfdlinobabaaGreatDoor.G
