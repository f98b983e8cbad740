/- Bits of words, and the cells of a window: plain facts, no program. -/
import Derived.WalkKit
import Derived.PlainAid
namespace Go.Proofs.Ytkmmfobnpapceaa
open Go.RowKit

def bitsOf (f : Nat → Bool) : Nat → Nat
  | 0 => 0
  | n + 1 => bitsOf f n + if f n then 2 ^ n else 0

theorem bitsOf_lt (f : Nat → Bool) (n : Nat) : bitsOf f n < 2 ^ n := by
  induction n with
  | zero => simp [bitsOf]
  | succ n ih => unfold bitsOf; split <;> rw [Nat.pow_succ] <;> omega

theorem testBit_bitsOf (f : Nat → Bool) (n j : Nat) : (bitsOf f n).testBit j = (decide (j < n) && f j) := by
  induction n with
  | zero => simp [bitsOf]
  | succ n ih =>
    unfold bitsOf
    have hlt := bitsOf_lt f n
    by_cases hf : f n = true
    · rw [if_pos hf, Nat.add_comm]
      by_cases hj : j = n
      · subst hj; rw [Nat.testBit_two_pow_add_eq]; rw [ih]; simp [hf]
      · by_cases hjn : j < n
        · rw [Nat.testBit_two_pow_add_gt hjn]; rw [ih]; simp [hjn]; omega
        · have h1 : 2 ^ n + bitsOf f n < 2 ^ j := by
            have : 2 ^ (n + 1) ≤ 2 ^ j := Nat.pow_le_pow_right (by omega) (by omega)
            rw [Nat.pow_succ] at this; omega
          rw [Nat.testBit_lt_two_pow h1]
          have : ¬ j < n + 1 := by omega
          simp [this]
    · rw [if_neg hf, Nat.add_zero, ih]
      by_cases hj : j = n
      · subst hj; simp [hf]
      · have : (j < n) ↔ (j < n + 1) := by omega
        simp [this]

theorem bitsOf_congr {f g : Nat → Bool} {n : Nat} (h : ∀ j, j < n → f j = g j) : bitsOf f n = bitsOf g n := by
  induction n with
  | zero => rfl
  | succ n ih => unfold bitsOf; rw [ih (fun j hj => h j (by omega)), h n (by omega)]

theorem bitsOf_testBit (b n : Nat) (h : b < 2 ^ n) : bitsOf b.testBit n = b := by
  apply Nat.eq_of_testBit_eq
  intro j
  rw [testBit_bitsOf]
  by_cases hj : j < n
  · simp [hj]
  · have : b < 2 ^ j := Nat.lt_of_lt_of_le h (Nat.pow_le_pow_right (by omega) (by omega))
    rw [Nat.testBit_lt_two_pow this]; simp [hj]

def word (f : Nat → Bool) (i : Nat) : Nat := bitsOf (fun j => f (64 * i + j)) 64

theorem word_lt (f : Nat → Bool) (i : Nat) : word f i < 18446744073709551616 := bitsOf_lt _ 64

theorem testBit_word (f : Nat → Bool) (i j : Nat) (h : j < 64) : (word f i).testBit j = f (64 * i + j) := by
  unfold word; rw [testBit_bitsOf]; simp [h]

theorem word_congr {f g : Nat → Bool} {i : Nat} (h : ∀ j, j < 64 → f (64 * i + j) = g (64 * i + j)) : word f i = word g i := bitsOf_congr h

def upd (f : Nat → Bool) (p : Nat) (b : Bool) : Nat → Bool := fun q => if q = p then b else f q

theorem word_inj {f g : Nat → Bool} {i : Nat} (h : word f i = word g i) (j : Nat) (hj : j < 64) : f (64 * i + j) = g (64 * i + j) := by
  rw [← testBit_word f i j hj, ← testBit_word g i j hj, h]

theorem word_or (f : Nat → Bool) (p : Nat) : word f (p / 64) ||| 2 ^ (p % 64) = word (upd f p true) (p / 64) := by
  apply Nat.eq_of_testBit_eq
  intro j
  by_cases hj : j < 64
  · rw [Nat.testBit_or, testBit_word _ _ _ hj, testBit_word _ _ _ hj, Nat.testBit_two_pow]
    unfold upd
    by_cases h : p % 64 = j
    · have : 64 * (p / 64) + j = p := by omega
      simp [h, this]
    · have : ¬ 64 * (p / 64) + j = p := by omega
      simp [h, this]
  · have h1 : word (upd f p true) (p / 64) < 2 ^ j := Nat.lt_of_lt_of_le (word_lt _ _) (Nat.pow_le_pow_right (n := 2) (i := 64) (j := j) (by omega) (by omega))
    have h2 : word f (p / 64) < 2 ^ j := Nat.lt_of_lt_of_le (word_lt _ _) (Nat.pow_le_pow_right (n := 2) (i := 64) (j := j) (by omega) (by omega))
    rw [Nat.testBit_or, Nat.testBit_lt_two_pow h1, Nat.testBit_lt_two_pow h2, Nat.testBit_two_pow]
    have : ¬ p % 64 = j := by omega
    simp [this]

theorem word_xor (f : Nat → Bool) (p : Nat) (hf : f p = true) : word f (p / 64) ^^^ 2 ^ (p % 64) = word (upd f p false) (p / 64) := by
  apply Nat.eq_of_testBit_eq
  intro j
  by_cases hj : j < 64
  · rw [Nat.testBit_xor, testBit_word _ _ _ hj, testBit_word _ _ _ hj, Nat.testBit_two_pow]
    unfold upd
    by_cases h : p % 64 = j
    · have : 64 * (p / 64) + j = p := by omega
      simp [h, this, hf]
    · have : ¬ 64 * (p / 64) + j = p := by omega
      simp [h, this]
  · have h1 : word (upd f p false) (p / 64) < 2 ^ j := Nat.lt_of_lt_of_le (word_lt _ _) (Nat.pow_le_pow_right (n := 2) (i := 64) (j := j) (by omega) (by omega))
    have h2 : word f (p / 64) < 2 ^ j := Nat.lt_of_lt_of_le (word_lt _ _) (Nat.pow_le_pow_right (n := 2) (i := 64) (j := j) (by omega) (by omega))
    rw [Nat.testBit_xor, Nat.testBit_lt_two_pow h1, Nat.testBit_lt_two_pow h2, Nat.testBit_two_pow]
    have : ¬ p % 64 = j := by omega
    simp [this]

theorem word_upd_other (f : Nat → Bool) (p i : Nat) (b : Bool) (h : i ≠ p / 64) : word (upd f p b) i = word f i := by
  apply word_congr
  intro j hj
  unfold upd
  rw [if_neg (by omega)]

theorem upd_upd (f : Nat → Bool) (p : Nat) (a b : Bool) : upd (upd f p a) p b = upd f p b := by
  funext q; unfold upd; split <;> rfl

theorem word_and (f : Nat → Bool) (p : Nat) : word f (p / 64) &&& 2 ^ (p % 64) = if f p then 2 ^ (p % 64) else 0 := by
  have e : 64 * (p / 64) + p % 64 = p := by omega
  have ht := testBit_word f (p / 64) (p % 64) (by omega)
  rw [e] at ht
  apply Nat.eq_of_testBit_eq
  intro j
  rw [Nat.testBit_and, Nat.testBit_two_pow]
  by_cases hj : p % 64 = j
  · subst hj; rw [ht]; cases f p <;> simp
  · split <;> simp [hj]

theorem word_div (f : Nat → Bool) (p : Nat) : (word f (p / 64) / 2 ^ (p % 64) % 2 == 1) = f p := by
  have e : 64 * (p / 64) + p % 64 = p := by omega
  have ht := testBit_word f (p / 64) (p % 64) (by omega)
  rw [e] at ht
  rw [← ht, Nat.testBit_eq_decide_div_mod_eq]
  exact Bool.eq_iff_iff.2 (by simp)

/-- The cells of a window: its greatest number and one, and sixteen words. -/
def winL (t : Int) (f : Nat → Bool) : List Value := .int .i64 t :: (List.range 16).map fun i => .int .u64 (word f i : Int)
def winA (t : Int) (f : Nat → Bool) : Array Value := (winL t f).toArray

theorem winL_length (t : Int) (f : Nat → Bool) : (winL t f).length = 17 := by simp [winL]
theorem winA_size (t : Int) (f : Nat → Bool) : (winA t f).size = 17 := by simp [winA, winL_length]
theorem winA_top (t : Int) (f : Nat → Bool) : (winA t f)[0]? = some (.int .i64 t) := by simp [winA, winL]
theorem winA_bits (t : Int) (f : Nat → Bool) (i : Nat) (h : i < 16) : (winA t f)[1 + i]? = some (.int .u64 (word f i : Int)) := by
  rw [Nat.add_comm]
  simp only [winA, winL, List.getElem?_toArray, List.getElem?_cons_succ, List.getElem?_map, List.getElem?_range h, Option.map_some]
theorem winA_setTop (t u : Int) (f : Nat → Bool) : (winA t f).setIfInBounds 0 (.int .i64 u) = winA u f := by
  simp [winA, winL]
theorem winA_setBits (t : Int) (f : Nat → Bool) (p : Nat) (b : Bool) (hp : p < 1024) :
    (winA t f).setIfInBounds (1 + p / 64) (.int .u64 (word (upd f p b) (p / 64) : Int)) = winA t (upd f p b) := by
  apply Array.ext_getElem?
  intro k
  rw [Array.getElem?_setIfInBounds]
  have hs := winA_size t f
  have hs' := winA_size t (upd f p b)
  rcases k with _ | k
  · rw [if_neg (by omega), winA_top, winA_top]
  · rw [Nat.add_comm k 1]
    by_cases hk : k < 16
    · rw [winA_bits _ _ _ hk, winA_bits _ _ _ hk]
      by_cases hkp : k = p / 64
      · subst hkp; rw [if_pos rfl, if_pos (by omega)]
      · rw [if_neg (by omega), word_upd_other f p k b hkp]
    · rw [if_neg (by omega), Array.getElem?_eq_none (by omega), Array.getElem?_eq_none (by omega)]
theorem winA_one (t : Int) (f : Nat → Bool) : (winA t f).all (·.oneCell') = true := by
  simp [winA, winL, Value.oneCell']
theorem winA_zero : #[Value.int .i64 0, .int .u64 0, .int .u64 0, .int .u64 0, .int .u64 0, .int .u64 0, .int .u64 0, .int .u64 0, .int .u64 0, .int .u64 0, .int .u64 0, .int .u64 0, .int .u64 0, .int .u64 0, .int .u64 0, .int .u64 0, .int .u64 0] = winA 0 (fun _ => false) := by
  have h : ∀ i, word (fun _ => false) i = 0 := fun i => by
    apply Nat.eq_of_testBit_eq
    intro j
    unfold word
    rw [testBit_bitsOf]; simp
  simp [winA, winL, h, List.range, List.range.loop]
theorem winA_congr (t : Int) {f g : Nat → Bool} (h : ∀ p, p < 1024 → f p = g p) : winA t f = winA t g := by
  unfold winA winL
  congr 2
  apply List.map_congr_left
  intro i hi
  rw [word_congr (f := f) (g := g) (fun j hj => h _ (by have := List.mem_range.1 hi; omega))]
theorem winA_inj {t u : Int} {f g : Nat → Bool} (h : winA t f = winA u g) : t = u ∧ ∀ p, p < 1024 → f p = g p := by
  constructor
  · have h0 := winA_top t f
    rw [h, winA_top] at h0
    injection h0 with h0; injection h0 with _ h0; exact h0.symm
  · intro p hp
    have h0 := winA_bits t f (p / 64) (by omega)
    rw [h, winA_bits _ _ _ (by omega)] at h0
    injection h0 with h0; injection h0 with _ h0
    have := word_inj (f := g) (g := f) (i := p / 64) (by omega) (p % 64) (by omega)
    rw [show 64 * (p / 64) + p % 64 = p by omega] at this
    exact this.symm

/-- 2 to a power, kept from the walk. -/
def pow2 (j : Nat) : Nat := 2 ^ j
theorem pow2_pos (j : Nat) : 0 < pow2 j := Nat.two_pow_pos j
theorem pow2_lt (j : Nat) (h : j < 64) : pow2 j < 18446744073709551616 := Nat.pow_lt_pow_right (a := 2) (by omega) h
theorem and_word (f : Nat → Bool) (p : Nat) : bits .and .u64 (word f (p / 64) : Int) (pow2 (p % 64) : Int) = if f p then (pow2 (p % 64) : Int) else 0 := by
  rw [u64_and_nat _ _ (word_lt _ _) (pow2_lt _ (by omega))]
  unfold pow2
  rw [word_and]
  split <;> simp
theorem or_word (f : Nat → Bool) (p : Nat) : bits .or .u64 (word f (p / 64) : Int) (pow2 (p % 64) : Int) = (word (upd f p true) (p / 64) : Int) := by
  rw [u64_or_nat _ _ (word_lt _ _) (pow2_lt _ (by omega))]
  unfold pow2
  rw [word_or]
theorem xor_word (f : Nat → Bool) (p : Nat) : bits .xor .u64 (word (upd f p true) (p / 64) : Int) (pow2 (p % 64) : Int) = (word (upd f p false) (p / 64) : Int) := by
  rw [u64_xor_nat _ _ (word_lt _ _) (pow2_lt _ (by omega))]
  unfold pow2
  rw [word_xor _ _ (by simp [upd]), upd_upd]
theorem ret_at (n : Int) (h0 : 0 ≤ n) : IntKind.u64.wrap (2 ^ (n % 64).toNat) = ((pow2 (n.toNat % 1024 % 64) : Nat) : Int) := by
  have e : (n % 64).toNat = n.toNat % 1024 % 64 := by omega
  have h := pow2_lt (n.toNat % 1024 % 64) (by omega)
  rw [e, show ((2 : Int) ^ (n.toNat % 1024 % 64)) = ((pow2 (n.toNat % 1024 % 64) : Nat) : Int) from by simp [pow2], IntKind.wrap_u64]
  omega
end Go.Proofs.Ytkmmfobnpapceaa
