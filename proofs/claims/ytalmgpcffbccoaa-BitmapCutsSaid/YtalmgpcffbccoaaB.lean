/- Bits of bytes, lists of numbers: plain facts, no program. -/
import Derived.WalkKit
import Derived.PlainAid
import Derived.Laws.BitsAllLaws
namespace Go.Proofs.Ytalmgpcffbccoaa
open Go.RowKit

def bitsOf (f : Nat → Bool) : Nat → Nat
  | 0 => 0
  | n + 1 => bitsOf f n + if f n then 2 ^ n else 0

theorem bitsOf_lt (f : Nat → Bool) (n : Nat) : bitsOf f n < 2 ^ n := by
  induction n with
  | zero => simp [bitsOf]
  | succ n ih => unfold bitsOf; split <;> rw [Nat.pow_succ] <;> omega

theorem testBit_bitsOf (f : Nat → Bool) (n j : Nat) : (bitsOf f n).testBit j = (decide (j < n) && f j) := by
  induction n with
  | zero => simp [bitsOf]
  | succ n ih =>
    unfold bitsOf
    have hlt := bitsOf_lt f n
    by_cases hf : f n = true
    · rw [if_pos hf, Nat.add_comm]
      by_cases hj : j = n
      · subst hj; rw [Nat.testBit_two_pow_add_eq]; rw [ih]; simp [hf]
      · by_cases hjn : j < n
        · rw [Nat.testBit_two_pow_add_gt hjn]; rw [ih]; simp [hjn]; omega
        · have h1 : 2 ^ n + bitsOf f n < 2 ^ j := by
            have : 2 ^ (n + 1) ≤ 2 ^ j := Nat.pow_le_pow_right (by omega) (by omega)
            rw [Nat.pow_succ] at this; omega
          rw [Nat.testBit_lt_two_pow h1]
          have : ¬ j < n + 1 := by omega
          simp [this]
    · rw [if_neg hf, Nat.add_zero, ih]
      by_cases hj : j = n
      · subst hj; simp [hf]
      · have : (j < n) ↔ (j < n + 1) := by omega
        simp [this]

theorem bitsOf_congr {f g : Nat → Bool} {n : Nat} (h : ∀ j, j < n → f j = g j) : bitsOf f n = bitsOf g n := by
  induction n with
  | zero => rfl
  | succ n ih => unfold bitsOf; rw [ih (fun j hj => h j (by omega)), h n (by omega)]

theorem bitsOf_testBit (b n : Nat) (h : b < 2 ^ n) : bitsOf b.testBit n = b := by
  apply Nat.eq_of_testBit_eq
  intro j
  rw [testBit_bitsOf]
  by_cases hj : j < n
  · simp [hj]
  · have : b < 2 ^ j := Nat.lt_of_lt_of_le h (Nat.pow_le_pow_right (by omega) (by omega))
    rw [Nat.testBit_lt_two_pow this]; simp [hj]

theorem bitsOf_flip {f g : Nat → Bool} {k : Nat} (hf : f k = false) (hg : g k = true) (h : ∀ j, j ≠ k → f j = g j) : ∀ n, k < n → bitsOf f n + 2 ^ k = bitsOf g n
  | 0, hk => absurd hk (by omega)
  | n + 1, hk => by
    unfold bitsOf
    by_cases e : k = n
    · subst e
      rw [hf, hg, bitsOf_congr (f := f) (g := g) (fun j hj => h j (by omega))]
      simp
    · have := bitsOf_flip hf hg h n (by omega)
      rw [h n (by omega)]
      split <;> omega

/-- The byte at place j of a set of numbers. -/
def byteN (S : Nat → Bool) (j : Nat) : Nat := bitsOf (fun k => S (8 * j + 8 - k)) 8
theorem byteN_lt (S : Nat → Bool) (j : Nat) : byteN S j < 256 := bitsOf_lt _ 8
theorem testBit_byteN (S : Nat → Bool) (j k : Nat) (h : k < 8) : (byteN S j).testBit k = S (8 * j + 8 - k) := by
  unfold byteN; rw [testBit_bitsOf]; simp [h]
theorem testBit_high {b : Nat} (h : b < 256) {k : Nat} (hk : ¬ k < 8) : b.testBit k = false :=
  Nat.testBit_lt_two_pow (Nat.lt_of_lt_of_le h (Nat.pow_le_pow_right (n := 2) (i := 8) (by omega) (by omega)))

def upd (S : Nat → Bool) (n : Nat) : Nat → Bool := fun q => q == n || S q
theorem upd_self (S : Nat → Bool) (n : Nat) : upd S n n = true := by simp [upd]
theorem upd_ne (S : Nat → Bool) {n q : Nat} (h : q ≠ n) : upd S n q = S q := by simp [upd, h]

theorem byteN_or (S : Nat → Bool) (n : Nat) (h1 : 1 ≤ n) : byteN S ((n - 1) / 8) ||| 2 ^ (7 - (n - 1) % 8) = byteN (upd S n) ((n - 1) / 8) := by
  apply Nat.eq_of_testBit_eq
  intro k
  rw [Nat.testBit_or, Nat.testBit_two_pow]
  by_cases hk : k < 8
  · rw [testBit_byteN _ _ _ hk, testBit_byteN _ _ _ hk]
    by_cases e : 7 - (n - 1) % 8 = k
    · have : 8 * ((n - 1) / 8) + 8 - k = n := by omega
      rw [this, upd_self]; simp [e]
    · rw [upd_ne _ (by omega)]; simp [e]
  · rw [testBit_high (byteN_lt _ _) hk, testBit_high (byteN_lt _ _) hk]
    have : ¬ 7 - (n - 1) % 8 = k := by omega
    simp [this]
theorem byteN_add (S : Nat → Bool) (n : Nat) (h1 : 1 ≤ n) (hS : S n = false) : byteN S ((n - 1) / 8) + 2 ^ (7 - (n - 1) % 8) = byteN (upd S n) ((n - 1) / 8) := by
  unfold byteN
  have hk : 8 * ((n - 1) / 8) + 8 - (7 - (n - 1) % 8) = n := by omega
  have h8 : ∀ j, 8 ≤ j → True := fun _ _ => trivial
  have key : ∀ f g : Nat → Bool, f (7 - (n - 1) % 8) = false → g (7 - (n - 1) % 8) = true → (∀ j, j ≠ 7 - (n - 1) % 8 → j < 8 → f j = g j) → bitsOf f 8 + 2 ^ (7 - (n - 1) % 8) = bitsOf g 8 := by
    intro f g hf hg h
    have := bitsOf_flip (f := fun j => decide (j < 8) && f j) (g := fun j => decide (j < 8) && g j) (k := 7 - (n - 1) % 8) (by simp [hf]) (by simp [hg]; omega) (fun j hj => by
      by_cases h8 : j < 8
      · simp [h j hj h8]
      · simp [h8]) 8 (by omega)
    rw [bitsOf_congr (f := f) (g := fun j => decide (j < 8) && f j) (fun j hj => by simp [hj]), this]
    exact bitsOf_congr (fun j hj => by simp [hj])
  refine key _ _ ?_ ?_ ?_
  · show S (8 * ((n - 1) / 8) + 8 - (7 - (n - 1) % 8)) = false
    rw [hk]; exact hS
  · show upd S n (8 * ((n - 1) / 8) + 8 - (7 - (n - 1) % 8)) = true
    rw [hk]; exact upd_self _ _
  · intro j hj h8
    show S _ = upd S n _
    rw [upd_ne _ (by omega)]
theorem byteN_upd_ne (S : Nat → Bool) (n j : Nat) (h1 : 1 ≤ n) (h : j ≠ (n - 1) / 8) : byteN (upd S n) j = byteN S j :=
  bitsOf_congr (fun k hk => upd_ne _ (by omega))
theorem byteN_congr {S T : Nat → Bool} {j : Nat} (h : ∀ q, 8 * j < q → q ≤ 8 * j + 8 → S q = T q) : byteN S j = byteN T j :=
  bitsOf_congr (fun k hk => h _ (by omega) (by omega))
theorem byteN_none (j : Nat) : byteN (fun _ => false) j = 0 := by
  unfold byteN; exact (bitsOf_congr (g := fun _ => false) (fun _ _ => rfl)).trans (by decide)
theorem and_bit (b k : Nat) : ((b &&& 2 ^ k) != 0) = b.testBit k := by
  rw [Bool.eq_iff_iff, bne_iff_ne]
  constructor
  · intro h
    cases e : b.testBit k with
    | true => rfl
    | false =>
      exfalso; apply h
      apply Nat.eq_of_testBit_eq
      intro j
      rw [Nat.testBit_and, Nat.testBit_two_pow, Nat.zero_testBit]
      by_cases hj : k = j
      · subst hj; simp [e]
      · simp [hj]
  · intro h h0
    have := congrArg (·.testBit k) h0
    simp only [Nat.testBit_and, Nat.testBit_two_pow, Nat.zero_testBit, h] at this
    simp at this

theorem pow_lt8 {k : Nat} (h : k < 8) : 2 ^ k < 256 := Nat.pow_lt_pow_right (a := 2) (by omega) h
theorem and_test {x : Int} {k : Nat} (h0 : 0 ≤ x) (h1 : x ≤ 255) (hk : k < 8) : (bits .and .u8 x ((2 ^ k : Nat) : Int) != 0) = x.toNat.testBit k := by
  obtain ⟨X, rfl⟩ := Int.eq_ofNat_of_zero_le h0
  rw [show ((X : Nat) : Int).toNat = X from rfl]
  rw [u8_and_nat X (2 ^ k) (by omega) (pow_lt8 hk), ← and_bit]
  rw [Bool.eq_iff_iff, bne_iff_ne, bne_iff_ne]
  omega

/-- Where a bit stands. -/
def placeA (n : Int) : Int := if 1 ≤ n ∧ n ≤ 128 then (n - 1) / 8 else 0
def placeB (n : Int) : Int := if 1 ≤ n ∧ n ≤ 128 then 128 / 2 ^ ((n - 1) % 8).toNat else 0
theorem placeA_in {n : Int} (h1 : 1 ≤ n) (h2 : n ≤ 128) : placeA n = (n - 1) / 8 := if_pos ⟨h1, h2⟩
theorem placeB_in {n : Int} (h1 : 1 ≤ n) (h2 : n ≤ 128) : placeB n = 128 / 2 ^ ((n - 1) % 8).toNat := if_pos ⟨h1, h2⟩
theorem place_out {n : Int} (h : n < 1 ∨ 128 < n) : placeA n = 0 ∧ placeB n = 0 := ⟨if_neg (by omega), if_neg (by omega)⟩
theorem half_pow : ∀ r : Nat, r < 8 → (128 : Int) / 2 ^ r = ((2 ^ (7 - r) : Nat) : Int)
  | 0, _ | 1, _ | 2, _ | 3, _ | 4, _ | 5, _ | 6, _ | 7, _ => by decide
  | r + 8, h => absurd h (by omega)
/-- At a natural number: the byte's place and the bit's worth. -/
theorem place_nat {n : Nat} (h1 : 1 ≤ n) (h2 : n ≤ 128) : placeA n = (((n - 1) / 8 : Nat) : Int) ∧ placeB n = ((2 ^ (7 - (n - 1) % 8) : Nat) : Int) := by
  rw [placeA_in (by omega) (by omega), placeB_in (by omega) (by omega)]
  have e : (n : Int) - 1 = ((n - 1 : Nat) : Int) := by omega
  rw [e]
  have e2 : (((n - 1 : Nat) : Int) % 8).toNat = (n - 1) % 8 := by omega
  rw [e2, half_pow _ (by omega)]
  exact ⟨by omega, rfl⟩

/-- Is a list of fields right? -/
def rightF : Int → List Int → Bool
  | _, [] => true
  | last, n :: l => !(decide (n ≤ last) || decide (128 < n) || n == 65) && rightF n l
def rightL (l : List Int) : Bool := rightF 1 l
def badN (p x : Int) : Bool := decide (x ≤ p) || decide (128 < x) || x == 65
theorem rightF_step {p : Int} {l : List Int} {k : Nat} (h : k < l.length) : rightF p (l.drop k) = (!badN p (l.getD k 0) && rightF (l.getD k 0) (l.drop (k + 1))) := by
  rw [List.drop_eq_getElem_cons h, List.getD_eq_getElem?_getD, List.getElem?_eq_getElem h]
  rfl
theorem rightF_end {p : Int} {l : List Int} {k : Nat} (h : l.length ≤ k) : rightF p (l.drop k) = true := by rw [List.drop_eq_nil_of_le h]; rfl
end Go.Proofs.Ytalmgpcffbccoaa
