/- Plain laws of windows: what a number that is taken leaves. -/
import Derived.Test.YtkmmfobnpapceaaK
namespace Go.Proofs.Ytkmmfobnpapceaa

theorem markG_at (t : Int) (f : Nat → Bool) (n : Int) : markG t f n (n.toNat % 1024) = true := by
  unfold markG
  split
  · simp [upd]
  · split <;> simp [upd]

theorem fresh_range {t : Int} {f : Nat → Bool} {n : Int} (h : freshB t f n = true) : 0 ≤ n ∧ n ≤ 4611686018427387904 ∧ (t ≤ n ∨ t - 1024 ≤ n ∧ f (n.toNat % 1024) = false) := by
  unfold freshB at h
  simp only [Bool.and_eq_true, Bool.or_eq_true, decide_eq_true_eq, Bool.not_eq_true'] at h
  exact ⟨h.1.1, h.1.2, h.2⟩

theorem clrR_in {f : Nat → Bool} {t k p : Nat} (h : (p + 1024 - t % 1024) % 1024 < k) : clrR f t k p = false := by unfold clrR; rw [if_pos h]
theorem clrR_out {f : Nat → Bool} {t k p : Nat} (h : ¬ (p + 1024 - t % 1024) % 1024 < k) : clrR f t k p = f p := by unfold clrR; rw [if_neg h]
theorem upd_other {f : Nat → Bool} {p q : Nat} {b : Bool} (h : q ≠ p) : upd f p b q = f q := by unfold upd; rw [if_neg h]

/-- Which numbers are fresh behind a number that was taken. -/
theorem fresh_mark (t : Int) (f : Nat → Bool) (n o : Int) (h0 : 0 ≤ t) (hf : freshB t f n = true) :
    freshB (max t (n + 1)) (markG t f n) o = (decide (o ≠ n) && decide (n - 1024 < o) && freshB t f o) := by
  obtain ⟨hn0, hn1, hn⟩ := fresh_range hf
  by_cases hr : o < 0 ∨ 4611686018427387904 < o
  · rw [freshB_out hr, freshB_out hr]; simp
  by_cases hon : o = n
  · subst hon
    by_cases hlt : o < t
    · rw [freshB_near (by omega) (by omega) (by omega) (by omega), markG_at]; simp
    · rw [freshB_near (by omega) (by omega) (by omega) (by omega), markG_at]; simp
  by_cases hlow : o ≤ n - 1024
  · rw [freshB_low (by omega)]; simp; omega
  have d1 : decide (o ≠ n) = true := by simpa using hon
  have d2 : decide (n - 1024 < o) = true := by simp; omega
  rw [d1, d2, Bool.true_and, Bool.true_and]
  by_cases hhi : max t (n + 1) ≤ o
  · rw [freshB_high (by omega) (by omega) hhi, freshB_high (by omega) (by omega) (by omega)]
  unfold markG
  by_cases a : n < t
  · rw [if_pos a]
    by_cases hl : o < t - 1024
    · rw [freshB_low (by omega), freshB_low hl]
    · rw [freshB_near (by omega) (by omega) (by omega) (by omega), freshB_near (by omega) (by omega) (by omega) (by omega), upd_other (by omega)]
  · rw [if_neg a, freshB_near (by omega) (by omega) (by omega) (by omega)]
    by_cases b : t + 1024 ≤ n
    · rw [if_pos b, upd_other (by omega), freshB_high (by omega) (by omega) (by omega)]; rfl
    · rw [if_neg b, upd_other (by omega)]
      by_cases c : t ≤ o
      · rw [clrR_in (by omega), freshB_high (by omega) (by omega) c]; rfl
      · rw [clrR_out (by omega), freshB_near (by omega) (by omega) (by omega) (by omega)]

/-- A window stays right. -/
theorem right_mark (t : Int) (f : Nat → Bool) (n : Int) (hR : RightP t f) (hf : freshB t f n = true) : RightP (max t (n + 1)) (markG t f n) := by
  obtain ⟨h0, h1, h2, h3⟩ := hR
  obtain ⟨hn0, hn1, hn⟩ := fresh_range hf
  refine ⟨by omega, by omega, fun p hp hpt => ?_, .inr ?_⟩
  · unfold markG
    by_cases a : n < t
    · rw [if_pos a, upd_other (by omega)]; exact h2 p hp (by omega)
    · rw [if_neg a]
      by_cases b : t + 1024 ≤ n
      · rw [if_pos b, upd_other (by omega)]; rfl
      · rw [if_neg b, upd_other (by omega)]
        have hfp := h2 p hp (by omega)
        unfold clrR
        split
        · rfl
        · exact hfp
  · by_cases a : n < t
    · rw [show max t (n + 1) = t by omega]
      unfold markG
      rw [if_pos a]
      unfold upd
      split
      · rfl
      · rcases h3 with h3 | h3
        · omega
        · exact h3
    · rw [show (max t (n + 1) - 1) = n by omega]
      exact markG_at t f n

/-- Two right windows with one greatest number are one if the same numbers are fresh. -/
theorem fresh_ext (T : Int) (f g : Nat → Bool) (hf : RightP T f) (hg : RightP T g) (h : ∀ o, freshB T f o = freshB T g o) (p : Nat) (hp : p < 1024) : f p = g p := by
  by_cases hpt : T ≤ p
  · rw [hf.2.2.1 p hp hpt, hg.2.2.1 p hp hpt]
  · have h0 := hf.1
    have h1 := hf.2.1
    have ho := h (T - 1 - (((T.toNat - 1 - p) % 1024 : Nat) : Int))
    rw [freshB_near (by omega) (by omega) (by omega) (by omega), freshB_near (by omega) (by omega) (by omega) (by omega),
      show (T - 1 - (((T.toNat - 1 - p) % 1024 : Nat) : Int)).toNat % 1024 = p by omega] at ho
    cases hfp : f p <;> cases hgp : g p <;> simp_all
end Go.Proofs.Ytkmmfobnpapceaa
