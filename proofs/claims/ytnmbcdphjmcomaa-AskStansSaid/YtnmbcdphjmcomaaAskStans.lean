/- AskStans: trace numbers go round. No condition. -/
import Derived.Test.YtnmbcdphjmcomaaE
namespace Go.Proofs.Ytnmbcdphjmcomaa
open Go.ChangeShapes Go.WideShapes Go.ChangeAt Go.RowKit
namespace askStans

theorem bounds8 {x : Int} (h : (Lit.int .u8 x).wf = true) : 0 ≤ x ∧ x ≤ 255 := by
  simpa [Lit.wf, IntKind.min, IntKind.max, IntKind.signed, IntKind.bits] using h

def roundF (s : Int) (j : Nat) : Int := (s - 1 + j) % 999999 + 1
theorem roundF_zero (s : Int) (h : 1 ≤ s ∧ s ≤ 999999) : roundF s 0 = s := by unfold roundF; omega
theorem roundF_range (s : Int) (j : Nat) : 1 ≤ roundF s j ∧ roundF s j ≤ 999999 := by unfold roundF; omega
theorem roundF_succ (s : Int) (j : Nat) : stanF (roundF s j) = roundF s (j + 1) := by
  unfold stanF roundF; split <;> omega

set_option maxRecDepth 100000 in
set_option maxHeartbeats 8000000 in
theorem walk_core (n k : Int) (hk : 0 ≤ k ∧ k ≤ 255) (s : Int) (hs : 1 ≤ s ∧ s ≤ 999999) (hst : stanF n = s) (w : World)
    (d0 : (s == n) = false) (hc : (decide (0 ≤ n) = true ∧ decide (n < 999999) = true ∧ n + 1 = s) ∨ (decide (0 ≤ n) = false ∧ s = 1) ∨ (decide (0 ≤ n) = true ∧ decide (n < 999999) = false ∧ s = 1)) :
    Calls Try.prog 7 #[.int .i64 n, .int .u8 k] w fun e w' => e = .returned (.bool true) ∧ Below w.heap.size w w' := by
  have HS := Lib.hid hst; have HR := Lib.hid hs
  have e1 : decide (s < 1) = false := by simp; omega
  have e2 : decide (999999 < s) = false := by simp; omega
  obtain ⟨hk0, hk1⟩ := hk
  obtain ⟨kn, rfl⟩ := Int.eq_ofNat_of_zero_le hk0
  clear hst hs
  go_enter Try.func7, Try.ntmps7
  go_wp2_with fail
  refine (shown_ok _).mono ?_
  rintro e w1 ⟨rfl, hb1⟩
  have HB1 := Lib.hid hb1; clear hb1
  go_wp2_with fail
  refine (stan_any n _).mono ?_
  rw [HS.out]
  rintro e w2 ⟨rfl, rfl⟩
  rcases hc with ⟨h1, h2, h3⟩ | ⟨h1, h3⟩ | ⟨h1, h2, h3⟩
  · have i1 : 0 ≤ n := of_decide_eq_true h1
    have i2 : n < 999999 := of_decide_eq_true h2
    have h4 : (s == n + 1) = true := by simp [h3]
    have h5 : decide (n < 0) = false := by simp; omega
    have h6 : decide (999999 ≤ n) = false := by simp; omega
    have H3 := Lib.hid h3.symm; clear h3
    go_wp2_with fail
    all_goals
      have h7 := H3.out
      clear H3 h1 h2 h4 h5 h6 e1 e2 d0
      subst h7
    all_goals
      go_loopw [7, 8] (fun t i wr => wr = w2 ∧ ∃ j : Nat, j ≤ kn ∧ i = .int .i64 j ∧ t = .int .i64 (roundF (n + 1) j)) (fun _ i _ => kn - (intOf i).toNat)
      case atStart => exact ⟨rfl, 0, Nat.zero_le _, rfl, by rw [roundF_zero _ HR.out]⟩
      case round =>
        obtain ⟨rfl, j, hj, rfl, rfl⟩ := hrel
        by_cases hlt : j < kn
        · go_wp2_with fail
          refine (stan_any _ _).mono ?_
          rw [roundF_succ]
          rintro e w3 ⟨rfl, rfl⟩
          go_wp2_with fail
          refine ⟨?_, by simp [intOf]; omega⟩
          first | exact ⟨rfl, j + 1, by omega, by go_num, rfl⟩ | exact ⟨trivial, j + 1, by omega, by go_num, rfl⟩ | exact ⟨j + 1, by omega, by go_num, rfl⟩
        · obtain rfl : j = kn := by omega
          have hE : (roundF (n + 1) j == (n + (j : Int)) % 999999 + 1) = true := by simp [roundF]
          have hE2 : (roundF (n + 1) j == (n + (j : Int)).tmod 999999 + 1) = true := by rw [Int.tmod_eq_emod_of_nonneg (by omega)]; exact hE
          go_wp2_with fail
          go_ret
          exact ⟨rfl, HB1.out⟩
  · subst h3
    have h5 : decide (n < 0) = true := by simp at h1 ⊢; omega
    go_wp2_with fail
    all_goals clear h5 h1 e1 e2 d0
    all_goals
      go_loopw [7, 8] (fun t i wr => wr = w2 ∧ ∃ j : Nat, j ≤ kn ∧ i = .int .i64 j ∧ t = .int .i64 (roundF 1 j)) (fun _ i _ => kn - (intOf i).toNat)
      case atStart => exact ⟨rfl, 0, Nat.zero_le _, rfl, by rw [roundF_zero _ HR.out]⟩
      case round =>
        obtain ⟨rfl, j, hj, rfl, rfl⟩ := hrel
        by_cases hlt : j < kn
        · go_wp2_with fail
          refine (stan_any _ _).mono ?_
          rw [roundF_succ]
          rintro e w3 ⟨rfl, rfl⟩
          go_wp2_with fail
          refine ⟨?_, by simp [intOf]; omega⟩
          first | exact ⟨rfl, j + 1, by omega, by go_num, rfl⟩ | exact ⟨trivial, j + 1, by omega, by go_num, rfl⟩ | exact ⟨j + 1, by omega, by go_num, rfl⟩
        · obtain rfl : j = kn := by omega
          have hE : (roundF 1 j == (j : Int) % 999999 + 1) = true := by simp [roundF]
          have hE2 : (roundF 1 j == (j : Int).tmod 999999 + 1) = true := by rw [Int.tmod_eq_emod_of_nonneg (by omega)]; exact hE
          go_wp2_with fail
          go_ret
          exact ⟨rfl, HB1.out⟩
  · subst h3
    have h5 : decide (n < 0) = false := by simp at h1 ⊢; omega
    have h6 : decide (999999 ≤ n) = true := by simp at h2 ⊢; omega
    go_wp2_with fail
    all_goals clear h5 h6 h1 h2 e1 e2 d0
    all_goals
      go_loopw [7, 8] (fun t i wr => wr = w2 ∧ ∃ j : Nat, j ≤ kn ∧ i = .int .i64 j ∧ t = .int .i64 (roundF 1 j)) (fun _ i _ => kn - (intOf i).toNat)
      case atStart => exact ⟨rfl, 0, Nat.zero_le _, rfl, by rw [roundF_zero _ HR.out]⟩
      case round =>
        obtain ⟨rfl, j, hj, rfl, rfl⟩ := hrel
        by_cases hlt : j < kn
        · go_wp2_with fail
          refine (stan_any _ _).mono ?_
          rw [roundF_succ]
          rintro e w3 ⟨rfl, rfl⟩
          go_wp2_with fail
          refine ⟨?_, by simp [intOf]; omega⟩
          first | exact ⟨rfl, j + 1, by omega, by go_num, rfl⟩ | exact ⟨trivial, j + 1, by omega, by go_num, rfl⟩ | exact ⟨j + 1, by omega, by go_num, rfl⟩
        · obtain rfl : j = kn := by omega
          have hE : (roundF 1 j == (j : Int) % 999999 + 1) = true := by simp [roundF]
          have hE2 : (roundF 1 j == (j : Int).tmod 999999 + 1) = true := by rw [Int.tmod_eq_emod_of_nonneg (by omega)]; exact hE
          go_wp2_with fail
          go_ret
          exact ⟨rfl, HB1.out⟩

theorem walk (n : Int) (_ : (Lit.int .i64 n).wf = true) (k : Int) (wk : (Lit.int .u8 k).wf = true) (w : World) :
    Calls Try.prog 7 #[.int .i64 n, .int .u8 k] w fun e w' => e = .returned (.bool true) ∧ Below w.heap.size w w' := by
  have hk := bounds8 wk
  by_cases h0 : 0 ≤ n
  · by_cases h1 : n < 999999
    · have hF : stanF n = n + 1 := by unfold stanF; rw [if_neg (by omega)]
      exact walk_core n k hk (n + 1) (by omega) hF w (by simp; omega) (Or.inl ⟨by simp [h0], by simp [h1], rfl⟩)
    · have hF : stanF n = 1 := by unfold stanF; rw [if_pos (by omega)]
      exact walk_core n k hk 1 (by omega) hF w (by simp; omega) (Or.inr (Or.inr ⟨by simp [h0], by simp; omega, rfl⟩))
  · have hF : stanF n = 1 := by unfold stanF; rw [if_pos (by omega)]
    exact walk_core n k hk 1 (by omega) hF w (by simp; omega) (Or.inr (Or.inl ⟨by simp; omega, rfl⟩))

set_option maxRecDepth 100000 in
theorem lifted (os : Os) (started : os.Started) (H : Type) (enc : TypeId × Value → H) :
    ReturnsInHanded {} Try.checked os 7 .any (Rows.askStansSpec.pre6 enc Try.prog Try.f7 Rows.askStansRow.domain false) (Rows.askStansSpec.post enc Try.prog Try.f7 false true false false) := by
  refine returnsInHanded_of_change (C := Try.checked) own started (by kernel_rfl) Try.func7
    (ChangeSpec.witness6 (enc := enc) (C := Try.checked) false ⟨#[], #[.int .i64 0, .int .u8 0], []⟩ 8 (by kernel_rfl) (by kernel_rfl) (by kernel_rfl) (by kernel_rfl)) ?_
  intro W base args ds gs before hval0 hW _ _
  have hval : ∀ (j : Nat) t v, Try.f7.params[j]? = some t → args[j]? = some v → Value.okWide Try.prog W .any base t v := hval0
  have hW' := hW
  obtain ⟨p, q, hA0, hV, rfl, _, _⟩ := hW
  have hA : DataW.TrodAll enc Try.prog W 0 (fun _ => true) true Try.f7.params.toList args.toList ds p := hA0
  rw [Try.params7] at hA hval
  obtain ⟨v0, vs0, d0, ds0, p0, q0, hargs, rfl, rfl, h0, r0x⟩ := trodAll_cons hA
  obtain ⟨v1, vs1, d1, ds1, p1, q1, rfl, rfl, rfl, h1, r1x⟩ := trodAll_cons r0x
  obtain ⟨rfl, rfl, rfl⟩ := trodAll_nil r1x
  obtain rfl : args = #[v0, v1] := by cases args; simp_all
  obtain ⟨a0, rfl, rfl, rfl, w0⟩ := open_int Try.underlying3 (hval 0 3 v0 rfl rfl) h0
  obtain ⟨a1, rfl, rfl, rfl, w1⟩ := open_int Try.underlying5 (hval 1 5 v1 rfl rfl) h1
  clear hA0 hval0
  refine (walk a0 w0 a1 w1 W).mono fun e W' ⟨he, hg⟩ => ?_
  subst he
  exact ⟨_, rfl, law_post hW' rfl rfl (fun h => by subst h; exact ⟨rfl, rfl, rfl⟩) (by rw [Try.params7]; intro t ht; simp at ht; rcases ht with rfl | rfl <;> exact ⟨by kernel_rfl, of_decide_eq_true (by kernel_rfl)⟩) hg⟩

theorem over : Rows.askStansRow.holds Try.pinned (OpenSpec.ofChange Rows.askStansSpec) :=
  OpenClaim.holds_of_wide 7 Try.f7 rfl rfl rfl rfl rfl rfl rfl ⟨rfl, rfl, rfl, rfl, rfl⟩ rfl rfl rfl rfl rfl (by kernel_rfl) Try.func7 (by kernel_rfl)
    (of_decide_eq_true (by kernel_rfl)) (by unfold Func.isWrapper; first | (rw [if_pos (by decide +kernel)]; kernel_rfl) | (rw [if_neg (by decide +kernel)]; exact ⟨rfl, rfl⟩))
    (fun os started H enc _ => lifted os started H enc)

theorem proved : Rows.AskStansSaid :=
  over
#print axioms proved
end askStans
end Go.Proofs.Ytnmbcdphjmcomaa
