/- Contracts: the reference's Right; Ints. -/
import Derived.Test.YtalmgpcffbccoaaA
namespace Go.Proofs.Ytalmgpcffbccoaa
open Go.RowKit

set_option maxRecDepth 100000 in
set_option maxHeartbeats 8000000 in
theorem rright_any (A : Option Addr) (l : List Int) (c : Nat) (w : World) (hx : Ri w A l) : Calls Try.prog 16 #[.slice A l.length c] w fun e w' => e = .returned (.bool (rightL l)) ∧ Below w.heap.size w w' := by
  have hm := hx.len
  unfold maxLen at hm
  go_enter Try.func16, Try.ntmps16
  go_wp2_with fail
  go_loopw [3] (fun i wr => ∃ (k : Nat) (p : Int), k ≤ l.length ∧ i = .int .i64 k ∧ Hid (rightL l = rightF p (l.drop k)) ∧ 1 ≤ p ∧ Hid (k = 0 → p = 1) ∧ Hid (∀ j, k = j + 1 → p = l.getD j 0) ∧ Hid (∃ n, wr = w.drewN n)) (fun i _ => l.length - (intOf i).toNat)
  case atStart => exact ⟨0, 1, by omega, rfl, Lib.hid rfl, by omega, Lib.hid (fun _ => rfl), Lib.hid (fun j h => absurd h (by omega)), Lib.hid ⟨0, rfl⟩⟩
  case round =>
    obtain ⟨k, p, hk, rfl, HR, hp, hp0, hpj, HW⟩ := hrel
    by_cases hlt : k < l.length
    · obtain ⟨b, off, rfl, hb, hc⟩ := hx.cells (by omega)
      obtain ⟨n, rfl⟩ := HW.out
      clear HW
      have hck : w.cell? ⟨b, off + k, none⟩ = some (.int .i64 (l.getD k 0)) := hc k hlt
      have HS := Lib.hid (rightF_step (p := p) hlt)
      have HX : Hid (∃ x, l.getD k 0 = x) := Lib.hid ⟨_, rfl⟩
      obtain ⟨x, hxx⟩ := HX.out
      rw [hxx] at hck
      have HXX := Lib.hid hxx
      clear hxx HX
      have kl : (k : Int) < l.length := by omega
      by_cases h1 : x < 2
      · have HB : Hid (badN p x = true) := Lib.hid (by unfold badN; simp; omega)
        have d1 : decide (x < 2) = true := by simpa using h1
        clear h1 hc hx hpj hp0
        go_wp2_with fail
        go_quiet (fail)
        go_wp2_with fail
        go_ret
        exact ⟨by rw [HR.out, HS.out, HXX.out, HB.out]; rfl, below_drewN (below_drewN (Below.refl _ _) _) _⟩
      have d1 : decide (x < 2) = false := by simpa using h1
      by_cases h2 : 128 < x
      · have HB : Hid (badN p x = true) := Lib.hid (by unfold badN; simp; omega)
        have d2 : decide (128 < x) = true := by simpa using h2
        clear h1 h2 hc hx hpj hp0
        go_wp2_with fail
        go_quiet (fail)
        go_wp2_with fail
        go_ret
        exact ⟨by rw [HR.out, HS.out, HXX.out, HB.out]; rfl, below_drewN (below_drewN (Below.refl _ _) _) _⟩
      have d2 : decide (128 < x) = false := by simpa using h2
      cases h3 : x == 65
      · by_cases h4 : k = 0
        · have d4 : decide (0 < k) = false := by simp; omega
          have d4' : decide ((0 : Int) < k) = false := by simp; omega
          have HB : Hid (badN p x = false) := Lib.hid (by rw [hp0.out h4]; unfold badN; rw [h3]; simp; omega)
          clear h1 h2 hc hx hpj hp0 h4
          go_wp2_with fail
          go_quiet (fail)
          go_wp2_with fail
          go_roundw
          case rel => exact ⟨k + 1, x, by omega, by go_num, Lib.hid (by rw [HR.out, HS.out, HXX.out, HB.out]; rfl), by have := of_decide_eq_false d1; omega, Lib.hid (fun h => by omega), Lib.hid (fun j hj => by (obtain rfl : k = j := (by omega)); exact HXX.out.symm), Lib.hid ⟨_, rfl⟩⟩
          case measure => simp [intOf]; omega
        · obtain ⟨j, rfl⟩ : ∃ j, k = j + 1 := ⟨k - 1, by omega⟩
          have hpj' := hpj.out j rfl
          have hcj : w.cell? ⟨b, off + j, none⟩ = some (.int .i64 p) := by rw [hpj']; exact hc j (by omega)
          clear hc hx hpj hp0 hpj' h4
          have e0 : IntKind.i64.wrap ((j : Int) + 1 - 1) = j := (IntWalk.i64_in _ (by omega)).trans (by omega)
          have d4 : decide (0 < j + 1) = true := by simp
          have d4' : decide ((0 : Int) < (j : Int) + 1) = true := decide_eq_true (by omega)
          have jl : (j : Int) < l.length := by omega
          by_cases h5 : x ≤ p
          · have d5 : decide (x ≤ p) = true := by simpa using h5
            have HB : Hid (badN p x = true) := Lib.hid (by unfold badN; rw [d5]; rfl)
            clear h1 h2 h5
            go_wp2_with fail
            go_quiet (fail)
            go_wp2_with fail
            go_ret
            exact ⟨by rw [HR.out, HS.out, HXX.out, HB.out]; rfl, below_drewN (below_drewN (Below.refl _ _) _) _⟩
          · have d5 : decide (x ≤ p) = false := by simpa using h5
            have HB : Hid (badN p x = false) := Lib.hid (by unfold badN; rw [d5, d2, h3]; rfl)
            clear h5
            go_wp2_with fail
            go_quiet (fail)
            go_wp2_with fail
            go_roundw
            case rel => exact ⟨j + 1 + 1, x, by omega, by go_num, Lib.hid (by rw [HR.out, HS.out, HXX.out, HB.out]; rfl), by have := of_decide_eq_false d1; omega, Lib.hid (fun h => by omega), Lib.hid (fun i hi => by (obtain rfl : j + 1 = i := (by omega)); exact HXX.out.symm), Lib.hid ⟨_, rfl⟩⟩
            case measure => simp [intOf]; omega
      · have HB : Hid (badN p x = true) := Lib.hid (by unfold badN; rw [h3]; simp)
        clear h1 h2 hc hx hpj hp0
        go_wp2_with fail
        go_quiet (fail)
        go_wp2_with fail
        go_ret
        exact ⟨by rw [HR.out, HS.out, HXX.out, HB.out]; rfl, below_drewN (below_drewN (Below.refl _ _) _) _⟩
    · have HE := Lib.hid (rightF_end (p := p) (l := l) (k := k) (by omega))
      obtain ⟨n, rfl⟩ := HW.out
      clear hx hpj hp0 HW
      go_wp2_with fail
      go_ret
      exact ⟨by rw [HR.out, HE.out]; rfl, below_drewN (Below.refl _ _) _⟩

theorem take_step {l m : List Int} {k : Nat} (h : k < l.length) (h' : k < m.length) (ht : l.take k = m.take k) :
    ((l.getD k 0 == m.getD k 0) = true → l.take (k + 1) = m.take (k + 1)) ∧ ((l.getD k 0 == m.getD k 0) = false → (l == m) = false) := by
  rw [List.getD_eq_getElem?_getD, List.getD_eq_getElem?_getD, List.getElem?_eq_getElem h, List.getElem?_eq_getElem h']
  constructor
  · intro he
    rw [List.take_succ_eq_append_getElem h, List.take_succ_eq_append_getElem h', ht]
    have : l[k] = m[k] := eq_of_beq he
    rw [this]
  · intro he
    rw [beq_eq_false_iff_ne] at he ⊢
    rintro rfl
    exact he rfl

set_option maxRecDepth 100000 in
set_option maxHeartbeats 4000000 in
theorem ints_any (A : Option Addr) (l : List Int) (c : Nat) (A' : Option Addr) (m : List Int) (c' : Nat) (w : World) (hx : Ri w A l) (hy : Ri w A' m) :
    Calls Try.prog 19 #[.slice A l.length c, .slice A' m.length c'] w fun e w' => e = .returned (.bool (l == m)) ∧ Below w.heap.size w w' := by
  have hm := hx.len
  have hm' := hy.len
  unfold maxLen at hm hm'
  cases hll : l.length == m.length
  · have HV : Hid ((l == m) = false) := Lib.hid (by
      rw [beq_eq_false_iff_ne]; rintro rfl; simp at hll)
    have d0 : ((l.length : Int) == m.length) = false := by simp at hll ⊢; omega
    have d1 : (l.length != m.length) = true := by simpa using hll
    clear hx hy
    go_enter Try.func19, Try.ntmps19
    go_wp2_with fail
    go_ret
    exact ⟨by rw [HV.out]; rfl, Below.refl _ _⟩
  · have hl : l.length = m.length := eq_of_beq hll
    have HL := Lib.hid hl
    have d1 : (l.length != m.length) = false := by simpa using hl
    clear hll hl
    go_enter Try.func19, Try.ntmps19
    go_wp2_with fail
    go_loopw [5] (fun i wr => ∃ k : Nat, k ≤ l.length ∧ i = .int .i64 k ∧ Hid (l.take k = m.take k) ∧ Hid (∃ n, wr = w.drewN n)) (fun i _ => l.length - (intOf i).toNat)
    case atStart => exact ⟨0, by omega, rfl, Lib.hid rfl, Lib.hid ⟨0, rfl⟩⟩
    case round =>
      obtain ⟨k, hk, rfl, HT, HW⟩ := hrel
      obtain ⟨n, rfl⟩ := HW.out
      clear HW
      by_cases hlt : k < l.length
      · have hl := HL.out
        have hlt' : k < m.length := by omega
        clear hl
        obtain ⟨b, off, rfl, hb, hc⟩ := hx.cells (by omega)
        obtain ⟨b', off', rfl, hb', hc'⟩ := hy.cells (by omega)
        have hck : w.cell? ⟨b, off + k, none⟩ = some (.int .i64 (l.getD k 0)) := hc k hlt
        have hck' : w.cell? ⟨b', off' + k, none⟩ = some (.int .i64 (m.getD k 0)) := hc' k hlt'
        have kl : (k : Int) < l.length := by omega
        have kl' : (k : Int) < m.length := by omega
        have HE := Lib.hid (take_step hlt hlt' HT.out)
        clear hc hc' hx hy
        generalize l.getD k 0 = x at *
        generalize m.getD k 0 = y at *
        cases hxy : x == y
        · have HN := Lib.hid (HE.out.2 hxy)
          go_wp2_with fail
          go_quiet (fail)
          go_wp2_with fail
          go_ret
          exact ⟨by rw [HN.out]; rfl, below_drewN (below_drewN (Below.refl _ _) _) _⟩
        · have HN := Lib.hid (HE.out.1 hxy)
          go_wp2_with fail
          go_quiet (fail)
          go_wp2_with fail
          go_roundw
          case rel => exact ⟨k + 1, by omega, by go_num, HN, Lib.hid ⟨_, rfl⟩⟩
          case measure => simp [intOf]; omega
      · have HE : Hid ((l == m) = true) := Lib.hid (by
          have := HT.out
          rw [List.take_of_length_le (by omega), List.take_of_length_le (by have := HL.out; omega)] at this
          rw [beq_iff_eq]; exact this)
        clear hx hy
        go_wp2_with fail
        go_ret
        exact ⟨by rw [HE.out]; rfl, below_drewN (Below.refl _ _) _⟩
end Go.Proofs.Ytalmgpcffbccoaa
