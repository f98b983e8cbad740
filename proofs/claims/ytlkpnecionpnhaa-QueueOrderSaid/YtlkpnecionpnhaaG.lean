/- Put; the reference's Put. -/
import Derived.Test.YtlkpnecionpnhaaE
namespace Go.Proofs.Ytlkpnecionpnhaa
open Go.RowKit

/-- What Put hands over. -/
def putQ (q : List Msg) (m : Msg) (room : Int) : List Msg × Int := if room < 1 ∨ 64 < room then (q, 1) else if room ≤ q.length then (q, 8) else (q ++ [m], 0)

theorem one_msg {w : World} {A' : Option Addr} {xs : List Int} {cb : Nat} (hb : Rb w A' xs) : Rq (w.alloc (.cells #[.slice A' xs.length cb] 23)) (some ⟨w.heap.size, 0, none⟩) [⟨A', xs, cb⟩] :=
  ⟨Rv.of_blk (Blk.new w 23 _) (by simp [maxLen]) (msgs_one _) (fun j u hj => by simpa [Msg.v] using hj), fun m hm => by
    simp only [List.mem_singleton] at hm
    subst hm
    exact hb.alloc _⟩

set_option maxRecDepth 100000 in
set_option maxHeartbeats 4000000 in
theorem put_bad (A : Option Addr) (q : List Msg) (c : Nat) (A' : Option Addr) (xs : List Int) (cb : Nat) (room : Int) (w : World) (hq : Rq w A q) (hcq : q.length ≤ c) (hr : room < 1 ∨ 64 < room) :
    Calls Try.prog 9 #[.slice A q.length c, .slice A' xs.length cb, .int .i64 room] w (GivesQ q 1 w) := by
  have HQ := Lib.hid hq
  have HC := Lib.hid hcq
  have HR := Lib.hid hr
  clear hq hcq hr
  go_enter Try.func9, Try.ntmps9
  go_wp2_with fail
  refine (pour_bad A q c _ [⟨A', xs, cb⟩] 1 room _ (HQ.out.alloc _) HC.out HR.out).mono ?_
  rintro e w2 ⟨B2, c2, rfl, hc2, h2, hb⟩
  have H2 := Lib.hid h2
  have HC2 := Lib.hid hc2
  have HB2 := Lib.hid (((Below.refl _ w).alloc (Nat.le_refl _) (.cells #[.slice A' xs.length cb] 23)).trans (hb.mono (by simp)))
  clear h2 hc2 hb
  go_wp2_with fail
  go_ret2
  exact ⟨B2, c2, rfl, HC2.out, H2.out, HB2.out⟩

set_option maxRecDepth 100000 in
set_option maxHeartbeats 4000000 in
theorem put_over (A : Option Addr) (q : List Msg) (c : Nat) (A' : Option Addr) (xs : List Int) (cb : Nat) (room : Nat) (w : World) (hq : Rq w A q) (hcq : q.length ≤ c) (hql : q.length ≤ 1000) (h1 : 1 ≤ room) (h64 : room ≤ 64) (hlt : room < q.length) :
    Calls Try.prog 9 #[.slice A q.length c, .slice A' xs.length cb, .int .i64 room] w (GivesQ q 8 w) := by
  have HQ := Lib.hid hq
  have HC := Lib.hid hcq
  clear hq hcq
  go_enter Try.func9, Try.ntmps9
  go_wp2_with fail
  refine (pour_over A q c _ [⟨A', xs, cb⟩] 1 room _ (HQ.out.alloc _) HC.out hql h1 h64 hlt).mono ?_
  rintro e w2 ⟨B2, c2, rfl, _, _, hb⟩
  have HB2 := Lib.hid (((Below.refl _ w).alloc (Nat.le_refl _) (.cells #[.slice A' xs.length cb] 23)).trans (hb.mono (by simp)))
  clear hb
  go_wp2_with fail
  go_ret2
  exact ⟨A, c, rfl, HC.out, HQ.out.below HB2.out, HB2.out⟩

set_option maxRecDepth 100000 in
set_option maxHeartbeats 4000000 in
theorem put_even (A : Option Addr) (q : List Msg) (c : Nat) (A' : Option Addr) (xs : List Int) (cb : Nat) (room : Nat) (w : World) (hq : Rq w A q) (hcq : q.length ≤ c) (hb : Rb w A' xs) (h1 : 1 ≤ room) (h64 : room ≤ 64) (hlt : room = q.length) :
    Calls Try.prog 9 #[.slice A q.length c, .slice A' xs.length cb, .int .i64 room] w (GivesQ q 8 w) := by
  have HQ := Lib.hid hq
  have HC := Lib.hid hcq
  have HL := Lib.hid (one_msg (cb := cb) hb)
  have HE : Hid (pourK q [⟨A', xs, cb⟩] room = 0) := Lib.hid (by unfold pourK; rw [hlt]; simp)
  have hle : q.length ≤ room := by omega
  clear hq hcq hb hlt
  go_enter Try.func9, Try.ntmps9
  go_wp2_with fail
  refine (pour_room A q c _ [⟨A', xs, cb⟩] 1 room _ (HQ.out.alloc _) HL.out (by simp) h1 h64 hle).mono ?_
  rw [HE.out]
  rintro e w2 ⟨B2, c2, rfl, _, _, hb⟩
  have HB2 := Lib.hid (((Below.refl _ w).alloc (Nat.le_refl _) (.cells #[.slice A' xs.length cb] 23)).trans (hb.mono (by simp)))
  clear hb
  generalize pourL q [⟨A', xs, cb⟩] room = pp at *
  go_wp2_with fail
  go_ret2
  exact ⟨A, c, rfl, HC.out, HQ.out.below HB2.out, HB2.out⟩

set_option maxRecDepth 100000 in
set_option maxHeartbeats 4000000 in
theorem put_yes (A : Option Addr) (q : List Msg) (c : Nat) (A' : Option Addr) (xs : List Int) (cb : Nat) (room : Nat) (w : World) (hq : Rq w A q) (hb : Rb w A' xs) (h1 : 1 ≤ room) (h64 : room ≤ 64) (hlt : q.length < room) :
    Calls Try.prog 9 #[.slice A q.length c, .slice A' xs.length cb, .int .i64 room] w (GivesQ (q ++ [⟨A', xs, cb⟩]) 0 w) := by
  have HQ := Lib.hid hq
  have HL := Lib.hid (one_msg (cb := cb) hb)
  have HE : Hid (pourK q [⟨A', xs, cb⟩] room = 1) := Lib.hid (by unfold pourK; simp; omega)
  have HE2 : Hid (pourL q [⟨A', xs, cb⟩] room = q ++ [⟨A', xs, cb⟩]) := Lib.hid (by unfold pourL; rw [HE.out]; rfl)
  clear hq hb
  go_enter Try.func9, Try.ntmps9
  go_wp2_with fail
  refine (pour_room A q c _ [⟨A', xs, cb⟩] 1 room _ (HQ.out.alloc _) HL.out (by simp) h1 h64 (by omega)).mono ?_
  rw [HE.out, HE2.out]
  generalize q ++ [⟨A', xs, cb⟩] = pp at *
  rintro e w2 ⟨B2, c2, rfl, hc2, h2, hb⟩
  have H2 := Lib.hid h2
  have HC2 := Lib.hid hc2
  have HB2 := Lib.hid (((Below.refl _ w).alloc (Nat.le_refl _) (.cells #[.slice A' xs.length cb] 23)).trans (hb.mono (by simp)))
  clear hb h2 hc2
  go_wp2_with fail
  go_ret2
  exact ⟨B2, c2, rfl, HC2.out, H2.out, HB2.out⟩

theorem put_any (A : Option Addr) (q : List Msg) (c : Nat) (A' : Option Addr) (xs : List Int) (cb : Nat) (room : Int) (w : World) (hq : Rq w A q) (hcq : q.length ≤ c) (hql : q.length ≤ 1000) (hb : Rb w A' xs) :
    Calls Try.prog 9 #[.slice A q.length c, .slice A' xs.length cb, .int .i64 room] w (GivesQ (putQ q ⟨A', xs, cb⟩ room).1 (putQ q ⟨A', xs, cb⟩ room).2 w) := by
  unfold putQ
  by_cases hr : room < 1 ∨ 64 < room
  · rw [if_pos hr]; exact put_bad A q c A' xs cb room w hq hcq hr
  · rw [if_neg hr]
    obtain ⟨n, rfl⟩ := Int.eq_ofNat_of_zero_le (show 0 ≤ room by omega)
    by_cases hle : (n : Int) ≤ q.length
    · rw [if_pos hle]
      by_cases he : n = q.length
      · exact put_even A q c A' xs cb n w hq hcq hb (by omega) (by omega) he
      · exact put_over A q c A' xs cb n w hq hcq hql (by omega) (by omega) (by omega)
    · rw [if_neg hle]
      exact put_yes A q c A' xs cb n w hq hb (by omega) (by omega) (by omega)

set_option maxRecDepth 100000 in
set_option maxHeartbeats 4000000 in
theorem rput_bad (A : Option Addr) (q : List Msg) (c : Nat) (A' : Option Addr) (xs : List Int) (cb : Nat) (room : Int) (w : World) (hq : Rq w A q) (hcq : q.length ≤ c) (hr : room < 1 ∨ 64 < room) :
    Calls Try.prog 10 #[.slice A q.length c, .slice A' xs.length cb, .int .i64 room] w (GivesQ q 1 w) := by
  have HQ := Lib.hid hq
  have HC := Lib.hid hcq
  clear hq hcq
  rcases hr with h | h
  · have t1 : decide (room < 1) = true := decide_eq_true h
    go_enter Try.func10, Try.ntmps10
    go_wp2_with fail
    go_ret2
    exact ⟨A, c, rfl, HC.out, HQ.out, Below.refl _ _⟩
  · have t1 : decide (room < 1) = false := decide_eq_false (by omega)
    have t2 : decide (64 < room) = true := decide_eq_true h
    go_enter Try.func10, Try.ntmps10
    go_wp2_with fail
    go_ret2
    exact ⟨A, c, rfl, HC.out, HQ.out, Below.refl _ _⟩
set_option maxRecDepth 100000 in
set_option maxHeartbeats 4000000 in
theorem rput_full (A : Option Addr) (q : List Msg) (c : Nat) (A' : Option Addr) (xs : List Int) (cb : Nat) (room : Int) (w : World) (hq : Rq w A q) (hcq : q.length ≤ c) (h1 : 1 ≤ room) (h64 : room ≤ 64) (hle : room ≤ q.length) :
    Calls Try.prog 10 #[.slice A q.length c, .slice A' xs.length cb, .int .i64 room] w (GivesQ q 8 w) := by
  have HQ := Lib.hid hq
  have HC := Lib.hid hcq
  have t1 : decide (room < 1) = false := decide_eq_false (by omega)
  have t2 : decide (64 < room) = false := decide_eq_false (by omega)
  have t3 : decide (room ≤ (q.length : Int)) = true := decide_eq_true hle
  clear hq hcq
  go_enter Try.func10, Try.ntmps10
  go_wp2_with fail
  go_ret2
  exact ⟨A, c, rfl, HC.out, HQ.out, Below.refl _ _⟩
set_option maxRecDepth 100000 in
set_option maxHeartbeats 4000000 in
theorem rput_yes (A : Option Addr) (q : List Msg) (c : Nat) (A' : Option Addr) (xs : List Int) (cb : Nat) (room : Int) (w : World) (hq : Rq w A q) (hb : Rb w A' xs) (h1 : 1 ≤ room) (h64 : room ≤ 64) (hlt : (q.length : Int) < room) :
    Calls Try.prog 10 #[.slice A q.length c, .slice A' xs.length cb, .int .i64 room] w (GivesQ (q ++ [⟨A', xs, cb⟩]) 0 w) := by
  have HQ := Lib.hid hq
  have HB := Lib.hid hb
  have t1 : decide (room < 1) = false := decide_eq_false (by omega)
  have t2 : decide (64 < room) = false := decide_eq_false (by omega)
  have t3 : decide (room ≤ (q.length : Int)) = false := decide_eq_false (by omega)
  obtain ⟨i0, hi0, hz0, hz1, hz2⟩ := info_parts info23
  clear hq hb
  go_enter Try.func10, Try.ntmps10
  go_wp2_with (first
    | ((with_reducible refine at_dst 22 ?_); refine wpList_append_rv rfl (.tmp 20) (.tmp 21) 22 rfl w.heap.size 23 i0 _ 24 Try.underlying22 hi0 hz0 hz1 hz2 rfl _ 0 [] rfl (own_empty w w.heap.size 23 (Nat.le_refl _)) A _ c q.length (by rw [List.length_map]) rfl (HQ.out.alloc _).row (by rw [List.length_map]; unfold maxLen; omega) (by rw [List.length_map]; omega) (by simp) ?_; intro B3 cap3 w3 hown3 hgrow3; have HB3 := Lib.hid (below_own (Nat.le_refl _) ((Below.refl _ w).alloc (Nat.le_refl _) _) (own_empty w w.heap.size 23 (Nat.le_refl _)) hgrow3); have HO3 := Lib.hid hown3; clear hown3 hgrow3; rw [Nat.zero_add] at HO3 ⊢)
    | ((with_reducible refine at_dst 25 ?_); refine wpList_append_rv rfl (.tmp 22) (.tmp 24) 22 rfl w.heap.size 23 i0 _ 24 Try.underlying22 hi0 hz0 hz1 hz2 rfl _ q.length _ rfl (HO3.out.alloc _) (some ⟨w3.heap.size, 0, none⟩) [.slice A' xs.length cb] 1 1 rfl rfl (one_msg (cb := cb) (HB.out.below HB3.out)).row (by unfold maxLen; simp; omega) (by simp; omega) (by have := HB3.out.size; simp; omega) ?_; intro B5 cap5 w5 hown5 hgrow5; have HB5 := Lib.hid (below_own (Nat.le_refl _) (HB3.out.alloc HB3.out.size _) (HO3.out.alloc _) hgrow5); have HO5 := Lib.hid hown5; clear hown5 hgrow5)
    | fail)
  have hmem : ∀ m ∈ q ++ [⟨A', xs, cb⟩], Rb w5 m.A m.xs := fun m hm => by
    rcases List.mem_append.1 hm with h | h
    · exact (HQ.out.below HB5.out).each m h
    · simp only [List.mem_singleton] at h
      subst h
      exact HB.out.below HB5.out
  have hO := HO5.out
  rw [List.nil_append, ← show [(⟨A', xs, cb⟩ : Msg)].map Msg.v = [.slice A' xs.length cb] from rfl, ← List.map_append] at hO
  obtain ⟨B6, c6, e6, hc6, hr6⟩ := Rq.of_own (by simp) hO (by simp [maxLen]; omega) hmem
  have hlen : (q ++ [(⟨A', xs, cb⟩ : Msg)]).length = q.length + 1 := by simp
  rw [hlen] at e6
  cases e6
  have HR6 := Lib.hid hr6
  have HC6 := Lib.hid hc6
  clear hO hmem hr6 hc6 hlen
  go_wp2_with fail
  go_ret2
  exact ⟨B5, cap5, by simp, HC6.out, HR6.out, HB5.out⟩

theorem rput_any (A : Option Addr) (q : List Msg) (c : Nat) (A' : Option Addr) (xs : List Int) (cb : Nat) (room : Int) (w : World) (hq : Rq w A q) (hcq : q.length ≤ c) (hb : Rb w A' xs) :
    Calls Try.prog 10 #[.slice A q.length c, .slice A' xs.length cb, .int .i64 room] w (GivesQ (putQ q ⟨A', xs, cb⟩ room).1 (putQ q ⟨A', xs, cb⟩ room).2 w) := by
  unfold putQ
  by_cases hr : room < 1 ∨ 64 < room
  · rw [if_pos hr]; exact rput_bad A q c A' xs cb room w hq hcq hr
  · rw [if_neg hr]
    by_cases hle : room ≤ q.length
    · rw [if_pos hle]; exact rput_full A q c A' xs cb room w hq hcq (by omega) (by omega) hle
    · rw [if_neg hle]; exact rput_yes A q c A' xs cb room w hq hb (by omega) (by omega) (by omega)
end Go.Proofs.Ytlkpnecionpnhaa
