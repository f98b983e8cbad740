/- Plain: what the reference's Mark puts together is what win.Mark leaves. -/
import Derived.Test.YtkmmfobnpapceaaQ
import Derived.Test.YtkmmfobnpapceaaP
namespace Go.Proofs.Ytkmmfobnpapceaa

theorem bitsOf_add (f : Nat → Bool) (j n : Nat) (hj : j < n) (hf : f j = false) : bitsOf f n + 2 ^ j = bitsOf (upd f j true) n := by
  induction n with
  | zero => omega
  | succ n ih =>
    unfold bitsOf
    by_cases h : j = n
    · subst h
      rw [bitsOf_congr (f := upd f j true) (g := f) (fun i hi => by unfold upd; rw [if_neg (by omega)])]
      rw [hf]
      simp [upd]
    · rw [← ih (by omega)]
      have e : upd f j true n = f n := by unfold upd; rw [if_neg (by omega)]
      rw [e]
      omega

theorem word_add (f : Nat → Bool) (p : Nat) (hf : f p = false) : word f (p / 64) + pow2 (p % 64) = word (upd f p true) (p / 64) := by
  unfold word pow2
  have e : 64 * (p / 64) + p % 64 = p := by omega
  rw [bitsOf_add (fun j => f (64 * (p / 64) + j)) (p % 64) 64 (by omega) (by show f (64 * (p / 64) + p % 64) = false; rw [e]; exact hf)]
  apply bitsOf_congr
  intro j _
  unfold upd
  by_cases h : j = p % 64
  · rw [if_pos h, if_pos (by omega)]
  · rw [if_neg h, if_neg (by omega)]

/-- The bits that stand when the first k of a list are laid. -/
def layB (all : List Int) (top : Int) (k : Nat) : Nat → Bool := fun p => (all.take k).any fun x => decide (top - 1024 ≤ x) && (x.toNat % 1024 == p)

theorem layB_zero (all : List Int) (top : Int) : layB all top 0 = fun _ => false := by funext p; simp [layB]
theorem layB_succ (all : List Int) (top x : Int) (k : Nat) (h : all[k]? = some x) (p : Nat) : layB all top (k + 1) p = (layB all top k p || (decide (top - 1024 ≤ x) && (x.toNat % 1024 == p))) := by
  unfold layB
  rw [List.take_add_one, h]
  simp
theorem layB_no (all : List Int) (top x : Int) (k : Nat) (h : all[k]? = some x) (hx : x < top - 1024) : layB all top (k + 1) = layB all top k := by
  funext p
  rw [layB_succ all top x k h p, show decide (top - 1024 ≤ x) = false by simp; omega]
  simp
theorem layB_yes (all : List Int) (top x : Int) (k : Nat) (h : all[k]? = some x) (hx : top - 1024 ≤ x) : layB all top (k + 1) = upd (layB all top k) (x.toNat % 1024) true := by
  funext p
  rw [layB_succ all top x k h p, show decide (top - 1024 ≤ x) = true by simp; omega]
  unfold upd
  by_cases hp : p = x.toNat % 1024
  · rw [if_pos hp, hp]; simp
  · rw [if_neg hp]
    have : (x.toNat % 1024 == p) = false := beq_eq_false_iff_ne.2 (fun e => hp e.symm)
    rw [this]; simp
theorem layB_free (all : List Int) (top x : Int) (k : Nat) (h : all[k]? = some x) (hx : top - 1024 ≤ x) (hnd : all.Nodup) (hall : ∀ y ∈ all, 0 ≤ y ∧ y < top) : layB all top k (x.toNat % 1024) = false := by
  rw [Bool.eq_false_iff]
  intro hc
  unfold layB at hc
  rw [List.any_eq_true] at hc
  obtain ⟨y, hy, hp⟩ := hc
  simp only [Bool.and_eq_true, decide_eq_true_eq, beq_iff_eq] at hp
  obtain ⟨j, hj, hjy⟩ := List.mem_take_iff_getElem.1 hy
  have hjk : j < k := by omega
  have hkl : k < all.length := by
    rcases Nat.lt_or_ge k all.length with hlt | hge
    · exact hlt
    · rw [List.getElem?_eq_none hge] at h; cases h
  have hxk : all[k] = x := by rw [List.getElem?_eq_getElem hkl] at h; exact Option.some.inj h
  have h1 := hall y (List.mem_of_mem_take hy)
  have h2 := hall x (hxk ▸ List.getElem_mem hkl)
  have hxy : x = y := by omega
  exact (List.pairwise_iff_getElem.1 hnd) j k (by omega) hkl hjk (by rw [hjy, hxk, hxy])

theorem mem_tkL (f : Nat → Bool) (s m : Nat) (x : Int) : x ∈ tkL f s m ↔ ∃ j, j < m ∧ x = ((s + j : Nat) : Int) ∧ f ((s + j) % 1024) = true := by
  unfold tkL
  simp only [List.mem_filter, List.mem_map, List.mem_range]
  constructor
  · rintro ⟨⟨j, hj, rfl⟩, hf⟩
    exact ⟨j, hj, rfl, by rwa [Int.toNat_natCast] at hf⟩
  · rintro ⟨j, hj, rfl, hf⟩
    exact ⟨⟨j, hj, rfl⟩, by rwa [Int.toNat_natCast]⟩

theorem tkL_nodup (f : Nat → Bool) (s m : Nat) : (tkL f s m).Nodup := by
  unfold tkL
  refine List.Pairwise.filter _ ?_
  exact List.Pairwise.map _ (fun a b hab h => hab (by omega)) List.nodup_range

/-- All that the reference lays. -/
def allL (t : Int) (f : Nat → Bool) (n : Int) (s : Nat) : List Int := tkL f s (t.toNat - s) ++ [n]

theorem allL_mem (t : Int) (f : Nat → Bool) (n : Int) (s : Nat) (h0 : 0 ≤ t) (hn : 0 ≤ n) : ∀ y ∈ allL t f n s, 0 ≤ y ∧ y < max t (n + 1) := by
  intro y hy
  unfold allL at hy
  rcases List.mem_append.1 hy with hy | hy
  · obtain ⟨j, hj, rfl, _⟩ := (mem_tkL _ _ _ _).1 hy
    omega
  · simp at hy; omega

theorem allL_nodup (t : Int) (f : Nat → Bool) (n : Int) (s : Nat) (_h0 : 0 ≤ t) (hf : freshB t f n = true) : (allL t f n s).Nodup := by
  unfold allL
  rw [List.nodup_append]
  refine ⟨tkL_nodup f s _, by simp, ?_⟩
  intro a ha b hb
  simp at hb
  subst hb
  rintro rfl
  obtain ⟨j, hj, hx, hfx⟩ := (mem_tkL _ _ _ _).1 ha
  obtain ⟨h1, h2, h3⟩ := fresh_range hf
  have e : a.toNat % 1024 = (s + j) % 1024 := by omega
  rcases h3 with h3 | ⟨_, h3⟩
  · omega
  · rw [e, hfx] at h3; cases h3

theorem lay_all (t : Int) (f : Nat → Bool) (n : Int) (s : Nat) (hs : t.toNat - 1024 = s) (hR : RightP t f) (hf : freshB t f n = true) (p : Nat) (hp : p < 1024) :
    layB (allL t f n s) (max t (n + 1)) (allL t f n s).length p = markG t f n p := by
  obtain ⟨h0, h1, h2, h3⟩ := hR
  obtain ⟨hn0, hn1, hn⟩ := fresh_range hf
  have key : layB (allL t f n s) (max t (n + 1)) (allL t f n s).length p = true ↔ (n.toNat % 1024 = p ∨ ∃ j, j < t.toNat - s ∧ f ((s + j) % 1024) = true ∧ max t (n + 1) - 1024 ≤ ((s + j : Nat) : Int) ∧ (s + j) % 1024 = p) := by
    unfold layB
    rw [List.take_length, List.any_eq_true]
    unfold allL
    constructor
    · rintro ⟨x, hx, hq⟩
      simp only [Bool.and_eq_true, decide_eq_true_eq, beq_iff_eq] at hq
      rcases List.mem_append.1 hx with hx | hx
      · obtain ⟨j, hj, rfl, hfj⟩ := (mem_tkL _ _ _ _).1 hx
        rw [Int.toNat_natCast] at hq
        exact .inr ⟨j, hj, hfj, hq.1, hq.2⟩
      · simp at hx; subst hx; exact .inl hq.2
    · rintro (h | ⟨j, hj, hfj, ha, hb⟩)
      · exact ⟨n, by simp, by simp [h]; omega⟩
      · exact ⟨((s + j : Nat) : Int), List.mem_append.2 (.inl ((mem_tkL _ _ _ _).2 ⟨j, hj, rfl, hfj⟩)), by rw [Int.toNat_natCast]; simp [hb]; omega⟩
  rw [Bool.eq_iff_iff, key]
  clear key
  by_cases hpn : n.toNat % 1024 = p
  · subst hpn
    exact ⟨fun _ => markG_at t f n, fun _ => .inl rfl⟩
  have hne : p ≠ n.toNat % 1024 := fun e => hpn e.symm
  unfold markG
  -- the one number of the last 1024 below t that has this place
  have far : ∀ j, (s + j) % 1024 = p → f ((s + j) % 1024) = true → f p = true := fun j e h => by rwa [e] at h
  by_cases a : n < t
  · rw [if_pos a, upd_other hne, show max t (n + 1) = t by omega]
    constructor
    · rintro (h | ⟨j, hj, hfj, _, hb⟩)
      · exact absurd h hpn
      · exact far j hb hfj
    · intro hfp
      have hpt : (p : Int) < t := by
        rcases Int.lt_or_le (p : Int) t with h | h
        · exact h
        · rw [h2 p hp h] at hfp; cases hfp
      refine .inr ⟨t.toNat - 1 - (t.toNat - 1 - p) % 1024 - s, by omega, ?_, by omega, by omega⟩
      rw [show (s + (t.toNat - 1 - (t.toNat - 1 - p) % 1024 - s)) % 1024 = p by omega]
      exact hfp
  · rw [if_neg a, show max t (n + 1) = n + 1 by omega]
    by_cases b : t + 1024 ≤ n
    · rw [if_pos b, upd_other hne]
      constructor
      · rintro (h | ⟨j, hj, hfj, hc, hb⟩)
        · exact absurd h hpn
        · omega
      · intro h; cases h
    · rw [if_neg b, upd_other hne]
      by_cases hd : (p + 1024 - t.toNat % 1024) % 1024 < (n - t).toNat
      · rw [clrR_in hd]
        constructor
        · rintro (h | ⟨j, hj, hfj, hc, hb⟩)
          · exact absurd h hpn
          · omega
        · intro h; cases h
      · rw [clrR_out hd]
        constructor
        · rintro (h | ⟨j, hj, hfj, _, hb⟩)
          · exact absurd h hpn
          · exact far j hb hfj
        · intro hfp
          have hpt : (p : Int) < t := by
            rcases Int.lt_or_le (p : Int) t with h | h
            · exact h
            · rw [h2 p hp h] at hfp; cases hfp
          refine .inr ⟨t.toNat - 1 - (t.toNat - 1 - p) % 1024 - s, by omega, ?_, by omega, by omega⟩
          rw [show (s + (t.toNat - 1 - (t.toNat - 1 - p) % 1024 - s)) % 1024 = p by omega]
          exact hfp
end Go.Proofs.Ytkmmfobnpapceaa
