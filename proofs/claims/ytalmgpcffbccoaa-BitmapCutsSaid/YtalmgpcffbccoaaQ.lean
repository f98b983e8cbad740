/- Plain laws: what is written is read, and what is read is written so. -/
import Derived.Test.YtalmgpcffbccoaaK
namespace Go.Proofs.Ytalmgpcffbccoaa
open Go.RowKit

/-! Places. -/
theorem pow_lt_inv : ∀ r s : Fin 8, r < s → (128 : Int) / 2 ^ s.val < 128 / 2 ^ r.val := by decide
theorem pow_bd8 : ∀ r : Fin 8, 1 ≤ (128 : Int) / 2 ^ r.val ∧ (128 : Int) / 2 ^ r.val ≤ 128 := by decide
theorem place_bd {n : Int} (h1 : 1 ≤ n) (h2 : n ≤ 128) : 0 ≤ placeA n ∧ placeA n ≤ 15 ∧ 1 ≤ placeB n ∧ placeB n ≤ 128 := by
  rw [placeA_in h1 h2, placeB_in h1 h2]
  have := pow_bd8 ⟨((n - 1) % 8).toNat, by omega⟩
  refine ⟨by omega, by omega, this.1, this.2⟩
theorem place_lt {m n : Int} (h1 : 1 ≤ m) (h : m < n) (h2 : n ≤ 128) : placeA m < placeA n ∨ (placeA m = placeA n ∧ placeB n < placeB m) := by
  rw [placeA_in h1 (by omega), placeB_in h1 (by omega), placeA_in (by omega) h2, placeB_in (by omega) h2]
  by_cases e : (m - 1) / 8 < (n - 1) / 8
  · exact .inl e
  · refine .inr ⟨by omega, ?_⟩
    exact pow_lt_inv ⟨((m - 1) % 8).toNat, by omega⟩ ⟨((n - 1) % 8).toNat, by omega⟩ (by show ((m - 1) % 8).toNat < ((n - 1) % 8).toNat; omega)

/-! The bits of what was written. -/
theorem testB_out {l ys : List Int} {n : Nat} (h1 : 1 ≤ n) (h2 : n ≤ 8 * sizeL l) : testB (outL l ++ ys) n = setK (wideL l) l n := by
  have hj : (n - 1) / 8 < sizeL l := by omega
  unfold testB
  have e : (outL l ++ ys).getD ((n - 1) / 8) 0 = ((byteN (setK (wideL l) l) ((n - 1) / 8) : Nat) : Int) := by
    rw [List.getD_eq_getElem?_getD, List.getElem?_append_left (by rw [outL_len]; exact hj), ← List.getD_eq_getElem?_getD]
    exact bytesL_get _ hj
  rw [e, show ((byteN (setK (wideL l) l) ((n - 1) / 8) : Nat) : Int).toNat = byteN (setK (wideL l) l) ((n - 1) / 8) from rfl, testBit_byteN _ _ _ (by omega)]
  congr 1
  omega

theorem rightF_le {p : Int} {l : List Int} (h : rightF p l = true) : ∀ x ∈ l, p < x := fun x hx => by
  obtain ⟨i, hi, rfl⟩ := List.mem_iff_getElem.1 hx
  have := (rightF_get h i hi).1
  rwa [List.getD_eq_getElem?_getD, List.getElem?_eq_getElem hi] at this
theorem filter_snoc : ∀ {l : List Int} {p : Int}, rightF p l = true → ∀ m : Nat, l.filter (fun x => decide (x ≤ ((m + 1 : Nat) : Int))) = l.filter (fun x => decide (x ≤ (m : Int))) ++ (if memS l (m + 1) then [((m + 1 : Nat) : Int)] else [])
  | [], _, _, m => by simp [memS]
  | x :: l, p, h, m => by
    have ih := filter_snoc (rightF_cons h).2 m
    have hl := rightF_le (rightF_cons h).2
    have hmem : memS (x :: l) (m + 1) = (x == ((m + 1 : Nat) : Int) || memS l (m + 1)) := by unfold memS; rw [List.any_cons]
    by_cases h1 : x ≤ (m : Int)
    · have e : (x == ((m + 1 : Nat) : Int)) = false := by rw [beq_eq_false_iff_ne]; omega
      rw [List.filter_cons_of_pos (by simp; omega), List.filter_cons_of_pos (by simp; omega), ih, hmem, e, Bool.false_or, List.cons_append]
    · have hno : l.filter (fun y => decide (y ≤ (m : Int))) = [] := by
        rw [List.filter_eq_nil_iff]
        intro y hy
        have := hl y hy
        simp; omega
      have hno2 : memS l (m + 1) = true → x < ((m + 1 : Nat) : Int) := fun hm => by
        unfold memS at hm
        obtain ⟨y, hy, e⟩ := List.any_eq_true.1 hm
        have := hl y hy
        have := eq_of_beq e
        omega
      have hmf : memS l (m + 1) = false := by
        cases hb : memS l (m + 1)
        · rfl
        · have := hno2 hb; omega
      have hno3 : l.filter (fun y => decide (y ≤ ((m + 1 : Nat) : Int))) = [] := by rw [ih, hno, hmf]; rfl
      by_cases h2 : x ≤ ((m + 1 : Nat) : Int)
      · have e : (x == ((m + 1 : Nat) : Int)) = true := by rw [beq_iff_eq]; omega
        have e' : x = ((m + 1 : Nat) : Int) := eq_of_beq e
        rw [List.filter_cons_of_pos (by simp; omega), List.filter_cons_of_neg (by simp; omega), hno, hno3, hmem, e, Bool.true_or, if_pos rfl, List.nil_append, e']
      · have e : (x == ((m + 1 : Nat) : Int)) = false := by rw [beq_eq_false_iff_ne]; omega
        rw [List.filter_cons_of_neg (by simp; omega), List.filter_cons_of_neg (by simp; omega), hno, hno3, hmem, e, Bool.false_or, hmf]
        rfl
theorem fields_filter {l ys : List Int} (hr : rightL l = true) : ∀ m : Nat, m ≤ 8 * sizeL l → fieldsTo (outL l ++ ys) m = l.filter fun x => decide (x ≤ (m : Int))
  | 0, _ => by
    show [] = _
    symm
    rw [List.filter_eq_nil_iff]
    intro x hx
    have := rightF_le hr x hx
    simp; omega
  | m + 1, h => by
    have ih := fields_filter (ys := ys) hr m (by omega)
    rw [filter_snoc hr m, ← ih]
    show fieldsTo (outL l ++ ys) m ++ _ = _
    rw [testB_out (by omega) h]
    congr 1
    by_cases h0 : m = 0
    · subst h0
      have hm1 : memS l 1 = false := memS_false fun x hx => by have := rightF_le hr x hx; omega
      rw [hm1]; simp
    · have e1 : decide (1 ≤ m) = true := decide_eq_true (by omega)
      have e2 : ((m + 1) == 1) = false := by rw [beq_eq_false_iff_ne]; omega
      have : setK (wideL l) l (m + 1) = memS l (m + 1) := by unfold setK; rw [e2, Bool.and_false, Bool.false_or]
      rw [e1, this, Bool.true_and]
theorem right_le {l : List Int} (hr : rightL l = true) : ∀ x ∈ l, x ≤ ((8 * sizeL l : Nat) : Int) := fun x hx => by
  obtain ⟨i, hi, rfl⟩ := List.mem_iff_getElem.1 hx
  have h := right_get hr hi
  rw [List.getD_eq_getElem?_getD, List.getElem?_eq_getElem hi] at h
  simp only [Option.getD_some] at h
  unfold sizeL
  cases hw : wideL l
  · have h2 := right_narrow hr hw hi
    rw [List.getD_eq_getElem?_getD, List.getElem?_eq_getElem hi] at h2
    simp only [Option.getD_some] at h2
    simp; omega
  · simp; omega
theorem fields_out {l ys : List Int} (hr : rightL l = true) : fieldsTo (outL l ++ ys) (8 * sizeL l) = l := by
  rw [fields_filter hr _ (Nat.le_refl _), List.filter_eq_self]
  intro x hx
  exact decide_eq_true (right_le hr x hx)
theorem wide_last {l : List Int} (hr : rightL l = true) (hw : wideL l = true) : badL l = false := by
  unfold wideL at hw
  simp only [Bool.and_eq_true, decide_eq_true_eq] at hw
  unfold badL
  have h := right_get hr (k := l.length - 1) (by omega)
  simp only [Bool.or_eq_false_iff, beq_eq_false_iff_ne, decide_eq_false_iff_not]
  omega
/-- What is written is read, whatever stands behind it. -/
theorem read_out {l ys : List Int} (hr : rightL l = true) : readR (outL l ++ ys) 0 = (l, (sizeL l : Int), 0) := by
  have hlen := outL_len l
  have h8 := (sizeL_le l).1
  unfold readR
  rw [if_neg (by omega), show (0 : Int).toNat = 0 from rfl, List.drop_zero]
  have ht1 : testB (outL l ++ ys) 1 = wideL l := by
    rw [testB_out (by omega) (by omega)]
    have : memS l 1 = false := memS_false fun x hx => by have := rightF_le hr x hx; omega
    unfold setK; rw [this]; simp
  have hw : wideR (outL l ++ ys) = wideL l := by
    unfold wideR; rw [ht1, decide_eq_true (show 0 < (outL l ++ ys).length by rw [List.length_append, hlen]; omega), Bool.true_and]
  have hs : sizeR (outL l ++ ys) = sizeL l := by unfold sizeR sizeL; rw [hw]
  have hf : fieldsR (outL l ++ ys) = l := by unfold fieldsR; rw [hs]; exact fields_out hr
  unfold readZ
  rw [if_neg (by rw [List.length_append, hlen, hs]; omega)]
  have hb : badR (outL l ++ ys) = false := by
    unfold badR
    rw [hw, hf]
    cases hwl : wideL l
    · rfl
    · have hs16 : sizeL l = 16 := by unfold sizeL; rw [hwl]; rfl
      rw [wide_last hr hwl, testB_out (by omega) (by omega)]
      have : memS l 65 = false := memS_false fun x hx => by
        obtain ⟨i, hi, rfl⟩ := List.mem_iff_getElem.1 hx
        have h := right_get hr hi
        rw [List.getD_eq_getElem?_getD, List.getElem?_eq_getElem hi] at h
        exact h.2.2
      unfold setK; rw [this]; simp
  rw [if_neg (by rw [hb]; simp), hf, hs]
  simp

/-! What was read. -/
theorem fields_right (zs : List Int) (M : Nat) (hM : M ≤ 16) (h65 : 9 ≤ M → testB zs 65 = false) : ∀ m, m ≤ 8 * M → ∀ p : Int, p ≤ 1 → rightF p (fieldsTo zs m) = true := by
  have snoc : ∀ (l : List Int) (p x : Int), rightF p l = true → (∀ y ∈ l, y < x) → p < x → x ≤ 128 → x ≠ 65 → rightF p (l ++ [x]) = true := by
    intro l
    induction l with
    | nil =>
      intro p x _ _ h1 h2 h3
      have : badN p x = false := by unfold badN; simp; omega
      show (!badN p x && true) = true
      rw [this]; rfl
    | cons y l ih =>
      intro p x h h0 h1 h2 h3
      obtain ⟨hb, hr⟩ := rightF_cons h
      show (!badN p y && rightF y (l ++ [x])) = true
      rw [hb, ih y x hr (fun z hz => h0 z (by simp [hz])) (h0 y (by simp)) h2 h3]
      rfl
  intro m
  induction m with
  | zero => intro _ _ _; rfl
  | succ m ih =>
    intro hm p hp
    cases ht : testB zs (m + 1)
    · rw [fieldsTo_no ht]; exact ih (by omega) p hp
    · by_cases h1 : 1 ≤ m
      · rw [fieldsTo_yes h1 ht]
        refine snoc _ p _ (ih (by omega) p hp) (fun y hy => by have := (fieldsTo_mem zs m y hy).2; omega) (by omega) (by omega) (fun e => ?_)
        have : m = 64 := by omega
        subst this
        rw [h65 (by omega)] at ht; cases ht
      · obtain rfl : m = 0 := by omega
        show rightF p ([] ++ _) = true
        rw [if_neg (by simp)]
        rfl
theorem fields_mem {zs : List Int} : ∀ m q : Nat, memS (fieldsTo zs m) q = (decide (2 ≤ q) && decide (q ≤ m) && testB zs q)
  | 0, q => by
    show false = _
    have : ¬ (2 ≤ q ∧ q ≤ 0) := by omega
    by_cases h2 : 2 ≤ q
    · have : ¬ q ≤ 0 := by omega
      simp [this]
    · simp [h2]
  | m + 1, q => by
    have ih := fields_mem (zs := zs) m q
    have hsn : ∀ l : List Int, ∀ c : Bool, memS (l ++ (if c then [((m + 1 : Nat) : Int)] else [])) q = (memS l q || (c && (q == m + 1))) := by
      intro l c
      unfold memS
      rw [List.any_append]
      congr 1
      cases c
      · simp
      · simp only [if_true, List.any_cons, List.any_nil, Bool.or_false, Bool.true_and]
        rw [Bool.eq_iff_iff, beq_iff_eq, beq_iff_eq]; omega
    show memS (fieldsTo zs m ++ _) q = _
    rw [hsn, ih]
    by_cases e : q = m + 1
    · subst e
      by_cases h1 : 1 ≤ m
      · have a1 : decide (m + 1 ≤ m) = false := decide_eq_false (by omega)
        have a3 : decide (1 ≤ m) = true := decide_eq_true h1
        simp [a1, a3]
      · have a3 : decide (1 ≤ m) = false := decide_eq_false h1
        simp [a3]
    · have e0 : (q == m + 1) = false := by rw [beq_eq_false_iff_ne]; exact e
      rw [e0, Bool.and_false, Bool.or_false]
      have : decide (q ≤ m) = decide (q ≤ m + 1) := by rw [Bool.eq_iff_iff]; simp; omega
      rw [this]
/-- What was read is right, and is written so. -/
theorem read_back {zs : List Int} (hb : ∀ x ∈ zs, 0 ≤ x ∧ x ≤ 255) (hlen : sizeR zs ≤ zs.length) (hbad : badR zs = false) :
    rightL (fieldsR zs) = true ∧ outL (fieldsR zs) = zs.take (sizeR zs) := by
  have h8 : sizeR zs = 8 ∨ sizeR zs = 16 := by unfold sizeR; split <;> omega
  have hW : wideR zs = true ↔ sizeR zs = 16 := by unfold sizeR; cases wideR zs <;> simp
  have h65 : 9 ≤ sizeR zs → testB zs 65 = false := fun h => by
    have hw : wideR zs = true := hW.2 (by omega)
    unfold badR at hbad
    rw [hw, Bool.true_and, Bool.or_eq_false_iff] at hbad
    exact hbad.1
  have hright : rightL (fieldsR zs) = true := fields_right zs (sizeR zs) (by omega) h65 _ (Nat.le_refl _) 1 (by omega)
  refine ⟨hright, ?_⟩
  have hwide : wideL (fieldsR zs) = wideR zs := by
    cases hw : wideR zs
    · have hs : sizeR zs = 8 := by unfold sizeR; rw [hw]; rfl
      unfold wideL
      by_cases h0 : 0 < (fieldsR zs).length
      · have := fieldsTo_mem zs (8 * sizeR zs) _ (getD_mem (xs := fieldsTo zs (8 * sizeR zs)) (j := (fieldsR zs).length - 1) (by show _ < (fieldsR zs).length; omega))
        have e : decide (64 < (fieldsR zs).getD ((fieldsR zs).length - 1) 0) = false := decide_eq_false (by unfold fieldsR; rw [hs] at this ⊢; unfold fieldsR at this; rw [hs] at this; omega)
        rw [e, Bool.and_false]
      · rw [decide_eq_false h0, Bool.false_and]
    · unfold badR at hbad
      rw [hw, Bool.true_and, Bool.or_eq_false_iff] at hbad
      have hb := hbad.2
      unfold badL at hb
      simp only [Bool.or_eq_false_iff, beq_eq_false_iff_ne, decide_eq_false_iff_not] at hb
      unfold wideL
      rw [decide_eq_true (show 0 < (fieldsR zs).length by omega), decide_eq_true (show 64 < (fieldsR zs).getD ((fieldsR zs).length - 1) 0 by omega)]
      rfl
  have hsize : sizeL (fieldsR zs) = sizeR zs := by unfold sizeL sizeR; rw [hwide]
  apply List.ext_getElem?
  intro j
  by_cases hj : j < sizeR zs
  · rw [List.getElem?_take, if_pos hj, List.getElem?_eq_getElem (show j < zs.length by omega)]
    have e1 : (outL (fieldsR zs))[j]? = some (((byteN (setK (wideL (fieldsR zs)) (fieldsR zs)) j : Nat)) : Int) := by
      have := bytesL_get (setK (wideL (fieldsR zs)) (fieldsR zs)) (m := sizeL (fieldsR zs)) (j := j) (by omega)
      rw [List.getD_eq_getElem?_getD] at this
      have hl : j < (outL (fieldsR zs)).length := by rw [outL_len]; omega
      unfold outL at hl ⊢
      rw [List.getElem?_eq_getElem hl] at this ⊢
      simpa using this
    rw [e1]
    congr 1
    have hx := hb zs[j] (List.getElem_mem _)
    have e2 : byteN (setK (wideL (fieldsR zs)) (fieldsR zs)) j = zs[j].toNat := by
      rw [← bitsOf_testBit zs[j].toNat 8 (by omega)]
      refine bitsOf_congr fun k hk => ?_
      have ht : testB zs (8 * j + 8 - k) = zs[j].toNat.testBit k := by
        unfold testB
        rw [show (8 * j + 8 - k - 1) / 8 = j by omega, show 7 - (8 * j + 8 - k - 1) % 8 = k by omega, List.getD_eq_getElem?_getD, List.getElem?_eq_getElem (show j < zs.length by omega)]
        rfl
      show setK (wideL (fieldsR zs)) (fieldsR zs) (8 * j + 8 - k) = _
      rw [← ht]
      unfold setK fieldsR
      rw [fields_mem]
      by_cases h1 : 8 * j + 8 - k = 1
      · rw [h1]
        have : wideL (fieldsTo zs (8 * sizeR zs)) = testB zs 1 := by
          show wideL (fieldsR zs) = _
          rw [hwide]; unfold wideR; rw [decide_eq_true (show 0 < zs.length by omega), Bool.true_and]
        rw [this]; simp
      · have a0 : (8 * j + 8 - k == 1) = false := by rw [beq_eq_false_iff_ne]; exact h1
        have a1 : decide (2 ≤ 8 * j + 8 - k) = true := decide_eq_true (by omega)
        have a2 : decide (8 * j + 8 - k ≤ 8 * sizeR zs) = true := decide_eq_true (by omega)
        rw [a0, a1, a2]; simp
    rw [e2]; omega
  · rw [List.getElem?_take, if_neg hj, List.getElem?_eq_none (by rw [outL_len]; omega)]
end Go.Proofs.Ytalmgpcffbccoaa
