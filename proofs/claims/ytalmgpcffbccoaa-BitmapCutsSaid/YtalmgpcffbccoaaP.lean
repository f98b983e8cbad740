/- Plain laws: lists of fields, their bytes. -/
import Derived.Test.YtalmgpcffbccoaaB
namespace Go.Proofs.Ytalmgpcffbccoaa
open Go.RowKit

theorem badN_false {p x : Int} (h : badN p x = false) : p < x ∧ x ≤ 128 ∧ x ≠ 65 := by
  unfold badN at h
  simp only [Bool.or_eq_false_iff, decide_eq_false_iff_not, beq_eq_false_iff_ne] at h
  omega
theorem rightF_cons {p x : Int} {l : List Int} (h : rightF p (x :: l) = true) : badN p x = false ∧ rightF x l = true := by
  have h' : (!badN p x && rightF x l) = true := h
  simpa using h'
theorem rightF_get : ∀ {l : List Int} {p : Int}, rightF p l = true → ∀ k, k < l.length → p < l.getD k 0 ∧ l.getD k 0 ≤ 128 ∧ l.getD k 0 ≠ 65
  | [], _, _, k, hk => absurd hk (by simp)
  | x :: l, p, h, 0, _ => by
    have := badN_false (rightF_cons h).1
    simpa using this
  | x :: l, p, h, k + 1, hk => by
    have h1 := badN_false (rightF_cons h).1
    have h2 := rightF_get (rightF_cons h).2 k (by simpa using hk)
    simp only [List.getD_cons_succ]
    omega
theorem rightF_mono : ∀ {l : List Int} {p : Int}, rightF p l = true → ∀ i j, i < j → j < l.length → l.getD i 0 < l.getD j 0
  | [], _, _, _, _, _, hj => absurd hj (by simp)
  | x :: l, p, h, 0, j + 1, _, hj => by
    have := rightF_get (rightF_cons h).2 j (by simpa using hj)
    simpa using this.1
  | x :: l, p, h, i + 1, j + 1, hij, hj => by
    have := rightF_mono (rightF_cons h).2 i j (by omega) (by simpa using hj)
    simpa using this
  | x :: l, p, h, i, 0, hij, hj => absurd hij (by omega)
theorem right_get {l : List Int} (h : rightL l = true) {k : Nat} (hk : k < l.length) : 2 ≤ l.getD k 0 ∧ l.getD k 0 ≤ 128 ∧ l.getD k 0 ≠ 65 := by
  have := rightF_get h k hk
  omega
theorem right_mono {l : List Int} (h : rightL l = true) {i j : Nat} (hij : i < j) (hj : j < l.length) : l.getD i 0 < l.getD j 0 := rightF_mono h i j hij hj

/-- Is the last field above 64? -/
def wideL (l : List Int) : Bool := decide (0 < l.length) && decide (64 < l.getD (l.length - 1) 0)
def sizeL (l : List Int) : Nat := if wideL l then 16 else 8
theorem right_narrow {l : List Int} (h : rightL l = true) (hw : wideL l = false) {k : Nat} (hk : k < l.length) : l.getD k 0 ≤ 64 := by
  have h0 : l.getD (l.length - 1) 0 ≤ 64 := by
    unfold wideL at hw
    simp only [Bool.and_eq_false_iff, decide_eq_false_iff_not] at hw
    omega
  by_cases e : k = l.length - 1
  · rw [e]; exact h0
  · have := right_mono h (i := k) (j := l.length - 1) (by omega) (by omega)
    omega

def memS (l : List Int) (q : Nat) : Bool := l.any fun x => x == (q : Int)
def setK (wide : Bool) (l : List Int) (q : Nat) : Bool := (wide && q == 1) || memS l q
theorem memS_snoc (l : List Int) (n q : Nat) : memS (l ++ [(n : Int)]) q = upd (memS l) n q := by
  unfold memS upd
  rw [List.any_append]
  simp only [List.any_cons, List.any_nil, Bool.or_false]
  rw [Bool.or_comm]
  congr 1
  rw [Bool.eq_iff_iff, beq_iff_eq, beq_iff_eq]
  omega
theorem setK_snoc (b : Bool) (l : List Int) (n : Nat) : setK b (l ++ [(n : Int)]) = upd (setK b l) n := by
  funext q
  unfold setK
  rw [memS_snoc]
  show ((b && q == 1) || (q == n || memS l q)) = (q == n || ((b && q == 1) || memS l q))
  cases (q == n) <;> cases (b && q == 1) <;> rfl
theorem setK_take {b : Bool} {l : List Int} {k n : Nat} (h : k < l.length) (hn : l.getD k 0 = (n : Int)) : setK b (l.take (k + 1)) = upd (setK b (l.take k)) n := by
  rw [List.take_succ_eq_append_getElem h]
  have : l[k] = (n : Int) := by rw [← hn, List.getD_eq_getElem?_getD, List.getElem?_eq_getElem h]; rfl
  rw [this, setK_snoc]

/-- The first m bytes of a set of numbers. -/
def bytesL (S : Nat → Bool) (m : Nat) : List Int := (List.range m).map fun j => ((byteN S j : Nat) : Int)
def bytesA (S : Nat → Bool) (m : Nat) : Array Value := ((List.range m).map fun j => Value.int .u8 ((byteN S j : Nat) : Int)).toArray
theorem bytesL_len (S : Nat → Bool) (m : Nat) : (bytesL S m).length = m := by unfold bytesL; simp
theorem bytesA_size (S : Nat → Bool) (m : Nat) : (bytesA S m).size = m := by unfold bytesA; simp
theorem bytesL_get (S : Nat → Bool) {m j : Nat} (h : j < m) : (bytesL S m).getD j 0 = ((byteN S j : Nat) : Int) := by
  unfold bytesL; rw [List.getD_eq_getElem?_getD, List.getElem?_map, List.getElem?_range h]; rfl
theorem bytesA_get (S : Nat → Bool) {m j : Nat} (h : j < m) : (bytesA S m)[j]? = some (.int .u8 ((byteN S j : Nat) : Int)) := by
  unfold bytesA; rw [List.getElem?_toArray, List.getElem?_map, List.getElem?_range h]; rfl
theorem bytesL_mem {S : Nat → Bool} {m : Nat} {x : Int} (h : x ∈ bytesL S m) : 0 ≤ x ∧ x ≤ 255 := by
  unfold bytesL at h
  obtain ⟨j, _, rfl⟩ := List.mem_map.1 h
  have := byteN_lt S j
  omega
theorem bytesA_upd (S : Nat → Bool) (m n : Nat) (h1 : 1 ≤ n) : (bytesA S m).setIfInBounds ((n - 1) / 8) (.int .u8 ((byteN (upd S n) ((n - 1) / 8) : Nat) : Int)) = bytesA (upd S n) m := by
  apply Array.ext (by simp [bytesA_size])
  intro j hj1 hj2
  have hj : j < m := by simpa [bytesA_size] using hj2
  have e1 := bytesA_get S hj
  have e2 := bytesA_get (upd S n) hj
  rw [Array.getElem_eq_iff, Array.getElem?_setIfInBounds]
  rw [Array.getElem?_eq_getElem hj2] at e2
  split
  · rename_i he
    subst he
    rw [if_pos (by rw [bytesA_size]; exact hj)]
    exact e2.symm ▸ rfl
  · rename_i he
    rw [e1, e2, byteN_upd_ne S n j h1 (Ne.symm he)]
theorem bytesA_none (m : Nat) : bytesA (setK false []) m = (List.replicate m (Value.int .u8 0)).toArray := by
  unfold bytesA
  congr 1
  rw [List.eq_replicate_iff]
  refine ⟨by simp, fun x hx => ?_⟩
  obtain ⟨j, _, rfl⟩ := List.mem_map.1 hx
  have : byteN (setK false []) j = 0 := byteN_none j
  rw [this]; rfl
theorem bytesA_one : bytesA (setK true []) 16 = #[.int .u8 128, .int .u8 0, .int .u8 0, .int .u8 0, .int .u8 0, .int .u8 0, .int .u8 0, .int .u8 0, .int .u8 0, .int .u8 0, .int .u8 0, .int .u8 0, .int .u8 0, .int .u8 0, .int .u8 0, .int .u8 0] := by
  rfl
theorem or_byte (S : Nat → Bool) (n : Nat) (h1 : 1 ≤ n) : bits .or .u8 ((byteN S ((n - 1) / 8) : Nat) : Int) ((2 ^ (7 - (n - 1) % 8) : Nat) : Int) = ((byteN (upd S n) ((n - 1) / 8) : Nat) : Int) := by
  rw [u8_or_nat _ _ (byteN_lt _ _) (pow_lt8 (by omega)), byteN_or S n h1]
theorem add_byte (S : Nat → Bool) (n : Nat) (h1 : 1 ≤ n) (h : S n = false) : ((byteN S ((n - 1) / 8) : Nat) : Int) + ((2 ^ (7 - (n - 1) % 8) : Nat) : Int) = ((byteN (upd S n) ((n - 1) / 8) : Nat) : Int) := by
  rw [← byteN_add S n h1 h]; omega

/-- A list's bits. -/
def outL (l : List Int) : List Int := bytesL (setK (wideL l) l) (sizeL l)
theorem outL_len (l : List Int) : (outL l).length = sizeL l := bytesL_len _ _
theorem sizeL_le (l : List Int) : 8 ≤ sizeL l ∧ sizeL l ≤ 16 := by unfold sizeL; split <;> omega
theorem outL_mem {l : List Int} {x : Int} (h : x ∈ outL l) : 0 ≤ x ∧ x ≤ 255 := bytesL_mem h
end Go.Proofs.Ytalmgpcffbccoaa
