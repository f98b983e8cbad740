/- Plain: the list whose bits stand in bytes. -/
import Derived.Test.YtalmgpcffbccoaaD
import Derived.Test.YtalmgpcffbccoaaP
namespace Go.Proofs.Ytalmgpcffbccoaa
open Go.RowKit

def wideR (zs : List Int) : Bool := decide (0 < zs.length) && testB zs 1
def sizeR (zs : List Int) : Nat := if wideR zs then 16 else 8
def fieldsTo (zs : List Int) : Nat → List Int
  | 0 => []
  | m + 1 => fieldsTo zs m ++ (if decide (1 ≤ m) && testB zs (m + 1) then [((m + 1 : Nat) : Int)] else [])
def fieldsR (zs : List Int) : List Int := fieldsTo zs (8 * sizeR zs)
def badL (L : List Int) : Bool := L.length == 0 || decide (L.getD (L.length - 1) 0 ≤ 65)
def badR (zs : List Int) : Bool := wideR zs && (testB zs 65 || badL (fieldsR zs))
def readZ (zs : List Int) (a : Int) : List Int × Int × Int :=
  if zs.length < sizeR zs then ([], 0, 3) else if badR zs then ([], 0, 2) else (fieldsR zs, a + sizeR zs, 0)
def readR (xs : List Int) (a : Int) : List Int × Int × Int :=
  if a < 0 ∨ (xs.length : Int) < a then ([], 0, 1) else readZ (xs.drop a.toNat) a

/-- A list of numbers comes back, where it ends, and an error's number. -/
def GivesL (r : List Int × Int × Int) (w : World) (e : Ending) (w' : World) : Prop :=
  ∃ B cp, e = .returned (.tuple #[.slice B r.1.length cp, .int .i64 r.2.1, .int .i64 r.2.2]) ∧ r.1.length ≤ cp ∧ Ri w' B r.1 ∧ Below w.heap.size w w'
theorem gives_no {w w' : World} {e : Ending} (er : Int) (he : e = .returned (.tuple #[.slice none 0 0, .int .i64 0, .int .i64 er])) (hb : Below w.heap.size w w') : GivesL ([], 0, er) w e w' :=
  ⟨none, 0, he, Nat.le_refl _, Rs.nil _ _ _, hb⟩

theorem fieldsTo_len (zs : List Int) : ∀ m, (fieldsTo zs m).length ≤ m
  | 0 => Nat.le_refl _
  | m + 1 => by
    have := fieldsTo_len zs m
    unfold fieldsTo
    rw [List.length_append]
    split <;> simp <;> omega
theorem fieldsTo_mem (zs : List Int) : ∀ m, ∀ x ∈ fieldsTo zs m, 2 ≤ x ∧ x ≤ m
  | 0, x, h => by cases h
  | m + 1, x, h => by
    unfold fieldsTo at h
    rw [List.mem_append] at h
    rcases h with h | h
    · have := fieldsTo_mem zs m x h; omega
    · by_cases hc : (decide (1 ≤ m) && testB zs (m + 1)) = true
      · rw [if_pos hc] at h
        simp at hc h
        omega
      · rw [if_neg hc] at h; cases h
theorem fieldsTo_one (zs : List Int) : fieldsTo zs 1 = [] := rfl
theorem fieldsTo_yes {zs : List Int} {m : Nat} (h1 : 1 ≤ m) (h : testB zs (m + 1) = true) : fieldsTo zs (m + 1) = fieldsTo zs m ++ [((m + 1 : Nat) : Int)] := by
  have hc : (decide (1 ≤ m) && testB zs (m + 1)) = true := by rw [h]; simp; omega
  show fieldsTo zs m ++ _ = _
  rw [if_pos hc]
theorem fieldsTo_no {zs : List Int} {m : Nat} (h : testB zs (m + 1) = false) : fieldsTo zs (m + 1) = fieldsTo zs m := by
  have hc : ¬ (decide (1 ≤ m) && testB zs (m + 1)) = true := by rw [h]; simp
  show fieldsTo zs m ++ _ = _
  rw [if_neg hc, List.append_nil]
theorem i64_wf {y : Int} (h0 : 0 ≤ y) (h1 : y ≤ 1000) : (Lit.int .i64 y).wf = true := by
  simp [Lit.wf, IntKind.min, IntKind.max, IntKind.signed, IntKind.bits]; omega
theorem fields_wf {zs : List Int} {m : Nat} (hm : m ≤ 1000) : ∀ x ∈ fieldsTo zs m, (Lit.int .i64 x).wf = true := fun x hx => by
  have := fieldsTo_mem zs m x hx
  exact i64_wf (by omega) (by omega)
/-- Out of the row that the loop made. -/
theorem fields_rs {w : World} {base : Nat} {v : Value} {zs : List Int} {m : Nat} (hm : m ≤ 1000) (h : w.ownsRow base 3 1 v (fieldsTo zs m).length ((fieldsTo zs m).map (Value.int .i64))) : ∃ A c, v = .slice A (fieldsTo zs m).length c ∧ Ri w A (fieldsTo zs m) :=
  Rs.of_own h (by have := fieldsTo_len zs m; unfold maxLen; omega) (fields_wf hm) (fun j hj => by rw [List.getElem?_map, List.getD_eq_getElem?_getD, List.getElem?_eq_getElem hj]; rfl)
theorem own_cap {w : World} {base : Nat} {e : TypeId} {A : Option Addr} {m n c : Nat} {xs : List Value} (h : w.ownsRow base e 1 (.slice A m c) n xs) : n ≤ c := by
  rcases h.2 with ⟨h1, h0⟩ | ⟨g, cap, cur, h1, _, _, hc, _⟩
  · omega
  · injection h1 with _ _ h2; omega
end Go.Proofs.Ytalmgpcffbccoaa
