/- What the laws of bitmap share. -/
import Derived.Test.YtalmgpcffbccoaaJ
namespace Go.Proofs.Ytalmgpcffbccoaa
open Go.ChangeShapes Go.WideShapes Go.ChangeAt Go.RowKit

section
variable {H : Type} {enc : TypeId × Value → H}
theorem open_cap {T E : TypeId} {k : IntKind} (hT : Try.prog.underlying T = some (.slice E)) (hE : Try.prog.underlying E = some (.int k)) (hc1 : Try.prog.cellsOf E = 1) {W : World} {d : DataW H} {p : List MemPlace} {base : Nat} {v : Value} (hv : Value.okWide Try.prog W .any base T v)
    (h : DataW.Trod enc Try.prog W 0 (fun _ => true) true T v d p) : ∃ (A : Option Addr) (xs : List Int) (c : Nat), v = .slice A xs.length c ∧ Rs k W A xs ∧ xs.length ≤ c := by
  obtain ⟨a0, n, c, rfl⟩ := okWide_slice hT hv
  obtain ⟨fuel, hf⟩ := h
  have hf : DataW.trod enc Try.prog W 0 (fun _ => true) true fuel T [.slice a0 n c] = some (d, p) := hf
  obtain ⟨A, xs, c', e, hr⟩ := slice_of_trod hT hE hc1 hf
  refine ⟨A, xs, c', e, hr, ?_⟩
  rcases open_ints hT hE hc1 hf with ⟨hcs, _⟩ | ⟨a, len, cap, zs, hcs, _, hl, _⟩
  · simp only [List.cons.injEq, and_true] at hcs
    rw [e] at hcs; injection hcs with _ h1 h2; omega
  · simp only [List.cons.injEq, and_true] at hcs
    rw [e] at hcs; injection hcs with _ h1 h2; omega
theorem open_bints {W : World} {d : DataW H} {p : List MemPlace} {base : Nat} {v : Value} (hv : Value.okWide Try.prog W .any base 22 v)
    (h : DataW.Trod enc Try.prog W 0 (fun _ => true) true 22 v d p) : ∃ (A : Option Addr) (xs : List Int) (c : Nat), v = .slice A xs.length c ∧ Ri W A xs ∧ xs.length ≤ c :=
  open_cap Try.underlying22 Try.underlying3 (by kernel_rfl) hv h
theorem open_bbytes {W : World} {d : DataW H} {p : List MemPlace} {base : Nat} {v : Value} (hv : Value.okWide Try.prog W .any base 24 v)
    (h : DataW.Trod enc Try.prog W 0 (fun _ => true) true 24 v d p) : ∃ (A : Option Addr) (xs : List Int) (c : Nat), v = .slice A xs.length c ∧ Rb W A xs ∧ xs.length ≤ c :=
  open_cap Try.underlying24 Try.underlying5 (by kernel_rfl) hv h
end

def writeR (l : List Int) : List Int × Int := if rightL l then (outL l, 0) else ([], 1)
theorem write_any (A : Option Addr) (l : List Int) (c : Nat) (w : World) (hx : Ri w A l) : Calls Try.prog 10 #[.slice A l.length c] w (GivesB .i64 (writeR l).1 (writeR l).2 w) := by
  unfold writeR
  cases hr : rightL l
  · exact (write_no A l c w hx hr).mono fun _ _ ⟨he, hw⟩ => ⟨none, 0, he, Nat.le_refl _, Rs.nil _ _ _, hw ▸ Below.refl _ _⟩
  · exact write_ok A l c w hx hr
theorem rwrite_any (A : Option Addr) (l : List Int) (c : Nat) (w : World) (hx : Ri w A l) (hm : l.length ≤ 1000) : Calls Try.prog 11 #[.slice A l.length c] w (GivesB .i64 (writeR l).1 (writeR l).2 w) := by
  unfold writeR
  cases hr : rightL l
  · exact (rwrite_no A l c w hx hr).mono fun _ _ ⟨he, hb⟩ => ⟨none, 0, he, Nat.le_refl _, Rs.nil _ _ _, hb⟩
  · exact rwrite_ok A l c w hx hm hr
theorem rsame_self (A A' : Option Addr) (xs : List Int) (c c' : Nat) (w : World) (hx : Rb w A xs) (hy : Rb w A' xs) :
    Calls Try.prog 14 #[.slice A xs.length c, .slice A' xs.length c'] w fun e w' => e = .returned (.bool true) ∧ w' = w := by
  have h := rsame_any A A' xs xs c c' w hx hy
  rwa [show sameL xs xs = true by unfold sameL; rw [beq_iff_eq]] at h
theorem ints_self (A A' : Option Addr) (l : List Int) (c c' : Nat) (w : World) (hx : Ri w A l) (hy : Ri w A' l) :
    Calls Try.prog 19 #[.slice A l.length c, .slice A' l.length c'] w fun e w' => e = .returned (.bool true) ∧ Below w.heap.size w w' := by
  have h := ints_any A l c A' l c' w hx hy
  rwa [show (l == l) = true by rw [beq_iff_eq]] at h
end Go.Proofs.Ytalmgpcffbccoaa
