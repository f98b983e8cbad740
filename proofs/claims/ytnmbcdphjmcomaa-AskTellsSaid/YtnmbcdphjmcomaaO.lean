/- What AskBegins and AskTells are asked of, as it comes in. -/
import Derived.Test.YtnmbcdphjmcomaaZ
namespace Go.Proofs.Ytnmbcdphjmcomaa
open Go.ChangeShapes Go.WideShapes Go.ChangeAt Go.RowKit

section
variable {H : Type} {enc : TypeId × Value → H}

theorem open_begins {W : World} {d : DataW H} {p : List MemPlace} {base : Nat} {v : Value} (hv : Value.okWide Try.prog W .any base 43 v)
    (h : DataW.Trod enc Try.prog W 0 (fun _ => true) true 43 v d p) :
    ∃ (c s o : Int) (A : Option Addr) (xs : List Int) (cp : Nat), v = .agg #[.int .i64 c, .int .i64 s, .slice A xs.length cp, .int .i64 o] ∧ Rb W A xs := by
  obtain ⟨cs, rfl, hsz⟩ := okWide_struct Try.underlying43 hv
  rw [show Try.prog.cellsOf 43 = 4 by kernel_rfl] at hsz
  obtain ⟨fuel, hf⟩ := h
  have hl : cs.toList.length = 4 := by simpa using hsz
  obtain ⟨ys, n, _, _, _, hlen, hg⟩ := DataW.trod_struct Try.underlying43 hf
  have c3 : Try.prog.cellsOf 3 = 1 := by kernel_rfl
  have c22 : Try.prog.cellsOf 22 = 1 := by kernel_rfl
  obtain ⟨cl⟩ := cs
  simp only at hl hg
  match cl, hl with
  | [v0, v1, v2, v3], _ =>
    have hl5 : ys.length = 4 := hlen
    match ys, hl5 with
    | [y0, y1, y2, y3], _ =>
      have g0 : DataW.trod enc Try.prog W 0 (fun _ => true) true n 3 (([v0, v1, v2, v3].drop 0).take (Try.prog.cellsOf 3)) = some y0 := hg 0 _ rfl
      have g1 : DataW.trod enc Try.prog W 0 (fun _ => true) true n 3 (([v0, v1, v2, v3].drop 1).take (Try.prog.cellsOf 3)) = some y1 := hg 1 _ rfl
      have g2 : DataW.trod enc Try.prog W 0 (fun _ => true) true n 22 (([v0, v1, v2, v3].drop 2).take (Try.prog.cellsOf 22)) = some y2 := hg 2 _ rfl
      have g3 : DataW.trod enc Try.prog W 0 (fun _ => true) true n 3 (([v0, v1, v2, v3].drop 3).take (Try.prog.cellsOf 3)) = some y3 := hg 3 _ rfl
      rw [c3] at g0 g1 g3
      rw [c22] at g2
      obtain ⟨c, e0, _, _⟩ := DataW.trod_int Try.underlying3 g0
      obtain ⟨s, e1, _, _⟩ := DataW.trod_int Try.underlying3 g1
      obtain ⟨o, e3, _, _⟩ := DataW.trod_int Try.underlying3 g3
      obtain ⟨A, xs, cp, e2, hr⟩ := bytes_of_trod (v := v2) g2
      simp at e0 e1 e3
      subst e0 e1 e2 e3
      exact ⟨c, s, o, A, xs, cp, rfl, hr⟩

theorem take_five {v0 v1 v2 v3 v4 : Value} {l : List Value} : ((v0 :: v1 :: v2 :: v3 :: v4 :: l).drop 0).take 5 = [v0, v1, v2, v3, v4] := rfl

theorem open_tells {W : World} {d : DataW H} {p : List MemPlace} {base : Nat} {v : Value} (hv : Value.okWide Try.prog W .any base 26 v)
    (h : DataW.Trod enc Try.prog W 0 (fun _ => true) true 26 v d p) :
    ∃ (c s u l : Int) (A : Option Addr) (xs : List Int) (cp : Nat) (c' s' u' l' : Int) (A' : Option Addr) (ys : List Int) (cp' : Nat) (code stan : Int) (B : Option Addr) (zs : List Int) (cq : Nat),
      v = .agg #[.int .i64 c, .int .i64 s, .int .i64 u, .int .i64 l, .slice A xs.length cp, .int .i64 c', .int .i64 s', .int .i64 u', .int .i64 l', .slice A' ys.length cp', .int .i64 code, .int .i64 stan, .slice B zs.length cq] ∧
      Rb W A xs ∧ Rb W A' ys ∧ Rb W B zs := by
  obtain ⟨cs, rfl, hsz⟩ := okWide_struct Try.underlying26 hv
  rw [show Try.prog.cellsOf 26 = 13 by kernel_rfl] at hsz
  obtain ⟨fuel, hf⟩ := h
  have hl : cs.toList.length = 13 := by simpa using hsz
  obtain ⟨ys, n, _, _, _, hlen, hg⟩ := DataW.trod_struct Try.underlying26 hf
  have c3 : Try.prog.cellsOf 3 = 1 := by kernel_rfl
  have c22 : Try.prog.cellsOf 22 = 1 := by kernel_rfl
  have c24 : Try.prog.cellsOf 24 = 5 := by kernel_rfl
  obtain ⟨cl⟩ := cs
  simp only at hl hg
  match cl, hl with
  | [v0, v1, v2, v3, v4, v5, v6, v7, v8, v9, v10, v11, v12], _ =>
    have hl5 : ys.length = 5 := hlen
    match ys, hl5 with
    | [y0, y1, y2, y3, y4], _ =>
      have g0 : DataW.trod enc Try.prog W 0 (fun _ => true) true n 24 (([v0, v1, v2, v3, v4, v5, v6, v7, v8, v9, v10, v11, v12].drop 0).take (Try.prog.cellsOf 24)) = some y0 := hg 0 _ rfl
      have g1 : DataW.trod enc Try.prog W 0 (fun _ => true) true n 24 (([v0, v1, v2, v3, v4, v5, v6, v7, v8, v9, v10, v11, v12].drop 5).take (Try.prog.cellsOf 24)) = some y1 := hg 1 _ rfl
      have g2 : DataW.trod enc Try.prog W 0 (fun _ => true) true n 3 (([v0, v1, v2, v3, v4, v5, v6, v7, v8, v9, v10, v11, v12].drop 10).take (Try.prog.cellsOf 3)) = some y2 := hg 2 _ rfl
      have g3 : DataW.trod enc Try.prog W 0 (fun _ => true) true n 3 (([v0, v1, v2, v3, v4, v5, v6, v7, v8, v9, v10, v11, v12].drop 11).take (Try.prog.cellsOf 3)) = some y3 := hg 3 _ rfl
      have g4 : DataW.trod enc Try.prog W 0 (fun _ => true) true n 22 (([v0, v1, v2, v3, v4, v5, v6, v7, v8, v9, v10, v11, v12].drop 12).take (Try.prog.cellsOf 22)) = some y4 := hg 4 _ rfl
      rw [c24] at g0 g1
      rw [c3] at g2 g3
      rw [c22] at g4
      obtain ⟨c, s, u, l, A, xs, cp, e0, hr0, _⟩ := ask_of_trod (cs := [v0, v1, v2, v3, v4]) rfl g0
      obtain ⟨c', s', u', l', A', xs', cp', e1, hr1, _⟩ := ask_of_trod (cs := [v5, v6, v7, v8, v9]) rfl g1
      obtain ⟨code, e2, _, _⟩ := DataW.trod_int Try.underlying3 g2
      obtain ⟨stan, e3, _, _⟩ := DataW.trod_int Try.underlying3 g3
      obtain ⟨B, zs, cq, e4, hr⟩ := bytes_of_trod (v := v12) g4
      simp [askL] at e0 e1 e2 e3
      obtain ⟨rfl, rfl, rfl, rfl, rfl⟩ := e0
      obtain ⟨rfl, rfl, rfl, rfl, rfl⟩ := e1
      subst e2 e3 e4
      exact ⟨c, s, u, l, A, xs, cp, c', s', u', l', A', xs', cp', code, stan, B, zs, cq, rfl, hr0, hr1, hr⟩
end
end Go.Proofs.Ytnmbcdphjmcomaa
