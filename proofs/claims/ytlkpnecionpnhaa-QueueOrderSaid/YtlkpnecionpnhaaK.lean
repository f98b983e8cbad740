/- Queues that come in. -/
import Derived.Test.YtlkpnecionpnhaaJ
import Derived.Deep.Slices
import Derived.Deep.SlicePairs
namespace Go.Proofs.Ytlkpnecionpnhaa
open Go.ChangeShapes Go.WideShapes Go.ChangeAt Go.RowKit

theorem cells_at {w : World} {a : Addr} {n : Nat} {V : Nat → Value} (h : ∀ i, i < n → w.cell? (a.add i) = some (V i)) (hp : 0 < n) :
    ∃ b off, a = ⟨b, off, none⟩ ∧ ∀ j, j < n → w.cell? ⟨b, off + j, none⟩ = some (V j) := by
  obtain ⟨b, off, spot⟩ := a
  have hspot : spot = none := by simpa [Addr.add] using World.cell?_spot (h 0 hp)
  subst hspot
  exact ⟨b, off, rfl, fun j hj => by rw [← Go.WideShapes.add_plain]; exact h j hj⟩

instance : Inhabited Msg := ⟨Msg.none⟩

section
variable {H : Type} {enc : TypeId × Value → H}
theorem bytes_of_trod {W : World} {fuel : Nat} {v : Value} {x : DataW H × List MemPlace} (h : DataW.trod enc Try.prog W 0 (fun _ => true) true fuel 23 [v] = some x) : ∃ m : Msg, v = m.v ∧ Rb W m.A m.xs := by
  obtain ⟨A, xs, c, e, hr⟩ := slice_of_trod Try.underlying23 Try.underlying5 (by kernel_rfl) h
  exact ⟨⟨A, xs, c⟩, e, hr⟩
theorem queue_of_trod {W : World} {fuel : Nat} {v : Value} {x : DataW H × List MemPlace} (h : DataW.trod enc Try.prog W 0 (fun _ => true) true fuel 22 [v] = some x) :
    ∃ (A : Option Addr) (q : List Msg) (c : Nat), v = .slice A q.length c ∧ Rq W A q ∧ q.length ≤ c := by
  rcases Go.Deep.open_slice1 Try.underlying22 cell22 h with ⟨hcs, _⟩ | ⟨a, len, cap, m, n, V, D, Pl, hcs, _, hl, hm, hmm, _, hV⟩
  · simp only [List.cons.injEq, and_true] at hcs
    subst hcs
    exact ⟨none, [], 0, rfl, Rq.nil _ _, Nat.le_refl _⟩
  · simp only [List.cons.injEq, and_true] at hcs
    subst hcs
    simp only [if_true] at hmm
    subst hmm
    obtain ⟨F, hF⟩ := Go.Deep.choose_lt (α := Msg) (n := len) (p := fun i u => V i = u.v ∧ Rb W u.A u.xs) (fun i hi => bytes_of_trod (hV i (by omega)).2)
    have hlen : ((List.range len).map F).length = len := by simp
    have hget : ∀ j, j < len → ((List.range len).map F)[j]? = some (F j) := fun j hj => by rw [List.getElem?_map, List.getElem?_range hj]; rfl
    refine ⟨some a, (List.range len).map F, m, by rw [hlen], ⟨⟨by rw [List.length_map, hlen]; omega, msgs_one _, fun h0 => ?_⟩, fun u hu => ?_⟩, by rw [hlen]; exact hl⟩
    · rw [List.length_map, hlen] at h0
      obtain ⟨b, off, rfl, hc⟩ := cells_at (V := V) (fun i hi => (hV i hi).1) (show 0 < m by omega)
      refine ⟨b, off, rfl, World.block_lt_of_cell? W ⟨b, off + 0, none⟩ (hc 0 (by omega)), fun j u hj => ?_⟩
      have hj2 : j < len := by
        rcases Nat.lt_or_ge j len with h' | h'
        · exact h'
        · rw [List.getElem?_eq_none (by rw [List.length_map, hlen]; exact h')] at hj; cases hj
      rw [List.getElem?_map, hget j hj2] at hj
      simp only [Option.map_some, Option.some.injEq] at hj
      rw [hc j (by omega), (hF j hj2).1, hj]
    · obtain ⟨j, hj, rfl⟩ := List.mem_map.1 hu
      exact (hF j (List.mem_range.1 hj)).2
theorem open_queue {W : World} {d : DataW H} {p : List MemPlace} {base : Nat} {v : Value} (hv : Value.okWide Try.prog W .any base 22 v)
    (h : DataW.Trod enc Try.prog W 0 (fun _ => true) true 22 v d p) : ∃ (A : Option Addr) (q : List Msg) (c : Nat), v = .slice A q.length c ∧ Rq W A q ∧ q.length ≤ c := by
  obtain ⟨a0, n, c, rfl⟩ := okWide_slice Try.underlying22 hv
  obtain ⟨fuel, hf⟩ := h
  exact queue_of_trod hf
theorem open_qbytes {W : World} {d : DataW H} {p : List MemPlace} {base : Nat} {v : Value} (hv : Value.okWide Try.prog W .any base 23 v)
    (h : DataW.Trod enc Try.prog W 0 (fun _ => true) true 23 v d p) : ∃ (A : Option Addr) (xs : List Int) (c : Nat), v = .slice A xs.length c ∧ Rb W A xs :=
  open_slice Try.underlying23 Try.underlying5 (by kernel_rfl) hv h

theorem open_qtells {W : World} {d : DataW H} {p : List MemPlace} {base : Nat} {v : Value} (hv : Value.okWide Try.prog W .any base 25 v)
    (h : DataW.Trod enc Try.prog W 0 (fun _ => true) true 25 v d p) :
    ∃ (A : Option Addr) (q : List Msg) (c : Nat) (A' : Option Addr) (l : List Msg) (c' : Nat) (B : Option Addr) (xs : List Int) (cb : Nat) (room : Int),
      v = .agg #[.slice A q.length c, .slice A' l.length c', .slice B xs.length cb, .int .i64 room] ∧ Rq W A q ∧ q.length ≤ c ∧ Rq W A' l ∧ l.length ≤ c' ∧ Rb W B xs := by
  obtain ⟨cs, rfl, hsz⟩ := okWide_struct Try.underlying25 hv
  rw [show Try.prog.cellsOf 25 = 4 by kernel_rfl] at hsz
  obtain ⟨fuel, hf⟩ := h
  have hl : cs.toList.length = 4 := by simpa using hsz
  obtain ⟨ys, n, _, _, _, hlen, hg⟩ := DataW.trod_struct Try.underlying25 hf
  have c3 : Try.prog.cellsOf 3 = 1 := by kernel_rfl
  have c22 : Try.prog.cellsOf 22 = 1 := by kernel_rfl
  have c23 : Try.prog.cellsOf 23 = 1 := by kernel_rfl
  obtain ⟨cl⟩ := cs
  simp only at hl hg
  match cl, hl with
  | [v0, v1, v2, v3], _ =>
    have hl5 : ys.length = 4 := hlen
    match ys, hl5 with
    | [y0, y1, y2, y3], _ =>
      have g0 : DataW.trod enc Try.prog W 0 (fun _ => true) true n 22 (([v0, v1, v2, v3].drop 0).take (Try.prog.cellsOf 22)) = some y0 := hg 0 _ rfl
      have g1 : DataW.trod enc Try.prog W 0 (fun _ => true) true n 22 (([v0, v1, v2, v3].drop 1).take (Try.prog.cellsOf 22)) = some y1 := hg 1 _ rfl
      have g2 : DataW.trod enc Try.prog W 0 (fun _ => true) true n 23 (([v0, v1, v2, v3].drop 2).take (Try.prog.cellsOf 23)) = some y2 := hg 2 _ rfl
      have g3 : DataW.trod enc Try.prog W 0 (fun _ => true) true n 3 (([v0, v1, v2, v3].drop 3).take (Try.prog.cellsOf 3)) = some y3 := hg 3 _ rfl
      rw [c22] at g0 g1
      rw [c23] at g2
      rw [c3] at g3
      obtain ⟨A, q, c, e0, hr0, hc0⟩ := queue_of_trod (v := v0) g0
      obtain ⟨A', l, c', e1, hr1, hc1⟩ := queue_of_trod (v := v1) g1
      obtain ⟨⟨B, xs, cb⟩, e2, hr2⟩ := bytes_of_trod (v := v2) g2
      obtain ⟨room, e3, _, _⟩ := DataW.trod_int Try.underlying3 g3
      simp at e3
      subst e0 e1 e2 e3
      exact ⟨A, q, c, A', l, c', B, xs, cb, room, rfl, hr0, hc0, hr1, hc1, hr2⟩
end
end Go.Proofs.Ytlkpnecionpnhaa
