/- A law's frame: from its walk to its row; a window that comes in. -/
import Derived.Test.YtkmmfobnpapceaaB
import Derived.Test.YtkmmfobnpapceaaRows
import Derived.WalkKit
import Derived.ProofKit
import Derived.OpenShut
import Derived.Carry
namespace Go.Proofs.Ytkmmfobnpapceaa
open Go.ChangeShapes Go.WideShapes Go.ChangeAt Go.RowKit

theorem own : ownKnob Try.prog.godebug = none := by kernel_rfl
theorem laidOut : laidOutB Try.prog = true := by kernel_rfl

section
variable {H : Type} {enc : TypeId × Value → H}
/-- All arguments read behind the call as they did, if nothing that was there has turned. -/
theorem all_stays {W W' : World} (hb : Below W.heap.size W W') : ∀ {ts : List TypeId} {vs : List Value} {ds : List (DataW H)} {p : List MemPlace},
    (∀ t ∈ ts, Try.prog.readableRec t = true ∧ t < Try.prog.types.size) → DataW.TrodAll enc Try.prog W 0 (fun _ => true) true ts vs ds p → (∀ x ∈ p, x.block < W.heap.size) →
    DataW.TrodAll enc Try.prog W' 0 (fun b => decide (b < W.heap.size)) true ts vs ds p
  | [], [], [], _, _, h, _ => h
  | t :: ts, v :: vs, d :: ds, p, hr, h, hl => by
    obtain ⟨p1, p2, h1, h2, rfl⟩ := h
    have ht := hr t (by simp)
    exact ⟨p1, p2, Below.trod laidOut ht.1 ht.2 h1 hb (fun x hx => hl x (by simp [hx])), all_stays hb (fun t' h' => hr t' (by simp [h'])) h2 (fun x hx => hl x (by simp [hx])), rfl⟩
  | [], _ :: _, _, _, _, h, _ => by simp [DataW.TrodAll] at h
  | [], [], _ :: _, _, _, h, _ => by simp [DataW.TrodAll] at h
  | _ :: _, [], _, _, _, h, _ => by simp [DataW.TrodAll] at h
  | _ :: _, _ :: _, [], _, _, h, _ => by simp [DataW.TrodAll] at h

/-- From 'it returned true, and nothing that was there has turned' to the row's post. -/
theorem law_post {f : Func} {s : ChangeSpec} {W W' : World} {args : Array Value} {ds gs : List (DataW H)} {before : List MemPlace}
    (hW : DataW.Whole enc Try.prog f.params.toList s.vars false W args.toList ds gs before) (hvars : s.vars = [])
    (hrt : f.resultTypes = #[4]) (hfn : gs = [] → (s.fn H (ds ++ gs)).results = [.lit (.bool true)] ∧ (s.fn H (ds ++ gs)).args = ds ∧ (s.fn H (ds ++ gs)).vars = [])
    (hr : ∀ t ∈ f.params.toList, Try.prog.readableRec t = true ∧ t < Try.prog.types.size) (hb : Below W.heap.size W W') :
    s.post enc Try.prog f false true false false W args (.bool true) W' := by
  have hlt : ∀ x ∈ before, x.block < W.heap.size := fun x hx => hW.lt x hx
  have hW0 := hW
  obtain ⟨p, q, hA, hV, rfl, hz, hn⟩ := hW
  rw [hvars] at hV
  obtain ⟨rfl, rfl⟩ := trodVars_none hV
  obtain ⟨e1, e2, e3⟩ := hfn rfl
  refine ⟨ds, [], p ++ [], [], p, [], hW0, ?_, ?_, ?_, hb.frame _, fun h => by cases h⟩
  · rw [e1, hrt]
    exact trodAll_mk1 (shut_bool Try.underlying4 true)
  · rw [e2]
    exact all_stays hb hr hA (fun x hx => hlt x (by simp [hx]))
  · rw [e3, hvars]
    exact rfl

theorem drop_take_one {l : List Value} {i : Nat} {v : Value} (h : (l.drop i).take 1 = [v]) : l[i]? = some v := by
  have h2 : ((l.drop i).take 1)[0]? = some v := by rw [h]; rfl
  rw [List.getElem?_take] at h2
  simpa using h2

/-- A window that came in. -/
theorem open_win {W : World} {base b0 : Nat} {r : Reach} {spare : Nat → Bool} {held : Bool} {v : Value} {d : DataW H} {p : List MemPlace} (hv : Value.okWide Try.prog W r b0 25 v) (h : DataW.Trod enc Try.prog W base spare held 25 v d p) :
    ∃ (t : Int) (f : Nat → Bool), v = .agg (winA t f) ∧ (Lit.int .i64 t).wf = true := by
  obtain ⟨cs, rfl, hsz⟩ := okWide_struct Try.underlying25 hv
  rw [show Try.prog.cellsOf 25 = 17 by kernel_rfl] at hsz
  obtain ⟨fuel, hf⟩ := h
  obtain ⟨xs, n, _, _, _, hlen, hg⟩ := DataW.trod_struct Try.underlying25 hf
  have hl2 : xs.length = 2 := hlen
  obtain ⟨x0, h0⟩ : ∃ x0, xs[0]? = some x0 := ⟨_, List.getElem?_eq_getElem (by omega)⟩
  obtain ⟨x1, h1⟩ : ∃ x1, xs[1]? = some x1 := ⟨_, List.getElem?_eq_getElem (by omega)⟩
  have g0 : DataW.trod enc Try.prog W base spare held n 3 ((cs.toList.drop 0).take (Try.prog.cellsOf 3)) = xs[0]? := hg 0 _ rfl
  have g1 : DataW.trod enc Try.prog W base spare held n 23 ((cs.toList.drop 1).take (Try.prog.cellsOf 23)) = xs[1]? := hg 1 _ rfl
  rw [h0] at g0
  rw [h1] at g1
  have c3 : Try.prog.cellsOf 3 = 1 := by kernel_rfl
  have c23 : Try.prog.cellsOf 23 = 16 := by kernel_rfl
  have c22 : Try.prog.cellsOf 22 = 1 := by kernel_rfl
  rw [c3] at g0
  rw [c23] at g1
  obtain ⟨t, e0, _, wt⟩ := DataW.trod_int Try.underlying3 g0
  obtain ⟨ys, m, _, _, _, hyl, hy⟩ := DataW.trod_array Try.underlying23 g1
  have hb : ∀ i, i < 16 → ∃ b : Nat, b < 18446744073709551616 ∧ cs[1 + i]? = some (.int .u64 (b : Int)) := by
    intro i hi
    have h2 := hy i hi
    obtain ⟨y, hyi⟩ : ∃ y, ys[i]? = some y := ⟨_, List.getElem?_eq_getElem (by omega)⟩
    rw [hyi, c22, Nat.mul_one] at h2
    obtain ⟨b, e1, _, wb⟩ := DataW.trod_int Try.underlying22 h2
    have hbd : 0 ≤ b ∧ b ≤ 18446744073709551615 := by simpa [Lit.wf, IntKind.min, IntKind.max, IntKind.signed, IntKind.bits] using wb
    refine ⟨b.toNat, by omega, ?_⟩
    have h3 := drop_take_one e1
    rw [List.getElem?_take, if_pos hi, List.getElem?_drop] at h3
    rw [Int.toNat_of_nonneg hbd.1, ← Array.getElem?_toList]
    exact h3
  have hex : ∃ B : Nat → Nat, ∀ i, i < 16 → B i < 18446744073709551616 ∧ cs[1 + i]? = some (.int .u64 (B i : Int)) :=
    ⟨fun i => if hi : i < 16 then (hb i hi).choose else 0, fun i hi => by simp only [hi, dif_pos]; exact (hb i hi).choose_spec⟩
  obtain ⟨B, hB⟩ := hex
  refine ⟨t, fun q => (B (q / 64)).testBit (q % 64), ?_, wt⟩
  have hw : ∀ i, i < 16 → word (fun q => (B (q / 64)).testBit (q % 64)) i = B i := by
    intro i hi
    have e : word (fun q => (B (q / 64)).testBit (q % 64)) i = bitsOf (B i).testBit 64 := by
      unfold word
      apply bitsOf_congr
      intro j hj
      show (B ((64 * i + j) / 64)).testBit ((64 * i + j) % 64) = _
      rw [show (64 * i + j) / 64 = i by omega, show (64 * i + j) % 64 = j by omega]
    rw [e, bitsOf_testBit (B i) 64 (hB i hi).1]
  congr 1
  apply Array.ext_getElem?
  intro k
  rcases k with _ | k
  · rw [winA_top]
    have h3 := drop_take_one (l := cs.toList) (i := 0) e0
    rw [← Array.getElem?_toList]; exact h3
  · rw [Nat.add_comm k 1]
    by_cases hk : k < 16
    · rw [winA_bits _ _ _ hk, hw k hk, (hB k hk).2]
    · rw [Array.getElem?_eq_none (by omega), Array.getElem?_eq_none (by rw [winA_size]; omega)]

/-- A slice of integers that came in: nil, empty or not. -/
theorem open_list {t : TypeId} (ht : Try.prog.underlying t = some (.slice 3)) {W : World} {d : DataW H} {p : List MemPlace} {base : Nat} {v : Value} (hv : Value.okWide Try.prog W .any base t v)
    (h : DataW.Trod enc Try.prog W 0 (fun _ => true) true t v d p) :
    ∃ (A : Option Addr) (n c : Nat) (l : List Int), v = .slice A n c ∧ l.length = n ∧ n ≤ maxLen ∧
      (0 < n → ∃ b off, A = some ⟨b, off, none⟩ ∧ b < W.heap.size ∧ ∀ j, j < n → W.cell? ⟨b, off + j, none⟩ = some (.int .i64 (l.getD j 0))) ∧
      ∀ x ∈ l, -9223372036854775808 ≤ x ∧ x ≤ 9223372036854775807 := by
  obtain ⟨a0, n, c, rfl⟩ := okWide_slice ht hv
  obtain ⟨fuel, hf⟩ := h
  rcases open_ints ht Try.underlying3 (by kernel_rfl) hf with ⟨hcs, hx⟩ | ⟨a, len, cap, zs, hcs, _, hl, hm, hz, hx, hcell, hwf⟩
  · simp only [Value.cells, List.cons.injEq, Value.slice.injEq, and_true] at hcs
    obtain ⟨rfl, rfl, rfl⟩ := hcs
    exact ⟨_, _, _, [], rfl, rfl, Nat.zero_le _, fun h => absurd h (by omega), fun x h => by cases h⟩
  · simp only [Value.cells, List.cons.injEq, Value.slice.injEq, and_true] at hcs
    obtain ⟨rfl, rfl, rfl⟩ := hcs
    simp only [if_true] at hz
    refine ⟨some a, n, c, zs.take n, rfl, by rw [List.length_take]; omega, by omega, fun h0 => ?_, fun x hx => ?_⟩
    · obtain ⟨b, off, rfl, hc⟩ := ints_at hcell (by omega)
      refine ⟨b, off, rfl, World.block_lt_of_cell? W ⟨b, off + 0, none⟩ (hc 0 (by omega)), fun j hj => ?_⟩
      rw [hc j (by omega)]
      simp [List.getD, hj]
    · have := hwf x (List.mem_of_mem_take hx)
      simpa [Lit.wf, IntKind.min, IntKind.max, IntKind.signed, IntKind.bits] using this
end
end Go.Proofs.Ytkmmfobnpapceaa
