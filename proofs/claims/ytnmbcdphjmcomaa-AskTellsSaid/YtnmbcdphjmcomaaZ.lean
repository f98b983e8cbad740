/- A law's frame: from its walk to its row; bytes, and a question, that come in. -/
import Derived.Test.YtnmbcdphjmcomaaM
import Derived.Test.YtnmbcdphjmcomaaRows
import Derived.WalkKit
import Derived.ProofKit
import Derived.OpenShut
import Derived.Carry
namespace Go.Proofs.Ytnmbcdphjmcomaa
open Go.ChangeShapes Go.WideShapes Go.ChangeAt Go.RowKit

theorem own : ownKnob Try.prog.godebug = none := by kernel_rfl
theorem laidOut : laidOutB Try.prog = true := by kernel_rfl

section
variable {H : Type} {enc : TypeId × Value → H}
/-- All arguments read behind the call as they did, if nothing that was there has turned. -/
theorem all_stays {W W' : World} (hb : Below W.heap.size W W') : ∀ {ts : List TypeId} {vs : List Value} {ds : List (DataW H)} {p : List MemPlace},
    (∀ t ∈ ts, Try.prog.readableRec t = true ∧ t < Try.prog.types.size) → DataW.TrodAll enc Try.prog W 0 (fun _ => true) true ts vs ds p → (∀ x ∈ p, x.block < W.heap.size) →
    DataW.TrodAll enc Try.prog W' 0 (fun b => decide (b < W.heap.size)) true ts vs ds p
  | [], [], [], _, _, h, _ => h
  | t :: ts, v :: vs, d :: ds, p, hr, h, hl => by
    obtain ⟨p1, p2, h1, h2, rfl⟩ := h
    have ht := hr t (by simp)
    exact ⟨p1, p2, Below.trod laidOut ht.1 ht.2 h1 hb (fun x hx => hl x (by simp [hx])), all_stays hb (fun t' h' => hr t' (by simp [h'])) h2 (fun x hx => hl x (by simp [hx])), rfl⟩
  | [], _ :: _, _, _, _, h, _ => by simp [DataW.TrodAll] at h
  | [], [], _ :: _, _, _, h, _ => by simp [DataW.TrodAll] at h
  | _ :: _, [], _, _, _, h, _ => by simp [DataW.TrodAll] at h
  | _ :: _, _ :: _, [], _, _, h, _ => by simp [DataW.TrodAll] at h

/-- From 'it returned true, and nothing that was there has turned' to the row's post. -/
theorem law_post {f : Func} {s : ChangeSpec} {W W' : World} {args : Array Value} {ds gs : List (DataW H)} {before : List MemPlace}
    (hW : DataW.Whole enc Try.prog f.params.toList s.vars false W args.toList ds gs before) (hvars : s.vars = [])
    (hrt : f.resultTypes = #[4]) (hfn : gs = [] → (s.fn H (ds ++ gs)).results = [.lit (.bool true)] ∧ (s.fn H (ds ++ gs)).args = ds ∧ (s.fn H (ds ++ gs)).vars = [])
    (hr : ∀ t ∈ f.params.toList, Try.prog.readableRec t = true ∧ t < Try.prog.types.size) (hb : Below W.heap.size W W') :
    s.post enc Try.prog f false true false false W args (.bool true) W' := by
  have hlt : ∀ x ∈ before, x.block < W.heap.size := fun x hx => hW.lt x hx
  have hW0 := hW
  obtain ⟨p, q, hA, hV, rfl, hz, hn⟩ := hW
  rw [hvars] at hV
  obtain ⟨rfl, rfl⟩ := trodVars_none hV
  obtain ⟨e1, e2, e3⟩ := hfn rfl
  refine ⟨ds, [], p ++ [], [], p, [], hW0, ?_, ?_, ?_, hb.frame _, fun h => by cases h⟩
  · rw [e1, hrt]
    exact trodAll_mk1 (shut_bool Try.underlying4 true)
  · rw [e2]
    exact all_stays hb hr hA (fun x hx => hlt x (by simp [hx]))
  · rw [e3, hvars]
    exact rfl

theorem drop_take_one {l : List Value} {i : Nat} {v : Value} (h : (l.drop i).take 1 = [v]) : l[i]? = some v := by
  have h2 : ((l.drop i).take 1)[0]? = some v := by rw [h]; rfl
  rw [List.getElem?_take] at h2
  simpa using h2

/-- A slice that reads as bytes, in old memory. -/
structure Rb (w : World) (A : Option Addr) (xs : List Int) : Prop where
  len : xs.length ≤ maxLen
  byte : ∀ x ∈ xs, 0 ≤ x ∧ x ≤ 255
  cells : 0 < xs.length → ∃ b off, A = some ⟨b, off, none⟩ ∧ b < w.heap.size ∧ ∀ j, j < xs.length → w.cell? ⟨b, off + j, none⟩ = some (.int .u8 (xs.getD j 0))

theorem Rb.below {w w' : World} {A : Option Addr} {xs : List Int} (h : Rb w A xs) (hb : Below w.heap.size w w') : Rb w' A xs :=
  ⟨h.len, h.byte, fun h0 => by
    obtain ⟨b, off, e, hlt, hc⟩ := h.cells h0
    exact ⟨b, off, e, Nat.lt_of_lt_of_le hlt hb.size, fun j hj => (hb.cell (p := ⟨b, off + j, none⟩) hlt).trans (hc j hj)⟩⟩
theorem Rb.nil (w : World) (A : Option Addr) : Rb w A [] := ⟨Nat.zero_le _, (fun x h => by cases h), (fun h => absurd h (by simp))⟩
theorem Rb.drew {w : World} {A : Option Addr} {xs : List Int} (h : Rb w A xs) : Rb w.drew A xs := ⟨h.len, h.byte, h.cells⟩
theorem Rb.alloc {w : World} {A : Option Addr} {xs : List Int} (h : Rb w A xs) (o : Obj) : Rb (w.alloc o) A xs := h.below ((Below.refl _ _).alloc (Nat.le_refl _) o)

/-- A slice of bytes that came in. -/
theorem bytes_of_trod {W : World} {fuel : Nat} {v : Value} {x : DataW H × List MemPlace} (h : DataW.trod enc Try.prog W 0 (fun _ => true) true fuel 22 [v] = some x) :
    ∃ (A : Option Addr) (xs : List Int) (c : Nat), v = .slice A xs.length c ∧ Rb W A xs := by
  rcases open_ints Try.underlying22 Try.underlying5 (by kernel_rfl) h with ⟨hcs, hx⟩ | ⟨a, len, cap, zs, hcs, _, hl, hm, hz, hx, hcell, hwf⟩
  · simp only [List.cons.injEq, and_true] at hcs
    subst hcs
    exact ⟨none, [], 0, rfl, Rb.nil _ _⟩
  · simp only [List.cons.injEq, and_true] at hcs
    subst hcs
    simp only [if_true] at hz
    have hlen : (zs.take len).length = len := by rw [List.length_take]; omega
    refine ⟨some a, zs.take len, cap, by rw [hlen], ⟨by omega, fun x hx => ?_, fun h0 => ?_⟩⟩
    · have := hwf x (List.mem_of_mem_take hx)
      simpa [Lit.wf, IntKind.min, IntKind.max, IntKind.signed, IntKind.bits] using this
    · obtain ⟨b, off, rfl, hc⟩ := ints_at hcell (by omega)
      refine ⟨b, off, rfl, World.block_lt_of_cell? W ⟨b, off + 0, none⟩ (hc 0 (by omega)), fun j hj => ?_⟩
      rw [hc j (by omega)]
      simp [List.getD, show j < len by omega]
theorem open_bytes {W : World} {d : DataW H} {p : List MemPlace} {base : Nat} {v : Value} (hv : Value.okWide Try.prog W .any base 22 v)
    (h : DataW.Trod enc Try.prog W 0 (fun _ => true) true 22 v d p) : ∃ (A : Option Addr) (xs : List Int) (c : Nat), v = .slice A xs.length c ∧ Rb W A xs := by
  obtain ⟨a0, n, c, rfl⟩ := okWide_slice Try.underlying22 hv
  obtain ⟨fuel, hf⟩ := h
  exact bytes_of_trod hf

/-- The cells of a question. -/
def askL (c s d l : Int) (b : Value) : List Value := [.int .i64 c, .int .i64 s, .int .i64 d, .int .i64 l, b]
abbrev askV (c s d l : Int) (A : Option Addr) (n cp : Nat) : Value := .agg #[.int .i64 c, .int .i64 s, .int .i64 d, .int .i64 l, .slice A n cp]

theorem ask_of_trod {W : World} {fuel : Nat} {cs : List Value} {x : DataW H × List MemPlace} (hl : cs.length = 5) (h : DataW.trod enc Try.prog W 0 (fun _ => true) true fuel 24 cs = some x) :
    ∃ (c s d l : Int) (A : Option Addr) (xs : List Int) (cp : Nat), cs = askL c s d l (.slice A xs.length cp) ∧ Rb W A xs ∧
      (Lit.int .i64 c).wf = true ∧ (Lit.int .i64 s).wf = true ∧ (Lit.int .i64 d).wf = true ∧ (Lit.int .i64 l).wf = true := by
  obtain ⟨ys, n, _, _, _, hlen, hg⟩ := DataW.trod_struct Try.underlying24 h
  have c3 : Try.prog.cellsOf 3 = 1 := by kernel_rfl
  have c22 : Try.prog.cellsOf 22 = 1 := by kernel_rfl
  match cs, hl with
  | [v0, v1, v2, v3, v4], _ =>
    have hl5 : ys.length = 5 := hlen
    match ys, hl5 with
    | [y0, y1, y2, y3, y4], _ =>
      have g0 : DataW.trod enc Try.prog W 0 (fun _ => true) true n 3 (([v0, v1, v2, v3, v4].drop 0).take (Try.prog.cellsOf 3)) = some y0 := hg 0 _ rfl
      have g1 : DataW.trod enc Try.prog W 0 (fun _ => true) true n 3 (([v0, v1, v2, v3, v4].drop 1).take (Try.prog.cellsOf 3)) = some y1 := hg 1 _ rfl
      have g2 : DataW.trod enc Try.prog W 0 (fun _ => true) true n 3 (([v0, v1, v2, v3, v4].drop 2).take (Try.prog.cellsOf 3)) = some y2 := hg 2 _ rfl
      have g3 : DataW.trod enc Try.prog W 0 (fun _ => true) true n 3 (([v0, v1, v2, v3, v4].drop 3).take (Try.prog.cellsOf 3)) = some y3 := hg 3 _ rfl
      have g4 : DataW.trod enc Try.prog W 0 (fun _ => true) true n 22 (([v0, v1, v2, v3, v4].drop 4).take (Try.prog.cellsOf 22)) = some y4 := hg 4 _ rfl
      rw [c3] at g0 g1 g2 g3
      rw [c22] at g4
      obtain ⟨c, e0, _, w0⟩ := DataW.trod_int Try.underlying3 g0
      obtain ⟨s, e1, _, w1⟩ := DataW.trod_int Try.underlying3 g1
      obtain ⟨d, e2, _, w2⟩ := DataW.trod_int Try.underlying3 g2
      obtain ⟨l, e3, _, w3⟩ := DataW.trod_int Try.underlying3 g3
      obtain ⟨A, xs, cp, e4, hr⟩ := bytes_of_trod (v := v4) g4
      simp at e0 e1 e2 e3
      subst e0 e1 e2 e3 e4
      exact ⟨c, s, d, l, A, xs, cp, rfl, hr, w0, w1, w2, w3⟩

/-- A question that came in. -/
theorem open_ask {W : World} {d : DataW H} {p : List MemPlace} {base : Nat} {v : Value} (hv : Value.okWide Try.prog W .any base 24 v)
    (h : DataW.Trod enc Try.prog W 0 (fun _ => true) true 24 v d p) :
    ∃ (c s d l : Int) (A : Option Addr) (xs : List Int) (cp : Nat), v = askV c s d l A xs.length cp ∧ Rb W A xs ∧
      (Lit.int .i64 c).wf = true ∧ (Lit.int .i64 s).wf = true ∧ (Lit.int .i64 d).wf = true ∧ (Lit.int .i64 l).wf = true := by
  obtain ⟨cs, rfl, hsz⟩ := okWide_struct Try.underlying24 hv
  rw [show Try.prog.cellsOf 24 = 5 by kernel_rfl] at hsz
  obtain ⟨fuel, hf⟩ := h
  obtain ⟨c, s, d, l, A, xs, cp, e, hr, w0, w1, w2, w3⟩ := ask_of_trod (cs := cs.toList) (by simpa using hsz) hf
  refine ⟨c, s, d, l, A, xs, cp, ?_, hr, w0, w1, w2, w3⟩
  obtain ⟨cl⟩ := cs
  simp only at e
  subst e
  rfl
end
end Go.Proofs.Ytnmbcdphjmcomaa
