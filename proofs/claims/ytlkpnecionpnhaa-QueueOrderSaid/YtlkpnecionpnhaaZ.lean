/- A law's frame: from its walk to its row; lists of integers that come in. -/
import Derived.Test.YtlkpnecionpnhaaM
import Derived.Test.YtlkpnecionpnhaaRows
import Derived.WalkKit
import Derived.ProofKit
import Derived.OpenShut
import Derived.Carry
namespace Go.Proofs.Ytlkpnecionpnhaa
open Go.ChangeShapes Go.WideShapes Go.ChangeAt Go.RowKit

theorem own : ownKnob Try.prog.godebug = none := by kernel_rfl
theorem laidOut : laidOutB Try.prog = true := by kernel_rfl

section
variable {H : Type} {enc : TypeId × Value → H}
/-- All arguments read behind the call as they did, if nothing that was there has turned. -/
theorem all_stays {W W' : World} (hb : Below W.heap.size W W') : ∀ {ts : List TypeId} {vs : List Value} {ds : List (DataW H)} {p : List MemPlace},
    (∀ t ∈ ts, Try.prog.readableRec t = true ∧ t < Try.prog.types.size) → DataW.TrodAll enc Try.prog W 0 (fun _ => true) true ts vs ds p → (∀ x ∈ p, x.block < W.heap.size) →
    DataW.TrodAll enc Try.prog W' 0 (fun b => decide (b < W.heap.size)) true ts vs ds p
  | [], [], [], _, _, h, _ => h
  | t :: ts, v :: vs, d :: ds, p, hr, h, hl => by
    obtain ⟨p1, p2, h1, h2, rfl⟩ := h
    have ht := hr t (by simp)
    exact ⟨p1, p2, Below.trod laidOut ht.1 ht.2 h1 hb (fun x hx => hl x (by simp [hx])), all_stays hb (fun t' h' => hr t' (by simp [h'])) h2 (fun x hx => hl x (by simp [hx])), rfl⟩
  | [], _ :: _, _, _, _, h, _ => by simp [DataW.TrodAll] at h
  | [], [], _ :: _, _, _, h, _ => by simp [DataW.TrodAll] at h
  | _ :: _, [], _, _, _, h, _ => by simp [DataW.TrodAll] at h
  | _ :: _, _ :: _, [], _, _, h, _ => by simp [DataW.TrodAll] at h

/-- From 'it returned true, and nothing that was there has turned' to the row's post. -/
theorem law_post {f : Func} {s : ChangeSpec} {W W' : World} {args : Array Value} {ds gs : List (DataW H)} {before : List MemPlace}
    (hW : DataW.Whole enc Try.prog f.params.toList s.vars false W args.toList ds gs before) (hvars : s.vars = [])
    (hrt : f.resultTypes = #[4]) (hfn : gs = [] → (s.fn H (ds ++ gs)).results = [.lit (.bool true)] ∧ (s.fn H (ds ++ gs)).args = ds ∧ (s.fn H (ds ++ gs)).vars = [])
    (hr : ∀ t ∈ f.params.toList, Try.prog.readableRec t = true ∧ t < Try.prog.types.size) (hb : Below W.heap.size W W') :
    s.post enc Try.prog f false true false false W args (.bool true) W' := by
  have hlt : ∀ x ∈ before, x.block < W.heap.size := fun x hx => hW.lt x hx
  have hW0 := hW
  obtain ⟨p, q, hA, hV, rfl, hz, hn⟩ := hW
  rw [hvars] at hV
  obtain ⟨rfl, rfl⟩ := trodVars_none hV
  obtain ⟨e1, e2, e3⟩ := hfn rfl
  refine ⟨ds, [], p ++ [], [], p, [], hW0, ?_, ?_, ?_, hb.frame _, fun h => by cases h⟩
  · rw [e1, hrt]
    exact trodAll_mk1 (shut_bool Try.underlying4 true)
  · rw [e2]
    exact all_stays hb hr hA (fun x hx => hlt x (by simp [hx]))
  · rw [e3, hvars]
    exact rfl

theorem drop_take_one {l : List Value} {i : Nat} {v : Value} (h : (l.drop i).take 1 = [v]) : l[i]? = some v := by
  have h2 : ((l.drop i).take 1)[0]? = some v := by rw [h]; rfl
  rw [List.getElem?_take] at h2
  simpa using h2

/-- A slice of integers of kind k that reads as xs. -/
structure Rs (k : IntKind) (w : World) (A : Option Addr) (xs : List Int) : Prop where
  len : xs.length ≤ maxLen
  wf : ∀ x ∈ xs, (Lit.int k x).wf = true
  cells : 0 < xs.length → ∃ b off, A = some ⟨b, off, none⟩ ∧ b < w.heap.size ∧ ∀ j, j < xs.length → w.cell? ⟨b, off + j, none⟩ = some (.int k (xs.getD j 0))
/-- Bytes; integers. -/
abbrev Rb := Rs .u8
abbrev Ri := Rs .i64

section
variable {k : IntKind} {w w' : World} {A : Option Addr} {xs : List Int}
theorem Rs.below (h : Rs k w A xs) (hb : Below w.heap.size w w') : Rs k w' A xs :=
  ⟨h.len, h.wf, fun h0 => by
    obtain ⟨b, off, e, hlt, hc⟩ := h.cells h0
    exact ⟨b, off, e, Nat.lt_of_lt_of_le hlt hb.size, fun j hj => (hb.cell (p := ⟨b, off + j, none⟩) hlt).trans (hc j hj)⟩⟩
theorem Rs.nil (k : IntKind) (w : World) (A : Option Addr) : Rs k w A [] := ⟨Nat.zero_le _, (fun x h => by cases h), (fun h => absurd h (by simp))⟩
theorem Rs.drew (h : Rs k w A xs) : Rs k w.drew A xs := ⟨h.len, h.wf, h.cells⟩
theorem Rs.alloc (h : Rs k w A xs) (o : Obj) : Rs k (w.alloc o) A xs := h.below ((Below.refl _ _).alloc (Nat.le_refl _) o)
theorem Rs.byte (h : Rs .u8 w A xs) : ∀ x ∈ xs, 0 ≤ x ∧ x ≤ 255 := fun x hx => by
  simpa [Lit.wf, IntKind.min, IntKind.max, IntKind.signed, IntKind.bits] using h.wf x hx
theorem Rs.i64 (h : Rs .i64 w A xs) : ∀ x ∈ xs, -9223372036854775808 ≤ x ∧ x ≤ 9223372036854775807 := fun x hx => by
  simpa [Lit.wf, IntKind.min, IntKind.max, IntKind.signed, IntKind.bits] using h.wf x hx
theorem getD_mem {xs : List Int} {j : Nat} (h : j < xs.length) : xs.getD j 0 ∈ xs := by
  rw [List.getD_eq_getElem?_getD, List.getElem?_eq_getElem h]; exact List.getElem_mem h
/-- Out of a block that is known whole. -/
theorem Rs.of_blk {g : Nat} {t : TypeId} {cs : Array Value} (hg : Blk w g t cs) {o : Nat} (hlen : xs.length ≤ maxLen) (hwf : ∀ x ∈ xs, (Lit.int k x).wf = true)
    (hc : ∀ j, j < xs.length → cs[o + j]? = some (.int k (xs.getD j 0))) : Rs k w (some ⟨g, o, none⟩) xs :=
  ⟨hlen, hwf, fun _ => ⟨g, o, rfl, hg.lt, fun j hj => by rw [hg.cell]; exact hc j hj⟩⟩
/-- Out of a row that the call owns. -/
theorem Rs.of_own {base : Nat} {e : TypeId} {v : Value} {vs : List Value} (h : w.ownsRow base e 1 v xs.length vs) (hlen : xs.length ≤ maxLen) (hwf : ∀ x ∈ xs, (Lit.int k x).wf = true)
    (hc : ∀ j, j < xs.length → vs[j]? = some (.int k (xs.getD j 0))) : ∃ A c, v = .slice A xs.length c ∧ Rs k w A xs := by
  rcases Nat.eq_zero_or_pos xs.length with h0 | h0
  · obtain ⟨A, c, e⟩ := own_shape h
    obtain rfl : xs = [] := List.eq_nil_of_length_eq_zero h0
    exact ⟨A, c, e, Rs.nil _ _ _⟩
  · rcases h.2 with ⟨rfl, h00⟩ | ⟨g, cap, cur, rfl, _, hh, _⟩
    · omega
    · refine ⟨_, cap, rfl, ⟨hlen, hwf, fun _ => ⟨g, 0, rfl, ?_, fun j hj => ?_⟩⟩⟩
      · rcases Nat.lt_or_ge g w.heap.size with hlt | hge
        · exact hlt
        · rw [Array.getElem?_eq_none hge] at hh; cases hh
      · rw [Nat.zero_add, h.cellAt j (by omega)]; exact hc j hj
end

/-- A slice of integers that came in. -/
theorem slice_of_trod {T E : TypeId} {k : IntKind} (hT : Try.prog.underlying T = some (.slice E)) (hE : Try.prog.underlying E = some (.int k)) (hc1 : Try.prog.cellsOf E = 1) {W : World} {fuel : Nat} {v : Value} {x : DataW H × List MemPlace} (h : DataW.trod enc Try.prog W 0 (fun _ => true) true fuel T [v] = some x) :
    ∃ (A : Option Addr) (xs : List Int) (c : Nat), v = .slice A xs.length c ∧ Rs k W A xs := by
  rcases open_ints hT hE hc1 h with ⟨hcs, hx⟩ | ⟨a, len, cap, zs, hcs, _, hl, hm, hz, hx, hcell, hwf⟩
  · simp only [List.cons.injEq, and_true] at hcs
    subst hcs
    exact ⟨none, [], 0, rfl, Rs.nil _ _ _⟩
  · simp only [List.cons.injEq, and_true] at hcs
    subst hcs
    simp only [if_true] at hz
    have hlen : (zs.take len).length = len := by rw [List.length_take]; omega
    refine ⟨some a, zs.take len, cap, by rw [hlen], ⟨by omega, fun x hx => hwf x (List.mem_of_mem_take hx), fun h0 => ?_⟩⟩
    obtain ⟨b, off, rfl, hc⟩ := ints_at hcell (by omega)
    refine ⟨b, off, rfl, World.block_lt_of_cell? W ⟨b, off + 0, none⟩ (hc 0 (by omega)), fun j hj => ?_⟩
    rw [hc j (by omega)]
    simp [List.getD, show j < len by omega]
theorem open_slice {T E : TypeId} {k : IntKind} (hT : Try.prog.underlying T = some (.slice E)) (hE : Try.prog.underlying E = some (.int k)) (hc1 : Try.prog.cellsOf E = 1) {W : World} {d : DataW H} {p : List MemPlace} {base : Nat} {v : Value} (hv : Value.okWide Try.prog W .any base T v)
    (h : DataW.Trod enc Try.prog W 0 (fun _ => true) true T v d p) : ∃ (A : Option Addr) (xs : List Int) (c : Nat), v = .slice A xs.length c ∧ Rs k W A xs := by
  obtain ⟨a0, n, c, rfl⟩ := okWide_slice hT hv
  obtain ⟨fuel, hf⟩ := h
  exact slice_of_trod hT hE hc1 hf
theorem bounds64 {t : Int} (h : (Lit.int .i64 t).wf = true) : -9223372036854775808 ≤ t ∧ t ≤ 9223372036854775807 := by
  simpa [Lit.wf, IntKind.min, IntKind.max, IntKind.signed, IntKind.bits] using h
end
end Go.Proofs.Ytlkpnecionpnhaa
