/- A message put: the new queue lies in a new block; steps that come in. -/
import Derived.Test.YtlkpnecionpnhaaK
namespace Go.Proofs.Ytlkpnecionpnhaa
open Go.ChangeShapes Go.WideShapes Go.ChangeAt Go.RowKit

def FreshP (p : List Msg) (n : Int) (w : World) (e : Ending) (w' : World) : Prop :=
  ∃ B cp, e = .returned (.tuple #[.slice B p.length cp, .int .i64 n, .int .i64 0]) ∧ p.length ≤ cp ∧ Rq w' B p ∧ Below w.heap.size w w' ∧ ∀ b off, B = some ⟨b, off, none⟩ → w.heap.size ≤ b
def FreshQ (p : List Msg) (w : World) (e : Ending) (w' : World) : Prop :=
  ∃ B cp, e = .returned (.tuple #[.slice B p.length cp, .int .i64 0]) ∧ p.length ≤ cp ∧ Rq w' B p ∧ Below w.heap.size w w' ∧ ∀ b off, B = some ⟨b, off, none⟩ → w.heap.size ≤ b
theorem own_fresh {w : World} {base : Nat} {e : TypeId} {size : Nat} {B : Option Addr} {m c n : Nat} {vs : List Value} (h : w.ownsRow base e size (.slice B m c) n vs) : ∀ b off, B = some ⟨b, off, none⟩ → base ≤ b := fun b off hB => by
  rcases h.2 with ⟨e, _⟩ | ⟨g, cap, cur, e, hge, _⟩
  · rw [hB] at e; cases e
  · rw [hB] at e; cases e; exact hge

set_option maxRecDepth 100000 in
set_option maxHeartbeats 4000000 in
theorem pour_fresh (A : Option Addr) (q : List Msg) (c : Nat) (A' : Option Addr) (l : List Msg) (c' : Nat) (room : Nat) (w : World) (hq : Rq w A q) (hl : Rq w A' l) (hll : l.length ≤ 1000) (h1 : 1 ≤ room) (h64 : room ≤ 64) (hle : q.length ≤ room) :
    Calls Try.prog 11 #[.slice A q.length c, .slice A' l.length c', .int .i64 room] w (FreshP (pourL q l room) (pourK q l room) w) := by
  have HQ := Lib.hid hq
  have HL := Lib.hid hl
  have t1 : decide ((room : Int) < 1) = false := decide_eq_false (by omega)
  have t1b : decide (room < 1) = false := decide_eq_false (by omega)
  have t2 : decide ((64 : Int) < room) = false := decide_eq_false (by omega)
  have t2b : decide (64 < room) = false := decide_eq_false (by omega)
  clear hq hl
  go_enter Try.func11, Try.ntmps11
  go_wp2_with fail
  refine (begin_any room w h64).mono ?_
  rintro e w1 ⟨ch, rfl, hch, hc1, hb1⟩
  have HCH := Lib.hid hc1
  have HB1 := Lib.hid hb1
  have HQ1 := Lib.hid (HQ.out.below hb1)
  unfold lineV
  clear hc1 hb1
  go_wp2_with fail
  have hclt := chan_lt HCH.out
  have hc2 : (w1.alloc (.cells #[.chan (some ch)] 50)).heap[ch]? = some (.chan room #[] false 0 0 false) := (Below.heap_alloc w1 _ ch hclt).trans HCH.out
  have hbk : Blk (w1.alloc (.cells #[.chan (some ch)] 50)) w1.heap.size 50 #[.chan (some ch)] := Blk.new w1 50 _
  refine (fill_any ch room 0 0 #[] A q c _ hc2 (HQ1.out.alloc _) (by simp) (by omega)).mono ?_
  rintro e w2 ⟨k, s', hk, rfl, hg2, hc3⟩
  have hkr : k = q.length := by simp at hk; omega
  clear hk
  subst hkr
  have HB2 := Lib.hid (below_grown_chan (HB1.out.alloc HB1.out.size _) (Nat.le_refl _) hch hg2)
  have hbk2 : Blk w2 w1.heap.size 50 #[.chan (some ch)] := hbk.grown hg2 (by simp; omega)
  have HBK2 := Lib.hid hbk2
  have hbx : w2.cell? ⟨w1.heap.size, 0, none⟩ = some (.chan (some ch)) := hbk2.cell 0
  rw [List.take_length] at hc3
  have HC3 := Lib.hid hc3
  have HL2 := Lib.hid (HL.out.below HB2.out)
  have HLT := Lib.hid hclt
  clear hg2 hc3 hc2 hbk hbk2 hclt
  go_wp2_with fail
  refine (fill_any ch room s' 0 _ A' l c' _ HC3.out HL2.out (by simp; omega) (by omega)).mono ?_
  rintro e w3 ⟨k, s2, hk, rfl, hg3, hc4⟩
  have hkr : k = pourK q l room := by simp at hk; unfold pourK; omega
  clear hk
  subst hkr
  have HB3 := Lib.hid (below_grown_chan HB2.out (Nat.le_refl _) hch hg3)
  have hbk3 := HBK2.out.grown hg3 (by simp; have := HLT.out; omega)
  have hbx3 : w3.cell? ⟨w1.heap.size, 0, none⟩ = some (.chan (some ch)) := hbk3.cell 0
  have hc5 : w3.heap[ch]? = some (.chan room ((pourL q l room).map Msg.v).toArray false s2 0 false) := by
    rw [hc4]
    unfold pourL
    simp
  have HC5 := Lib.hid hc5
  clear hg3 hc4 hc5 hbk3 hbx
  have hpl : (pourL q l room).length ≤ 64 := by unfold pourL pourK; simp; omega
  have HPL := Lib.hid hpl
  clear hpl
  go_wp2_with fail
  refine (all_any ch room s2 0 (pourL q l room) w3 HC5.out HPL.out).mono ?_
  rintro e w4 ⟨B4, c4, rfl, hown4, hg4⟩
  have HB4 := Lib.hid (below_grown_chan HB3.out (Nat.le_refl _) hch hg4)
  have hQ4 := HQ.out.below HB4.out
  have hL4 := HL.out.below HB4.out
  have hmem : ∀ m ∈ pourL q l room, Rb w4 m.A m.xs := fun m hm => by
    rcases List.mem_append.1 hm with h | h
    · exact hQ4.each m h
    · exact hL4.each m (List.mem_of_mem_take h)
  have hfr := own_fresh hown4
  have HFR := Lib.hid (fun b off e => Nat.le_trans HB3.out.size (hfr b off e))
  clear hfr
  obtain ⟨B5, c5, e5, hc5, hr5⟩ := Rq.of_own rfl hown4 (by have := HPL.out; unfold maxLen; omega) hmem
  cases e5
  have HR5 := Lib.hid hr5
  have HCC := Lib.hid hc5
  clear hown4 hg4 hQ4 hL4 hmem hr5 hc5 hbx3
  generalize pourK q l room = kk at *
  generalize pourL q l room = pp at *
  go_wp2_with fail
  go_ret3
  exact ⟨B4, c4, rfl, HCC.out, HR5.out, HB4.out, HFR.out⟩

set_option maxRecDepth 100000 in
set_option maxHeartbeats 4000000 in
theorem put_fresh (A : Option Addr) (q : List Msg) (c : Nat) (A' : Option Addr) (xs : List Int) (cb : Nat) (room : Nat) (w : World) (hq : Rq w A q) (hb : Rb w A' xs) (h1 : 1 ≤ room) (h64 : room ≤ 64) (hlt : q.length < room) :
    Calls Try.prog 9 #[.slice A q.length c, .slice A' xs.length cb, .int .i64 room] w (FreshQ (q ++ [⟨A', xs, cb⟩]) w) := by
  have HQ := Lib.hid hq
  have HL := Lib.hid (one_msg (cb := cb) hb)
  have HE : Hid (pourK q [⟨A', xs, cb⟩] room = 1) := Lib.hid (by unfold pourK; simp; omega)
  have HE2 : Hid (pourL q [⟨A', xs, cb⟩] room = q ++ [⟨A', xs, cb⟩]) := Lib.hid (by unfold pourL; rw [HE.out]; rfl)
  clear hq hb
  go_enter Try.func9, Try.ntmps9
  go_wp2_with fail
  refine (pour_fresh A q c _ [⟨A', xs, cb⟩] 1 room _ (HQ.out.alloc _) HL.out (by simp) h1 h64 (by omega)).mono ?_
  rw [HE.out, HE2.out]
  generalize q ++ [⟨A', xs, cb⟩] = pp at *
  rintro e w2 ⟨B2, c2, rfl, hc2, h2, hb, hf⟩
  have HF : Hid (∀ b off, B2 = some ⟨b, off, none⟩ → w.heap.size ≤ b) := Lib.hid (fun b off e => by have := hf b off e; simp at this; omega)
  clear hf
  have H2 := Lib.hid h2
  have HC2 := Lib.hid hc2
  have HB2 := Lib.hid (((Below.refl _ w).alloc (Nat.le_refl _) (.cells #[.slice A' xs.length cb] 23)).trans (hb.mono (by simp)))
  clear hb h2 hc2
  go_wp2_with fail
  go_ret2
  exact ⟨B2, c2, rfl, HC2.out, H2.out, HB2.out, HF.out⟩


/-- A row of the call's own lies in a block of its own. -/
theorem own_at {w : World} {base : Nat} {B : Option Addr} {cap n : Nat} {vs : List Value} (h : w.ownsRow base 23 1 (.slice B n cap) n vs) (hn : 0 < n) :
    ∃ g, B = some ⟨g, 0, none⟩ ∧ base ≤ g ∧ g < w.heap.size ∧ ∀ j u, vs[j]? = some u → w.cell? ⟨g, j, none⟩ = some u := by
  rcases h.2 with ⟨_, h0⟩ | ⟨g, cap', cur, e, hbg, hg, hnc, _, hcs, htake⟩
  · omega
  · cases e
    refine ⟨g, rfl, hbg, ?_, fun j u hj => ?_⟩
    · rcases Nat.lt_or_ge g w.heap.size with h' | h'
      · exact h'
      · rw [Array.getElem?_eq_none h'] at hg; cases hg
    · rw [cell_of_row w g j cur 23 (0, 0) hg]
      rw [← htake, List.getElem?_take] at hj
      split at hj
      · simpa using hj
      · cases hj
/-- What does not lie in the row that is appended to reads as it did. -/
theorem Rv.past {w w' : World} {A : Option Addr} {us : List Value} (h : Rv w A us) {v : Value} (hg : w.grownBy w' v.ownBlock) (hne : ∀ b off, A = some ⟨b, off, none⟩ → v.ownBlock ≠ some b) : Rv w' A us :=
  ⟨h.len, h.one, fun h0 => by
    obtain ⟨b, off, e, hlt, hc⟩ := h.cells h0
    refine ⟨b, off, e, Nat.lt_of_lt_of_le hlt hg.size, fun j u hj => ?_⟩
    exact hg.cell (hc j u hj) (fun h' => hne b off e h'.symm)⟩
theorem own_block_lt {w : World} {base : Nat} {e : TypeId} {size : Nat} {v : Value} {n : Nat} {vs : List Value} (h : w.ownsRow base e size v n vs) {b : Nat} (hb : w.heap.size ≤ b) : v.ownBlock ≠ some b := fun e' => by
  have := h.lt b e'
  omega

/-- A step: is one taken? Else its message is put. -/
structure Stp where
  take : Bool
  m : Msg
def Stp.none : Stp := ⟨false, Msg.none⟩
instance : Inhabited Stp := ⟨Stp.none⟩
structure Rst (w : World) (A : Option Addr) (l : List Stp) : Prop where
  len : l.length ≤ maxLen
  cells : 0 < l.length → ∃ b off, A = some ⟨b, off, none⟩ ∧ ∀ j, j < l.length → w.cell? ⟨b, off + j * 2, none⟩ = some (.bool (l.getD j Stp.none).take) ∧ w.cell? ⟨b, off + j * 2 + 1, none⟩ = some (l.getD j Stp.none).m.v
  each : ∀ s ∈ l, Rb w s.m.A s.m.xs
theorem Rst.keep {w w' : World} {A : Option Addr} {l : List Stp} (h : Rst w A l) (hb : Keep w w') : Rst w' A l :=
  ⟨h.len, fun h0 => by
    obtain ⟨b, off, e, hc⟩ := h.cells h0
    exact ⟨b, off, e, fun j hj => ⟨hb.cell _ _ (hc j hj).1, hb.cell _ _ (hc j hj).2⟩⟩, fun s hs => (h.each s hs).keep hb⟩
theorem Rst.below {w w' : World} {A : Option Addr} {l : List Stp} (h : Rst w A l) (hb : Below w.heap.size w w') : Rst w' A l := h.keep (Keep.of_below hb)
theorem Rst.msg {w : World} {A : Option Addr} {l : List Stp} (h : Rst w A l) {j : Nat} (hj : j < l.length) : Rb w (l.getD j Stp.none).m.A (l.getD j Stp.none).m.xs := h.each _ (by
  rw [List.getD_eq_getElem?_getD, List.getElem?_eq_getElem hj]; exact List.getElem_mem hj)

theorem cells_at2 {w : World} {a : Addr} {n : Nat} {V0 V1 : Nat → Value} (h : ∀ i, i < n → w.cell? (a.add (i * 2)) = some (V0 i) ∧ w.cell? (a.add (i * 2 + 1)) = some (V1 i)) (hp : 0 < n) :
    ∃ b off, a = ⟨b, off, none⟩ ∧ ∀ j, j < n → w.cell? ⟨b, off + j * 2, none⟩ = some (V0 j) ∧ w.cell? ⟨b, off + j * 2 + 1, none⟩ = some (V1 j) := by
  obtain ⟨b, off, spot⟩ := a
  have hspot : spot = none := by simpa [Addr.add] using World.cell?_spot (h 0 hp).1
  subst hspot
  refine ⟨b, off, rfl, fun j hj => ?_⟩
  have hj' := h j hj
  rw [Go.WideShapes.add_plain, Go.WideShapes.add_plain] at hj'
  exact hj'

section
variable {H : Type} {enc : TypeId × Value → H}
theorem open_steps {W : World} {d : DataW H} {p : List MemPlace} {base : Nat} {v : Value} (hv : Value.okWide Try.prog W .any base 42 v)
    (h : DataW.Trod enc Try.prog W 0 (fun _ => true) true 42 v d p) : ∃ (A : Option Addr) (l : List Stp) (c : Nat), v = .slice A l.length c ∧ Rst W A l := by
  obtain ⟨a0, n0, c0, rfl⟩ := okWide_slice Try.underlying42 hv
  obtain ⟨fuel, hf⟩ := h
  have hf : DataW.trod enc Try.prog W 0 (fun _ => true) true fuel 42 [.slice a0 n0 c0] = some (d, p) := hf
  rcases Go.Deep.open_slice_pairs Try.underlying42 Try.underlying44 (by kernel_rfl) rfl rfl (by kernel_rfl) (by kernel_rfl) hf with ⟨hcs, _⟩ | ⟨a, len, cap, m, n, V0, V1, D0, D1, P0, P1, hcs, _, hl, hm, hmm, _, hV⟩
  · simp only [List.cons.injEq, and_true] at hcs
    rw [hcs]
    exact ⟨none, [], 0, rfl, ⟨Nat.zero_le _, fun h => absurd h (by simp), fun s h => by cases h⟩⟩
  · simp only [List.cons.injEq, and_true] at hcs
    rw [hcs]
    simp only [if_true] at hmm
    subst hmm
    obtain ⟨F, hF⟩ := Go.Deep.choose_lt (α := Stp) (n := len) (p := fun i s => V0 i = .bool s.take ∧ V1 i = s.m.v ∧ Rb W s.m.A s.m.xs) (fun i hi => by
      obtain ⟨_, _, g0, g1⟩ := hV i (by omega)
      obtain ⟨b, e0, _⟩ := DataW.trod_bool Try.underlying4 g0
      obtain ⟨m', e1, hr⟩ := bytes_of_trod g1
      simp only [List.cons.injEq, and_true] at e0
      exact ⟨⟨b, m'⟩, e0, e1, hr⟩)
    have hlen : ((List.range len).map F).length = len := by simp
    have hget : ∀ j, j < len → ((List.range len).map F).getD j Stp.none = F j := fun j hj => by rw [List.getD_eq_getElem?_getD, List.getElem?_map, List.getElem?_range hj]; rfl
    refine ⟨some a, (List.range len).map F, m, by rw [hlen], ⟨by rw [hlen]; omega, fun h0 => ?_, fun s hs => ?_⟩⟩
    · rw [hlen] at h0
      obtain ⟨b, off, rfl, hc⟩ := cells_at2 (V0 := V0) (V1 := V1) (fun i hi => ⟨(hV i hi).1, (hV i hi).2.1⟩) (show 0 < m by omega)
      refine ⟨b, off, rfl, fun j hj => ?_⟩
      rw [hlen] at hj
      rw [hget j hj, (hc j (by omega)).1, (hc j (by omega)).2, (hF j hj).1, (hF j hj).2.1]
      exact ⟨rfl, rfl⟩
    · obtain ⟨j, hj, rfl⟩ := List.mem_map.1 hs
      exact (hF j (List.mem_range.1 hj)).2.2
end
end Go.Proofs.Ytlkpnecionpnhaa
