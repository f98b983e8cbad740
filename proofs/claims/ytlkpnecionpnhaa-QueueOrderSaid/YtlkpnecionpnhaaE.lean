/- Pour, Put. -/
import Derived.Test.YtlkpnecionpnhaaF
namespace Go.Proofs.Ytlkpnecionpnhaa
open Go.RowKit

/-- How many of l there is room for behind q. -/
def pourK (q l : List Msg) (room : Nat) : Nat := min l.length (room - q.length)
def pourL (q l : List Msg) (room : Nat) : List Msg := q ++ l.take (pourK q l room)
/-- A queue comes back, a number, and an error's number. -/
def GivesP (p : List Msg) (n er : Int) (w : World) (e : Ending) (w' : World) : Prop :=
  ∃ B cp, e = .returned (.tuple #[.slice B p.length cp, .int .i64 n, .int .i64 er]) ∧ p.length ≤ cp ∧ Rq w' B p ∧ Below w.heap.size w w'
def GivesQ (p : List Msg) (er : Int) (w : World) (e : Ending) (w' : World) : Prop :=
  ∃ B cp, e = .returned (.tuple #[.slice B p.length cp, .int .i64 er]) ∧ p.length ≤ cp ∧ Rq w' B p ∧ Below w.heap.size w w'

theorem below_grown_chan {w0 w w' : World} {B c : Nat} (hb : Below B w0 w) (hB : B ≤ w0.heap.size) (hc : B ≤ c) (hg : w.grownBy w' (some c)) : Below B w0 w' :=
  hb.grown hg (Nat.le_trans hB hb.size) (fun k hk => by cases hk; exact hc)

set_option maxRecDepth 100000 in
set_option maxHeartbeats 4000000 in
theorem pour_bad (A : Option Addr) (q : List Msg) (c : Nat) (A' : Option Addr) (l : List Msg) (c' : Nat) (room : Int) (w : World) (hq : Rq w A q) (hcq : q.length ≤ c) (hr : room < 1 ∨ 64 < room) :
    Calls Try.prog 11 #[.slice A q.length c, .slice A' l.length c', .int .i64 room] w (GivesP q 0 1 w) := by
  have HQ := Lib.hid hq
  have HC := Lib.hid hcq
  clear hq hcq
  rcases hr with h | h
  · have t1 : decide (room < 1) = true := decide_eq_true h
    go_enter Try.func11, Try.ntmps11
    go_wp2_with fail
    go_ret3
    exact ⟨A, c, rfl, HC.out, HQ.out, Below.refl _ _⟩
  · have t1 : decide (room < 1) = false := decide_eq_false (by omega)
    have t2 : decide (64 < room) = true := decide_eq_true h
    go_enter Try.func11, Try.ntmps11
    go_wp2_with fail
    go_ret3
    exact ⟨A, c, rfl, HC.out, HQ.out, Below.refl _ _⟩

set_option maxRecDepth 100000 in
set_option maxHeartbeats 4000000 in
theorem pour_over (A : Option Addr) (q : List Msg) (c : Nat) (A' : Option Addr) (l : List Msg) (c' : Nat) (room : Nat) (w : World) (hq : Rq w A q) (hcq : q.length ≤ c) (hql : q.length ≤ 1000) (h1 : 1 ≤ room) (h64 : room ≤ 64) (hlt : room < q.length) :
    Calls Try.prog 11 #[.slice A q.length c, .slice A' l.length c', .int .i64 room] w (GivesP q 0 0 w) := by
  have HQ := Lib.hid hq
  have HC := Lib.hid hcq
  have t1 : decide ((room : Int) < 1) = false := decide_eq_false (by omega)
  have t1b : decide (room < 1) = false := decide_eq_false (by omega)
  have t2 : decide ((64 : Int) < room) = false := decide_eq_false (by omega)
  have t2b : decide (64 < room) = false := decide_eq_false (by omega)
  have t3 : decide ((room : Int) < q.length) = true := decide_eq_true (by omega)
  have t3b : decide (room < q.length) = true := decide_eq_true (by omega)
  clear hq hcq
  go_enter Try.func11, Try.ntmps11
  go_wp2_with fail
  refine (begin_any room w h64).mono ?_
  rintro e w1 ⟨ch, rfl, hch, hc1, hb1⟩
  have HCH := Lib.hid hc1
  have HB1 := Lib.hid hb1
  have HQ1 := Lib.hid (HQ.out.below hb1)
  unfold lineV
  clear hc1 hb1
  go_wp2_with fail
  have hc2 : (w1.alloc (.cells #[.chan (some ch)] 50)).heap[ch]? = some (.chan room #[] false 0 0 false) := (Below.heap_alloc w1 _ ch (chan_lt HCH.out)).trans HCH.out
  refine (fill_any ch room 0 0 #[] A q c _ hc2 (HQ1.out.alloc _) (by simp) (by omega)).mono ?_
  rintro e w2 ⟨k, s', hk, rfl, hg2, hc2'⟩
  have hkr : k = room := by simp at hk; omega
  clear hk
  subst hkr
  have HB2 := Lib.hid (below_grown_chan (HB1.out.alloc HB1.out.size _) (Nat.le_refl _) hch hg2)
  clear hg2 hc2' hc2
  go_wp2_with fail
  go_ret3
  exact ⟨A, c, rfl, HC.out, HQ.out.below HB2.out, HB2.out⟩

set_option maxRecDepth 100000 in
set_option maxHeartbeats 4000000 in
theorem pour_room (A : Option Addr) (q : List Msg) (c : Nat) (A' : Option Addr) (l : List Msg) (c' : Nat) (room : Nat) (w : World) (hq : Rq w A q) (hl : Rq w A' l) (hll : l.length ≤ 1000) (h1 : 1 ≤ room) (h64 : room ≤ 64) (hle : q.length ≤ room) :
    Calls Try.prog 11 #[.slice A q.length c, .slice A' l.length c', .int .i64 room] w (GivesP (pourL q l room) (pourK q l room) 0 w) := by
  have HQ := Lib.hid hq
  have HL := Lib.hid hl
  have t1 : decide ((room : Int) < 1) = false := decide_eq_false (by omega)
  have t1b : decide (room < 1) = false := decide_eq_false (by omega)
  have t2 : decide ((64 : Int) < room) = false := decide_eq_false (by omega)
  have t2b : decide (64 < room) = false := decide_eq_false (by omega)
  clear hq hl
  go_enter Try.func11, Try.ntmps11
  go_wp2_with fail
  refine (begin_any room w h64).mono ?_
  rintro e w1 ⟨ch, rfl, hch, hc1, hb1⟩
  have HCH := Lib.hid hc1
  have HB1 := Lib.hid hb1
  have HQ1 := Lib.hid (HQ.out.below hb1)
  unfold lineV
  clear hc1 hb1
  go_wp2_with fail
  have hclt := chan_lt HCH.out
  have hc2 : (w1.alloc (.cells #[.chan (some ch)] 50)).heap[ch]? = some (.chan room #[] false 0 0 false) := (Below.heap_alloc w1 _ ch hclt).trans HCH.out
  have hbk : Blk (w1.alloc (.cells #[.chan (some ch)] 50)) w1.heap.size 50 #[.chan (some ch)] := Blk.new w1 50 _
  refine (fill_any ch room 0 0 #[] A q c _ hc2 (HQ1.out.alloc _) (by simp) (by omega)).mono ?_
  rintro e w2 ⟨k, s', hk, rfl, hg2, hc3⟩
  have hkr : k = q.length := by simp at hk; omega
  clear hk
  subst hkr
  have HB2 := Lib.hid (below_grown_chan (HB1.out.alloc HB1.out.size _) (Nat.le_refl _) hch hg2)
  have hbk2 : Blk w2 w1.heap.size 50 #[.chan (some ch)] := hbk.grown hg2 (by simp; omega)
  have HBK2 := Lib.hid hbk2
  have hbx : w2.cell? ⟨w1.heap.size, 0, none⟩ = some (.chan (some ch)) := hbk2.cell 0
  rw [List.take_length] at hc3
  have HC3 := Lib.hid hc3
  have HL2 := Lib.hid (HL.out.below HB2.out)
  have HLT := Lib.hid hclt
  clear hg2 hc3 hc2 hbk hbk2 hclt
  go_wp2_with fail
  refine (fill_any ch room s' 0 _ A' l c' _ HC3.out HL2.out (by simp; omega) (by omega)).mono ?_
  rintro e w3 ⟨k, s2, hk, rfl, hg3, hc4⟩
  have hkr : k = pourK q l room := by simp at hk; unfold pourK; omega
  clear hk
  subst hkr
  have HB3 := Lib.hid (below_grown_chan HB2.out (Nat.le_refl _) hch hg3)
  have hbk3 := HBK2.out.grown hg3 (by simp; have := HLT.out; omega)
  have hbx3 : w3.cell? ⟨w1.heap.size, 0, none⟩ = some (.chan (some ch)) := hbk3.cell 0
  have hc5 : w3.heap[ch]? = some (.chan room ((pourL q l room).map Msg.v).toArray false s2 0 false) := by
    rw [hc4]
    unfold pourL
    simp
  have HC5 := Lib.hid hc5
  clear hg3 hc4 hc5 hbk3 hbx
  have hpl : (pourL q l room).length ≤ 64 := by unfold pourL pourK; simp; omega
  have HPL := Lib.hid hpl
  clear hpl
  go_wp2_with fail
  refine (all_any ch room s2 0 (pourL q l room) w3 HC5.out HPL.out).mono ?_
  rintro e w4 ⟨B4, c4, rfl, hown4, hg4⟩
  have HB4 := Lib.hid (below_grown_chan HB3.out (Nat.le_refl _) hch hg4)
  have hQ4 := HQ.out.below HB4.out
  have hL4 := HL.out.below HB4.out
  have hmem : ∀ m ∈ pourL q l room, Rb w4 m.A m.xs := fun m hm => by
    rcases List.mem_append.1 hm with h | h
    · exact hQ4.each m h
    · exact hL4.each m (List.mem_of_mem_take h)
  obtain ⟨B5, c5, e5, hc5, hr5⟩ := Rq.of_own rfl hown4 (by have := HPL.out; unfold maxLen; omega) hmem
  cases e5
  have HR5 := Lib.hid hr5
  have HCC := Lib.hid hc5
  clear hown4 hg4 hQ4 hL4 hmem hr5 hc5 hbx3
  generalize pourK q l room = kk at *
  generalize pourL q l room = pp at *
  go_wp2_with fail
  go_ret3
  exact ⟨B4, c4, rfl, HCC.out, HR5.out, HB4.out⟩
end Go.Proofs.Ytlkpnecionpnhaa
