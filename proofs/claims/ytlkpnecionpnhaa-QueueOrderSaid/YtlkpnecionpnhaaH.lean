/- Rows compared: Same, Rows, EqualFunc. -/
import Derived.Test.YtlkpnecionpnhaaG
import Derived.Laws.BytesArg
import Derived.Deep.RegionHeld3
import Derived.Deep.DrawnRows
namespace Go.Proofs.Ytlkpnecionpnhaa
open Go.RowKit
attribute [local go_sem ↓] Go.wp_at_zero Go.wp_at_succ

def sameL (xs ys : List Int) : Bool := xs == ys

theorem run_convert_zero (w : World) (src e : TypeId) (hs : Try.prog.underlying src = some (.slice e)) (he : Try.prog.underlying e = some (.int .u8)) (p : Option Addr) (c : Nat) :
    ∀ dst, Try.prog.underlying dst = some .string → (convert src dst (.slice p 0 c)).run Try.prog w = .ok (.string ByteArray.empty) w := by
  intro dst hd
  rw [run_convert_bytes_string w src dst e _ 0 c hs he hd]
  cases p <;> simp [Conv.bytesToString, loadCells]
  all_goals rfl

theorem Rs.convert {w : World} {A : Option Addr} {xs : List Int} (h : Rb w A xs) (c : Nat) : (convert 23 9 (.slice A xs.length c)).run Try.prog w = .ok (.string (strOfNums xs)) w := by
  rcases Nat.eq_zero_or_pos xs.length with h0 | h0
  · obtain rfl : xs = [] := List.eq_nil_of_length_eq_zero h0
    exact run_convert_zero w 23 5 Try.underlying23 Try.underlying5 A c 9 Try.underlying9
  · obtain ⟨b, off, rfl, _, hc⟩ := h.cells h0
    exact run_convert_bytes_arg (P := Try.prog) w 23 5 Try.underlying23 Try.underlying5 b off xs.length c xs rfl hc 9 Try.underlying9

theorem str_inj {xs ys : List Int} (hx : ∀ x ∈ xs, 0 ≤ x ∧ x ≤ 255) (hy : ∀ x ∈ ys, 0 ≤ x ∧ x ≤ 255) (h : xs.map (fun n => UInt8.ofNat n.toNat) = ys.map fun n => UInt8.ofNat n.toNat) : xs = ys := by
  induction xs generalizing ys with
  | nil => cases ys with
    | nil => rfl
    | cons y ys => simp at h
  | cons x xs ih => cases ys with
    | nil => simp at h
    | cons y ys =>
      simp only [List.map_cons, List.cons.injEq] at h
      have h1 := congrArg UInt8.toNat h.1
      have hx0 := hx x (by simp)
      have hy0 := hy y (by simp)
      simp only [UInt8.toNat_ofNat'] at h1
      have hxy : x = y := by omega
      rw [hxy, ih (fun z hz => hx z (by simp [hz])) (fun z hz => hy z (by simp [hz])) h.2]

theorem str_beq {xs ys : List Int} (hx : ∀ x ∈ xs, 0 ≤ x ∧ x ≤ 255) (hy : ∀ x ∈ ys, 0 ≤ x ∧ x ≤ 255) : ((strOfNums xs).toList == (strOfNums ys).toList) = sameL xs ys := by
  have e : ∀ zs : List Int, (strOfNums zs).toList = zs.map fun n => UInt8.ofNat n.toNat := fun zs => by rw [ByteArray.toList_eq]; rfl
  rw [e, e]
  unfold sameL
  rw [Bool.eq_iff_iff, beq_iff_eq, beq_iff_eq]
  exact ⟨str_inj hx hy, fun h => by rw [h]⟩

set_option maxRecDepth 100000 in
set_option maxHeartbeats 2000000 in
theorem rsame_any (A A' : Option Addr) (xs ys : List Int) (c c' : Nat) (w : World) (hx : Rb w A xs) (hy : Rb w A' ys) :
    Calls Try.prog 16 #[.slice A xs.length c, .slice A' ys.length c'] w fun e w' => e = .returned (.bool (sameL xs ys)) ∧ w' = w := by
  have h1 := hx.convert c
  have h2 := hy.convert c'
  have HS := Lib.hid (str_beq hx.byte hy.byte)
  generalize strOfNums xs = s1 at *
  generalize strOfNums ys = s2 at *
  clear hx hy
  go_enter Try.func16, Try.ntmps16
  go_wp2
  go_ret
  exact ⟨by rw [← HS.out]; rfl, rfl⟩

set_option maxRecDepth 100000 in
set_option maxHeartbeats 2000000 in
theorem beq_any (A A' : Option Addr) (xs ys : List Int) (c c' : Nat) (w : World) (hx : Rb w A xs) (hy : Rb w A' ys) :
    Calls Try.prog 23 #[.slice A xs.length c, .slice A' ys.length c'] w fun e w' => e = .returned (.bool (sameL xs ys)) ∧ w' = w := by
  have h1 := hx.convert c
  have h2 := hy.convert c'
  have HS := Lib.hid (str_beq hx.byte hy.byte)
  generalize strOfNums xs = s1 at *
  generalize strOfNums ys = s2 at *
  clear hx hy
  go_enter Try.func23, Try.ntmps23
  go_wp2
  go_ret
  exact ⟨by rw [← HS.out]; rfl, rfl⟩

/-- Are two queues' bytes the same? -/
def rowsB (q p : List Msg) : Bool := bytesQ q == bytesQ p
theorem rows_self (q : List Msg) : rowsB q q = true := by unfold rowsB; simp
theorem bytesQ_len (q : List Msg) : (bytesQ q).length = q.length := by unfold bytesQ; simp
theorem rows_len {q p : List Msg} (h : q.length ≠ p.length) : rowsB q p = false := by
  unfold rowsB
  rw [beq_eq_false_iff_ne]
  intro e
  have := congrArg List.length e
  rw [bytesQ_len, bytesQ_len] at this
  exact h this
theorem bytesQ_step {q : List Msg} {k : Nat} (h : k < q.length) : bytesQ (q.take (k + 1)) = bytesQ (q.take k) ++ [(q.getD k Msg.none).xs] := by
  unfold bytesQ
  rw [List.take_succ_eq_append_getElem h, List.getD_eq_getElem?_getD, List.getElem?_eq_getElem h, List.map_append]; rfl
theorem rows_step {q p : List Msg} {k : Nat} (h : k < q.length) (h' : k < p.length) (ht : bytesQ (q.take k) = bytesQ (p.take k)) :
    (sameL (q.getD k Msg.none).xs (p.getD k Msg.none).xs = true → bytesQ (q.take (k + 1)) = bytesQ (p.take (k + 1))) ∧ (sameL (q.getD k Msg.none).xs (p.getD k Msg.none).xs = false → rowsB q p = false) := by
  constructor
  · intro e
    rw [bytesQ_step h, bytesQ_step h', ht]
    unfold sameL at e
    rw [eq_of_beq e]
  · intro e
    unfold rowsB
    rw [beq_eq_false_iff_ne]
    intro e'
    unfold sameL at e
    rw [beq_eq_false_iff_ne] at e
    apply e
    have e2 : bytesQ (q.take (k + 1)) = bytesQ (p.take (k + 1)) := by
      have := congrArg (List.take (k + 1)) e'
      unfold bytesQ at this ⊢
      rwa [← List.map_take, ← List.map_take] at this
    rw [bytesQ_step h, bytesQ_step h', ht] at e2
    simpa using e2

theorem Rs.drewN {k : IntKind} {w : World} {A : Option Addr} {xs : List Int} (h : Rs k w A xs) (n : Nat) : Rs k (w.drewN n) A xs := ⟨h.len, h.wf, h.cells⟩

set_option maxRecDepth 100000 in
set_option maxHeartbeats 4000000 in
theorem rows_any (A : Option Addr) (q : List Msg) (c : Nat) (A' : Option Addr) (p : List Msg) (c' : Nat) (w : World) (hq : Rq w A q) (hp : Rq w A' p) :
    Calls Try.prog 15 #[.slice A q.length c, .slice A' p.length c'] w fun e w' => e = .returned (.bool (rowsB q p)) ∧ Below w.heap.size w w' := by
  have hm := hq.len
  have hm' := hp.len
  unfold maxLen at hm hm'
  have HQ := Lib.hid hq
  have HP := Lib.hid hp
  cases hll : q.length == p.length
  · have hne : q.length ≠ p.length := by simpa using hll
    have HV := Lib.hid (rows_len hne)
    have d1 : (q.length != p.length) = true := by simpa using hll
    have d0 : ((q.length : Int) == p.length) = false := by simp at hll ⊢; omega
    clear hq hp hne hll
    go_enter Try.func15, Try.ntmps15
    go_wp2_with fail
    go_ret
    exact ⟨by rw [HV.out]; rfl, Below.refl _ _⟩
  · have hl : q.length = p.length := eq_of_beq hll
    have HL := Lib.hid hl
    have d1 : (q.length != p.length) = false := by simpa using hl
    have d1i : ((q.length : Int) != p.length) = false := by rw [bne_eq_false_iff_eq]; omega
    clear hll hl hq hp
    go_enter Try.func15, Try.ntmps15
    go_wp2_with fail
    go_loopw [5] (fun i wr => ∃ k : Nat, k ≤ q.length ∧ i = .int .i64 k ∧ Hid (bytesQ (q.take k) = bytesQ (p.take k)) ∧ Hid (∃ n, wr = w.drewN n)) (fun i _ => q.length - (intOf i).toNat)
    case atStart => exact ⟨0, by omega, rfl, Lib.hid rfl, Lib.hid ⟨0, rfl⟩⟩
    case round =>
      obtain ⟨k, hk, rfl, HT, HW⟩ := hrel
      obtain ⟨n, rfl⟩ := HW.out
      clear HW
      by_cases hlt : k < q.length
      · have hl := HL.out
        have hlt' : k < p.length := by omega
        clear hl
        obtain ⟨b, off, rfl, hc⟩ := HQ.out.cell hlt
        obtain ⟨b', off', rfl, hc'⟩ := HP.out.cell hlt'
        have hx := HQ.out.msg hlt
        have hy := HP.out.msg hlt'
        have kl : (k : Int) < q.length := by omega
        have kl' : (k : Int) < p.length := by omega
        have HE := Lib.hid (rows_step hlt hlt' HT.out)
        generalize q.getD k Msg.none = m1 at *
        generalize p.getD k Msg.none = m2 at *
        obtain ⟨A1, x1, c1⟩ := m1
        obtain ⟨A2, x2, c2⟩ := m2
        have hck : w.cell? ⟨b, off + k, none⟩ = some (.slice A1 x1.length c1) := hc
        have hck' : w.cell? ⟨b', off' + k, none⟩ = some (.slice A2 x2.length c2) := hc'
        have hx1 : Rb w A1 x1 := hx
        have hy1 : Rb w A2 x2 := hy
        have h1 : ∀ n, (convert 23 9 (.slice A1 x1.length c1)).run Try.prog (w.drewN n) = .ok (.string (strOfNums x1)) (w.drewN n) := fun n => (hx1.drewN n).convert c1
        have h2 : ∀ n, (convert 23 9 (.slice A2 x2.length c2)).run Try.prog (w.drewN n) = .ok (.string (strOfNums x2)) (w.drewN n) := fun n => (hy1.drewN n).convert c2
        have hs := str_beq hx1.byte hy1.byte
        generalize strOfNums x1 = s1 at *
        generalize strOfNums x2 = s2 at *
        clear hc hc' hx hy hx1 hy1
        simp only at HE hs
        generalize sameL x1 x2 = bb at *
        cases bb
        · have HN := Lib.hid (HE.out.2 rfl)
          go_wp2_with fail
          go_quiet (fail)
          go_wp2_with fail
          go_ret
          exact ⟨by rw [HN.out]; rfl, below_drewN (below_drewN (Below.refl _ _) _) _⟩
        · have HN := Lib.hid (HE.out.1 rfl)
          go_wp2_with fail
          go_quiet (fail)
          go_wp2_with fail
          exact ⟨⟨k + 1, by omega, by go_num, HN, Lib.hid ⟨_, rfl⟩⟩, by simp [intOf]; omega⟩
      · have HE : Hid (rowsB q p = true) := Lib.hid (by
          have := HT.out
          rw [List.take_of_length_le (by omega), List.take_of_length_le (by have := HL.out; omega)] at this
          unfold rowsB
          rw [beq_iff_eq]; exact this)
        go_wp2_with fail
        go_ret
        exact ⟨by rw [HE.out]; rfl, below_drewN (Below.refl _ _) _⟩

set_option maxRecDepth 100000 in
set_option maxHeartbeats 4000000 in
theorem equal_any (A : Option Addr) (q : List Msg) (c : Nat) (A' : Option Addr) (p : List Msg) (c' : Nat) (w : World) (hq : Rq w A q) (hp : Rq w A' p) :
    Calls Try.prog 22 #[.slice A q.length c, .slice A' p.length c', .func (.func 23) #[] #[]] w fun e w' => e = .returned (.bool (rowsB q p)) ∧ w' = w := by
  have hm := hq.len
  have hm' := hp.len
  unfold maxLen at hm hm'
  have HQ := Lib.hid hq
  have HP := Lib.hid hp
  cases hll : q.length == p.length
  · have hne : q.length ≠ p.length := by simpa using hll
    have HV := Lib.hid (rows_len hne)
    have d1 : (q.length != p.length) = true := by simpa using hll
    have d0 : ((q.length : Int) == p.length) = false := by simp at hll ⊢; omega
    clear hq hp hne hll
    go_enter Try.func22, Try.ntmps22
    go_wp2_with fail
    go_ret
    exact ⟨by rw [HV.out]; rfl, rfl⟩
  · have hl : q.length = p.length := eq_of_beq hll
    have HL := Lib.hid hl
    have d1 : (q.length != p.length) = false := by simpa using hl
    have d1i : ((q.length : Int) != p.length) = false := by rw [bne_eq_false_iff_eq]; omega
    clear hll hl hq hp
    go_enter Try.func22, Try.ntmps22
    go_wp2_with fail
    go_loopw [17] (fun i wr => ∃ k : Nat, k ≤ q.length ∧ i = .int .i64 k ∧ Hid (bytesQ (q.take k) = bytesQ (p.take k)) ∧ Hid (wr = w)) (fun i _ => q.length - (intOf i).toNat)
    case atStart => exact ⟨0, by omega, rfl, Lib.hid rfl, Lib.hid rfl⟩
    case round =>
      obtain ⟨k, hk, rfl, HT, HW⟩ := hrel
      obtain rfl := HW.out
      clear HW
      by_cases hlt : k < q.length
      · have hl := HL.out
        have hlt' : k < p.length := by omega
        clear hl
        obtain ⟨b, off, rfl, hc⟩ := HQ.out.cell hlt
        obtain ⟨b', off', rfl, hc'⟩ := HP.out.cell hlt'
        have hx := HQ.out.msg hlt
        have hy := HP.out.msg hlt'
        have kl : (k : Int) < q.length := by omega
        have kl' : (k : Int) < p.length := by omega
        have HE := Lib.hid (rows_step hlt hlt' HT.out)
        generalize q.getD k Msg.none = m1 at *
        generalize p.getD k Msg.none = m2 at *
        obtain ⟨A1, x1, c1⟩ := m1
        obtain ⟨A2, x2, c2⟩ := m2
        have hck : wr.cell? ⟨b, off + k, none⟩ = some (.slice A1 x1.length c1) := hc
        have hck' : wr.cell? ⟨b', off' + k, none⟩ = some (.slice A2 x2.length c2) := hc'
        have HX1 : Hid (Rb wr A1 x1) := Lib.hid hx
        have HY1 : Hid (Rb wr A2 x2) := Lib.hid hy
        clear hc hc' hx hy
        simp only at HE
        go_wp2_with fail
        refine (beq_any A1 A2 x1 x2 c1 c2 wr HX1.out HY1.out).mono ?_
        generalize sameL x1 x2 = bb at *
        rintro e w1 ⟨rfl, rfl⟩
        cases bb
        · have HN := Lib.hid (HE.out.2 rfl)
          go_wp2_with fail
          go_ret
          exact ⟨by rw [HN.out]; rfl, rfl⟩
        · have HN := Lib.hid (HE.out.1 rfl)
          go_wp2_with fail
          exact ⟨⟨k + 1, by omega, by go_num, HN, Lib.hid trivial⟩, by simp [intOf]; omega⟩
      · have HE : Hid (rowsB q p = true) := Lib.hid (by
          have := HT.out
          rw [List.take_of_length_le (by omega), List.take_of_length_le (by have := HL.out; omega)] at this
          unfold rowsB
          rw [beq_iff_eq]; exact this)
        go_wp2_with fail
        go_ret
        exact ⟨by rw [HE.out]; rfl, rfl⟩

set_option maxRecDepth 100000 in
set_option maxHeartbeats 4000000 in
theorem qsame_any (A : Option Addr) (q : List Msg) (c : Nat) (A' : Option Addr) (p : List Msg) (c' : Nat) (w : World) (hq : Rq w A q) (hp : Rq w A' p) :
    Calls Try.prog 17 #[.slice A q.length c, .slice A' p.length c'] w fun e w' => e = .returned (.bool (rowsB q p)) ∧ w' = w := by
  have HQ := Lib.hid hq
  have HP := Lib.hid hp
  clear hq hp
  go_enter Try.func17, Try.ntmps17
  go_wp2_with fail
  refine (equal_any A q c A' p c' w HQ.out HP.out).mono ?_
  rintro e w1 ⟨rfl, rfl⟩
  go_wp2_with fail
  go_ret
  exact ⟨rfl, rfl⟩
end Go.Proofs.Ytlkpnecionpnhaa
