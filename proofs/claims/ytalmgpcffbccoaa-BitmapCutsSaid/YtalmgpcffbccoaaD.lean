/- Contracts: Same, sign, Hex, has. -/
import Derived.Test.YtalmgpcffbccoaaA
import Derived.Deep.RegionHeld3
import Derived.Deep.AppendLies
import Derived.Deep.DrawnRows
namespace Go.Proofs.Ytalmgpcffbccoaa
open Go.RowKit
attribute [local go_sem ↓] Go.wp_at_zero Go.wp_at_succ

def sameL (xs ys : List Int) : Bool := xs == ys

theorem run_convert_zero (w : World) (src e : TypeId) (hs : Try.prog.underlying src = some (.slice e)) (he : Try.prog.underlying e = some (.int .u8)) (p : Option Addr) (c : Nat) :
    ∀ dst, Try.prog.underlying dst = some .string → (convert src dst (.slice p 0 c)).run Try.prog w = .ok (.string ByteArray.empty) w := by
  intro dst hd
  rw [run_convert_bytes_string w src dst e _ 0 c hs he hd]
  cases p <;> simp [Conv.bytesToString, loadCells]
  all_goals rfl

theorem Rs.convert {w : World} {A : Option Addr} {xs : List Int} (h : Rb w A xs) (c : Nat) : (convert 24 9 (.slice A xs.length c)).run Try.prog w = .ok (.string (strOfNums xs)) w := by
  rcases Nat.eq_zero_or_pos xs.length with h0 | h0
  · obtain rfl : xs = [] := List.eq_nil_of_length_eq_zero h0
    exact run_convert_zero w 24 5 Try.underlying24 Try.underlying5 A c 9 Try.underlying9
  · obtain ⟨b, off, rfl, _, hc⟩ := h.cells h0
    exact run_convert_bytes_arg (P := Try.prog) w 24 5 Try.underlying24 Try.underlying5 b off xs.length c xs rfl hc 9 Try.underlying9

theorem str_inj {xs ys : List Int} (hx : ∀ x ∈ xs, 0 ≤ x ∧ x ≤ 255) (hy : ∀ x ∈ ys, 0 ≤ x ∧ x ≤ 255) (h : xs.map (fun n => UInt8.ofNat n.toNat) = ys.map fun n => UInt8.ofNat n.toNat) : xs = ys := by
  induction xs generalizing ys with
  | nil => cases ys with
    | nil => rfl
    | cons y ys => simp at h
  | cons x xs ih => cases ys with
    | nil => simp at h
    | cons y ys =>
      simp only [List.map_cons, List.cons.injEq] at h
      have h1 := congrArg UInt8.toNat h.1
      have hx0 := hx x (by simp)
      have hy0 := hy y (by simp)
      simp only [UInt8.toNat_ofNat'] at h1
      have hxy : x = y := by omega
      rw [hxy, ih (fun z hz => hx z (by simp [hz])) (fun z hz => hy z (by simp [hz])) h.2]

theorem str_beq {xs ys : List Int} (hx : ∀ x ∈ xs, 0 ≤ x ∧ x ≤ 255) (hy : ∀ x ∈ ys, 0 ≤ x ∧ x ≤ 255) : ((strOfNums xs).toList == (strOfNums ys).toList) = sameL xs ys := by
  have e : ∀ zs : List Int, (strOfNums zs).toList = zs.map fun n => UInt8.ofNat n.toNat := fun zs => by rw [ByteArray.toList_eq]; rfl
  rw [e, e]
  unfold sameL
  rw [Bool.eq_iff_iff, beq_iff_eq, beq_iff_eq]
  exact ⟨str_inj hx hy, fun h => by rw [h]⟩

set_option maxRecDepth 100000 in
set_option maxHeartbeats 2000000 in
theorem rsame_any (A A' : Option Addr) (xs ys : List Int) (c c' : Nat) (w : World) (hx : Rb w A xs) (hy : Rb w A' ys) :
    Calls Try.prog 14 #[.slice A xs.length c, .slice A' ys.length c'] w fun e w' => e = .returned (.bool (sameL xs ys)) ∧ w' = w := by
  have h1 := hx.convert c
  have h2 := hy.convert c'
  have HS := Lib.hid (str_beq hx.byte hy.byte)
  generalize strOfNums xs = s1 at *
  generalize strOfNums ys = s2 at *
  clear hx hy
  go_enter Try.func14, Try.ntmps14
  go_wp2
  go_ret
  exact ⟨by rw [← HS.out]; rfl, rfl⟩

def signF (d : Int) : Int := if d < 10 then 48 + d else 87 + d
set_option maxRecDepth 100000 in
set_option maxHeartbeats 2000000 in
theorem sign_any (d : Int) (w : World) (h0 : 0 ≤ d) (h1 : d ≤ 15) : Calls Try.prog 23 #[.int .u8 d] w fun e w' => e = .returned (.int .u8 (signF d)) ∧ w' = w := by
  by_cases h : d < 10
  · have HV : Hid (signF d = 48 + d) := Lib.hid (if_pos h)
    have d0 : decide (d < 10) = true := by simpa using h
    go_enter Try.func23, Try.ntmps23
    go_wp2_with fail
    go_ret
    exact ⟨by rw [HV.out]; rfl, rfl⟩
  · have HV : Hid (signF d = 87 + d) := Lib.hid (if_neg h)
    have d0 : decide (d < 10) = false := by simpa using h
    go_enter Try.func23, Try.ntmps23
    go_wp2_with fail
    go_ret
    exact ⟨by rw [HV.out]; rfl, rfl⟩

def hexL (xs : List Int) : List Int := xs.flatMap fun x => [signF (x / 16), signF (x % 16)]
theorem hexL_len (xs : List Int) : (hexL xs).length = 2 * xs.length := by
  unfold hexL; induction xs with
  | nil => rfl
  | cons x xs ih => simp only [List.flatMap_cons, List.length_append, List.length_cons, List.length_nil, ih]; omega
theorem hexL_step {xs : List Int} {k : Nat} (h : k < xs.length) : hexL (xs.take (k + 1)) = hexL (xs.take k) ++ [signF (xs.getD k 0 / 16), signF (xs.getD k 0 % 16)] := by
  unfold hexL
  rw [List.take_succ_eq_append_getElem h, List.flatMap_append, List.getD_eq_getElem?_getD, List.getElem?_eq_getElem h]
  simp
theorem wrap_u8 {x : Int} (h0 : 0 ≤ x) (h1 : x ≤ 255) : IntKind.u8.wrap x = x := by
  simp [IntKind.wrap, IntKind.signed, IntKind.bits]; omega
theorem own_ne {w : World} {base : Nat} {e : TypeId} {size : Nat} {v : Value} {n : Nat} {xs : List Value} (h : w.ownsRow base e size v n xs) {b : Nat} (hb : b < base) : v.ownBlock ≠ some b := by
  rcases h.2 with ⟨rfl, _⟩ | ⟨g, cap, cur, rfl, hg, _⟩
  · simp [Value.ownBlock]
  · intro he
    have : g = b := by simpa [Value.ownBlock] using he
    omega
/-- What lay below lies on, behind an append to a row of the call's own. -/
theorem own_grow_below {w0 w w' : World} {e : TypeId} {size : Nat} {v : Value} {n : Nat} {xs : List Value} {o : Obj} (hb : Below w0.heap.size w0 w) (h : w.ownsRow w0.heap.size e size v n xs)
    (hg : (w.alloc o).drew.grownBy w' v.ownBlock) : Below w0.heap.size w0 w' :=
  (hb.alloc hb.size o).drew.grown hg (by have := hb.size; simp; omega) (fun k hk => by
    rcases h.2 with ⟨rfl, _⟩ | ⟨g, cap, cur, rfl, hge, _⟩
    · simp [Value.ownBlock] at hk
    · have : g = k := by simpa [Value.ownBlock] using hk
      omega)
theorem cell_grow {w0 w w' : World} {e : TypeId} {size : Nat} {v : Value} {n : Nat} {xs : List Value} {o : Obj} (hb : Below w0.heap.size w0 w) (h : w.ownsRow w0.heap.size e size v n xs) {b i : Nat} (hbl : b < w0.heap.size)
    (hg : (w.alloc o).drew.grownBy w' v.ownBlock) {x : Value} (hc : w.cell? ⟨b, i, none⟩ = some x) : w'.cell? ⟨b, i, none⟩ = some x := by
  have h1 := hg.cell_far (⟨b, i, none⟩ : Addr) (by have := hb.size; simp; omega) (Ne.symm (own_ne h hbl))
  rw [h1]
  have h2 := ((Below.refl w.heap.size w).alloc (Nat.le_refl _) o).cell (p := ⟨b, i, none⟩) (by have := hb.size; show b < _; omega)
  exact h2.trans hc
theorem u8_wf {y : Int} (h0 : 0 ≤ y) (h1 : y ≤ 255) : (Lit.int .u8 y).wf = true := by
  simp [Lit.wf, IntKind.min, IntKind.max, IntKind.signed, IntKind.bits]; omega
theorem signF_bd {d : Int} (h0 : 0 ≤ d) (h1 : d ≤ 15) : 0 ≤ signF d ∧ signF d ≤ 255 := by unfold signF; split <;> omega
theorem hexL_wf {xs : List Int} (h : ∀ x ∈ xs, 0 ≤ x ∧ x ≤ 255) : ∀ y ∈ hexL xs, (Lit.int .u8 y).wf = true := by
  intro y hy
  unfold hexL at hy
  obtain ⟨x, hx, hy⟩ := List.mem_flatMap.1 hy
  obtain ⟨h0, h1⟩ := h x hx
  simp only [List.mem_cons, List.not_mem_nil, or_false] at hy
  rcases hy with rfl | rfl
  · exact u8_wf (signF_bd (by omega) (by omega)).1 (signF_bd (by omega) (by omega)).2
  · exact u8_wf (signF_bd (by omega) (by omega)).1 (signF_bd (by omega) (by omega)).2
theorem info5 : (Try.prog.info? 5).map (fun i => (i.zero, i.size, i.bytes)) = some (some (.int .u8 0), 1, 1) := by kernel_rfl

set_option maxRecDepth 100000 in
set_option maxHeartbeats 4000000 in
theorem hex_any (A : Option Addr) (xs : List Int) (c : Nat) (w : World) (hx : Rb w A xs) (hl : xs.length ≤ 1000) :
    Calls Try.prog 20 #[.slice A xs.length c] w fun e w' => e = .returned (.string (strOfNums (hexL xs))) ∧ Below w.heap.size w w' := by
  obtain ⟨i0, hi0, hz0, hz1, hz2⟩ := info_parts info5
  go_enter Try.func20, Try.ntmps20
  go_wp2_with fail
  go_loopw [3, 4] (fun v i wr => ∃ k : Nat, k ≤ xs.length ∧ i = .int .i64 k ∧ Below w.heap.size w wr ∧ wr.ownsRow w.heap.size 5 1 v (hexL (xs.take k)).length ((hexL (xs.take k)).map (Value.int .u8))) (fun _ i _ => xs.length - (intOf i).toNat)
  case atStart => exact ⟨0, by omega, rfl, Below.refl _ _, World.ownsRow_nil _ _ _ _⟩
  case round =>
    obtain ⟨k, hk, rfl, hb, hown⟩ := hrel
    by_cases hlt : k < xs.length
    · obtain ⟨b, off, rfl, hbl, hc⟩ := hx.cells (by omega)
      have hck : wr.cell? ⟨b, off + k, none⟩ = some (.int .u8 (xs.getD k 0)) := (hb.cell (p := ⟨b, off + k, none⟩) hbl).trans (hc k hlt)
      have hbd := hx.byte _ (getD_mem hlt)
      have HS := Lib.hid (hexL_step hlt)
      have HL : Hid ((hexL (xs.take k)).length = 2 * k) := Lib.hid (by rw [hexL_len, List.length_take]; omega)
      have kl : (k : Int) < xs.length := by omega
      have k0 : (0 : Int) ≤ (k : Int) := by omega
      generalize xs.getD k 0 = x at *
      obtain ⟨x0, x1⟩ := hbd
      have HO := Lib.hid hown
      clear hc hx
      have q0 : 0 ≤ x / 16 := by omega
      have q1 : x / 16 ≤ 15 := by omega
      have r0 : 0 ≤ x % 16 := by omega
      have r1 : x % 16 ≤ 15 := by omega
      have S1 : Hid (∀ w, Calls Try.prog 23 #[.int .u8 (IntKind.u8.wrap (x.tdiv 16))] w fun e w' => e = .returned (.int .u8 (signF (x / 16))) ∧ w' = w) := Lib.hid fun w => by
        rw [show IntKind.u8.wrap (x.tdiv 16) = x / 16 by rw [Int.tdiv_eq_ediv_of_nonneg x0]; exact wrap_u8 q0 (by omega)]
        exact sign_any _ w q0 q1
      have S2 : Hid (∀ w, Calls Try.prog 23 #[.int .u8 (x.tmod 16)] w fun e w' => e = .returned (.int .u8 (signF (x % 16))) ∧ w' = w) := Lib.hid fun w => by
        rw [Int.tmod_eq_emod_of_nonneg x0]
        exact sign_any _ w r0 r1
      have NE : Hid (u3.ownBlock ≠ some b) := Lib.hid (own_ne hown hbl)
      clear hown
      go_wp2_with fail
      go_region_held3 (fun w' => w'.cell? ⟨b, off + k, none⟩ = some (.int .u8 x)) (go_keep) (first | (go_at_call 23; ((with_reducible refine (S1.out _).mono ?_)); rintro e w' ⟨rfl, rfl⟩) | (go_at_call 23; ((with_reducible refine (S2.out _).mono ?_)); rintro e w' ⟨rfl, rfl⟩) | (refine step_append_lies _ (by rfl) _ _ _ (by rfl) w.heap.size 5 i0 _ 1 1 Try.underlying24 hi0 hz0 hz1 hz2 rfl (by omega) u3 _ _ (by rfl) ((HO.out.alloc _).drew) ⟨wr.heap.size, 0, none⟩ 2 2 [.int .u8 (signF (x / 16)), .int .u8 (signF (x % 16))] (by rfl) (by rfl) (World.news_of_block (cs := #[.int .u8 (signF (x / 16)), .int .u8 (signF (x % 16))]) (t := 5) (fr := (0, 0)) (heap_alloc_new wr _)) (by simp [Value.oneCell']) (by omega) (by rw [HL.out]; unfold maxLen; omega) (by rw [HL.out]; omega) (by have := hb.size; simp; omega) (wr.heap.size + 1) (by simp) ?_; intro gg cap w1 hown1 hgrow hat hlt1; have hck1 := cell_grow hb HO.out hbl hgrow hck))
      all_goals
        go_wp2_with fail
        go_roundw
        case rel => exact ⟨k + 1, by omega, by go_num, own_grow_below hb HO.out hgrow, by rw [HS.out, List.length_append, List.map_append]; simpa using hown1⟩
        case measure => simp [intOf]; omega
    · have HE : Hid (xs.take k = xs) := Lib.hid (List.take_of_length_le (by omega))
      rw [HE.out] at hown
      have hwf : ∀ x ∈ hexL xs, (Lit.int .u8 x).wf = true := hexL_wf hx.byte
      obtain ⟨B, cc, rfl, hr⟩ := Rs.of_own (k := .u8) hown (by rw [hexL_len]; unfold maxLen; omega) hwf (fun j hj => by rw [List.getElem?_map, List.getD_eq_getElem?_getD, List.getElem?_eq_getElem hj]; rfl)
      have hcv := hr.convert cc
      clear hown hr hwf HE hx
      go_wp2_with fail
      go_ret
      exact ⟨rfl, hb⟩
/-- Is a number's bit 1 in these bytes? -/
def testB (xs : List Int) (n : Nat) : Bool := (xs.getD ((n - 1) / 8) 0).toNat.testBit (7 - (n - 1) % 8)

set_option maxRecDepth 100000 in
set_option maxHeartbeats 4000000 in
theorem has_any (A : Option Addr) (xs : List Int) (c : Nat) (n : Nat) (w : World) (hx : Rb w A xs) (h1 : 1 ≤ n) (h2 : n ≤ 128) (h3 : (n - 1) / 8 < xs.length) :
    Calls Try.prog 22 #[.slice A xs.length c, .int .i64 n] w fun e w' => e = .returned (.bool (testB xs n)) ∧ w' = w := by
  obtain ⟨p1, p2⟩ := place_nat h1 h2
  obtain ⟨b, off, rfl, hb, hc⟩ := hx.cells (by omega)
  have hck := hc _ h3
  have hbd := hx.byte _ (getD_mem h3)
  have HP : Hid (∀ W, Calls Try.prog 13 #[.int .i64 n] W fun e w' => e = .returned (.tuple #[.int .i64 (((n - 1) / 8 : Nat) : Int), .int .u8 ((2 ^ (7 - (n - 1) % 8) : Nat) : Int)]) ∧ w' = W) := Lib.hid fun W => by
    have h := rplace_any n W
    rwa [p1, p2] at h
  have HT : Hid (testB xs n = (xs.getD ((n - 1) / 8) 0).toNat.testBit (7 - (n - 1) % 8)) := Lib.hid rfl
  clear hc hx p1 p2
  have kl : (((n - 1) / 8 : Nat) : Int) < xs.length := by omega
  have hk8 : 7 - (n - 1) % 8 < 8 := by omega
  generalize (n - 1) / 8 = i at *
  generalize 7 - (n - 1) % 8 = k at *
  generalize xs.getD i 0 = x at *
  have HA := Lib.hid (and_test hbd.1 hbd.2 hk8)
  generalize 2 ^ k = q at *
  go_enter Try.func22, Try.ntmps22
  go_wp2_with fail
  refine (HP.out _).mono ?_
  rintro e w' ⟨rfl, rfl⟩
  go_wp2_with fail
  go_ret
  exact ⟨by rw [HT.out, ← HA.out]; rfl, rfl⟩
end Go.Proofs.Ytalmgpcffbccoaa
