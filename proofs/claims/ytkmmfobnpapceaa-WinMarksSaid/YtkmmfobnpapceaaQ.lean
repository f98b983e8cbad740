/- The reference's Taken: its contract. -/
import Derived.Test.YtkmmfobnpapceaaL
namespace Go.Proofs.Ytkmmfobnpapceaa
open Go.RowKit

/-- The numbers from s on, m of them, that were taken. -/
def tkL (f : Nat → Bool) (s m : Nat) : List Int := ((List.range m).map fun j => ((s + j : Nat) : Int)).filter fun x => f (x.toNat % 1024)
theorem tkL_zero (f : Nat → Bool) (s : Nat) : tkL f s 0 = [] := rfl
theorem tkL_yes (f : Nat → Bool) (s k : Nat) (h : s ≤ k) (hf : f (k % 1024) = true) : tkL f s (k + 1 - s) = tkL f s (k - s) ++ [(k : Int)] := by
  unfold tkL
  rw [show k + 1 - s = (k - s) + 1 by omega, List.range_succ, List.map_append, List.filter_append]
  congr 1
  rw [List.map_cons, List.map_nil, show s + (k - s) = k by omega, List.filter_cons, Int.toNat_natCast, hf]
  rfl
theorem tkL_no (f : Nat → Bool) (s k : Nat) (h : s ≤ k) (hf : f (k % 1024) = false) : tkL f s (k + 1 - s) = tkL f s (k - s) := by
  unfold tkL
  rw [show k + 1 - s = (k - s) + 1 by omega, List.range_succ, List.map_append, List.filter_append, List.map_cons, List.map_nil, show s + (k - s) = k by omega, List.filter_cons, Int.toNat_natCast, hf]
  simp
theorem tkL_length (f : Nat → Bool) (s m : Nat) : (tkL f s m).length ≤ m := by
  unfold tkL
  exact Nat.le_trans (List.length_filter_le _ _) (by simp)

theorem infoInt : (Try.prog.info? 3).map (fun i => (i.zero, i.size, i.bytes)) = some (some (.int .i64 0), 1, 8) := by kernel_rfl

set_option maxRecDepth 100000 in
set_option maxHeartbeats 4000000 in
theorem taken_any (t : Int) (f : Nat → Bool) (s : Nat) (hs : t.toNat - 1024 = s) (w : World) (h0 : 0 ≤ t) (h1 : t ≤ 4611686018427387905) :
    Calls Try.prog 20 #[.agg (winA t f)] w fun e w' => ∃ v, e = .returned v ∧ w'.ownsRow w.heap.size 3 1 v (tkL f s (t.toNat - s)).length ((tkL f s (t.toNat - s)).map (Value.int .i64)) ∧ Below w.heap.size w w' := by
  have HT := Lib.hid (winA_top t f)
  have hct := winA_top t f
  have b0 := Blk.new w 25 (winA t f)
  have HB0 := Lib.hid ((Below.refl w.heap.size w).alloc (Nat.le_refl _) (Obj.cells (winA t f) 25))
  have hs1 : s ≤ t.toNat := by omega
  have hs2 : t.toNat ≤ s + 1024 := by omega
  have HS := Lib.hid hs; clear hs
  obtain ⟨i0, hi3, hz0, hz1, hz2⟩ := info_parts infoInt
  go_enter Try.func20, Try.ntmps20
  go_wp2_with fail
  all_goals
    go_loopw [3, 4] (fun v i wr => ∃ k : Nat, s ≤ k ∧ k ≤ t.toNat ∧ i = .int .i64 k ∧ wr.ownsRow w.heap.size 3 1 v (tkL f s (k - s)).length ((tkL f s (k - s)).map (Value.int .i64)) ∧ Blk wr w.heap.size 25 (winA t f) ∧ Below w.heap.size w wr) (fun _ i _ => t.toNat - (intOf i).toNat)
    case atStart => exact ⟨s, Nat.le_refl _, hs1, by have := HS.out; congr 1; omega, by rw [Nat.sub_self, tkL_zero]; exact World.ownsRow_nil _ _ _ _, b0, HB0.out⟩
    case round =>
      obtain ⟨k, hk0, hk, rfl, hown, hb, hbel⟩ := hrel
      have HBL := Lib.hid hbel; clear hbel
      have hcw := (hb.cell 0).trans HT.out
      by_cases hlt : k < t.toNat
      · have hk1 : (k : Int) < t := by omega
        have e2 : ((k : Int) % 1024).toNat = k % 1024 := by omega
        have hlen := tkL_length f s (k - s)
        have HY := Lib.hid (tkL_yes f s k hk0)
        have HN := Lib.hid (tkL_no f s k hk0)
        go_wp2_with (first | (refine load_blk (ty := 25) rfl rfl rfl Try.underlying25 rfl (info25' t f) hb ?_) | fail)
        refine (rHas_any t f _ _ (by omega) (by omega)).mono ?_
        rintro e w3 ⟨rfl, hb3⟩
        rw [e2]
        have hb' := hb.belowSelf hb3
        have hown' := own_below hown hb3
        have HB3 := Lib.hid (HBL.out.trans (hb3.mono HBL.out.size)); clear hb3
        cases hf : f (k % 1024)
        · have HN2 := Lib.hid (HN.out hf)
          clear hf
          go_wp2_with fail
          exact ⟨⟨k + 1, by omega, by omega, by go_num, by rw [HN2.out]; exact hown', hb', HB3.out⟩, by simp [intOf]; omega⟩
        · have HY2 := Lib.hid (HY.out hf)
          clear hf
          go_wp2_with (first | (at_builtin; refine wpList_append_own _ rfl _ _ 34 rfl w.heap.size 3 i0 (.int .i64 0) 1 8 Try.underlying34 hi3 hz0 hz1 hz2 rfl (by decide) _ _ _ rfl (hown'.alloc (.cells #[.int .i64 k] 3)) ⟨w3.heap.size, 0, none⟩ 1 1 [.int .i64 k] rfl rfl ?c1 ?c2 ?c3 ?c4 ?c5 ?_) | fail)
          case c1 =>
            intro j u hj
            match j, hj with
            | 0, hj => simp at hj; subst hj; simp [Addr.add]
          case c2 => intro u hu; simp at hu; subst hu; rfl
          case c3 => unfold maxLen; omega
          case c4 => omega
          case c5 => have := HB3.out.size; simp; omega
          intro v4 w4 hown4 hG4 _
          have hlow := hown'.lt
          have hb4 := (hb'.alloc (.cells #[.int .i64 k] 3)).appended (hown'.alloc (.cells #[.int .i64 k] 3)) (by decide) hG4
          have HB4 := Lib.hid ((HB3.out.alloc HB3.out.size (.cells #[.int .i64 k] 3)).grown hG4 (by have := HB3.out.size; simp; omega) (fun q hq => (hlow q hq).1))
          clear hG4 hlow hown' hb'
          go_wp2_with fail
          exact ⟨⟨k + 1, by omega, by omega, by go_num, by rw [HY2.out]; simpa using hown4, hb4, HB4.out⟩, by simp [intOf]; omega⟩
      · obtain rfl : k = t.toNat := by omega
        have hk1 : ¬ (((t.toNat : Nat) : Int) < t) := by omega
        go_wp2_with fail
        go_ret
        exact ⟨_, rfl, hown, HBL.out⟩
end Go.Proofs.Ytkmmfobnpapceaa
