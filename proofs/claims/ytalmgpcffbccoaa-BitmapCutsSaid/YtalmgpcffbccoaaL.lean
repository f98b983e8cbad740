/- Laws: slices of a list of bytes. -/
import Derived.Test.YtalmgpcffbccoaaN
import Derived.Laws.Slices
namespace Go.Proofs.Ytalmgpcffbccoaa
open Go.RowKit

theorem cell24 : Try.prog.cellsOf 5 = 1 := by kernel_rfl
theorem u24e : Try.prog.underlying 24 = some (.slice (Try.prog.elem 24)) := by kernel_rfl
theorem size5 (w : World) : (sizeOf (Try.prog.elem 24)).run Try.prog w = .ok 1 w := by
  have e : Try.prog.elem 24 = 5 := by kernel_rfl
  have h : (Try.prog.info? 5).map (·.size) = some 1 := by kernel_rfl
  obtain ⟨i, hi, hs⟩ := Option.map_eq_some_iff.1 h
  rw [e]
  simp [sizeOf, typeInfo, hi, hs]

/-- xs[l:h] of a list of bytes that reads as xs. -/
theorem Rs.cut {w : World} {A : Option Addr} {xs : List Int} (hx : Rb w A xs) {l h c : Nat} (hl : l ≤ h) (hh : h ≤ xs.length) (hc : xs.length ≤ c) :
    Rb w (if c = l then A else A.map (·.add (l * 1))) ((xs.take h).drop l) := by
  have hlen : ((xs.take h).drop l).length = h - l := by rw [List.length_drop, List.length_take]; omega
  refine ⟨by rw [hlen]; have := hx.len; omega, fun x hm => hx.wf x (List.mem_of_mem_take (List.mem_of_mem_drop hm)), fun h0 => ?_⟩
  rw [hlen] at h0
  obtain ⟨b, off, rfl, hb, hcell⟩ := hx.cells (by omega)
  rw [if_neg (by omega)]
  refine ⟨b, off + l, by simp [Addr.add_mid], hb, fun j hj => ?_⟩
  rw [hlen] at hj
  rw [Nat.add_assoc, hcell (l + j) (by omega)]
  rw [List.getD_eq_getElem?_getD, List.getD_eq_getElem?_getD, List.getElem?_drop, List.getElem?_take, if_pos (by omega)]

section
variable {ops : Array Oper} {rest : List Oper} {o : Oper} {a : Act} {w : World} {Q : Exit → Act → World → Prop} {A : Option Addr} {xs : List Int} {c : Nat} {x : Operand}
theorem wpList_slice_l (hgd : o.guard = none) {lo : Operand} (ho : o.op = .slice 24 x (some lo) none none) (hx : a.eval x = .slice A xs.length c) {l : Nat} (hlo : a.eval lo = .int .i64 l) (hr : Rb w A xs) (hl : l ≤ xs.length) (hc : xs.length ≤ c) {zs : List Int} (hz : zs = xs.drop l)
    (h : ∀ B d, Rb w B zs → zs.length ≤ d → wpList Try.prog ops Q rest (a.put o.dst (.slice B zs.length d)) w) : wpList Try.prog ops Q (o :: rest) a w :=
  wpList_plain hgd fun K hK => by
    subst hz
    have hcut := hr.cut (l := l) (h := xs.length) hl (Nat.le_refl _) hc
    rw [List.take_length] at hcut
    have hlen : (xs.drop l).length = xs.length - l := List.length_drop
    have hrun : (Instr.sliceAt 24 (.slice A xs.length c) (some (.int .i64 l)) none none).run Try.prog w = .ok (.slice (if c = l then A else A.map (·.add (l * 1))) (xs.drop l).length (c - l)) w := by
      rw [run_sliceAt_slice w 24 _ _ _ _ u24e, run_slice_l w 24 A xs.length c u24e .i64 l (by omega) (by omega), size5, hlen]
      simp [Result.andThen, sliced]
    unfold Oper.wp execOp
    simp only [ho, hx, hlo, Option.map_some, Option.map_none, Sem.run_bind, hrun, Result.andThen_ok, Sem.run_pure]
    exact hK _ _ (h _ _ hcut (by omega))
theorem wpList_slice_h (hgd : o.guard = none) {hi : Operand} (ho : o.op = .slice 24 x none (some hi) none) (hx : a.eval x = .slice A xs.length c) {l : Nat} (hhi : a.eval hi = .int .i64 l) (hr : Rb w A xs) (hl : l ≤ xs.length) (hc : xs.length ≤ c) {zs : List Int} (hz : zs = xs.take l)
    (h : ∀ B, Rb w B zs → zs.length ≤ c → wpList Try.prog ops Q rest (a.put o.dst (.slice B zs.length c)) w) : wpList Try.prog ops Q (o :: rest) a w :=
  wpList_plain hgd fun K hK => by
    subst hz
    have hcut := hr.cut (l := 0) (h := l) (by omega) hl hc
    rw [List.drop_zero] at hcut
    have hlen : (xs.take l).length = l := by rw [List.length_take]; omega
    have hrun : (Instr.sliceAt 24 (.slice A xs.length c) none (some (.int .i64 l)) none).run Try.prog w = .ok (.slice (if c = 0 then A else A.map (·.add (0 * 1))) (xs.take l).length c) w := by
      rw [run_sliceAt_slice w 24 _ _ _ _ u24e, run_slice_h w 24 A xs.length c u24e .i64 l (by omega) (by omega), size5, hlen]
      simp [Result.andThen, sliced]
    unfold Oper.wp execOp
    simp only [ho, hx, hhi, Option.map_some, Option.map_none, Sem.run_bind, hrun, Result.andThen_ok, Sem.run_pure]
    exact hK _ _ (h _ hcut (by omega))
theorem wpList_slice_lh (hgd : o.guard = none) {lo hi : Operand} (ho : o.op = .slice 24 x (some lo) (some hi) none) (hx : a.eval x = .slice A xs.length c) {l m : Nat} (hlo : a.eval lo = .int .i64 l) (hhi : a.eval hi = .int .i64 m) (hr : Rb w A xs) (hl : l ≤ m) (hm : m ≤ xs.length) (hc : xs.length ≤ c) {zs : List Int} (hz : zs = (xs.take m).drop l)
    (h : ∀ B d, Rb w B zs → zs.length ≤ d → wpList Try.prog ops Q rest (a.put o.dst (.slice B zs.length d)) w) : wpList Try.prog ops Q (o :: rest) a w :=
  wpList_plain hgd fun K hK => by
    subst hz
    have hcut := hr.cut (l := l) (h := m) hl hm hc
    have hlen : ((xs.take m).drop l).length = m - l := by rw [List.length_drop, List.length_take]; omega
    have hrun : (Instr.sliceAt 24 (.slice A xs.length c) (some (.int .i64 l)) (some (.int .i64 m)) none).run Try.prog w = .ok (.slice (if c = l then A else A.map (·.add (l * 1))) ((xs.take m).drop l).length (c - l)) w := by
      rw [run_sliceAt_slice w 24 _ _ _ _ u24e, run_slice_lh w 24 A xs.length c u24e .i64 .i64 l m (by omega) (by omega) (by omega), size5, hlen]
      simp [Result.andThen, sliced]
    unfold Oper.wp execOp
    simp only [ho, hx, hlo, hhi, Option.map_some, Option.map_none, Sem.run_bind, hrun, Result.andThen_ok, Sem.run_pure]
    exact hK _ _ (h _ _ hcut (by omega))
end

theorem run_cut_l (w : World) (A : Option Addr) (n c l : Nat) (hl : l ≤ n) : (Instr.sliceAt 24 (.slice A n c) (some (.int .i64 l)) none none).run Try.prog w = .ok (.slice (if c = l then A else A.map (·.add (l * 1))) (n - l) (c - l)) w := by
  rw [run_sliceAt_slice w 24 _ _ _ _ u24e, run_slice_l w 24 A n c u24e .i64 l (by omega) (by omega), size5]
  simp [Result.andThen, sliced]
theorem run_cut_h (w : World) (A : Option Addr) (n c l : Nat) (hl : l ≤ c) : (Instr.sliceAt 24 (.slice A n c) none (some (.int .i64 l)) none).run Try.prog w = .ok (.slice (if c = 0 then A else A.map (·.add (0 * 1))) l c) w := by
  rw [run_sliceAt_slice w 24 _ _ _ _ u24e, run_slice_h w 24 A n c u24e .i64 l (by omega) (by omega), size5]
  simp [Result.andThen, sliced]
end Go.Proofs.Ytalmgpcffbccoaa
