/- Two windows compared. -/
import Derived.Test.YtkmmfobnpapceaaA
import Derived.ChangeKeysEq
namespace Go.Proofs.Ytkmmfobnpapceaa
open Go.RowKit

def noBits : Nat → Bool := fun _ => false
theorem winA_lit (t : Int) : #[Value.int .i64 t, .int .u64 0, .int .u64 0, .int .u64 0, .int .u64 0, .int .u64 0, .int .u64 0, .int .u64 0, .int .u64 0, .int .u64 0, .int .u64 0, .int .u64 0, .int .u64 0, .int .u64 0, .int .u64 0, .int .u64 0, .int .u64 0] = winA t noBits := by
  have h : ∀ i, word noBits i = 0 := fun i => by
    apply Nat.eq_of_testBit_eq
    intro j
    unfold word
    rw [testBit_bitsOf]; simp [noBits]
  simp [winA, winL, h, List.range, List.range.loop]

def weq (t : Int) (f : Nat → Bool) (u : Int) (g : Nat → Bool) : Bool := (t == u) && (List.range 16).all fun i => ((word f i : Int) == (word g i : Int))

theorem weq_iff (t : Int) (f : Nat → Bool) (u : Int) (g : Nat → Bool) : weq t f u g = true ↔ t = u ∧ ∀ p, p < 1024 → f p = g p := by
  unfold weq
  simp only [Bool.and_eq_true, beq_iff_eq, List.all_eq_true, List.mem_range]
  constructor
  · rintro ⟨h, hw⟩
    refine ⟨h, fun p hp => ?_⟩
    have := word_inj (f := f) (g := g) (i := p / 64) (by have := hw (p / 64) (by omega); omega) (p % 64) (by omega)
    rwa [show 64 * (p / 64) + p % 64 = p by omega] at this
  · rintro ⟨h, hp⟩
    refine ⟨h, fun i hi => ?_⟩
    rw [word_congr (f := f) (g := g) (fun j hj => hp _ (by omega))]

theorem run_items (P : Program) (w : World) (d : Nat) (e : TypeId) (xs ys : Array Value) (a b : Nat → Int) (hu : P.underlying e = some (.int .u64)) :
    ∀ (is : List Nat), (∀ i ∈ is, xs[i]? = some (.int .u64 (a i)) ∧ ys[i]? = some (.int .u64 (b i))) →
      (Op.eqItems (d + 1) e 1 xs ys is).run P w = .ok (is.all fun i => a i == b i) w
  | [], _ => by simp [Op.eqItems]
  | i :: is, h => by
    have h1 := h i (by simp)
    have ih := run_items P w d e xs ys a b hu is (fun j hj => h j (by simp [hj]))
    have hpl : P.plainKey e = true := by simp [Program.plainKey, hu]
    have e1 : xs[i * 1]? = some (.int .u64 (a i)) := by rw [Nat.mul_one]; exact h1.1
    have e2 : ys[i * 1]? = some (.int .u64 (b i)) := by rw [Nat.mul_one]; exact h1.2
    simp only [Op.eqItems, Sem.run_bind, run_part_plain w hpl e1, run_part_plain w hpl e2, Result.andThen_ok, run_equalIn_int w d e .u64 .u64 _ _ hu]
    by_cases hab : a i = b i
    · simp [hab, ih]
    · simp [hab]

theorem run_part_top (t : Int) (f : Nat → Bool) (w : World) : (part 3 (winA t f) 0).run Try.prog w = .ok (.int .i64 t) w :=
  run_part_plain w (by kernel_rfl) (winA_top t f)
theorem run_part_bits (t : Int) (f : Nat → Bool) (w : World) : (part 23 (winA t f) 1).run Try.prog w = .ok (.agg ((winA t f).extract 1 17)) w := by
  have hs : ∀ w, (sizeOf 23).run Try.prog w = .ok 16 w := fun _ => by kernel_rfl
  simp [part, isAgg, run_underlying Try.underlying23, hs]
theorem extract_bits (t : Int) (f : Nat → Bool) (i : Nat) (h : i < 16) : ((winA t f).extract 1 17)[i]? = some (.int .u64 (word f i : Int)) := by
  rw [Array.getElem?_extract, if_pos (by have := winA_size t f; omega)]
  exact winA_bits t f i h

theorem run_eq_win (t : Int) (f : Nat → Bool) (u : Int) (g : Nat → Bool) (w : World) :
    (Op.equalIn 10000 25 (.agg (winA t f)) (.agg (winA u g))).run Try.prog w = .ok (weq t f u g) w := by
  have hc : Try.prog.cellsOf 22 = 1 := by kernel_rfl
  obtain ⟨i22, hi22⟩ := info_of_underlying (Try.underlying22)
  have ha : ∀ w, (Op.equalIn 9999 23 (.agg ((winA t f).extract 1 17)) (.agg ((winA u g).extract 1 17))).run Try.prog w = .ok ((List.range 16).all fun i => ((word f i : Int) == (word g i : Int))) w := by
    intro w
    rw [run_equalIn_array w 9998 _ _ Try.underlying23 hi22, hc]
    exact run_items Try.prog w 9997 22 _ _ _ _ Try.underlying22 (List.range 16) (fun i hi => ⟨extract_bits t f i (List.mem_range.1 hi), extract_bits u g i (List.mem_range.1 hi)⟩)
  have ht : ∀ w, (Op.equalIn 9999 3 (.int .i64 t) (.int .i64 u)).run Try.prog w = .ok (t == u) w := fun w => run_equalIn_int w 9998 3 .i64 .i64 _ _ Try.underlying3
  rw [run_equalIn_struct w 9999 25 _ _ (by kernel_rfl) (by kernel_rfl)]
  simp only [Program.fieldsOf, Try.underlying25, Op.eqFields, ne_eq, String.reduceEq, not_false_eq_true, if_true, Sem.run_bind, run_part_top, Result.andThen_ok, ht]
  unfold weq
  by_cases htu : t = u
  · subst htu
    cases hA : (List.range 16).all fun i => ((word f i : Int) == (word g i : Int)) <;> simp [run_part_bits, ha, hA]
  · simp [htu]

section
variable {ops : Array Oper} {rest : List Oper} {o : Oper} {a : Act} {w : World} {Q : Exit → Act → World → Prop}
theorem eql_win (hgd : o.guard = none) {x y : Operand} {t : Int} {f : Nat → Bool} {u : Int} {g : Nat → Bool} (ho : o.op = .binOp .eql 25 x y 25) (hx : a.eval x = .agg (winA t f)) (hy : a.eval y = .agg (winA u g))
    (h : wpList Try.prog ops Q rest (a.put o.dst (.bool (weq t f u g))) w) : wpList Try.prog ops Q (o :: rest) a w :=
  wpList_plain hgd fun _ hK => by
    have hm : Try.prog.eqGuardType Try.prog.depth 25 = false := by kernel_rfl
    unfold Oper.wp execOp
    simp only [ho, hx, hy, Sem.run_bind, run_eqGuard_agg w .eql 25 x y _ _ hm, Result.andThen_ok, run_eql_struct, run_eq_win, Sem.run_pure]
    exact hK _ _ h
theorem eql_win_g (hgd : Region.wanted o (yielded ops a.tmps) = true) {x y : Operand} {t : Int} {f : Nat → Bool} {u : Int} {g : Nat → Bool} (ho : o.op = .binOp .eql 25 x y 25) (hx : a.eval x = .agg (winA t f)) (hy : a.eval y = .agg (winA u g))
    (h : wpList Try.prog ops Q rest (a.put o.dst (.bool (weq t f u g))) w) : wpList Try.prog ops Q (o :: rest) a w :=
  wpList_step fun _ hK => by
    have hm : Try.prog.eqGuardType Try.prog.depth 25 = false := by kernel_rfl
    rw [if_pos hgd]
    unfold Oper.wp execOp
    simp only [ho, hx, hy, Sem.run_bind, run_eqGuard_agg w .eql 25 x y _ _ hm, Result.andThen_ok, run_eql_struct, run_eq_win, Sem.run_pure]
    exact hK _ _ h
theorem neq_win_g (hgd : Region.wanted o (yielded ops a.tmps) = true) {x y : Operand} {t : Int} {f : Nat → Bool} {u : Int} {g : Nat → Bool} (ho : o.op = .binOp .neq 25 x y 25) (hx : a.eval x = .agg (winA t f)) (hy : a.eval y = .agg (winA u g))
    (h : wpList Try.prog ops Q rest (a.put o.dst (.bool (!weq t f u g))) w) : wpList Try.prog ops Q (o :: rest) a w :=
  wpList_step fun _ hK => by
    have hm : Try.prog.eqGuardType Try.prog.depth 25 = false := by kernel_rfl
    rw [if_pos hgd]
    unfold Oper.wp execOp
    simp only [ho, hx, hy, Sem.run_bind, run_eqGuard_agg w .neq 25 x y _ _ hm, Result.andThen_ok, run_neq_struct, run_eq_win, Sem.run_pure]
    exact hK _ _ h
theorem neq_win (hgd : o.guard = none) {x y : Operand} {t : Int} {f : Nat → Bool} {u : Int} {g : Nat → Bool} (ho : o.op = .binOp .neq 25 x y 25) (hx : a.eval x = .agg (winA t f)) (hy : a.eval y = .agg (winA u g))
    (h : wpList Try.prog ops Q rest (a.put o.dst (.bool (!weq t f u g))) w) : wpList Try.prog ops Q (o :: rest) a w :=
  wpList_plain hgd fun _ hK => by
    have hm : Try.prog.eqGuardType Try.prog.depth 25 = false := by kernel_rfl
    unfold Oper.wp execOp
    simp only [ho, hx, hy, Sem.run_bind, run_eqGuard_agg w .neq 25 x y _ _ hm, Result.andThen_ok, run_neq_struct, run_eq_win, Sem.run_pure]
    exact hK _ _ h
end
end Go.Proofs.Ytkmmfobnpapceaa
