/- Plain: what is read of bits that were cut off, or spoilt; a law: an append of eight noughts. -/
import Derived.Test.YtalmgpcffbccoaaQ
namespace Go.Proofs.Ytalmgpcffbccoaa
open Go.RowKit

theorem run_append_zeros {w : World} (base : Nat) (ty : TypeId) (i : TypeInfo) (hi : Try.prog.info? 5 = some i) (hz : i.zero = some (.int .u8 0)) (hs : i.size = 1) (hby : i.bytes = 1)
    (v : Value) (vs : List Value) (hown : w.ownsRow base 5 1 v 8 vs) (hbase : base ≤ w.heap.size) :
    ∃ v' w', (Builtin.append_ #[24, 3] ty #[v, .int .i64 8]).run Try.prog w = .ok v' w' ∧ w'.ownsRow base 5 1 v' 16 (vs ++ List.replicate 8 (.int .u8 0)) ∧ w.grownBy w' v.ownBlock := by
  have hw : IntKind.i64.wrap 8 = 8 := by decide
  have hzc : Builtin.zeroCells (Value.int .u8 0).cells 8 = (List.replicate 8 (Value.int .u8 0)).toArray := by
    rw [Builtin.zeroCells]
    apply Array.ext
    · simp [Value.cells]
    · intro k h1 h2
      have e : k % 1 = 0 := by omega
      have e2 : (List.replicate 8 (Value.int .u8 0)).toArray[k] = Value.int .u8 0 := by simp only [List.getElem_toArray, List.getElem_replicate]
      rw [e2]
      simp [Value.cells, e]
  have hvl : vs.length = 8 := by have := hown.1; omega
  rcases hown.2 with ⟨_, h0⟩ | ⟨g, cap, cur, rfl, hbg, hg, hnc, hcm, hcs, htake⟩
  · omega
  · rw [Nat.mul_one] at hcs htake
    by_cases hroom : 16 ≤ cap
    · have hst := run_storeCells_at Try.prog g 8 5 (List.replicate 8 (Value.int .u8 0)) 0 cur w hg (by simp; omega) (by intro u hu; rw [List.eq_of_mem_replicate hu]; rfl)
      simp only [Nat.add_zero] at hst
      refine ⟨.slice (some ⟨g, 0, none⟩) 16 cap, w.setRow g (cur.toList.take 8 ++ List.replicate 8 (Value.int .u8 0) ++ cur.toList.drop (8 + 8)).toArray, ?_, ⟨by simp [hvl], .inr ⟨g, cap, _, rfl, hbg, setRow_heap w g cur _ 5 _ hg, hroom, hcm, ?_, ?_⟩⟩, ⟨rfl, rfl, rfl, by simp, fun k _ hk => setRow_other w g k _ (fun e => hk (by simp [Value.ownBlock, e]))⟩⟩
      · simp [Builtin.append_, run_underlying u24e, show Try.prog.elem 24 = 5 by kernel_rfl, run_underlying Try.underlying3, sizeOf, typeInfo, zeroValue, hi, hz, hs, hby, asInt, asIntOf, hw, hzc, hroom, Addr.add_lit]
        simp only [List.replicate, List.append_assoc, List.cons_append, List.nil_append] at hst ⊢
        rw [hst]
        simp
      · simp only [List.size_toArray, List.length_append, List.length_take, List.length_drop, Array.length_toList, List.length_replicate]
        omega
      · show List.take (16 * 1) _ = _
        rw [htake, List.take_append_of_le_length (by simp [hvl])]
        exact List.take_of_length_le (by simp [hvl])
    · have hf := run_firstCells_some (P := Try.prog) w.drew 1 8 ⟨g, 0, none⟩ 8 cap vs (by simp [hvl]) (by simpa using hown.cells (g := g) rfl)
      have hge := grownCap_ge w 16 cap 5
      have hle := grownCap_le_maxLen w 16 cap 5 (by decide)
      have hfit := growslice_fits (need := 16) (old := cap) (bytes := 1) (by omega) (by omega)
      have h48' : ¬ (281474976710656 < Builtin.nextslicecap 16 cap) := by omega
      refine ⟨.slice (some ⟨w.heap.size, 0, none⟩) 16 (grownCap w 16 cap 5), w.drew.alloc (.cells (vs.toArray ++ ((List.replicate 8 (Value.int .u8 0)).toArray ++ Builtin.zeroCells (Value.int .u8 0).cells (grownCap w 16 cap 5 - 16))) 5), ?_,
        ⟨by simp [hvl], .inr ⟨w.heap.size, _, _, rfl, hbase, heap_alloc_new w.drew _, hge, hle, ?_, ?_⟩⟩, ⟨rfl, rfl, rfl, by simp, fun k hk _ => Below.heap_alloc w.drew _ k hk⟩⟩
      · have e63 : ¬ ((9223372036854775807 : Int) < 8 + max 8 0) := by omega
        simp [e63, Builtin.append_, run_underlying u24e, show Try.prog.elem 24 = 5 by kernel_rfl, run_underlying Try.underlying3, sizeOf, typeInfo, zeroValue, hi, hz, hs, hby, asInt, asIntOf, hw, hzc, hroom, h48', Question.forced, hf, newRow, grownCap]
      · simp only [Array.size_append, List.size_toArray, size_zeroCells, List.length_replicate, hvl]
        show 8 + (8 + (grownCap w 16 cap 5 - 16) * 1) = _
        omega
      · simp only [Array.toList_append]
        rw [← List.append_assoc]
        have : (vs ++ List.replicate 8 (Value.int .u8 0)).length = 16 * 1 := by simp [hvl]
        show List.take (16 * 1) ((vs ++ List.replicate 8 (Value.int .u8 0)) ++ _) = _
        rw [← this]
        exact List.take_left

theorem wpList_append_zeros {ops : Array Oper} {rest : List Oper} {o : Oper} {a : Act} {w : World} {Q : Exit → Act → World → Prop} (hgd : o.guard = none) (s x : Operand)
    (ho : o.op = .call { callee := .builtin .append, args := #[s, x], argTypes := #[24, 3] }) (base : Nat) (i : TypeInfo) (hi : Try.prog.info? 5 = some i) (hz : i.zero = some (.int .u8 0)) (hs' : i.size = 1) (hby : i.bytes = 1)
    (v : Value) (vs : List Value) (hs : a.eval s = v) (hx : a.eval x = .int .i64 8) (hown : w.ownsRow base 5 1 v 8 vs) (hbase : base ≤ w.heap.size)
    (h : ∀ B cap w', w'.ownsRow base 5 1 (.slice B 16 cap) 16 (vs ++ List.replicate 8 (.int .u8 0)) → w.grownBy w' v.ownBlock → wpList Try.prog ops Q rest (a.put o.dst (.slice B 16 cap)) w') : wpList Try.prog ops Q (o :: rest) a w :=
  wpList_plain hgd fun K hK => by
    obtain ⟨v', w', hrun, h2, h3⟩ := run_append_zeros base o.type i hi hz hs' hby v vs hown hbase
    obtain ⟨B, cap, rfl⟩ := own_shape h2
    unfold Oper.wp execOp
    simp only [ho, resolve, invoke, builtin, Sem.run_bind, Sem.run_pure, Result.andThen_ok, List.map_toArray, List.map_cons, List.map_nil, hs, hx, hrun]
    exact hK _ _ (h B cap w' h2 h3)

theorem read_short {zs : List Int} (h : zs.length < sizeR zs) : readR zs 0 = ([], 0, 3) := by
  unfold readR
  rw [if_neg (by omega)]
  unfold readZ
  rw [show (0 : Int).toNat = 0 from rfl, List.drop_zero, if_pos h]
theorem read_spoilt {zs : List Int} (h : ¬ zs.length < sizeR zs) (hb : badR zs = true) : readR zs 0 = ([], 0, 2) := by
  unfold readR
  rw [if_neg (by omega)]
  unfold readZ
  rw [show (0 : Int).toNat = 0 from rfl, List.drop_zero, if_neg h, if_pos hb]
theorem fields_flat {zs : List Int} {m : Nat} (h : ∀ q, m < q → testB zs q = false) : ∀ k, fieldsTo zs (m + k) = fieldsTo zs m
  | 0 => rfl
  | k + 1 => by
    show fieldsTo zs (m + k) ++ _ = _
    rw [show m.add k = m + k from rfl, h (m + k + 1) (by omega), fields_flat h k]
    simp
theorem read_noughts {zs : List Int} (hl : zs.length = 16) (hw : wideR zs = true) (h : ∀ q, 64 < q → testB zs q = false) : readR zs 0 = ([], 0, 2) := by
  have hs : sizeR zs = 16 := by unfold sizeR; rw [if_pos hw]
  refine read_spoilt (by omega) ?_
  unfold badR fieldsR
  rw [hw, hs, show 8 * 16 = 64 + 64 from rfl, fields_flat h 64]
  have hb : badL (fieldsTo zs 64) = true := by
    unfold badL
    rcases Nat.eq_zero_or_pos (fieldsTo zs 64).length with h0 | h0
    · simp [h0]
    · have := fieldsTo_mem zs 64 _ (getD_mem (show (fieldsTo zs 64).length - 1 < (fieldsTo zs 64).length by omega))
      have d : decide ((fieldsTo zs 64).getD ((fieldsTo zs 64).length - 1) 0 ≤ 65) = true := decide_eq_true (by omega)
      rw [d]; simp
  rw [hb]; simp
theorem read_65 {zs : List Int} (hl : zs.length = 16) (hw : wideR zs = true) (h : testB zs 65 = true) : readR zs 0 = ([], 0, 2) := by
  have hs : sizeR zs = 16 := by unfold sizeR; rw [if_pos hw]
  refine read_spoilt (by omega) ?_
  unfold badR
  rw [hw, h]; rfl

/-- The first byte with its highest bit. -/
def topB (x : Int) : Int := bits .or .u8 x 128
theorem top_of (S : Nat → Bool) : topB ((byteN S 0 : Nat) : Int) = ((byteN (upd S 1) 0 : Nat) : Int) := or_byte S 1 (by omega)
theorem top_bit (S : Nat → Bool) : (topB ((byteN S 0 : Nat) : Int)).toNat.testBit 7 = true := by
  rw [top_of]
  show (byteN (upd S 1) 0).testBit 7 = true
  rw [testBit_byteN _ _ _ (by omega)]
  exact upd_self S 1
theorem top_bd (S : Nat → Bool) : 0 ≤ topB ((byteN S 0 : Nat) : Int) ∧ topB ((byteN S 0 : Nat) : Int) ≤ 255 := by
  rw [top_of]
  have := byteN_lt (upd S 1) 0
  omega

/-- What the law lays: the first eight bytes, the highest bit set, and eight noughts; then bit 65, and the last one. -/
def oneL (X : List Int) : List Int := (X.take 8 ++ List.replicate 8 0).set 0 (topB (X.getD 0 0))
def spoilL (X : List Int) : List Int := ((oneL X).set 8 128).set 15 1
theorem oneL_len {X : List Int} (h : 8 ≤ X.length) : (oneL X).length = 16 := by unfold oneL; simp; omega
theorem spoilL_len {X : List Int} (h : 8 ≤ X.length) : (spoilL X).length = 16 := by unfold spoilL; simp [oneL_len h]
theorem oneL_get {X : List Int} (h : 8 ≤ X.length) (j : Nat) (hj : j < 16) : (oneL X).getD j 0 = if j = 0 then topB (X.getD 0 0) else if j < 8 then X.getD j 0 else 0 := by
  unfold oneL
  rw [List.getD_eq_getElem?_getD, List.getElem?_set]
  by_cases h0 : j = 0
  · subst h0; simp
  · rw [if_neg (by omega), if_neg h0]
    by_cases h8 : j < 8
    · rw [if_pos h8, List.getElem?_append_left (by rw [List.length_take]; omega), List.getElem?_take, if_pos h8, List.getD_eq_getElem?_getD]
    · rw [if_neg h8, List.getElem?_append_right (by rw [List.length_take]; omega), List.getElem?_replicate]
      rw [if_pos (by rw [List.length_take]; omega)]; rfl
theorem spoilL_get {X : List Int} (h : 8 ≤ X.length) (j : Nat) (hj : j < 16) : (spoilL X).getD j 0 = if j = 15 then 1 else if j = 8 then 128 else (oneL X).getD j 0 := by
  unfold spoilL
  rw [List.getD_eq_getElem?_getD, List.getElem?_set, List.length_set, oneL_len h]
  by_cases h15 : j = 15
  · subst h15; simp
  · rw [if_neg (by omega), if_neg h15, List.getElem?_set, oneL_len h]
    by_cases h8 : j = 8
    · subst h8; simp
    · rw [if_neg (by omega), if_neg h8, List.getD_eq_getElem?_getD]
theorem out_first (l : List Int) : (outL l).getD 0 0 = ((byteN (setK (wideL l) l) 0 : Nat) : Int) := bytesL_get _ (by have := (sizeL_le l).1; omega)
theorem out_eight (l : List Int) : 8 ≤ (outL l).length := by rw [outL_len]; exact (sizeL_le l).1
theorem one_wide (l : List Int) : wideR (oneL (outL l)) = true := by
  unfold wideR testB
  rw [oneL_len (out_eight l), show (1 - 1) / 8 = 0 from rfl, oneL_get (out_eight l) 0 (by omega), if_pos rfl, out_first]
  exact top_bit _
theorem spoil_wide (l : List Int) : wideR (spoilL (outL l)) = true := by
  unfold wideR testB
  rw [spoilL_len (out_eight l), show (1 - 1) / 8 = 0 from rfl, spoilL_get (out_eight l) 0 (by omega), if_neg (by omega), if_neg (by omega), oneL_get (out_eight l) 0 (by omega), if_pos rfl, out_first]
  exact top_bit _
theorem read_one (l : List Int) : readR (oneL (outL l)) 0 = ([], 0, 2) := by
  refine read_noughts (oneL_len (out_eight l)) (one_wide l) fun q hq => ?_
  unfold testB
  have hz : (oneL (outL l)).getD ((q - 1) / 8) 0 = 0 := by
    by_cases h16 : (q - 1) / 8 < 16
    · rw [oneL_get (out_eight l) _ h16, if_neg (by omega), if_neg (by omega)]
    · rw [List.getD_eq_getElem?_getD, List.getElem?_eq_none (by rw [oneL_len (out_eight l)]; omega)]; rfl
  rw [hz]; simp
theorem read_spoil (l : List Int) : readR (spoilL (outL l)) 0 = ([], 0, 2) := by
  refine read_65 (spoilL_len (out_eight l)) (spoil_wide l) ?_
  unfold testB
  rw [show (65 - 1) / 8 = 8 from rfl, spoilL_get (out_eight l) 8 (by omega), if_neg (by omega), if_pos rfl]
  decide
theorem oneL_byte (l : List Int) : ∀ x ∈ oneL (outL l), 0 ≤ x ∧ x ≤ 255 := fun x hx => by
  obtain ⟨j, hj, rfl⟩ := List.mem_iff_getElem.1 hx
  rw [oneL_len (out_eight l)] at hj
  have e := oneL_get (out_eight l) j hj
  rw [List.getD_eq_getElem?_getD, List.getElem?_eq_getElem (by rw [oneL_len (out_eight l)]; exact hj)] at e
  simp only [Option.getD_some] at e
  rw [e]
  split
  · rw [out_first]; exact top_bd _
  · split
    · exact outL_mem (getD_mem (by have := out_eight l; omega))
    · omega
theorem spoilL_byte (l : List Int) : ∀ x ∈ spoilL (outL l), 0 ≤ x ∧ x ≤ 255 := fun x hx => by
  obtain ⟨j, hj, rfl⟩ := List.mem_iff_getElem.1 hx
  rw [spoilL_len (out_eight l)] at hj
  have e := spoilL_get (out_eight l) j hj
  rw [List.getD_eq_getElem?_getD, List.getElem?_eq_getElem (by rw [spoilL_len (out_eight l)]; exact hj)] at e
  simp only [Option.getD_some] at e
  rw [e]
  split
  · omega
  · split
    · omega
    · exact oneL_byte l _ (getD_mem (by rw [oneL_len (out_eight l)]; exact hj))
/-- Fewer bytes than were written are too few. -/
theorem read_cut {l : List Int} {n : Nat} (h : n < (outL l).length) : readR ((outL l).take n) 0 = ([], 0, 3) := by
  refine read_short ?_
  have hl : ((outL l).take n).length = n := by rw [List.length_take]; omega
  rw [hl]
  by_cases h8 : n < 8
  · unfold sizeR; split <;> omega
  · have h16 : sizeL l = 16 := by rw [outL_len] at h; unfold sizeL at h ⊢; split at h <;> simp_all <;> omega
    have hw : wideL l = true := by unfold sizeL at h16; by_cases e : wideL l = true; exact e; rw [if_neg e] at h16; omega
    have ht : wideR ((outL l).take n) = true := by
      unfold wideR testB
      rw [hl, show (1 - 1) / 8 = 0 from rfl, List.getD_eq_getElem?_getD, List.getElem?_take, if_pos (by omega), ← List.getD_eq_getElem?_getD, out_first]
      have d : decide (0 < n) = true := decide_eq_true (by omega)
      rw [d]
      show (byteN (setK (wideL l) l) 0).testBit 7 = true
      rw [testBit_byteN _ _ _ (by omega)]
      show setK (wideL l) l 1 = true
      unfold setK; rw [hw]; rfl
    unfold sizeR
    rw [if_pos ht]
    rw [outL_len, h16] at h
    exact h

/-- A row of the call's own lies in a block of its own. -/
theorem own_blk {w : World} {base : Nat} {B : Option Addr} {cap n : Nat} {vs : List Value} (h : w.ownsRow base 5 1 (.slice B n cap) n vs) (hn : 0 < n) :
    ∃ g cur, B = some ⟨g, 0, none⟩ ∧ base ≤ g ∧ Blk w g 5 cur ∧ n ≤ cap ∧ cap ≤ cur.size ∧ cur.toList.take n = vs := by
  rcases h.2 with ⟨_, h0⟩ | ⟨g, cap', cur, e, hbg, hg, hnc, _, hcs, htake⟩
  · omega
  · cases e
    exact ⟨g, cur, rfl, hbg, hg, hnc, by omega, by simpa using htake⟩
theorem take_get {cur : Array Value} {n : Nat} {vs : List Value} (h : cur.toList.take n = vs) {j : Nat} (hj : j < n) : cur[j]? = vs[j]? := by
  rw [← h, List.getElem?_take, if_pos hj]; simp
theorem one_cells {X : List Int} {cur : Array Value} (h8 : 8 ≤ X.length) (hsz : 16 ≤ cur.size) (ht : cur.toList.take 16 = (X.take 8).map (Value.int .u8) ++ List.replicate 8 (Value.int .u8 0)) :
    ∀ j, j < 16 → (cur.setIfInBounds 0 (.int .u8 (topB (X.getD 0 0))))[j]? = some (.int .u8 ((oneL X).getD j 0)) := fun j hj => by
  rw [oneL_get h8 j hj, Array.getElem?_setIfInBounds]
  by_cases h0 : j = 0
  · subst h0; rw [if_pos rfl, if_pos rfl, if_pos (by omega)]
  · rw [if_neg (by omega), if_neg h0, take_get ht hj]
    by_cases h : j < 8
    · rw [if_pos h, List.getElem?_append_left (by simp; omega), List.getElem?_map, List.getElem?_take, if_pos h, List.getD_eq_getElem?_getD, List.getElem?_eq_getElem (by omega)]; rfl
    · rw [if_neg h, List.getElem?_append_right (by simp; omega), List.getElem?_replicate, if_pos (by simp; omega)]
theorem spoil_cells {X : List Int} {cs : Array Value} (h8 : 8 ≤ X.length) (hsz : 16 ≤ cs.size) (hc : ∀ j, j < 16 → cs[j]? = some (.int .u8 ((oneL X).getD j 0))) :
    ∀ j, j < 16 → ((cs.setIfInBounds 8 (.int .u8 128)).setIfInBounds 15 (.int .u8 1))[j]? = some (.int .u8 ((spoilL X).getD j 0)) := fun j hj => by
  rw [spoilL_get h8 j hj, Array.getElem?_setIfInBounds, Array.size_setIfInBounds]
  by_cases h15 : j = 15
  · subst h15; rw [if_pos rfl, if_pos rfl, if_pos (by omega)]
  · rw [if_neg (by omega), if_neg h15, Array.getElem?_setIfInBounds]
    by_cases h : j = 8
    · subst h; rw [if_pos rfl, if_pos rfl, if_pos (by omega)]
    · rw [if_neg (by omega), if_neg h]; exact hc j hj
theorem read_one_at {l : List Int} {W : World} {g cap : Nat} {cs : Array Value} (hb : Blk W g 5 cs) (hc : ∀ j, j < 16 → cs[j]? = some (.int .u8 ((oneL (outL l)).getD j 0))) (hcap : 16 ≤ cap) :
    Calls Try.prog 17 #[.slice (some ⟨g, 0, none⟩) 16 cap, .int .i64 0] W (GivesL ([], 0, 2) W) := by
  have hl := oneL_len (out_eight l)
  have hr : Rb W (some ⟨g, 0, none⟩) (oneL (outL l)) := Rs.of_blk hb (by rw [hl]; decide) (fun x hx => u8_wf (oneL_byte l x hx).1 (oneL_byte l x hx).2) (fun j hj => by rw [Nat.zero_add]; exact hc j (by omega))
  have := read_any _ (oneL (outL l)) cap 0 W hr (by omega)
  rwa [hl, read_one] at this
theorem read_spoil_at {l : List Int} {W : World} {g cap : Nat} {cs : Array Value} (hb : Blk W g 5 cs) (hc : ∀ j, j < 16 → cs[j]? = some (.int .u8 ((spoilL (outL l)).getD j 0))) (hcap : 16 ≤ cap) :
    Calls Try.prog 17 #[.slice (some ⟨g, 0, none⟩) 16 cap, .int .i64 0] W (GivesL ([], 0, 2) W) := by
  have hl := spoilL_len (out_eight l)
  have hr : Rb W (some ⟨g, 0, none⟩) (spoilL (outL l)) := Rs.of_blk hb (by rw [hl]; decide) (fun x hx => u8_wf (spoilL_byte l x hx).1 (spoilL_byte l x hx).2) (fun j hj => by rw [Nat.zero_add]; exact hc j (by omega))
  have := read_any _ (spoilL (outL l)) cap 0 W hr (by omega)
  rwa [hl, read_spoil] at this
theorem first_cell {X Y : List Int} {cur : Array Value} {x0 : Int} (h8 : 8 ≤ X.length) (hY : Y = X.take 8) (hx : X.getD 0 0 = x0) (ht : cur.toList.take 16 = Y.map (Value.int .u8) ++ List.replicate 8 (Value.int .u8 0)) :
    cur[0]? = some (.int .u8 x0) := by
  subst hY
  subst hx
  rw [take_get ht (by omega), List.getElem?_append_left (by simp; omega), List.getElem?_map, List.getElem?_take, if_pos (by omega), List.getD_eq_getElem?_getD, List.getElem?_eq_getElem (by omega)]
  rfl
end Go.Proofs.Ytalmgpcffbccoaa
