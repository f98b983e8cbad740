/- The line: all that waits. -/
import Derived.Test.YtlkpnecionpnhaaD
namespace Go.Proofs.Ytlkpnecionpnhaa
open Go.RowKit Go.Conc

def seqR : Code → Code | .seq _ b => b | c => c
def seqL : Code → Code | .seq a _ => a | c => c
def unLoop : Code → Code | .loop c => c | c => c
def unBlock : Code → Code | .block _ c => c | c => c
/-- The loop's body, and what stands behind the loop. -/
noncomputable def allBody : Code := unLoop (unBlock (seqR (seqL (seqR (seqR (Try.f20.body.getD .skip))))))
noncomputable def allTail : Code := seqR (seqR (seqR (Try.f20.body.getD .skip)))

theorem upon_append_rv {o : Oper} {a : Act} {w : World} {K : Act → World → Prop} (s x : Operand) (t : TypeId)
    (ho : o.op = .call { callee := .builtin .append, args := #[s, x], argTypes := #[t, t] })
    (base : Nat) (e : TypeId) (i : TypeInfo) (z : Value) (bytes : Nat) (ht : Try.prog.underlying t = some (.slice e)) (hi : Try.prog.info? e = some i) (hz : i.zero = some z)
    (hsize : i.size = 1) (hby : i.bytes = bytes) (hzs : z.cells.size = 1) (v : Value) (n : Nat) (vs : List Value) (hs : a.eval s = v) (hown : w.ownsRow base e 1 v n vs) (A : Option Addr) (us : List Value) (c m : Nat) (hm : m = us.length) (hx : a.eval x = .slice A m c) (hr : Rv w A us)
    (h63 : n + us.length ≤ maxLen) (hbytes : (n + us.length) * bytes ≤ 140737488355328) (hbase : base ≤ w.heap.size)
    (h : ∀ B cap w', w'.ownsRow base e 1 (.slice B (n + m) cap) (n + m) (vs ++ us) → w.grownBy w' v.ownBlock → K (a.put o.dst (.slice B (n + m) cap)) w') : uponK o a K ((execOp a.eval o).run Try.prog w) := by
  subst hm
  obtain ⟨v', w', hrun, h2, h3⟩ := run_append_rv base t o.type e i z bytes ht hi hz hsize hby hzs v n vs hown A us c hr h63 hbytes hbase
  obtain ⟨B, cap, rfl⟩ := own_shape h2
  unfold execOp
  simp only [ho, resolve, invoke, builtin, Sem.run_bind, Sem.run_pure, Result.andThen_ok, List.map_toArray, List.map_cons, List.map_nil, hs, hx, hrun]
  exact h B cap w' h2 h3

/-- What the line's queue hands over. -/
def AllPost (c : Nat) (q : List Msg) (w : World) (e : Ending) (w' : World) : Prop := ∃ B cp, e = .returned (.slice B q.length cp) ∧ w'.ownsRow w.heap.size 23 1 (.slice B q.length cp) q.length (q.map Msg.v) ∧ w.grownBy w' (some c)

theorem chan_next {q : List Msg} {k : Nat} (h : k < q.length) : ((q.drop k).map Msg.v).toArray.getD 0 undef = (q.getD k Msg.none).v ∧ ((q.drop k).map Msg.v).toArray.extract 1 ((q.drop k).map Msg.v).toArray.size = ((q.drop (k + 1)).map Msg.v).toArray ∧ 0 < ((q.drop k).map Msg.v).toArray.size := by
  have e : q.drop k = q.getD k Msg.none :: q.drop (k + 1) := by
    rw [List.getD_eq_getElem?_getD, List.getElem?_eq_getElem h]
    exact List.drop_eq_getElem_cons h
  rw [e]
  generalize q.getD k Msg.none = m
  generalize q.drop (k + 1) = ms
  refine ⟨by simp, ?_, by simp⟩
  apply Array.toList_inj.1
  simp [List.take_of_length_le]

set_option maxRecDepth 100000 in
set_option maxHeartbeats 4000000 in
theorem all_loop (c cap s : Nat) (q : List Msg) (w : World) (cs : List Frame) (hlt : c < w.heap.size) (hq : q.length ≤ 64) : ∀ (m k r : Nat) (_ : q.length = k + m) (B : Option Addr) (cp : Nat) (W : World) (u4 u5 u9 u10 u11 u12 u13 u14 u15 u16 : Value)
    (_ : Blk W w.heap.size 50 #[.chan (some c)]) (_ : W.heap[c]? = some (.chan cap ((q.drop k).map Msg.v).toArray false s r false)) (_ : W.ownsRow (w.heap.size + 1) 23 1 (.slice B k cp) k ((q.take k).map Msg.v)) (_ : w.grownBy W (some c)),
    LoneTo Try.prog (fun g' w' => ∃ e fr, g' = G fr cs ∧ AllPost c q w e w' ∧ fr.fn = 20 ∧ Frame.leaving Try.prog fr w' e)
      (G ((base 20).at ⟨#[.agg #[.chan (some c)], .pointer (some ⟨w.heap.size, 0, none⟩), .slice none 0 0, .slice B k cp, u4, u5, .chan (some c), .int .i64 (q.length : Int), .int .i64 (k : Int), u9, u10, u11, u12, u13, u14, u15, u16, undef], []⟩ [.code allBody, .inLoop allBody, .inBlock 0, .code allTail]) cs) W := by
  intro m
  induction m with
  | zero =>
    intro k r hk B cp W u4 u5 u9 u10 u11 u12 u13 u14 u15 u16 hbk hch hown hg
    obtain rfl : k = q.length := by omega
    clear hk
    refine LoneTo.goes (n := 20) ?_
    simp only [allBody, allTail, seqL, seqR, unLoop, unBlock, Try.f20, Option.getD_some]
    s_c stepG_seq
    s_reg
    s_op
    s_c stepG_region_end
    s_c stepG_seq
    s_cond false
    s_exit
    s_c stepG_seq
    s_reg
    s_op
    s_op
    s_c stepG_region_end
    s_c stepG_ret'
    s_stop
    refine LoneTo.done ⟨.returned (.slice B q.length cp), _, rfl, ⟨B, cp, rfl, ?_, hg⟩, rfl, rfl, rfl, rfl, _, Try.func20, by simp [results, Try.f20, Frame.at]⟩
    rw [List.take_length] at hown
    exact own_mono (by omega) hown
  | succ m ih =>
    intro k r hk B cp W u4 u5 u9 u10 u11 u12 u13 u14 u15 u16 hbk hch hown hg
    have hlk : k < q.length := by omega
    have hkk : decide ((k : Int) < q.length) = true := decide_eq_true (by omega)
    have hkn : decide (k < q.length) = true := decide_eq_true hlk
    have hbx : W.cell? ⟨w.heap.size, 0, none⟩ = some (.chan (some c)) := hbk.cell 0
    obtain ⟨hn1, hn2, hn3⟩ := chan_next hlk
    have HN1 := Lib.hid hn1
    have HN2 := Lib.hid hn2
    have HIH := Lib.hid ih
    have HKM := Lib.hid hk
    clear hn1 hn2 ih hk
    refine LoneTo.goes (n := 20) ?_
    simp only [allBody, allTail, seqL, seqR, unLoop, unBlock, Try.f20, Option.getD_some]
    s_c stepG_seq
    s_reg
    s_op
    s_c stepG_region_end
    s_c stepG_seq
    s_cond true
    s_c stepG_skip
    s_c stepG_seq
    s_c stepG_block
    s_reg
    s_op
    s_op
    s_op
    s_stop
    refine LoneTo.step (step_lone_recv_buf false (c := c) (z := .slice none 0 0) (stepG_comm (cases := #[rcase c (.slice none 0 0)]) (blocking := true) (shape := .recv false) (w' := W) rfl rfl (by decide) (by simp [go_sem, rcase])) hch hn3) ?_
    rw [HN1.out, HN2.out]
    obtain ⟨W1, hW1⟩ : ∃ W1, W.setChan c cap ((q.drop (k + 1)).map Msg.v).toArray false s (r + 1) false = W1 := ⟨_, rfl⟩
    have hg1 : W.grownBy W1 (some c) := by rw [← hW1]; exact grown_setChan _ _
    have hch1 : W1.heap[c]? = some (.chan cap ((q.drop (k + 1)).map Msg.v).toArray false s (r + 1) false) := by rw [← hW1]; exact heap_setChan W c cap _ false s (r + 1) false (chan_lt hch)
    rw [hW1]
    clear hW1
    have hbk1 : Blk W1 w.heap.size 50 #[.chan (some c)] := hbk.grown hg1 (by simp; omega)
    have hown1 : W1.ownsRow (w.heap.size + 1) 23 1 (.slice B k cp) k ((q.take k).map Msg.v) := hown.kept hg1 (own_other hown (by omega))
    have hgg := grown_trans hg hg1
    have hbase : w.heap.size + 1 ≤ W1.heap.size := hbk1.lt
    rw [Frame.finish_at]
    obtain ⟨i0, hi0, hz0, hz1, hz2⟩ := info_parts info23
    obtain ⟨mA, mx, mc, hm⟩ : ∃ mA mx mc, q.getD k Msg.none = ⟨mA, mx, mc⟩ := ⟨_, _, _, rfl⟩
    have HQK := Lib.hid (take_msg hlk)
    rw [hm] at HQK ⊢
    have HBK1 := Lib.hid hbk1
    have HCH1 := Lib.hid hch1
    have HOWN1 := Lib.hid hown1
    have HGG := Lib.hid hgg
    have HBS := Lib.hid hbase
    clear hbk hch hown hg hg1 hbk1 hch1 hown1 hgg hbx hm hbase
    walk_nrm
    refine LoneTo.goes (n := 20) ?_
    unfold Msg.v got
    s_op
    s_in
    refine goes_oper_k rfl rfl (by decide) (fun K hK => ?_)
    refine upon_append_rv (.tmp 10) (.tmp 14) 22 rfl (w.heap.size + 1) 23 i0 _ 24 Try.underlying22 hi0 hz0 hz1 hz2 rfl (.slice B k cp) k _ rfl (HOWN1.out.alloc _) (some ⟨W1.heap.size, 0, none⟩) [.slice mA mx.length mc] 1 1 rfl rfl ?_ (by unfold maxLen; simp; omega) (by simp; omega) (by have := HBS.out; simp; omega) ?_
    · exact Rv.of_blk (Blk.new W1 23 _) (by simp [maxLen]) (by simp [Value.oneCell']) (fun j u hj => by simpa using hj)
    intro B2 cp2 W2 hown2 hgr2
    refine hK _ _ ⟨trivial, ?_⟩
    clear hK K
    have hne := own_other HOWN1.out (c := c) (by omega)
    have hgr12 : W1.grownBy W2 (Value.slice B k cp).ownBlock := grown_trans (World.grownBy_alloc W1 _ _) hgr2
    have hneb := own_other HOWN1.out (c := w.heap.size) (by omega)
    have hbk2 : Blk W2 w.heap.size 50 #[.chan (some c)] := HBK1.out.grown hgr12 (by intro e; rcases hneb with h | h; rw [h] at e; cases e; exact h e.symm)
    have hch2 : W2.heap[c]? = some (.chan cap ((q.drop (k + 1)).map Msg.v).toArray false s (r + 1) false) := (hgr12.block c (by have := HBS.out; omega) (by intro e; rcases hne with h | h; rw [h] at e; cases e; exact h e.symm)).trans HCH1.out
    have hg2 : w.grownBy W2 (some c) := grown_over HGG.out hgr12 (fun k' hk' => by
      rcases HOWN1.out.2 with ⟨e, _⟩ | ⟨g, cap', cur, e, hge, _⟩
      · rw [e] at hk'; simp [Value.ownBlock] at hk'
      · rw [e] at hk'; have : g = k' := by simpa [Value.ownBlock] using hk'
        omega)
    have hown3 : W2.ownsRow (w.heap.size + 1) 23 1 (.slice B2 (k + 1) cp2) (k + 1) ((q.take (k + 1)).map Msg.v) := by rw [HQK.out]; exact hown2
    have HN := Lib.hid (fun u4 u5 u9 u10 u11 u12 u13 u14 u15 u16 => HIH.out (k + 1) (r + 1) (by have := HKM.out; omega) B2 cp2 W2 u4 u5 u9 u10 u11 u12 u13 u14 u15 u16 hbk2 hch2 hown3 hg2)
    clear hgr12 hgr2 hown2 hown3 hbk2 hch2 hg2 hne hneb HIH
    walk_nrm
    s_op
    s_c stepG_region_end
    s_c stepG_inBlock
    s_reg
    s_op
    s_op
    s_c stepG_region_end
    s_c stepG_inLoop
    s_stop
    have h := HN.out
    have hw : IntKind.i64.wrap ((k : Int) + 1) = (k : Int) + 1 := by rw [IntKind.wrap_i64]; omega
    rw [hw]
    simp only [allBody, allTail, seqL, seqR, unLoop, unBlock, Try.f20, Option.getD_some, Int.natCast_add, Int.natCast_one] at h
    exact h _ _ _ _ _ _ _ _ _ _

set_option maxRecDepth 100000 in
set_option maxHeartbeats 4000000 in
theorem all_any (c cap s r : Nat) (q : List Msg) (w : World) (hc : w.heap[c]? = some (.chan cap (q.map Msg.v).toArray false s r false)) (hq : q.length ≤ 64) :
    Calls Try.prog 20 #[lineV c] w (AllPost c q w) := by
  have hlt := chan_lt hc
  have hc1 : (w.alloc (.cells #[.chan (some c)] 50)).heap[c]? = some (.chan cap (q.map Msg.v).toArray false s r false) := (Below.heap_alloc w _ c hlt).trans hc
  have hc2 : ((w.alloc (.cells #[.chan (some c)] 50)).alloc (.cells #[] 23)).heap[c]? = some (.chan cap (q.map Msg.v).toArray false s r false) := (Below.heap_alloc _ _ c (by simp; omega)).trans hc1
  have hbk : Blk ((w.alloc (.cells #[.chan (some c)] 50)).alloc (.cells #[] 23)) w.heap.size 50 #[.chan (some c)] := (Blk.new w 50 _).alloc _
  have hown := own_empty (w.alloc (.cells #[.chan (some c)] 50)) (w.heap.size + 1) 23 (by simp)
  have hg : w.grownBy ((w.alloc (.cells #[.chan (some c)] 50)).alloc (.cells #[] 23)) (some c) := grown_trans (World.grownBy_alloc _ _ _) (World.grownBy_alloc _ _ _)
  refine calls_of_loneTo (fun cs => ?_) (by rintro _ ⟨_, _, h, _⟩; cases h)
  have HN := Lib.hid (fun u4 u5 u9 u10 u11 u12 u13 u14 u15 u16 => all_loop c cap s q w cs hlt hq q.length 0 r (by omega) (some ⟨w.heap.size + 1, 0, none⟩) 0 ((w.alloc (.cells #[.chan (some c)] 50)).alloc (.cells #[] 23)) u4 u5 u9 u10 u11 u12 u13 u14 u15 u16 hbk hc2 (by simpa using hown) hg)
  have HC2 := Lib.hid hc2
  clear hbk hown hg hc1 hc2
  unfold lineV
  have e : Frame.enter Try.prog 20 #[.agg #[.chan (some c)]] .normal = (base 20).at ⟨#[.agg #[.chan (some c)], undef, undef, undef, undef, undef, undef, undef, undef, undef, undef, undef, undef, undef, undef, undef, undef, undef], []⟩ [.code (Try.f20.body.getD .skip)] := by
    simp [Frame.enter, Frame.at, Try.func20, base, Try.f20]
  rw [e]
  refine LoneTo.goes (n := 30) ?_
  simp only [Try.f20, Option.getD_some]
  s_c stepG_seq
  s_reg
  s_op
  s_op
  s_c stepG_region_end
  s_c stepG_seq
  s_reg
  s_op
  s_op
  s_c stepG_region_end
  s_c stepG_seq
  s_c stepG_seq
  s_reg
  s_op
  s_op
  have hlen := fun ty => run_len_chan (P := Try.prog) 48 ty Try.underlying48 HC2.out
  rw [List.size_toArray, List.length_map] at hlen
  s_op
  s_op
  s_c stepG_region_end
  s_c stepG_block
  s_c stepG_loop
  s_stop
  have h := HN.out
  simp only [allBody, allTail, seqL, seqR, unLoop, unBlock, Try.f20, Option.getD_some, Int.natCast_zero] at h
  exact h _ _ _ _ _ _ _ _ _ _
end Go.Proofs.Ytlkpnecionpnhaa
