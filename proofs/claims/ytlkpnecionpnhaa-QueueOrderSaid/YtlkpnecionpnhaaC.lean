/- The line's channel: put. -/
import Derived.Test.YtlkpnecionpnhaaZ
import Derived.Conc.LoneCalls
import Derived.Conc.LoneSelectN
import Derived.Laws.Rows
namespace Go.Proofs.Ytlkpnecionpnhaa
open Go.Conc Go.RowKit

theorem res_s0 (a : Nat) (u z : Value) : commResult #[scase a u z] .select ((0 : Nat) : Int) undef false = .tuple #[goInt 0, .bool false] := by
  simp [commResult, scase, List.zipIdx_cons]
theorem res_sd (a : Nat) (u z : Value) : commResult #[scase a u z] .select (-1) undef false = .tuple #[goInt (-1), .bool false] := by
  simp [commResult, scase, List.zipIdx_cons]

theorem chan_lt {w : World} {c : Nat} {o : Obj} (h : w.heap[c]? = some o) : c < w.heap.size := by
  rcases Nat.lt_or_ge c w.heap.size with h' | h'
  · exact h'
  · rw [Array.getElem?_eq_none h'] at h; cases h
theorem grown_chan {w : World} {c : Nat} (_ : c < w.heap.size) (o : Obj) {cap s r : Nat} {buf : Array Value} {cl tm : Bool} : w.grownBy ((w.alloc o).setChan c cap buf cl s r tm) (some c) :=
  ⟨rfl, rfl, rfl, by simp [World.setChan], fun k hk hne => by
    simp only [World.setChan]
    rw [Array.getElem?_setIfInBounds_ne (fun e => hne (by rw [e]))]
    exact Below.heap_alloc w o k hk⟩

set_option maxRecDepth 100000 in
theorem put_room (c cap s r : Nat) (buf : Array Value) (tm : Bool) (v : Value) (w : World) (hc : w.heap[c]? = some (.chan cap buf false s r tm)) (hroom : buf.size < cap) :
    Calls Try.prog 24 #[.agg #[.chan (some c)], v] w fun e w' => e = .returned (.bool true) ∧ w.grownBy w' (some c) ∧ w'.heap[c]? = some (.chan cap (buf.push v) false (s + 1) r tm) := by
  have hlt := chan_lt hc
  have hc1 : (w.alloc (.cells #[.chan (some c)] 50)).heap[c]? = some (.chan cap buf false s r tm) := (Below.heap_alloc w _ c hlt).trans hc
  refine calls_of_loneTo fun cs => ?_
  have e : Frame.enter Try.prog 24 #[.agg #[.chan (some c)], v] .normal = (base 24).at ⟨#[.agg #[.chan (some c)], v, undef, undef, undef, undef, undef, undef, undef, undef, undef], []⟩ [.code (Try.f24.body.getD .skip)] := by
    simp [Frame.enter, Frame.at, Try.func24, base, Try.f24]
  rw [e]
  refine LoneTo.goes (n := 18) ?_
  simp only [Try.f24, Option.getD_some]
  s_c stepG_seq
  s_reg
  s_op
  s_op
  s_c stepG_region_end
  s_c stepG_seq
  s_c stepG_seq
  s_reg
  s_op
  s_op
  s_c stepG_region_end
  s_reg
  s_op
  s_c stepG_region_end
  s_c stepG_seq
  s_reg
  s_stop
  refine LoneTo.step (step_lone_sel_send_room (k := 0) (c := c) (v := v) (z := .slice none 0 0) (cap := cap) (buf := buf) (s := s) (r := r) (tm := tm)
    (stepG_comm (cases := #[scase c v (.slice none 0 0)]) (blocking := false) (shape := .select) (w' := w.alloc (.cells #[.chan (some c)] 50)) rfl rfl (by decide) (by simp [go_sem, execOp, scase, Act.eval]))
    rfl (fun m c' hm hc' => by rcases m with _ | m; exact absurd rfl hm; simp at hc') hc1 hroom) ?_
  rw [Frame.finish_at, res_s0]
  walk_nrm
  refine LoneTo.goes (n := 12) ?_
  s_op
  s_op
  s_c stepG_region_end
  s_c stepG_block
  s_cond true
  s_c stepG_seq
  s_reg
  s_op
  s_c stepG_region_end
  s_c stepG_ret'
  s_stop
  refine LoneTo.done ⟨.returned (.bool true), _, rfl, ⟨rfl, grown_chan hlt _, ?_⟩, rfl, rfl, rfl, rfl, _, Try.func24, by simp [results, Try.f24, Frame.at]⟩
  exact heap_setChan _ c cap (buf.push v) false (s + 1) r tm (by simp; omega)


set_option maxRecDepth 100000 in
theorem put_full (c cap s r : Nat) (buf : Array Value) (tm : Bool) (v : Value) (w : World) (hc : w.heap[c]? = some (.chan cap buf false s r tm)) (hroom : cap ≤ buf.size) :
    Calls Try.prog 24 #[.agg #[.chan (some c)], v] w fun e w' => e = .returned (.bool false) ∧ w.grownBy w' (some c) ∧ w'.heap[c]? = some (.chan cap buf false s r tm) := by
  have hlt := chan_lt hc
  have hc1 : (w.alloc (.cells #[.chan (some c)] 50)).heap[c]? = some (.chan cap buf false s r tm) := (Below.heap_alloc w _ c hlt).trans hc
  refine calls_of_loneTo fun cs => ?_
  have e : Frame.enter Try.prog 24 #[.agg #[.chan (some c)], v] .normal = (base 24).at ⟨#[.agg #[.chan (some c)], v, undef, undef, undef, undef, undef, undef, undef, undef, undef], []⟩ [.code (Try.f24.body.getD .skip)] := by
    simp [Frame.enter, Frame.at, Try.func24, base, Try.f24]
  rw [e]
  refine LoneTo.goes (n := 18) ?_
  simp only [Try.f24, Option.getD_some]
  s_c stepG_seq
  s_reg
  s_op
  s_op
  s_c stepG_region_end
  s_c stepG_seq
  s_c stepG_seq
  s_reg
  s_op
  s_op
  s_c stepG_region_end
  s_reg
  s_op
  s_c stepG_region_end
  s_c stepG_seq
  s_reg
  s_stop
  refine LoneTo.step (step_lone_sel_default
    (stepG_comm (cases := #[scase c v (.slice none 0 0)]) (blocking := false) (shape := .select) (w' := w.alloc (.cells #[.chan (some c)] 50)) rfl rfl (by decide) (by simp [go_sem, execOp, scase, Act.eval]))
    (fun cc hcc => by
      simp only [List.mem_toArray, List.mem_cons, List.not_mem_nil, or_false] at hcc
      subst hcc
      exact noWay_send hc1 hroom)) ?_
  rw [Frame.finish_at, res_sd]
  walk_nrm
  refine LoneTo.goes (n := 12) ?_
  s_op
  s_op
  s_c stepG_region_end
  s_c stepG_block
  s_cond false
  s_c stepG_seq
  s_reg
  s_op
  s_c stepG_region_end
  s_c stepG_ret'
  s_stop
  refine LoneTo.done ⟨.returned (.bool false), _, rfl, ⟨rfl, World.grownBy_alloc w _ _, hc1⟩, rfl, rfl, rfl, rfl, _, Try.func24, by simp [results, Try.f24, Frame.at]⟩

end Go.Proofs.Ytlkpnecionpnhaa
