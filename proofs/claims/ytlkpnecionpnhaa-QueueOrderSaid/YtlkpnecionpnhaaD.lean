/- The line: begin, fill. -/
import Derived.Test.YtlkpnecionpnhaaC
import Derived.Test.YtlkpnecionpnhaaN
import Derived.WalkLawsBesides
import Derived.WalkSpells
import Derived.IntWalk
import Derived.Outline
namespace Go.Proofs.Ytlkpnecionpnhaa
open Go.RowKit Go.Conc

theorem grown_trans {w w' w'' : World} {r : Option Nat} (h : w.grownBy w' r) (h' : w'.grownBy w'' r) : w.grownBy w'' r :=
  ⟨h'.os.trans h.os, h'.tape.trans h.tape, h'.output.trans h.output, Nat.le_trans h.size h'.size, fun k hk hne => (h'.block k (Nat.lt_of_lt_of_le hk h.size) hne).trans (h.block k hk hne)⟩
/-- The line whose channel is block c. -/
def lineV (c : Nat) : Value := .agg #[.chan (some c)]

theorem mkChan (w : World) (n : Nat) (hn : n ≤ 64) : (Instr.makeChan 48 (.int .i64 n)).run Try.prog w = .ok (.chan (some w.heap.size)) (w.alloc (.chan n #[] false 0 0 false)) := by
  obtain ⟨i, hi, _, _, hb⟩ := info_parts info23
  exact run_makeChan (P := Try.prog) (w := w) Try.underlying48 hi .i64 n (by omega) (by rw [hb]; omega)

set_option maxRecDepth 100000 in
set_option maxHeartbeats 4000000 in
theorem begin_any (n : Nat) (w : World) (hn : n ≤ 64) :
    Calls Try.prog 18 #[.int .i64 n] w fun e w' => ∃ c, e = .returned (lineV c) ∧ w.heap.size ≤ c ∧ w'.heap[c]? = some (.chan n #[] false 0 0 false) ∧ Below w.heap.size w w' := by
  have hmk := fun w => mkChan w n hn
  go_enter Try.func18, Try.ntmps18
  go_wp2_with fail
  refine bodyPost_ret (v := lineV (w.heap.size + 1)) (by simp [results, Try.results18, go_sem, lineV]) rfl ⟨w.heap.size + 1, rfl, by omega, ?_, (((Below.refl _ w).alloc (Nat.le_refl _) _).alloc (by simp) _)⟩
  have := heap_alloc_new (w.alloc (.cells #[.chan (some (w.heap.size + 1))] 50)) (.chan n #[] false 0 0 false)
  simpa only [World.size_alloc] using this

theorem info50 : (Try.prog.info? 50).map (·.size) = some 1 := by kernel_rfl
theorem take_msgs {q : List Msg} {k : Nat} (h : k < q.length) (buf : Array Value) {u : Value} (hu : (q.getD k Msg.none).v = u) : (buf ++ ((q.take k).map Msg.v).toArray).push u = buf ++ ((q.take (k + 1)).map Msg.v).toArray := by
  subst hu
  have e : (q.take (k + 1)).map Msg.v = (q.take k).map Msg.v ++ [(q.getD k Msg.none).v] := by
    rw [List.take_succ_eq_append_getElem h, List.getD_eq_getElem?_getD, List.getElem?_eq_getElem h, List.map_append]; rfl
  rw [e]
  generalize (q.take k).map Msg.v = ms
  apply Array.toList_inj.1
  simp

set_option maxRecDepth 100000 in
set_option maxHeartbeats 4000000 in
theorem fill_any (c cap s r : Nat) (buf : Array Value) (A : Option Addr) (q : List Msg) (cp : Nat) (w : World) (hc : w.heap[c]? = some (.chan cap buf false s r false)) (hq : Rq w A q) (hb : buf.size ≤ cap) (hl : q.length ≤ 10000) :
    Calls Try.prog 19 #[lineV c, .slice A q.length cp] w fun e w' => ∃ k s' : Nat, k = min q.length (cap - buf.size) ∧ e = .returned (.int .i64 k) ∧ w.grownBy w' (some c) ∧ w'.heap[c]? = some (.chan cap (buf ++ ((q.take k).map Msg.v).toArray) false s' r false) := by
  have hlt := chan_lt hc
  have HC : Hid ((w.alloc (.cells #[.chan (some c)] 50)).heap[c]? = some (.chan cap buf false s r false)) := Lib.hid ((Below.heap_alloc w _ c hlt).trans hc)
  have HC0 := Lib.hid hc
  have HQ := Lib.hid hq
  unfold lineV
  clear hc hq
  go_enter Try.func19, Try.ntmps19
  go_wp2_with fail
  go_loopw [9] (fun i wr => ∃ k s' : Nat, k ≤ q.length ∧ buf.size + k ≤ cap ∧ i = .int .i64 k ∧ Hid (Blk wr w.heap.size 50 #[.chan (some c)]) ∧ Hid (w.grownBy wr (some c)) ∧ Hid (wr.heap[c]? = some (.chan cap (buf ++ ((q.take k).map Msg.v).toArray) false s' r false))) (fun i _ => q.length - (intOf i).toNat)
  case atStart => exact ⟨0, s, by omega, by omega, rfl, Lib.hid (Blk.new w 50 _), Lib.hid (World.grownBy_alloc w _ _), Lib.hid (by have := HC.out; simpa using this)⟩
  case round =>
    obtain ⟨k, s', hk, hk2, rfl, HBK, HG, HK⟩ := hrel
    by_cases hlq : k < q.length
    · have hq2 := HQ.out.keep (Keep.of_chan HC0.out HG.out)
      obtain ⟨b, off, rfl, hcell⟩ := hq2.cell hlq
      obtain ⟨u, hu⟩ : ∃ u, (q.getD k Msg.none).v = u := ⟨_, rfl⟩
      have hck : wr.cell? ⟨b, off + k, none⟩ = some u := by rw [← hu]; exact hcell
      have HU := Lib.hid hu
      clear hq2 hcell hu
      have hbx : wr.cell? ⟨w.heap.size, 0, none⟩ = some (.chan (some c)) := HBK.out.cell 0
      by_cases hroom : buf.size + k < cap
      · go_wp2_with fail
        refine (put_room c cap s' r (buf ++ ((q.take k).map Msg.v).toArray) false u wr HK.out (by simp; omega)).mono ?_
        rintro e w1 ⟨rfl, hg1, hc1⟩
        rw [take_msgs hlq buf HU.out] at hc1
        have HC1 := Lib.hid hc1
        have HG1 := Lib.hid (grown_trans HG.out hg1)
        have HBK1 := Lib.hid (HBK.out.grown hg1 (by simp; omega))
        clear hg1 hc1 hck hbx
        go_wp2_with fail
        exact ⟨⟨k + 1, s' + 1, by omega, by omega, by go_num, HBK1, HG1, HC1⟩, by simp [intOf]; omega⟩
      · go_wp2_with fail
        refine (put_full c cap s' r (buf ++ ((q.take k).map Msg.v).toArray) false u wr HK.out (by simp; omega)).mono ?_
        rintro e w1 ⟨rfl, hg1, hc1⟩
        have HC1 := Lib.hid hc1
        have HG1 := Lib.hid (grown_trans HG.out hg1)
        clear hg1 hc1 hck hbx
        go_wp2_with fail
        go_ret
        exact ⟨k, s', by omega, rfl, HG1.out, HC1.out⟩
    · obtain rfl : k = q.length := by omega
      go_wp2_with fail
      go_ret
      exact ⟨q.length, s', by omega, rfl, HG.out, HK.out⟩

theorem own_mono {w : World} {B B' : Nat} {e : TypeId} {size : Nat} {v : Value} {n : Nat} {vs : List Value} (hB : B ≤ B') (h : w.ownsRow B' e size v n vs) : w.ownsRow B e size v n vs :=
  ⟨h.1, h.2.imp id fun ⟨g, cap, cur, e1, hb, rest⟩ => ⟨g, cap, cur, e1, Nat.le_trans hB hb, rest⟩⟩
theorem own_other {w : World} {B : Nat} {e : TypeId} {size : Nat} {v : Value} {n c : Nat} {vs : List Value} (h : w.ownsRow B e size v n vs) (hc : c < B) : v.ownBlock = none ∨ v.ownBlock ≠ some c := by
  rcases h.2 with ⟨rfl, _⟩ | ⟨g, cap, cur, rfl, hge, _⟩
  · exact .inl rfl
  · refine .inr ?_
    simp [Value.ownBlock]; omega
theorem grown_setChan (w : World) (c : Nat) {cap s r : Nat} {buf : Array Value} {cl tm : Bool} : w.grownBy (w.setChan c cap buf cl s r tm) (some c) :=
  ⟨rfl, rfl, rfl, by simp [World.setChan], fun k _ hne => by
    simp only [World.setChan]
    rw [Array.getElem?_setIfInBounds_ne (fun e => hne (by rw [e]))]⟩
theorem take_msg {q : List Msg} {k : Nat} (h : k < q.length) : (q.take (k + 1)).map Msg.v = (q.take k).map Msg.v ++ [(q.getD k Msg.none).v] := by
  rw [List.take_succ_eq_append_getElem h, List.getD_eq_getElem?_getD, List.getElem?_eq_getElem h, List.map_append]; rfl

theorem grown_over {w W1 W2 : World} {r row : Option Nat} (h : w.grownBy W1 r) (h' : W1.grownBy W2 row) (hr : ∀ k, row = some k → w.heap.size ≤ k) : w.grownBy W2 r :=
  ⟨h'.os.trans h.os, h'.tape.trans h.tape, h'.output.trans h.output, Nat.le_trans h.size h'.size, fun k hk hne => (h'.block k (Nat.lt_of_lt_of_le hk h.size) (fun e => by have := hr k e.symm; omega)).trans (h.block k hk hne)⟩
end Go.Proofs.Ytlkpnecionpnhaa
