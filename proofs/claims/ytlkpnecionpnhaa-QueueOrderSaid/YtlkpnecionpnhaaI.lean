/- Clone, Take; the reference's Take, Pour; Long. -/
import Derived.Test.YtlkpnecionpnhaaH
namespace Go.Proofs.Ytlkpnecionpnhaa
open Go.RowKit

theorem step_append_rv {ops : Array Oper} {o : Oper} {a : Act} {w : World} {K : Act → World → Prop} {Q : Exit → Act → World → Prop} {E : Prop} (hgd : o.guard = none) (s x : Operand) (t : TypeId)
    (ho : o.op = .call { callee := .builtin .append, args := #[s, x], argTypes := #[t, t] })
    (base : Nat) (e : TypeId) (i : TypeInfo) (z : Value) (bytes : Nat) (ht : Try.prog.underlying t = some (.slice e)) (hi : Try.prog.info? e = some i) (hz : i.zero = some z)
    (hsize : i.size = 1) (hby : i.bytes = bytes) (hzs : z.cells.size = 1) (v : Value) (n : Nat) (vs : List Value) (hs : a.eval s = v) (hown : w.ownsRow base e 1 v n vs) (A : Option Addr) (us : List Value) (c m : Nat) (hm : m = us.length) (hx : a.eval x = .slice A m c) (hr : Rv w A us)
    (h63 : n + us.length ≤ maxLen) (hbytes : (n + us.length) * bytes ≤ 140737488355328) (hbase : base ≤ w.heap.size)
    (h : ∀ B cap w', w'.ownsRow base e 1 (.slice B (n + m) cap) (n + m) (vs ++ us) → w.grownBy w' v.ownBlock → K (a.put o.dst (.slice B (n + m) cap)) w') :
    if Region.wanted o (yielded ops a.tmps) = true then Oper.wp Try.prog o a w K Q else E := by
  have hw : Region.wanted o (yielded ops a.tmps) = true := by simp [Region.wanted, hgd]
  rw [if_pos hw]
  subst hm
  obtain ⟨v', w', hrun, h2, h3⟩ := run_append_rv base t o.type e i z bytes ht hi hz hsize hby hzs v n vs hown A us c hr h63 hbytes hbase
  obtain ⟨B, cap, rfl⟩ := own_shape h2
  unfold Oper.wp execOp
  simp only [ho, resolve, invoke, builtin, Sem.run_bind, Sem.run_pure, Result.andThen_ok, List.map_toArray, List.map_cons, List.map_nil, hs, hx, hrun]
  exact h B cap w' h2 h3

theorem eql_nil (w : World) (A : Option Addr) (n c : Nat) : (binOp .eql 22 (.slice A n c) (.slice none 0 0)).run Try.prog w = .ok (.bool A.isNone) w := by
  simp only [binOp]
  simp [Op.equal, Op.maxDepth, Lib.run_equalIn_slice_nil w 9999 22 23 A n c 0 0 Try.underlying22]
/-- A queue comes back. -/
def GivesC (p : List Msg) (w : World) (e : Ending) (w' : World) : Prop := ∃ B cp, e = .returned (.slice B p.length cp) ∧ p.length ≤ cp ∧ Rq w' B p ∧ Below w.heap.size w w'

set_option maxRecDepth 100000 in
set_option maxHeartbeats 4000000 in
theorem clone_some (ad : Addr) (q : List Msg) (c : Nat) (w : World) (hq : Rq w (some ad) q) (hl : q.length ≤ 1000) : Calls Try.prog 21 #[.slice (some ad) q.length c] w (GivesC q w) := by
  have HQ := Lib.hid hq
  obtain ⟨i0, hi0, hz0, hz1, hz2⟩ := info_parts info23
  have heq := fun w => eql_nil w (some ad) q.length c
  simp only [Option.isNone_some] at heq
  clear hq
  go_enter Try.func21, Try.ntmps21
  go_wp2_with (first
    | ((with_reducible refine at_dst 7 ?_); refine wpList_append_rv rfl (.tmp 5) (.tmp 6) 22 rfl w.heap.size 23 i0 _ 24 Try.underlying22 hi0 hz0 hz1 hz2 rfl _ 0 [] rfl (own_empty w w.heap.size 23 (Nat.le_refl _)) (some ad) _ c q.length (by rw [List.length_map]) rfl (HQ.out.alloc _).row (by rw [List.length_map]; unfold maxLen; omega) (by rw [List.length_map]; omega) (by simp) ?_; intro B3 cap3 w3 hown3 hgrow3; have HB3 := Lib.hid (below_own (Nat.le_refl _) ((Below.refl _ w).alloc (Nat.le_refl _) _) (own_empty w w.heap.size 23 (Nat.le_refl _)) hgrow3); have HO3 := Lib.hid hown3; clear hown3 hgrow3; rw [Nat.zero_add] at HO3 ⊢)
    | fail)
  have hO := HO3.out
  rw [List.nil_append] at hO
  obtain ⟨B6, c6, e6, hc6, hr6⟩ := Rq.of_own rfl hO (by unfold maxLen; omega) (fun m hm => (HQ.out.below HB3.out).each m hm)
  cases e6
  go_ret
  exact ⟨B3, cap3, rfl, hc6, hr6, HB3.out⟩
set_option maxRecDepth 100000 in
set_option maxHeartbeats 4000000 in
theorem clone_none (q : List Msg) (c : Nat) (w : World) (hq : Rq w none q) : Calls Try.prog 21 #[.slice none q.length c] w (GivesC q w) := by
  obtain rfl : q = [] := by
    rcases Nat.eq_zero_or_pos q.length with h | h
    · exact List.eq_nil_of_length_eq_zero h
    · obtain ⟨_, _, e, _⟩ := hq.addr h
      cases e
  have heq := fun w => eql_nil w none 0 c
  simp only [Option.isNone_none] at heq
  clear hq
  go_enter Try.func21, Try.ntmps21
  go_wp2_with fail
  go_ret
  exact ⟨none, 0, rfl, Nat.le_refl _, Rq.nil _ _, Below.refl _ _⟩
theorem clone_any (A : Option Addr) (q : List Msg) (c : Nat) (w : World) (hq : Rq w A q) (hl : q.length ≤ 1000) : Calls Try.prog 21 #[.slice A q.length c] w (GivesC q w) := by
  cases A with
  | none => exact clone_none q c w hq
  | some ad => exact clone_some ad q c w hq hl

/-- What Take hands over. -/
def GivesT (m : Msg) (t : List Msg) (is : Bool) (w : World) (e : Ending) (w' : World) : Prop :=
  ∃ B cp, e = .returned (.tuple #[m.v, .slice B t.length cp, .bool is]) ∧ t.length ≤ cp ∧ Rq w' B t ∧ Below w.heap.size w w'

set_option maxRecDepth 100000 in
set_option maxHeartbeats 4000000 in
theorem rtake_nil (A : Option Addr) (c : Nat) (w : World) : Calls Try.prog 14 #[.slice A 0 c] w (GivesT Msg.none [] false w) := by
  go_enter Try.func14, Try.ntmps14
  go_wp2_with fail
  go_ret3
  exact ⟨A, c, rfl, Nat.zero_le _, Rq.nil _ _, Below.refl _ _⟩
set_option maxRecDepth 100000 in
set_option maxHeartbeats 4000000 in
theorem take_nil (A : Option Addr) (c : Nat) (w : World) : Calls Try.prog 13 #[.slice A 0 c] w (GivesT Msg.none [] false w) := by
  go_enter Try.func13, Try.ntmps13
  go_wp2_with fail
  go_ret3
  exact ⟨A, c, rfl, Nat.zero_le _, Rq.nil _ _, Below.refl _ _⟩

set_option maxRecDepth 100000 in
set_option maxHeartbeats 4000000 in
theorem rtake_cons (A : Option Addr) (mA : Option Addr) (mx : List Int) (mc : Nat) (t : List Msg) (c : Nat) (w : World) (hq : Rq w A (⟨mA, mx, mc⟩ :: t)) (hc : t.length + 1 ≤ c) :
    Calls Try.prog 14 #[.slice A (t.length + 1) c] w (GivesT ⟨mA, mx, mc⟩ t true w) := by
  have hm := hq.len
  unfold maxLen at hm
  simp only [List.length_cons] at hm
  have hcut := hq.cut (l := 1) (m := t.length + 1) (c := c) (by omega) (by simp) (by simpa using hc)
  have hrun : ∀ w, _ := fun w => run_cut_l w A (t.length + 1) c 1 (by omega)
  obtain ⟨b, off, rfl, hcell⟩ := hq.addr (by simp)
  have hck : w.cell? ⟨b, off, none⟩ = some (.slice mA mx.length mc) := hcell 0 (by simp)
  obtain ⟨B, hB⟩ : ∃ B, (if c = 1 then some (⟨b, off, none⟩ : Addr) else Option.map (fun x : Addr => x.add (1 * 1)) (some ⟨b, off, none⟩)) = B := ⟨_, rfl⟩
  rw [hB] at hcut hrun
  clear hB
  have HCUT : Hid (Rq w B t) := Lib.hid (by simpa [List.take_of_length_le] using hcut)
  clear hq hcut hcell
  simp only [Nat.add_sub_cancel, Int.ofNat_one] at hrun
  go_enter Try.func14, Try.ntmps14
  go_wp2_with fail
  go_quiet (fail)
  go_wp2_with fail
  go_ret3
  exact ⟨B, c - 1, rfl, by omega, ⟨HCUT.out.row.keep (Keep.of_below (below_drewN (Below.refl _ _) _)), fun m hm => (HCUT.out.each m hm).drewN _⟩, below_drewN (Below.refl _ _) _⟩

set_option maxRecDepth 100000 in
set_option maxHeartbeats 4000000 in
theorem take_cons (A : Option Addr) (mA : Option Addr) (mx : List Int) (mc : Nat) (t : List Msg) (c : Nat) (w : World) (hq : Rq w A (⟨mA, mx, mc⟩ :: t)) (hc : t.length + 1 ≤ c) (hl : t.length ≤ 1000) :
    Calls Try.prog 13 #[.slice A (t.length + 1) c] w (GivesT ⟨mA, mx, mc⟩ t true w) := by
  have hm := hq.len
  unfold maxLen at hm
  simp only [List.length_cons] at hm
  have hcut := hq.cut (l := 1) (m := t.length + 1) (c := c) (by omega) (by simp) (by simpa using hc)
  have hrun : ∀ w, _ := fun w => run_cut_l w A (t.length + 1) c 1 (by omega)
  obtain ⟨b, off, rfl, hcell⟩ := hq.addr (by simp)
  have hck : w.cell? ⟨b, off, none⟩ = some (.slice mA mx.length mc) := hcell 0 (by simp)
  obtain ⟨B, hB⟩ : ∃ B, (if c = 1 then some (⟨b, off, none⟩ : Addr) else Option.map (fun x : Addr => x.add (1 * 1)) (some ⟨b, off, none⟩)) = B := ⟨_, rfl⟩
  rw [hB] at hcut hrun
  clear hB
  have hcut2 : Rq w B t := by simpa [List.take_of_length_le] using hcut
  have HCUT : Hid (Rq w.drew B t) := Lib.hid (hcut2.keep (Keep.of_below (below_drewN (Below.refl _ _) 1)))
  clear hq hcut hcut2 hcell
  simp only [Nat.add_sub_cancel, Int.ofNat_one] at hrun
  go_enter Try.func13, Try.ntmps13
  go_wp2_with fail
  go_region_held3 (fun w' => w'.cell? ⟨b, off, none⟩ = some (.slice mA mx.length mc)) (go_keep) (first | (go_at_call 21; (refine (clone_any B t _ _ HCUT.out hl).mono ?_); rintro e w' ⟨B2, c2, rfl, hc2, hr2, hb2⟩; have hck2 := (hb2.cell (p := ⟨b, off, none⟩) (cell_lt (w := w.drew) hck)).trans (show w.drew.cell? ⟨b, off, none⟩ = _ from hck)))
  all_goals
    have HB := Lib.hid ((Below.refl w.heap.size w).drew.trans hb2)
    have HR := Lib.hid hr2
    have HCC := Lib.hid hc2
    clear hb2 hr2 hc2 hck2
    go_wp2_with fail
    go_ret3
    exact ⟨B2, c2, rfl, HCC.out, HR.out, HB.out⟩

theorem take_any (A : Option Addr) (q : List Msg) (c : Nat) (w : World) (hq : Rq w A q) (hc : q.length ≤ c) (hl : q.length ≤ 1000) :
    Calls Try.prog 13 #[.slice A q.length c] w (GivesT (q.getD 0 Msg.none) q.tail (!q.isEmpty) w) := by
  match q with
  | [] => exact take_nil A c w
  | ⟨mA, mx, mc⟩ :: t => exact take_cons A mA mx mc t c w hq (by simpa using hc) (by simp at hl; omega)
theorem rtake_any (A : Option Addr) (q : List Msg) (c : Nat) (w : World) (hq : Rq w A q) (hc : q.length ≤ c) :
    Calls Try.prog 14 #[.slice A q.length c] w (GivesT (q.getD 0 Msg.none) q.tail (!q.isEmpty) w) := by
  match q with
  | [] => exact rtake_nil A c w
  | ⟨mA, mx, mc⟩ :: t => exact rtake_cons A mA mx mc t c w hq (by simpa using hc)

set_option maxRecDepth 100000 in
set_option maxHeartbeats 4000000 in
theorem rpour_bad (A : Option Addr) (q : List Msg) (c : Nat) (A' : Option Addr) (l : List Msg) (c' : Nat) (room : Int) (w : World) (hq : Rq w A q) (hcq : q.length ≤ c) (hr : room < 1 ∨ 64 < room) :
    Calls Try.prog 12 #[.slice A q.length c, .slice A' l.length c', .int .i64 room] w (GivesP q 0 1 w) := by
  have HQ := Lib.hid hq
  have HC := Lib.hid hcq
  clear hq hcq
  rcases hr with h | h
  · have t1 : decide (room < 1) = true := decide_eq_true h
    go_enter Try.func12, Try.ntmps12
    go_wp2_with fail
    go_ret3
    exact ⟨A, c, rfl, HC.out, HQ.out, Below.refl _ _⟩
  · have t1 : decide (room < 1) = false := decide_eq_false (by omega)
    have t2 : decide (64 < room) = true := decide_eq_true h
    go_enter Try.func12, Try.ntmps12
    go_wp2_with fail
    go_ret3
    exact ⟨A, c, rfl, HC.out, HQ.out, Below.refl _ _⟩

theorem append_done {w w' : World} {A : Option Addr} {q : List Msg} {A' : Option Addr} {l : List Msg} {k : Nat} {B : Option Addr} {cap n : Nat} (hn : n = q.length + (l.take k).length) (hq : Rq w A q) (hl : Rq w A' l) (hb : Below w.heap.size w w')
    (h : w'.ownsRow w.heap.size 23 1 (.slice B n cap) n (q.map Msg.v ++ (l.take k).map Msg.v)) (hlen : n ≤ 5000) : n = (q ++ l.take k).length ∧ n ≤ cap ∧ Rq w' B (q ++ l.take k) := by
  subst hn
  rw [← List.map_append] at h
  obtain ⟨B6, c6, e6, hc6, hr6⟩ := Rq.of_own (q := q ++ l.take k) (by rw [List.length_append]) h (by rw [List.length_append]; unfold maxLen; omega) (fun m hm => by
    rcases List.mem_append.1 hm with h | h
    · exact (hq.below hb).each m h
    · exact (hl.below hb).each m (List.mem_of_mem_take h))
  rw [List.length_append] at e6 hc6
  cases e6
  exact ⟨by rw [List.length_append], hc6, hr6⟩

set_option maxRecDepth 100000 in
set_option maxHeartbeats 4000000 in
theorem rpour_good (A : Option Addr) (q : List Msg) (c : Nat) (A' : Option Addr) (l : List Msg) (c' : Nat) (room : Int) (w : World) (hq : Rq w A q) (hql : q.length ≤ 1000) (hl : Rq w A' l) (hcl : l.length ≤ c') (hll : l.length ≤ 1000) (h1 : 1 ≤ room) (h64 : room ≤ 64)
    (k : Nat) (hk : k ≤ l.length) (hkc : (room < q.length ∧ k = 0) ∨ (0 ≤ room - q.length ∧ (l.length : Int) < room - q.length ∧ k = l.length) ∨ (0 ≤ room - q.length ∧ room - q.length ≤ l.length ∧ (k : Int) = room - q.length)) :
    Calls Try.prog 12 #[.slice A q.length c, .slice A' l.length c', .int .i64 room] w (GivesP (q ++ l.take k) k 0 w) := by
  have HQ := Lib.hid hq
  have HL := Lib.hid hl
  have HCL := Lib.hid hcl
  have t1 : decide (room < 1) = false := decide_eq_false (by omega)
  have t2 : decide (64 < room) = false := decide_eq_false (by omega)
  obtain ⟨i0, hi0, hz0, hz1, hz2⟩ := info_parts info23
  have hcut := hl.cut (l := 0) (m := k) (c := c') (by omega) hk hcl
  have hrun : ∀ w, _ := fun w => run_cut_h w A' l.length c' k (by omega)
  obtain ⟨B, hB⟩ : ∃ B, (if c' = 0 then A' else Option.map (fun x : Addr => x.add (0 * 1)) A') = B := ⟨_, rfl⟩
  rw [hB] at hcut hrun
  rw [List.drop_zero] at hcut
  have HCUT := Lib.hid hcut
  have HK : Hid ((l.take k).length = k) := Lib.hid (by rw [List.length_take]; omega)
  clear hq hl hcl hB hcut
  rcases hkc with ⟨h, rfl⟩ | ⟨h0, h, rfl⟩ | ⟨h0, h, h'⟩
  case' inl => have t3 : decide (room - (q.length : Int) < 0) = true := decide_eq_true (by omega)
  case' inl => have t4 : decide ((l.length : Int) < 0) = false := decide_eq_false (by omega)
  case' inl => simp only [Int.natCast_zero] at hrun
  case' inr.inl => have t3 : decide (room - (q.length : Int) < 0) = false := decide_eq_false (by omega)
  case' inr.inl => have t4 : decide ((l.length : Int) < room - q.length) = true := decide_eq_true (by omega)
  case' inr.inr => have t3 : decide (room - (q.length : Int) < 0) = false := decide_eq_false (by omega)
  case' inr.inr => have t4 : decide ((l.length : Int) < room - q.length) = false := decide_eq_false (by omega)
  case' inr.inr => have h2 : room - (q.length : Int) = k := h'.symm
  case' inr.inr => clear h'
  all_goals
    go_enter Try.func12, Try.ntmps12
    go_wp2_with fail
    go_region_held3 (fun _ => True) (trivial) (first
      | (refine step_append_rv (by rfl) (.tmp 29) (.tmp 30) 22 (by rfl) w.heap.size 23 i0 _ 24 Try.underlying22 hi0 hz0 hz1 hz2 rfl _ 0 [] (by rfl) (own_empty w.drew w.heap.size 23 (Nat.le_refl _)) A _ c q.length (by rw [List.length_map]) (by rfl) ((HQ.out.keep (Keep.of_below (Below.refl _ w).drew)).alloc _).row (by rw [List.length_map]; unfold maxLen; omega) (by rw [List.length_map]; omega) (by simp) ?_; intro B3 cap3 w3 hown3 hgrow3; have HB3 := Lib.hid (below_own (Nat.le_refl _) ((Below.refl _ w).drew.alloc (Nat.le_refl _) _) (own_empty w.drew w.heap.size 23 (Nat.le_refl _)) hgrow3); have HO3 := Lib.hid hown3; clear hown3 hgrow3; rw [Nat.zero_add] at HO3 ⊢)
      | (refine step_append_rv (by rfl) (.tmp 31) (.tmp 34) 22 (by rfl) w.heap.size 23 i0 _ 24 Try.underlying22 hi0 hz0 hz1 hz2 rfl _ q.length _ (by rfl) HO3.out B _ c' _ (by rw [List.length_map, HK.out]) (by rfl) (HCUT.out.below HB3.out).row (by rw [List.length_map, HK.out]; unfold maxLen; omega) (by rw [List.length_map, HK.out]; omega) HB3.out.size ?_; intro B5 cap5 w5 hown5 hgrow5; have HB5 := Lib.hid (below_own (Nat.le_refl _) HB3.out HO3.out hgrow5); have HO5 := Lib.hid hown5; clear hown5 hgrow5))
  all_goals
    have hO := HO5.out
    rw [List.nil_append] at hO
    obtain ⟨e1, e2, e3⟩ := append_done (by rw [HK.out]) HQ.out HL.out HB5.out hO (by omega)
    have E1 := Lib.hid e1
    have E2 := Lib.hid e2
    have E3 := Lib.hid e3
    clear e1 e2 e3 hO HO5 HO3
    go_wp2_with fail
    go_ret3
    exact ⟨B5, cap5, by first | (rw [← E1.out]; rfl) | (rw [← E1.out]; simp), by rw [← E1.out]; exact E2.out, E3.out, HB5.out⟩

theorem pour_none {q l : List Msg} {room : Nat} (h : room ≤ q.length) : pourL q l room = q ∧ pourK q l room = 0 := by
  have e : pourK q l room = 0 := by unfold pourK; rw [Nat.sub_eq_zero_of_le h]; simp
  unfold pourL
  rw [e]
  simp

/-- What Pour hands over. -/
def pourQ (q l : List Msg) (room : Int) : List Msg × Int × Int := if room < 1 ∨ 64 < room then (q, 0, 1) else (pourL q l room.toNat, pourK q l room.toNat, 0)
theorem pour_any (A : Option Addr) (q : List Msg) (c : Nat) (A' : Option Addr) (l : List Msg) (c' : Nat) (room : Int) (w : World) (hq : Rq w A q) (hcq : q.length ≤ c) (hql : q.length ≤ 1000) (hl : Rq w A' l) (hll : l.length ≤ 1000) :
    Calls Try.prog 11 #[.slice A q.length c, .slice A' l.length c', .int .i64 room] w (GivesP (pourQ q l room).1 (pourQ q l room).2.1 (pourQ q l room).2.2 w) := by
  unfold pourQ
  by_cases hr : room < 1 ∨ 64 < room
  · rw [if_pos hr]; exact pour_bad A q c A' l c' room w hq hcq hr
  · rw [if_neg hr]
    obtain ⟨n, rfl⟩ := Int.eq_ofNat_of_zero_le (show 0 ≤ room by omega)
    show Calls _ _ _ _ (GivesP (pourL q l n) (pourK q l n) 0 w)
    by_cases hle : q.length ≤ n
    · exact pour_room A q c A' l c' n w hq hl hll (by omega) (by omega) hle
    · rw [(pour_none (l := l) (show n ≤ q.length by omega)).1, (pour_none (l := l) (show n ≤ q.length by omega)).2]
      exact pour_over A q c A' l c' n w hq hcq hql (by omega) (by omega) (by omega)
theorem rpour_any (A : Option Addr) (q : List Msg) (c : Nat) (A' : Option Addr) (l : List Msg) (c' : Nat) (room : Int) (w : World) (hq : Rq w A q) (hcq : q.length ≤ c) (hql : q.length ≤ 1000) (hl : Rq w A' l) (hcl : l.length ≤ c') (hll : l.length ≤ 1000) :
    Calls Try.prog 12 #[.slice A q.length c, .slice A' l.length c', .int .i64 room] w (GivesP (pourQ q l room).1 (pourQ q l room).2.1 (pourQ q l room).2.2 w) := by
  unfold pourQ
  by_cases hr : room < 1 ∨ 64 < room
  · rw [if_pos hr]; exact rpour_bad A q c A' l c' room w hq hcq hr
  · rw [if_neg hr]
    obtain ⟨n, rfl⟩ := Int.eq_ofNat_of_zero_le (show 0 ≤ room by omega)
    refine rpour_good A q c A' l c' n w hq hql hl hcl hll (by omega) (by omega) (pourK q l n) (by unfold pourK; omega) ?_
    unfold pourK
    omega

set_option maxRecDepth 100000 in
set_option maxHeartbeats 4000000 in
/-- Long says more than most where there are more rows than most; and so it is told how many there are. -/
theorem long_any (A : Option Addr) (q : List Msg) (c : Nat) (most : Int) (w : World) (hq : Rq w A q) (h0 : 0 ≤ most) (h1 : most ≤ 10000) :
    Calls Try.prog 8 #[.slice A q.length c, .int .i64 most] w fun e w' => ∃ n : Int, e = .returned (.int .i64 n) ∧ w' = w ∧ (n ≤ most → (q.length : Int) ≤ most) := by
  have hm := hq.len
  unfold maxLen at hm
  have HQ := Lib.hid hq
  clear hq
  by_cases hl : (q.length : Int) ≤ most
  · have t1 : decide (most < (q.length : Int)) = false := decide_eq_false (by omega)
    have HL := Lib.hid hl
    go_enter Try.func8, Try.ntmps8
    go_wp2_with fail
    go_loopw [5, 6] (fun s i wr => ∃ (k : Nat) (n : Int), k ≤ q.length ∧ i = .int .i64 k ∧ s = .int .i64 n ∧ 0 ≤ n ∧ n ≤ most ∧ Hid (wr = w)) (fun _ i _ => q.length - (intOf i).toNat)
    case atStart => exact ⟨0, q.length, by omega, rfl, rfl, by omega, hl, Lib.hid rfl⟩
    case round =>
      obtain ⟨k, n, hk, rfl, rfl, hn0, hn1, HW⟩ := hrel
      obtain rfl := HW.out
      clear HW
      by_cases hlt : k < q.length
      · obtain ⟨b, off, rfl, hc⟩ := HQ.out.cell hlt
        have hx := (HQ.out.msg hlt).len
        unfold maxLen at hx
        generalize q.getD k Msg.none = m1 at *
        obtain ⟨A1, x1, c1⟩ := m1
        have hck : wr.cell? ⟨b, off + k, none⟩ = some (.slice A1 x1.length c1) := hc
        have hx1 : x1.length ≤ 2 ^ 63 - 1 := hx
        clear hc hx
        by_cases hb : most - n < (x1.length : Int)
        · have t2 : decide (most - n < (x1.length : Int)) = true := decide_eq_true hb
          go_wp2_with fail
          go_ret
          exact ⟨most + 1, rfl, rfl, fun h => absurd h (by omega)⟩
        · have t2 : decide (most - n < (x1.length : Int)) = false := decide_eq_false hb
          go_wp2_with fail
          exact ⟨⟨k + 1, n + x1.length, by omega, by go_num, rfl, by omega, by omega, Lib.hid trivial⟩, by simp [intOf]; omega⟩
      · go_wp2_with fail
        go_ret
        exact ⟨n, rfl, rfl, fun _ => HL.out⟩
  · have t1 : decide (most < (q.length : Int)) = true := decide_eq_true (by omega)
    go_enter Try.func8, Try.ntmps8
    go_wp2_with fail
    go_ret
    exact ⟨most + 1, rfl, rfl, fun h => absurd h (by omega)⟩
end Go.Proofs.Ytlkpnecionpnhaa
