/- Contracts: Begin, Tick. -/
import Derived.Test.YtnmbcdphjmcomaaB
import Derived.BigRegion
namespace Go.Proofs.Ytnmbcdphjmcomaa
open Go.RowKit

set_option maxRecDepth 100000 in
set_option maxHeartbeats 2000000 in
theorem begin_yes (c s : Int) (A : Option Addr) (n cp : Nat) (w : World) (hn : n ≤ maxLen) (hf : fitsB c s n = true) :
    Calls Try.prog 9 #[.int .i64 c, .int .i64 s, .slice A n cp] w fun e w' => e = .returned (.tuple #[askV c s 8 3 A n cp, .int .i64 0]) ∧ Below w.heap.size w w' := by
  have HF := Lib.hid hf; clear hf
  go_enter Try.func9, Try.ntmps9
  go_wp2_with fail
  refine (fits_any c s A n cp _ hn).mono ?_
  rintro e w' ⟨rfl, rfl⟩
  rw [HF.out]
  go_wp2_with fail
  refine bodyPost_ret (v := .tuple #[askV c s 8 3 A n cp, .int .i64 0]) (by simp [results, Try.results9, go_sem]) rfl ⟨rfl, ?_⟩
  exact (Below.refl _ _).alloc (Nat.le_refl _) _

set_option maxRecDepth 100000 in
set_option maxHeartbeats 2000000 in
theorem begin_no (c s : Int) (A : Option Addr) (n cp : Nat) (w : World) (hn : n ≤ maxLen) (hf : fitsB c s n = false) :
    Calls Try.prog 9 #[.int .i64 c, .int .i64 s, .slice A n cp] w fun e w' => e = .returned (.tuple #[askV 0 0 0 0 none 0 0, .int .i64 1]) ∧ Below w.heap.size w w' := by
  have HF := Lib.hid hf; clear hf
  go_enter Try.func9, Try.ntmps9
  go_wp2_with fail
  refine (fits_any c s A n cp _ hn).mono ?_
  rintro e w' ⟨rfl, rfl⟩
  rw [HF.out]
  go_wp2_with fail
  refine bodyPost_ret (v := .tuple #[askV 0 0 0 0 none 0 0, .int .i64 1]) (by simp [results, Try.results9, go_sem]) rfl ⟨rfl, ?_⟩
  exact (Below.refl _ _).alloc (Nat.le_refl _) _

set_option maxRecDepth 100000 in
set_option maxHeartbeats 2000000 in
theorem rbegin_yes (c s : Int) (A : Option Addr) (n cp : Nat) (w : World) (hn : n ≤ maxLen) (hf : fitsB c s n = true) :
    Calls Try.prog 10 #[.int .i64 c, .int .i64 s, .slice A n cp] w fun e w' => e = .returned (.tuple #[askV c s 8 3 A n cp, .int .i64 0]) ∧ Below w.heap.size w w' := by
  have HF := Lib.hid hf; clear hf
  go_enter Try.func10, Try.ntmps10
  go_wp2_with fail
  refine (rfits_any c s A n cp _ hn).mono ?_
  rintro e w' ⟨rfl, rfl⟩
  rw [HF.out]
  go_wp2_with fail
  refine bodyPost_ret (v := .tuple #[askV c s 8 3 A n cp, .int .i64 0]) (by simp [results, Try.results10, go_sem]) rfl ⟨rfl, ?_⟩
  exact (Below.refl _ _).alloc (Nat.le_refl _) _

set_option maxRecDepth 100000 in
set_option maxHeartbeats 2000000 in
theorem rbegin_no (c s : Int) (A : Option Addr) (n cp : Nat) (w : World) (hn : n ≤ maxLen) (hf : fitsB c s n = false) :
    Calls Try.prog 10 #[.int .i64 c, .int .i64 s, .slice A n cp] w fun e w' => e = .returned (.tuple #[askV 0 0 0 0 none 0 0, .int .i64 1]) ∧ Below w.heap.size w w' := by
  have HF := Lib.hid hf; clear hf
  go_enter Try.func10, Try.ntmps10
  go_wp2_with fail
  refine (rfits_any c s A n cp _ hn).mono ?_
  rintro e w' ⟨rfl, rfl⟩
  rw [HF.out]
  go_wp2_with fail
  refine bodyPost_ret (v := .tuple #[askV 0 0 0 0 none 0 0, .int .i64 1]) (by simp [results, Try.results10, go_sem]) rfl ⟨rfl, ?_⟩
  exact (Below.refl _ _).alloc (Nat.le_refl _) _

/-- Three results: a struct and two slots. -/
theorem results_cell_tmp2 {P : Program} {fn : Func} {p q r : Tmp} {ty : TypeId} (h : fn.results = #[.cell p ty, .tmp q, .tmp r]) (tmps : Array Value) (w : World) (g : Nat) (t : TypeId) (cs : Array Value) (d : TypeDesc)
    (hp : tmps.getD p undef = .pointer (some ⟨g, 0, none⟩)) {v v2 : Value} (hv : tmps.getD q undef = v) (hv2 : tmps.getD r undef = v2) (hg : Blk w g t cs)
    (hu : P.underlying ty = some d) (hd : (match d with | .struct _ | .array _ _ => true | _ => false) = true) (hi : (P.info? ty).map (·.size) = some cs.size) :
    (results fn tmps).run P w = .ok (.tuple #[.agg cs, v, v2]) w := by
  subst hv hv2
  have hp' : tmps[p]?.getD undef = .pointer (some ⟨g, 0, none⟩) := by simpa using hp
  simp [results, h, hp', asAddr, run_loadVar_row w g t ty cs (0, 0) d hg hu hd hi]

abbrev askA (c s d l : Int) (A : Option Addr) (n cp : Nat) : Array Value := #[.int .i64 c, .int .i64 s, .int .i64 d, .int .i64 l, .slice A n cp]
theorem askA_one (c s d l : Int) (A : Option Addr) (n cp : Nat) : (askA c s d l A n cp).all (·.oneCell') = true := by simp [Value.oneCell']
theorem info24 (c s d l : Int) (A : Option Addr) (n cp : Nat) : (Try.prog.info? 24).map (·.size) = some (askA c s d l A n cp).size := by
  show _ = some 5
  kernel_rfl

/-- The worlds of Tick: its question's block and its result's. -/
theorem tick_start (c s d l : Int) (A : Option Addr) (xs : List Int) (cp : Nat) (w : World) (hx : Rb w A xs) :
    let W := (w.alloc (Obj.cells (askA c s d l A xs.length cp) 24)).alloc (Obj.cells (askA 0 0 0 0 none 0 0) 24)
    Rb W A xs ∧ Blk W w.heap.size 24 (askA c s d l A xs.length cp) ∧ Blk W (w.heap.size + 1) 24 (askA 0 0 0 0 none 0 0) ∧ Below w.heap.size w W := by
  refine ⟨(hx.alloc _).alloc _, (Blk.new w 24 _).alloc _, ?_, ((Below.refl w.heap.size w).alloc (Nat.le_refl _) _).alloc (by simp) _⟩
  have := Blk.new (w.alloc (Obj.cells (askA c s d l A xs.length cp) 24)) 24 (askA 0 0 0 0 none 0 0)
  rwa [World.size_alloc] at this

set_option maxRecDepth 100000 in
set_option maxHeartbeats 2000000 in
theorem tick_none (c s d l : Int) (A : Option Addr) (xs : List Int) (cp : Nat) (w : World) (hx : Rb w A xs) (hn : noneB c s d l xs.length = true) :
    Calls Try.prog 21 #[askV c s d l A xs.length cp] w fun e w' => e = .returned (.tuple #[askV c s d l A xs.length cp, .bool false, .bool false]) ∧ Below w.heap.size w w' := by
  have HS := Lib.hid (tick_start c s d l A xs cp w hx)
  have HN := Lib.hid hn
  clear hn hx
  go_enter Try.func21, Try.ntmps21
  go_wp2_with fail
  refine (none_any c s d l A xs cp _ HS.out.1).mono ?_
  rintro e w1 ⟨rfl, hb⟩
  rw [HN.out]
  have b1 := HS.out.2.1.belowSelf hb
  have z1 := HS.out.2.2.1.belowSelf hb
  have HB1 := Lib.hid (HS.out.2.2.2.trans (hb.mono HS.out.2.2.2.size)); clear hb
  go_wp2_with (first | (refine load_blk (ty := 24) rfl rfl rfl Try.underlying24 rfl (info24 c s d l A xs.length cp) b1 ?_) | (refine store_blk' (ty := 24) rfl rfl rfl rfl (info24 c s d l A xs.length cp) (askA_one _ _ _ _ _ _ _) (old := askA 0 0 0 0 none 0 0) rfl z1 ?_; intro w2 hW2 hG2 hz2) | fail)
  refine bodyPost_ret (v := .tuple #[askV c s d l A xs.length cp, .bool false, .bool false]) (results_cell_tmp2 rfl _ _ _ 24 _ _ rfl rfl rfl hW2 Try.underlying24 rfl (info24 _ _ _ _ _ _ _)) rfl ?_
  exact ⟨rfl, HB1.out.grown hG2 HB1.out.size (by simp)⟩

set_option maxRecDepth 100000 in
set_option maxHeartbeats 4000000 in
theorem tick_wait (c s d l : Int) (A : Option Addr) (xs : List Int) (cp : Nat) (w : World) (hx : Rb w A xs) (hn : noneB c s d l xs.length = false) (hd : 1 < d) (hd2 : d ≤ 1000) :
    Calls Try.prog 21 #[askV c s d l A xs.length cp] w fun e w' => e = .returned (.tuple #[askV c s (d - 1) l A xs.length cp, .bool false, .bool false]) ∧ Below w.heap.size w w' := by
  have HS := Lib.hid (tick_start c s d l A xs cp w hx)
  have HN := Lib.hid hn
  clear hn hx
  go_enter Try.func21, Try.ntmps21
  go_wp2_with fail
  refine (none_any c s d l A xs cp _ HS.out.1).mono ?_
  rintro e w1 ⟨rfl, hb⟩
  rw [HN.out]
  have b1 := HS.out.2.1.belowSelf hb
  have z1 := HS.out.2.2.1.belowSelf hb
  have HB1 := Lib.hid (HS.out.2.2.2.trans (hb.mono HS.out.2.2.2.size)); clear hb
  go_wp2_with (first | (refine load_blk (ty := 24) rfl rfl rfl Try.underlying24 rfl (info24 c s d l A xs.length cp) b1 ?_) | (refine store_blk' (ty := 24) rfl rfl rfl rfl (info24 c s (d - 1) l A xs.length cp) (askA_one _ _ _ _ _ _ _) (old := askA 0 0 0 0 none 0 0) rfl (z1.alloc (.cells #[.int .i64 c, .int .i64 s, .int .i64 (d - 1), .int .i64 l, .slice A xs.length cp] 49)) ?_; intro w2 hW2 hG2 hz2) | fail)
  refine bodyPost_ret (v := .tuple #[askV c s (d - 1) l A xs.length cp, .bool false, .bool false]) (results_cell_tmp2 rfl _ _ _ 24 _ _ rfl rfl rfl hW2 Try.underlying24 rfl (info24 _ _ _ _ _ _ _)) rfl ?_
  exact ⟨rfl, (HB1.out.alloc HB1.out.size _).grown hG2 (by have := HB1.out.size; simp; omega) (by simp)⟩
end Go.Proofs.Ytnmbcdphjmcomaa
