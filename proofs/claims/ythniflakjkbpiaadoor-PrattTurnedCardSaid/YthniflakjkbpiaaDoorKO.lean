/-
  Texts laid together: O1, O2, M0, M1.
-/
import Derived.Test.YthniflakjkbpiaaDoorProg
import Derived.Tactics
import Derived.Tactics2
import Derived.Defers
import Derived.Laws.Pointers
import Derived.Laws.LoneSync
import Derived.RegionTactic
import Derived.RegionCalls
import Derived.ChangeAlike
import Derived.KernelRfl
import Derived.Test.YthniflakjkbpiaaDoorKL
import Derived.Test.YthniflakjkbpiaaDoorKB
import Derived.Test.YthniflakjkbpiaaDoorKN
/-
  What sync.Once does, in one goroutine: its parts (after the kit's worked texts on it).
-/
namespace Go.Proofs.YthniflakjkbpiaaDoor
open Go
set_option linter.unusedSimpArgs false
set_option linter.unusedVariables false
set_option maxRecDepth 100000
set_option maxHeartbeats 4000000

theorem o_disable (w : World) : (callFunc 78 #[]).run Tryd.prog w = .ok (.value (.tuple #[])) w := run_call_mark0 Tryd.func78 (by kernel_rfl) (by kernel_rfl) (by kernel_rfl) .disable (by kernel_rfl) w
theorem o_enable (w : World) : (callFunc 80 #[]).run Tryd.prog w = .ok (.value (.tuple #[])) w := run_call_mark0 Tryd.func80 (by kernel_rfl) (by kernel_rfl) (by kernel_rfl) .enable (by kernel_rfl) w
theorem o_acquire (a : Addr) (w : World) : (callFunc 81 #[.pointer (some a)]).run Tryd.prog w = .ok (.value (.tuple #[])) w := run_call_marked Tryd.func81 (by kernel_rfl) (by kernel_rfl) (by kernel_rfl) .acquire (by kernel_rfl) a w
theorem o_releaseMerge (a : Addr) (w : World) : (callFunc 83 #[.pointer (some a)]).run Tryd.prog w = .ok (.value (.tuple #[])) w := run_call_marked Tryd.func83 (by kernel_rfl) (by kernel_rfl) (by kernel_rfl) .releaseMerge (by kernel_rfl) a w

/-- Store(true), entered as a deferred call: the cell holds 1. -/
theorem o_store_deferred (a : Addr) (x : Value) (u : FrameMode) (w : World) (hc : w.cell? a = some x) (hz : w.frozen? a = false) :
    CallsD Tryd.prog 73 #[.pointer (some a), .bool true] u w fun e u' w' => u' = u ∧ (e = .returned (.tuple #[]) ∧ w' = w.drew.setCell a (.int .u32 1)) := by
  have hc' : w.drew.cell? a = some x := by go_simp
  have hz' : w.drew.frozen? a = false := by go_simp
  have hst := run_call_store (P := Tryd.prog) Tryd.func76 (by kernel_rfl) (by kernel_rfl) (by kernel_rfl) (by kernel_rfl) (k := .u32) (y := 1) hc' hz'
  go_enter_d Tryd.func73, Tryd.ntmps73
  go_wp2
  go_region_calls
  all_goals (go_end0; exact ⟨rfl, rfl⟩)

/-- Unlock, entered as a deferred call, the lock held and nobody waiting. -/
theorem o_unlock_deferred (a : Addr) (u : FrameMode) (w : World) (hc : w.cell? a = some (.int .i32 1)) (hz : w.frozen? a = false) :
    CallsD Tryd.prog 72 #[.pointer (some a)] u w fun e u' w' => u' = u ∧ (e = .returned (.tuple #[]) ∧ w' = w.setCell a (.int .i32 0)) := by
  have hd := o_disable
  have he := o_enable
  have hr := o_releaseMerge
  have hadd := run_call_add (P := Tryd.prog) Tryd.func84 (by kernel_rfl) (by kernel_rfl) (by kernel_rfl) .i32 (by kernel_rfl) (y := -1) (s := 0) hc hz (by simp [go_sem]; rfl)
  have hcv := run_convert_to_unsafe (P := Tryd.prog) (src := 115) (dst := 119) Tryd.underlying115 Tryd.underlying119 (by kernel_rfl) hc
  go_enter_d Tryd.func72, Tryd.ntmps72
  go_wp2
  go_end0
  go_wp2
  go_end0
  exact ⟨rfl, rfl⟩

/-- Lock, the lock free. -/
theorem o_lock_free (a : Addr) (w : World) (hc : w.cell? a = some (.int .i32 0)) (hz : w.frozen? a = false) :
    Calls Tryd.prog 71 #[.pointer (some a)] w fun e w' => e = .returned (.tuple #[]) ∧ w' = w.setCell a (.int .i32 1) := by
  have hd := o_disable
  have he := o_enable
  have ha := o_acquire
  have hcas := run_call_cas_hit (P := Tryd.prog) Tryd.func79 (by kernel_rfl) (by kernel_rfl) (by kernel_rfl) .i32 (by kernel_rfl) (y := 1) hc hz
  have hc' : (w.setCell a (.int .i32 1)).cell? a = some (.int .i32 1) := World.cell?_setCell_same w a _ hc
  have hcv := run_convert_to_unsafe (P := Tryd.prog) (src := 115) (dst := 119) Tryd.underlying115 Tryd.underlying119 (by kernel_rfl) hc'
  go_enter Tryd.func71, Tryd.ntmps71
  go_wp2
  first | go_end0 | (simp only [Exit.inBlock, Exit.then]; refine bodyPost_ret (results_none rfl _ _ _) rfl ?_) | refine bodyPost_ret (results_none rfl _ _ _) rfl ?_
  go_wp2
  go_end0
  exact ⟨rfl, rfl⟩

set_option maxRecDepth 100000 in
set_option maxHeartbeats 1600000 in
/-- Do, done already: the function is not called. -/
theorem o_do_done (a : Addr) (d : Int) (hd : ¬ d = 0) (fv : Value) (w : World) (h0 : w.cell? a = some (.int .u32 d)) :
    Calls Tryd.prog 63 #[.pointer (some a), fv] w fun e w' => e = .returned (.tuple #[]) ∧ w' = w := by
  have hl := run_call_load (P := Tryd.prog) Tryd.func70 (by kernel_rfl) (by kernel_rfl) (by kernel_rfl) .u32 (by kernel_rfl) h0
  have hnot : ∀ (x : Bool) (w : World), (Op.unary .not (.bool x)).run Tryd.prog w = .ok (.bool (!x)) w := fun _ _ => rfl
  have hd' : (d != 0) = true := by simp [hd]
  go_enter Tryd.func63, Tryd.ntmps63
  go_wp2
  go_end0
  exact ⟨rfl, rfl⟩
end Go.Proofs.YthniflakjkbpiaaDoor

/-
  sync.Once's slow road, over what the function that is called does.
-/
namespace Go.Proofs.YthniflakjkbpiaaDoor
open Go
set_option linter.unusedSimpArgs false
set_option linter.unusedVariables false
set_option maxRecDepth 100000
set_option maxHeartbeats 4000000

/-- The slow road: not yet done, the lock free. The function that is called (a closure over pl) leaves a world in which the Once is as it was. -/
theorem o_slow (b off : Nat) (pl : Addr) (w : World) (Eff : World → Prop)
    (h0 : w.cell? ⟨b, off, none⟩ = some (.int .u32 0)) (h1 : w.cell? ⟨b, off + 1, none⟩ = some (.int .i32 0))
    (f0 : w.frozen? ⟨b, off, none⟩ = false) (f1 : w.frozen? ⟨b, off + 1, none⟩ = false)
    (hcl : Calls Tryd.prog 64 #[.pointer (some pl)] (w.setCell ⟨b, off + 1, none⟩ (.int .i32 1)) fun e w' => e = .returned (.tuple #[]) ∧ Eff w')
    (hE : ∀ w', Eff w' → w'.cell? ⟨b, off, none⟩ = some (.int .u32 0) ∧ w'.cell? ⟨b, off + 1, none⟩ = some (.int .i32 1) ∧ w'.frozen? ⟨b, off, none⟩ = false ∧ w'.frozen? ⟨b, off + 1, none⟩ = false) :
    Calls Tryd.prog 69 #[.pointer (some ⟨b, off, none⟩), .func (.func 64) #[] #[.pointer (some pl)]] w fun e w' => e = .returned (.tuple #[]) ∧
      ∃ w1, Eff w1 ∧ w' = (w1.drew.setCell ⟨b, off, none⟩ (.int .u32 1)).setCell ⟨b, off + 1, none⟩ (.int .i32 0) := by
  have hl := run_call_load (P := Tryd.prog) Tryd.func70 (by kernel_rfl) (by kernel_rfl) (by kernel_rfl) .u32 (by kernel_rfl) (w := w.setCell ⟨b, off + 1, none⟩ (.int .i32 1)) (a := ⟨b, off, none⟩) (x := 0) ((World.cell?_setCell_other _ ⟨b, off + 1, none⟩ ⟨b, off, none⟩ _ (by simp)).trans h0)
  have hnot : ∀ (x : Bool) (w : World), (Op.unary .not (.bool x)).run Tryd.prog w = .ok (.bool (!x)) w := fun _ _ => rfl
  go_enter_defers Tryd.func69, Tryd.ntmps69
  go_wp2_with (first | (go_at_call 71; refine (o_lock_free ⟨b, off + 1, none⟩ _ (by go_simp) (by go_simp)).mono ?_; rintro e w' ⟨rfl, rfl⟩) | (go_at_call 64; refine hcl.mono ?_; rintro e w1 ⟨rfl, hEff⟩) | (go_at_call 68; go_in))
  obtain ⟨k0, k1, z0, z1⟩ := hE w1 hEff
  refine leaves_cons (f := 73) (args := #[.pointer (some ⟨b, off, none⟩), .bool true]) (by simp) (by simp [go_sem]) ?_
  refine (o_store_deferred ⟨b, off, none⟩ (.int .u32 0) .returning _ k0 z0).mono ?_
  rintro e u' w'' ⟨rfl, rfl, rfl⟩
  refine leaves_cons (f := 72) (args := #[.pointer (some ⟨b, off + 1, none⟩)]) (by simp [settle]) (by simp [go_sem]) ?_
  refine (o_unlock_deferred ⟨b, off + 1, none⟩ _ _ ?_ (by simp [z1])).mono ?_
  · refine (World.cell?_setCell_other _ ⟨b, off, none⟩ ⟨b, off + 1, none⟩ _ (by simp)).trans ?_
    rw [World.cell?_drew]
    exact k1
  rintro e u' w'' ⟨rfl, rfl, rfl⟩
  simp [Leaves, settle, results, Tryd.results69]
  exact ⟨w1, hEff, rfl⟩

/-- Do, not yet done, the lock free. -/
theorem o_do_first (b off : Nat) (pl : Addr) (w : World) (Eff : World → Prop)
    (h0 : w.cell? ⟨b, off, none⟩ = some (.int .u32 0)) (h1 : w.cell? ⟨b, off + 1, none⟩ = some (.int .i32 0))
    (f0 : w.frozen? ⟨b, off, none⟩ = false) (f1 : w.frozen? ⟨b, off + 1, none⟩ = false)
    (hcl : Calls Tryd.prog 64 #[.pointer (some pl)] (w.setCell ⟨b, off + 1, none⟩ (.int .i32 1)) fun e w' => e = .returned (.tuple #[]) ∧ Eff w')
    (hE : ∀ w', Eff w' → w'.cell? ⟨b, off, none⟩ = some (.int .u32 0) ∧ w'.cell? ⟨b, off + 1, none⟩ = some (.int .i32 1) ∧ w'.frozen? ⟨b, off, none⟩ = false ∧ w'.frozen? ⟨b, off + 1, none⟩ = false) :
    Calls Tryd.prog 63 #[.pointer (some ⟨b, off, none⟩), .func (.func 64) #[] #[.pointer (some pl)]] w fun e w' => e = .returned (.tuple #[]) ∧
      ∃ w1, Eff w1 ∧ w' = (w1.drew.setCell ⟨b, off, none⟩ (.int .u32 1)).setCell ⟨b, off + 1, none⟩ (.int .i32 0) := by
  have hl := run_call_load (P := Tryd.prog) Tryd.func70 (by kernel_rfl) (by kernel_rfl) (by kernel_rfl) .u32 (by kernel_rfl) h0
  have hnot : ∀ (x : Bool) (w : World), (Op.unary .not (.bool x)).run Tryd.prog w = .ok (.bool (!x)) w := fun _ _ => rfl
  go_enter Tryd.func63, Tryd.ntmps63
  go_wp2_with (first | (go_at_call 69; refine (o_slow b off pl w Eff h0 h1 f0 f1 hcl hE).mono ?_; rintro e w' ⟨rfl, hw'⟩) | (go_at_call 68; go_in))
  go_end0
  exact ⟨rfl, hw'⟩
end Go.Proofs.YthniflakjkbpiaaDoor

/-
  Types of package mont.
-/
namespace Go.Proofs.YthniflakjkbpiaaDoor
open Go Go.Ab
set_option linter.unusedSimpArgs false
set_option linter.unusedVariables false
theorem tf86_row : rowOf Tryd.prog 86 = some true := by kernel_rfl
theorem tf86_sz : Tryd.prog.cellsOf 86 = 12 := by kernel_rfl
theorem tf86_szO : szO Tryd.prog 86 = some 12 := by kernel_rfl
theorem tf86_f0 : fieldOff Tryd.prog 86 0 = some (0, 26) := by kernel_rfl
theorem tf86_f1 : fieldOff Tryd.prog 86 1 = some (4, 84) := by kernel_rfl
theorem tf86_f2 : fieldOff Tryd.prog 86 2 = some (7, 24) := by kernel_rfl
theorem tf86_f3 : fieldOff Tryd.prog 86 3 = some (8, 26) := by kernel_rfl
theorem tf86_known : known Tryd.prog 86 = true := by kernel_rfl
theorem tf86_zero : zeroA Tryd.prog 86 = some [.v (.int .u64 0), .v (.int .u64 0), .v (.int .u64 0), .v (.int .u64 0), .v (.int .u32 0), .v (.int .i32 0), .v (.int .u32 0), .v (.int .u64 0), .v (.int .u64 0), .v (.int .u64 0), .v (.int .u64 0), .v (.int .u64 0)] := by kernel_rfl
theorem tf86_p0 : placeOf Tryd.prog 86 0 = some (0, 4) := by kernel_rfl
theorem tf86_p1 : placeOf Tryd.prog 86 1 = some (4, 3) := by kernel_rfl
theorem tf86_p2 : placeOf Tryd.prog 86 2 = some (7, 1) := by kernel_rfl
theorem tf86_p3 : placeOf Tryd.prog 86 3 = some (8, 4) := by kernel_rfl
theorem tf86_slc : slcOf Tryd.prog 86 = none := by kernel_rfl
theorem tf99_row : rowOf Tryd.prog 99 = some true := by kernel_rfl
theorem tf99_sz : Tryd.prog.cellsOf 99 = 6 := by kernel_rfl
theorem tf99_szO : szO Tryd.prog 99 = some 6 := by kernel_rfl
theorem tf99_arr : arrOf Tryd.prog 99 = some (6, 24) := by kernel_rfl
theorem tf99_known : known Tryd.prog 99 = true := by kernel_rfl
theorem tf99_eq : eqTy Tryd.prog 99 = true := by kernel_rfl
theorem tf99_zero : zeroA Tryd.prog 99 = some (arr 6 fun _ => 0) := by kernel_rfl
theorem tf99_lits (f : Nat → Nat) (hf : ∀ i, i < 6 → f i < 18446744073709551616) : litsA Tryd.prog 99 (some (arr 6 f)) = some (lits 6 f) := litsA_arr (e := 24) (by kernel_rfl) (by kernel_rfl) (by kernel_rfl) (by kernel_rfl) hf
theorem tf99_u : Tryd.prog.underlying 99 = some (.array 6 24) := by kernel_rfl
theorem tf99_ce : Tryd.prog.cellsOf 24 = 1 := by kernel_rfl
theorem tf99_place (i : Nat) : placeOf Tryd.prog 99 i = some (i * 1, 1) := by simp only [placeOf, tf99_u, tf99_ce]
theorem tf99_slc : slcOf Tryd.prog 99 = none := by kernel_rfl
theorem tf52_row : rowOf Tryd.prog 52 = some false := by kernel_rfl
theorem tf52_sz : Tryd.prog.cellsOf 52 = 1 := by kernel_rfl
theorem tf52_szO : szO Tryd.prog 52 = some 1 := by kernel_rfl
theorem tf52_slc : slcOf Tryd.prog 52 = none := by kernel_rfl
theorem tf52_ptr : isPtr Tryd.prog 52 = true := by kernel_rfl
theorem tf52_zero : zeroA Tryd.prog 52 = some [.v (.pointer none)] := by kernel_rfl
theorem tf101_row : rowOf Tryd.prog 101 = some false := by kernel_rfl
theorem tf101_sz : Tryd.prog.cellsOf 101 = 1 := by kernel_rfl
theorem tf101_szO : szO Tryd.prog 101 = some 1 := by kernel_rfl
theorem tf101_slc : slcOf Tryd.prog 101 = none := by kernel_rfl
theorem tf101_ptr : isPtr Tryd.prog 101 = true := by kernel_rfl
theorem tf101_zero : zeroA Tryd.prog 101 = some [.v (.pointer none)] := by kernel_rfl
theorem tf49_row : rowOf Tryd.prog 49 = some false := by kernel_rfl
theorem tf49_sz : Tryd.prog.cellsOf 49 = 1 := by kernel_rfl
theorem tf49_szO : szO Tryd.prog 49 = some 1 := by kernel_rfl
theorem tf49_slc : slcOf Tryd.prog 49 = some 24 := by kernel_rfl
theorem tf49_arr : arrOf Tryd.prog 49 = none := by kernel_rfl
theorem tf49_isSlc : isSlc Tryd.prog 49 = true := by kernel_rfl
theorem tf49_zero : zeroA Tryd.prog 49 = some [.v (.slice none 0 0)] := by kernel_rfl
theorem tf76_row : rowOf Tryd.prog 76 = some false := by kernel_rfl
theorem tf76_sz : Tryd.prog.cellsOf 76 = 1 := by kernel_rfl
theorem tf76_szO : szO Tryd.prog 76 = some 1 := by kernel_rfl
theorem tf76_slc : slcOf Tryd.prog 76 = none := by kernel_rfl
theorem tf76_int : intKindOf Tryd.prog 76 = some .u32 := by kernel_rfl
theorem tf76_zero : zeroA Tryd.prog 76 = some [.v (.int .u32 0)] := by kernel_rfl
theorem tf21_row : rowOf Tryd.prog 21 = some false := by kernel_rfl
theorem tf21_sz : Tryd.prog.cellsOf 21 = 1 := by kernel_rfl
theorem tf21_szO : szO Tryd.prog 21 = some 1 := by kernel_rfl
theorem tf21_slc : slcOf Tryd.prog 21 = none := by kernel_rfl
theorem tf21_int : intKindOf Tryd.prog 21 = some .i32 := by kernel_rfl
theorem tf21_zero : zeroA Tryd.prog 21 = some [.v (.int .i32 0)] := by kernel_rfl
end Go.Proofs.YthniflakjkbpiaaDoor

/-
  mont.row: a word's product with a number is added to six words of the caller's.
-/
namespace Go.Proofs.YthniflakjkbpiaaDoor
open Go Go.Ab
set_option linter.unusedSimpArgs false
set_option linter.unusedVariables false
set_option linter.defProp false
def vcXM1 := (And.intro (And.intro (And.intro (And.intro (And.intro (And.intro @tf86_row @tf86_sz) (And.intro @tf86_szO @tf86_f0)) (And.intro (And.intro @tf86_f1 @tf86_f2) (And.intro @tf86_f3 @tf86_known))) (And.intro (And.intro (And.intro @tf86_zero @tf86_p0) (And.intro @tf86_p1 @tf86_p2)) (And.intro (And.intro @tf86_p3 @tf86_slc) (And.intro @tf99_row @tf99_sz)))) (And.intro (And.intro (And.intro (And.intro @tf99_szO @tf99_arr) (And.intro @tf99_known @tf99_eq)) (And.intro (And.intro @tf99_zero @tf99_lits) (And.intro @tf99_place @tf99_slc))) (And.intro (And.intro (And.intro @tf52_row @tf52_sz) (And.intro @tf52_szO @tf52_slc)) (And.intro (And.intro @tf52_ptr @tf52_zero) (And.intro @tf101_row @tf101_sz))))) (And.intro (And.intro (And.intro (And.intro (And.intro @tf101_szO @tf101_slc) (And.intro @tf101_ptr @tf101_zero)) (And.intro (And.intro @tf49_row @tf49_sz) (And.intro @tf49_szO @tf49_slc))) (And.intro (And.intro (And.intro @tf49_arr @tf49_isSlc) (And.intro @tf49_zero @tf76_row)) (And.intro (And.intro @tf76_sz @tf76_szO) (And.intro @tf76_slc @tf76_int)))) (And.intro (And.intro (And.intro (And.intro @tf76_zero @tf21_row) (And.intro @tf21_sz @tf21_szO)) (And.intro (And.intro @tf21_slc @tf21_int) (And.intro @tf21_zero @ctxN_P))) (And.intro (And.intro (And.intro @ctxN_TM @bnd_none) (And.intro @bnd_int @xslB_some)) (And.intro (And.intro @xslice_p @xslice_sl) (And.intro @xslice_v (And.intro @xarrAt_sl @xarrAt_v)))))))
def vcQM1 := (And.intro (And.intro (And.intro (And.intro @okT_nil @okT_cons) (And.intro @okS_nil (And.intro @okS_cons @okA_nil))) (And.intro (And.intro @okA_cons @and_self) (And.intro @true_and (And.intro @and_true @okv_p)))) (And.intro (And.intro (And.intro @okv_sl @oks_s) (And.intro @oks_agg (And.intro @oks_tup @oka_s))) (And.intro (And.intro @oka_agg (And.intro @okv_v @nat4_okk)) (And.intro @nat8_okk (And.intro @arr_okk @iarr_okk)))))
def vcOM1 := (And.intro (And.intro (And.intro @okv_p (And.intro @okv_sl @oks_s)) (And.intro @oks_agg (And.intro @oks_tup @oka_s))) (And.intro (And.intro @oka_agg (And.intro @okv_v @nat4_okk)) (And.intro @nat8_okk (And.intro @arr_okk @iarr_okk))))
set_option maxHeartbeats 20000000
set_option maxRecDepth 100000


theorem row_o (T w b n : Nat) (hn : n = 384) (hw : w < 18446744073709551616) (hb : b < 2 ^ 256) (h6 : T + w * b < 2 ^ n) :
    OwnC Tryd.prog 58 [.s (.p 0 0), .s (.v (.int .u64 (w : Int))), .agg (nat4 b)] [⟨99, arr 6 (wd T)⟩] [⟨99, arr 6 (wd (T + w * b))⟩] (.tup []) := by
  have h5 := cr_five T w b hb
  have hs := cr_six T w b n hn hb h6
  have l4 := cr_lt T w b 4 hw
  have l5 := cr_lt T w b 5 hw
  clear h6 hn hb
  (refine own_of Tryd.func58 rfl (by simp only [List.length_cons, List.length_nil, List.map_cons, List.map_nil, List.nodup_cons, List.nodup_nil, List.mem_cons, Nat.reduceAdd, Nat.reduceEqDiff, or_false, not_false_eq_true, forall_eq_or_imp, forall_eq, or_self, Nat.reduceLT, Nat.reduceLeDiff, and_self, List.forall_mem_cons, List.not_mem_nil, false_implies, implies_true, and_true, true_and, vcOM1]) (by simp only [List.length_cons, List.length_nil, List.map_cons, List.map_nil, List.nodup_cons, List.nodup_nil, List.mem_cons, Nat.reduceAdd, Nat.reduceEqDiff, or_false, not_false_eq_true, forall_eq_or_imp, forall_eq, or_self, Nat.reduceLT, Nat.reduceLeDiff, and_self, List.forall_mem_cons, List.not_mem_nil, false_implies, implies_true, and_true, true_and, vcOM1]) (by simp only [List.length_cons, List.length_nil, List.map_cons, List.map_nil, List.nodup_cons, List.nodup_nil, List.mem_cons, Nat.reduceAdd, Nat.reduceEqDiff, or_false, not_false_eq_true, forall_eq_or_imp, forall_eq, or_self, Nat.reduceLT, Nat.reduceLeDiff, and_self, List.forall_mem_cons, List.not_mem_nil, false_implies, implies_true, and_true, true_and, vcOM1]) (by simp only [List.length_cons, List.length_nil, List.map_cons, List.map_nil, List.nodup_cons, List.nodup_nil, List.mem_cons, Nat.reduceAdd, Nat.reduceEqDiff, or_false, not_false_eq_true, forall_eq_or_imp, forall_eq, or_self, Nat.reduceLT, Nat.reduceLeDiff, and_self, List.forall_mem_cons, List.not_mem_nil, false_implies, implies_true, and_true, true_and, vcOM1]) rfl fun w0 β0 => ?_; simp only [List.length_cons, List.length_nil, Tryd.ntmps58, Nat.reduceAdd, Nat.reduceSub, List.replicate_succ, List.replicate_zero, List.cons_append, List.nil_append])
  (repeat (refine X_of _ ?_; simp -implicitDefEqProofs (maxSteps := 1000000) (disch := first | (simp only [nat4_length, nat8_length, arr_length, iarr_length, List.length_cons, List.length_nil, Nat.reduceAdd]; done) | omega) only [vcR, vcT, Int.reduceBEq, Int.reduceBNe, Int.reduceEq, Int.reduceNe, Ab.part, Nat.reduceAdd, Nat.reduceMul, Nat.reduceLeDiff, Nat.reduceEqDiff, Nat.reduceBEq, Nat.reduceBNe, reduceCtorEq, ↓reduceIte, implies_true, forall_const, Int.reduceNeg, Int.reduceToNat, Int.reduceLT, Int.reduceLE, Int.reduceAdd, Int.reduceSub, Int.reduceMul, Int.reducePow, Nat.reducePow, vcXM1, Tryd.f58, List.toList_toArray]))
  refine X_loop (ι := Nat) (fun k => k ≤ 4) (fun k => 4 - k) [6, 7, 8, 9, 10, 11, 14, 15, 16, 17, 18, 19, 20, 21, 22, 23, 24, 25, 26, 27, 28, 29, 30, 31, 32, 33, 34, 35, 36, 37, 38, 39, 40, 41, 42, 43, 44, 45, 46, 47, 48, 49, 50]
    (fun k => [(6, .s (.v (.int .u64 (cr T w b k : Nat)))), (14, .s (.v (.int .i64 (k : Nat))))])
    (fun k => [(0, arr 6 fun i => if i < k then wd (T + w * b) i else wd T i)]) 0 (shape_of fun i => ?_) (by decide) ?_ ?_
  · simp only [List.length_cons, List.length_nil, List.map_cons, List.map_nil, List.nodup_cons, List.nodup_nil, List.mem_cons, Nat.reduceAdd, Nat.reduceEqDiff, or_false, not_false_eq_true, forall_eq_or_imp, forall_eq, or_self, Nat.reduceLT, Nat.reduceLeDiff, and_self, List.forall_mem_cons, List.not_mem_nil, false_implies, implies_true, and_true, true_and, vcOM1]
  · simp -implicitDefEqProofs (maxSteps := 1000000) (disch := first | (simp only [nat4_length, nat8_length, arr_length, iarr_length, List.length_cons, List.length_nil, Nat.reduceAdd]; done) | omega) only [vcR, vcT, Int.reduceBEq, Int.reduceBNe, Int.reduceEq, Int.reduceNe, Ab.part, Nat.reduceAdd, Nat.reduceMul, Nat.reduceLeDiff, Nat.reduceEqDiff, Nat.reduceBEq, Nat.reduceBNe, reduceCtorEq, ↓reduceIte, implies_true, forall_const, Int.reduceNeg, Int.reduceToNat, Int.reduceLT, Int.reduceLE, Int.reduceAdd, Int.reduceSub, Int.reduceMul, Int.reducePow, Nat.reducePow, vcXM1, Tryd.f58, List.toList_toArray, again_eq]
    simp [cr_zero]
  · intro k us hk
    (repeat (refine X_of _ ?_; simp -implicitDefEqProofs (maxSteps := 1000000) (disch := first | (simp only [nat4_length, nat8_length, arr_length, iarr_length, List.length_cons, List.length_nil, Nat.reduceAdd]; done) | omega) only [vcR, vcT, Int.reduceBEq, Int.reduceBNe, Int.reduceEq, Int.reduceNe, Ab.part, Nat.reduceAdd, Nat.reduceMul, Nat.reduceLeDiff, Nat.reduceEqDiff, Nat.reduceBEq, Nat.reduceBNe, reduceCtorEq, ↓reduceIte, implies_true, forall_const, Int.reduceNeg, Int.reduceToNat, Int.reduceLT, Int.reduceLE, Int.reduceAdd, Int.reduceSub, Int.reduceMul, Int.reducePow, Nat.reducePow, vcXM1, Tryd.f58, List.toList_toArray, nat4]))
    refine ⟨fun h => ?_, fun h => ?_⟩
    · have hst := cr_step T w b k
      have hx := wd_lt (T + w * b) k
      have ht := wd_lt T k
      have hyb := wd_lt b k
      have hc := cr_lt T w b k hw
      have hy := cr_lt T w b (k + 1) hw
      obtain ⟨y, hye⟩ : ∃ y, wd b k = y := ⟨_, rfl⟩
      obtain ⟨c, hce⟩ : ∃ c, cr T w b k = c := ⟨_, rfl⟩
      obtain ⟨c', hce'⟩ : ∃ c, cr T w b (k + 1) = c := ⟨_, rfl⟩
      obtain ⟨t, hte⟩ : ∃ t, wd T k = t := ⟨_, rfl⟩
      rw [hye] at hst hyb
      rw [hce] at hst hc
      rw [hce'] at hst hy
      rw [hte] at hst ht
      obtain ⟨p, hp⟩ : ∃ p, w * y = p := ⟨_, rfl⟩
      rw [hp] at hst
      obtain ⟨r1, _, r3⟩ := row_word (p := p) (t := t) (c := c) (x := wd (T + w * b) k) (y := c') rfl (by omega) hx hy ht hc
      have hm := mul64_p w y hw hyb
      rw [hp] at hm
      rw [hce]
      obtain ⟨lo, hlo⟩ : ∃ l, p % 18446744073709551616 = l := ⟨_, rfl⟩
      obtain ⟨hi, hhi⟩ : ∃ l, p / 18446744073709551616 = l := ⟨_, rfl⟩
      rw [hlo, hhi] at hm
      rw [hlo] at r1
      rw [hlo, hhi] at r3
      obtain ⟨l2, hl2⟩ : ∃ l, (lo + t) % 18446744073709551616 = l := ⟨_, rfl⟩
      obtain ⟨c1, hc1⟩ : ∃ l, (lo + t) / 18446744073709551616 = l := ⟨_, rfl⟩
      rw [hl2] at r1
      rw [hl2, hc1] at r3
      obtain ⟨h2, hh2⟩ : ∃ l, (hi + c1) % 18446744073709551616 = l := ⟨_, rfl⟩
      obtain ⟨c2, hc2⟩ : ∃ l, (l2 + c) / 18446744073709551616 = l := ⟨_, rfl⟩
      rw [hh2, hc2] at r3
      clear hst hx hw hyb h5 hs l4 l5 ht hy hc hlo hhi hp
      (repeat (refine X_of _ ?_; simp -implicitDefEqProofs (maxSteps := 1000000) (disch := first | (simp only [nat4_length, nat8_length, arr_length, iarr_length, List.length_cons, List.length_nil, Nat.reduceAdd]; done) | omega) only [vcR, vcT, Int.reduceBEq, Int.reduceBNe, Int.reduceEq, Int.reduceNe, Ab.part, Nat.reduceAdd, Nat.reduceMul, Nat.reduceLeDiff, Nat.reduceEqDiff, Nat.reduceBEq, Nat.reduceBNe, reduceCtorEq, ↓reduceIte, implies_true, forall_const, Int.reduceNeg, Int.reduceToNat, Int.reduceLT, Int.reduceLE, Int.reduceAdd, Int.reduceSub, Int.reduceMul, Int.reducePow, Nat.reducePow, vcXM1, Tryd.f58, List.toList_toArray, hye]))
      (apply xcall_pure; kernel_rfl; exact PureC.cal (hm); try simp -implicitDefEqProofs (maxSteps := 1000000) (disch := first | (simp only [nat4_length, nat8_length, arr_length, iarr_length, List.length_cons, List.length_nil, Nat.reduceAdd]; done) | omega) only [vcR, vcT, Int.reduceBEq, Int.reduceBNe, Int.reduceEq, Int.reduceNe, Ab.part, Nat.reduceAdd, Nat.reduceMul, Nat.reduceLeDiff, Nat.reduceEqDiff, Nat.reduceBEq, Nat.reduceBNe, reduceCtorEq, ↓reduceIte, implies_true, forall_const, Int.reduceNeg, Int.reduceToNat, Int.reduceLT, Int.reduceLE, Int.reduceAdd, Int.reduceSub, Int.reduceMul, Int.reducePow, Nat.reducePow, vcXM1, Tryd.f58, List.toList_toArray])
      (repeat (refine X_of _ ?_; simp -implicitDefEqProofs (maxSteps := 1000000) (disch := first | (simp only [nat4_length, nat8_length, arr_length, iarr_length, List.length_cons, List.length_nil, Nat.reduceAdd]; done) | omega) only [vcR, vcT, Int.reduceBEq, Int.reduceBNe, Int.reduceEq, Int.reduceNe, Ab.part, Nat.reduceAdd, Nat.reduceMul, Nat.reduceLeDiff, Nat.reduceEqDiff, Nat.reduceBEq, Nat.reduceBNe, reduceCtorEq, ↓reduceIte, implies_true, forall_const, Int.reduceNeg, Int.reduceToNat, Int.reduceLT, Int.reduceLE, Int.reduceAdd, Int.reduceSub, Int.reduceMul, Int.reducePow, Nat.reducePow, vcXM1, Tryd.f58, List.toList_toArray, hte]))
      (apply xcall_ext; exact (add64_x lo t 0 (by decide)); simp only [List.length_cons, List.length_nil, List.map_cons, List.map_nil, List.nodup_cons, List.nodup_nil, List.mem_cons, Nat.reduceAdd, Nat.reduceEqDiff, or_false, not_false_eq_true, forall_eq_or_imp, forall_eq, or_self, Nat.reduceLT, Nat.reduceLeDiff, and_self, List.forall_mem_cons, List.not_mem_nil, false_implies, implies_true, and_true, true_and, vcOM1]; try simp -implicitDefEqProofs (maxSteps := 1000000) (disch := first | (simp only [nat4_length, nat8_length, arr_length, iarr_length, List.length_cons, List.length_nil, Nat.reduceAdd]; done) | omega) only [vcR, vcT, Int.reduceBEq, Int.reduceBNe, Int.reduceEq, Int.reduceNe, Ab.part, Nat.reduceAdd, Nat.reduceMul, Nat.reduceLeDiff, Nat.reduceEqDiff, Nat.reduceBEq, Nat.reduceBNe, reduceCtorEq, ↓reduceIte, implies_true, forall_const, Int.reduceNeg, Int.reduceToNat, Int.reduceLT, Int.reduceLE, Int.reduceAdd, Int.reduceSub, Int.reduceMul, Int.reducePow, Nat.reducePow, vcXM1, Tryd.f58, List.toList_toArray, hl2,hc1])
      (repeat (refine X_of _ ?_; simp -implicitDefEqProofs (maxSteps := 1000000) (disch := first | (simp only [nat4_length, nat8_length, arr_length, iarr_length, List.length_cons, List.length_nil, Nat.reduceAdd]; done) | omega) only [vcR, vcT, Int.reduceBEq, Int.reduceBNe, Int.reduceEq, Int.reduceNe, Ab.part, Nat.reduceAdd, Nat.reduceMul, Nat.reduceLeDiff, Nat.reduceEqDiff, Nat.reduceBEq, Nat.reduceBNe, reduceCtorEq, ↓reduceIte, implies_true, forall_const, Int.reduceNeg, Int.reduceToNat, Int.reduceLT, Int.reduceLE, Int.reduceAdd, Int.reduceSub, Int.reduceMul, Int.reducePow, Nat.reducePow, vcXM1, Tryd.f58, List.toList_toArray, w64m,hh2]))
      (refine X_drawC 10 (by kernel_rfl) (by kernel_rfl) ?_; simp only [List.take_succ_cons, List.take_zero, List.drop_succ_cons, List.drop_zero])
      (repeat ((first | with_reducible refine XQ_slice ?_ | with_reducible refine XQ_arrAt ?_ | with_reducible refine XQ_cons ?_ | with_reducible refine XQ_consG ?_ | with_reducible refine XQ_nil ?_); try simp -implicitDefEqProofs (maxSteps := 1000000) (disch := first | (simp only [nat4_length, nat8_length, arr_length, iarr_length, List.length_cons, List.length_nil, Nat.reduceAdd]; done) | omega) only [vcR, vcT, Int.reduceBEq, Int.reduceBNe, Int.reduceEq, Int.reduceNe, Ab.part, Nat.reduceAdd, Nat.reduceMul, Nat.reduceLeDiff, Nat.reduceEqDiff, Nat.reduceBEq, Nat.reduceBNe, reduceCtorEq, ↓reduceIte, implies_true, forall_const, Int.reduceNeg, Int.reduceToNat, Int.reduceLT, Int.reduceLE, Int.reduceAdd, Int.reduceSub, Int.reduceMul, Int.reducePow, Nat.reducePow, vcXM1, Tryd.f58, List.toList_toArray]))
      (apply xcallV_ext; exact (add64_x l2 c 0 (by decide)); simp only [List.length_cons, List.length_nil, List.map_cons, List.map_nil, List.nodup_cons, List.nodup_nil, List.mem_cons, Nat.reduceAdd, Nat.reduceEqDiff, or_false, not_false_eq_true, forall_eq_or_imp, forall_eq, or_self, Nat.reduceLT, Nat.reduceLeDiff, and_self, List.forall_mem_cons, List.not_mem_nil, false_implies, implies_true, and_true, true_and, vcOM1]; try simp -implicitDefEqProofs (maxSteps := 1000000) (disch := first | (simp only [nat4_length, nat8_length, arr_length, iarr_length, List.length_cons, List.length_nil, Nat.reduceAdd]; done) | omega) only [vcR, vcT, Int.reduceBEq, Int.reduceBNe, Int.reduceEq, Int.reduceNe, Ab.part, Nat.reduceAdd, Nat.reduceMul, Nat.reduceLeDiff, Nat.reduceEqDiff, Nat.reduceBEq, Nat.reduceBNe, reduceCtorEq, ↓reduceIte, implies_true, forall_const, Int.reduceNeg, Int.reduceToNat, Int.reduceLT, Int.reduceLE, Int.reduceAdd, Int.reduceSub, Int.reduceMul, Int.reducePow, Nat.reducePow, vcXM1, Tryd.f58, List.toList_toArray, r1,hc2])
      (repeat ((first | with_reducible refine XQ_slice ?_ | with_reducible refine XQ_arrAt ?_ | with_reducible refine XQ_cons ?_ | with_reducible refine XQ_consG ?_ | with_reducible refine XQ_nil ?_); try simp -implicitDefEqProofs (maxSteps := 1000000) (disch := first | (simp only [nat4_length, nat8_length, arr_length, iarr_length, List.length_cons, List.length_nil, Nat.reduceAdd]; done) | omega) only [vcR, vcT, Int.reduceBEq, Int.reduceBNe, Int.reduceEq, Int.reduceNe, Ab.part, Nat.reduceAdd, Nat.reduceMul, Nat.reduceLeDiff, Nat.reduceEqDiff, Nat.reduceBEq, Nat.reduceBNe, reduceCtorEq, ↓reduceIte, implies_true, forall_const, Int.reduceNeg, Int.reduceToNat, Int.reduceLT, Int.reduceLE, Int.reduceAdd, Int.reduceSub, Int.reduceMul, Int.reducePow, Nat.reducePow, vcXM1, Tryd.f58, List.toList_toArray, r1,hc2]))
      (try (first | with_reducible refine X_regRS ?_ | with_reducible refine X_regR ?_ | (with_reducible refine X_seqX ?_; with_reducible refine X_blockX ?_; with_reducible refine X_regR ?_))); (repeat ((first | with_reducible refine XR_make ?_ | with_reducible refine XR_append ?_ | with_reducible refine XR_copy ?_ | with_reducible refine XR_slice ?_ | with_reducible refine XR_arrAt ?_ | with_reducible refine XR_cons ?_ | with_reducible refine XR_consG ?_ | with_reducible refine XR_nil ?_); try simp -implicitDefEqProofs (maxSteps := 1000000) (disch := first | (simp only [nat4_length, nat8_length, arr_length, iarr_length, List.length_cons, List.length_nil, Nat.reduceAdd]; done) | omega) only [vcR, vcT, Int.reduceBEq, Int.reduceBNe, Int.reduceEq, Int.reduceNe, Ab.part, Nat.reduceAdd, Nat.reduceMul, Nat.reduceLeDiff, Nat.reduceEqDiff, Nat.reduceBEq, Nat.reduceBNe, reduceCtorEq, ↓reduceIte, implies_true, forall_const, Int.reduceNeg, Int.reduceToNat, Int.reduceLT, Int.reduceLE, Int.reduceAdd, Int.reduceSub, Int.reduceMul, Int.reducePow, Nat.reducePow, vcXM1, Tryd.f58, List.toList_toArray, arr_set]))
      (repeat (refine X_of _ ?_; simp -implicitDefEqProofs (maxSteps := 1000000) (disch := first | (simp only [nat4_length, nat8_length, arr_length, iarr_length, List.length_cons, List.length_nil, Nat.reduceAdd]; done) | omega) only [vcR, vcT, Int.reduceBEq, Int.reduceBNe, Int.reduceEq, Int.reduceNe, Ab.part, Nat.reduceAdd, Nat.reduceMul, Nat.reduceLeDiff, Nat.reduceEqDiff, Nat.reduceBEq, Nat.reduceBNe, reduceCtorEq, ↓reduceIte, implies_true, forall_const, Int.reduceNeg, Int.reduceToNat, Int.reduceLT, Int.reduceLE, Int.reduceAdd, Int.reduceSub, Int.reduceMul, Int.reducePow, Nat.reducePow, vcXM1, Tryd.f58, List.toList_toArray, w64m,r3]))
      refine ⟨k + 1, by omega, ?_⟩
      simp -implicitDefEqProofs (maxSteps := 1000000) (disch := first | (simp only [nat4_length, nat8_length, arr_length, iarr_length, List.length_cons, List.length_nil, Nat.reduceAdd]; done) | omega) only [vcR, vcT, Int.reduceBEq, Int.reduceBNe, Int.reduceEq, Int.reduceNe, Ab.part, Nat.reduceAdd, Nat.reduceMul, Nat.reduceLeDiff, Nat.reduceEqDiff, Nat.reduceBEq, Nat.reduceBNe, reduceCtorEq, ↓reduceIte, implies_true, forall_const, Int.reduceNeg, Int.reduceToNat, Int.reduceLT, Int.reduceLE, Int.reduceAdd, Int.reduceSub, Int.reduceMul, Int.reducePow, Nat.reducePow, vcXM1, Tryd.f58, List.toList_toArray, again_eq,hce']
      exact ⟨_, arr_congr fun i hi => upd_two (f := wd (T + w * b)) rfl, rfl⟩
    · have : k = 4 := by omega
      subst this
      obtain ⟨x5, hx5⟩ : ∃ x, cr T w b 5 = x := ⟨_, rfl⟩
      obtain ⟨t4, ht4⟩ : ∃ x, wd T 4 = x := ⟨_, rfl⟩
      obtain ⟨t5, ht5⟩ : ∃ x, wd T 5 = x := ⟨_, rfl⟩
      obtain ⟨c4, hc4⟩ : ∃ x, cr T w b 4 = x := ⟨_, rfl⟩
      have hx4 := wd_lt (T + w * b) 4
      have hxx := wd_lt (T + w * b) 5
      rw [ht4, hc4, hx5] at h5
      rw [ht5, hx5] at hs
      rw [hc4] at l4
      rw [hx5] at l5
      rw [hc4]
      have e1 : (t4 + c4) % 18446744073709551616 = wd (T + w * b) 4 := by omega
      have e2 : (t4 + c4) / 18446744073709551616 = x5 := by omega
      have e3 : t5 + x5 = wd (T + w * b) 5 := hs
      have e4 : IntKind.u64.wrap ((wd (T + w * b) 5 : Nat) : Int) = ((wd (T + w * b) 5 : Nat) : Int) := w64 _ hxx
      clear h5 hs l4 l5 hx4 hxx hw
      (repeat (refine X_of _ ?_; simp -implicitDefEqProofs (maxSteps := 1000000) (disch := first | (simp only [nat4_length, nat8_length, arr_length, iarr_length, List.length_cons, List.length_nil, Nat.reduceAdd]; done) | omega) only [vcR, vcT, Int.reduceBEq, Int.reduceBNe, Int.reduceEq, Int.reduceNe, Ab.part, Nat.reduceAdd, Nat.reduceMul, Nat.reduceLeDiff, Nat.reduceEqDiff, Nat.reduceBEq, Nat.reduceBNe, reduceCtorEq, ↓reduceIte, implies_true, forall_const, Int.reduceNeg, Int.reduceToNat, Int.reduceLT, Int.reduceLE, Int.reduceAdd, Int.reduceSub, Int.reduceMul, Int.reducePow, Nat.reducePow, vcXM1, Tryd.f58, List.toList_toArray]))
      (refine X_drawC 12 (by kernel_rfl) (by kernel_rfl) ?_; simp only [List.take_succ_cons, List.take_zero, List.drop_succ_cons, List.drop_zero])
      (repeat ((first | with_reducible refine XQ_slice ?_ | with_reducible refine XQ_arrAt ?_ | with_reducible refine XQ_cons ?_ | with_reducible refine XQ_consG ?_ | with_reducible refine XQ_nil ?_); try simp -implicitDefEqProofs (maxSteps := 1000000) (disch := first | (simp only [nat4_length, nat8_length, arr_length, iarr_length, List.length_cons, List.length_nil, Nat.reduceAdd]; done) | omega) only [vcR, vcT, Int.reduceBEq, Int.reduceBNe, Int.reduceEq, Int.reduceNe, Ab.part, Nat.reduceAdd, Nat.reduceMul, Nat.reduceLeDiff, Nat.reduceEqDiff, Nat.reduceBEq, Nat.reduceBNe, reduceCtorEq, ↓reduceIte, implies_true, forall_const, Int.reduceNeg, Int.reduceToNat, Int.reduceLT, Int.reduceLE, Int.reduceAdd, Int.reduceSub, Int.reduceMul, Int.reducePow, Nat.reducePow, vcXM1, Tryd.f58, List.toList_toArray, ht4]))
      (apply xcallV_ext; exact (add64_x t4 c4 0 (by decide)); simp only [List.length_cons, List.length_nil, List.map_cons, List.map_nil, List.nodup_cons, List.nodup_nil, List.mem_cons, Nat.reduceAdd, Nat.reduceEqDiff, or_false, not_false_eq_true, forall_eq_or_imp, forall_eq, or_self, Nat.reduceLT, Nat.reduceLeDiff, and_self, List.forall_mem_cons, List.not_mem_nil, false_implies, implies_true, and_true, true_and, vcOM1]; try simp -implicitDefEqProofs (maxSteps := 1000000) (disch := first | (simp only [nat4_length, nat8_length, arr_length, iarr_length, List.length_cons, List.length_nil, Nat.reduceAdd]; done) | omega) only [vcR, vcT, Int.reduceBEq, Int.reduceBNe, Int.reduceEq, Int.reduceNe, Ab.part, Nat.reduceAdd, Nat.reduceMul, Nat.reduceLeDiff, Nat.reduceEqDiff, Nat.reduceBEq, Nat.reduceBNe, reduceCtorEq, ↓reduceIte, implies_true, forall_const, Int.reduceNeg, Int.reduceToNat, Int.reduceLT, Int.reduceLE, Int.reduceAdd, Int.reduceSub, Int.reduceMul, Int.reducePow, Nat.reducePow, vcXM1, Tryd.f58, List.toList_toArray, e1,e2])
      (repeat ((first | with_reducible refine XQ_slice ?_ | with_reducible refine XQ_arrAt ?_ | with_reducible refine XQ_cons ?_ | with_reducible refine XQ_consG ?_ | with_reducible refine XQ_nil ?_); try simp -implicitDefEqProofs (maxSteps := 1000000) (disch := first | (simp only [nat4_length, nat8_length, arr_length, iarr_length, List.length_cons, List.length_nil, Nat.reduceAdd]; done) | omega) only [vcR, vcT, Int.reduceBEq, Int.reduceBNe, Int.reduceEq, Int.reduceNe, Ab.part, Nat.reduceAdd, Nat.reduceMul, Nat.reduceLeDiff, Nat.reduceEqDiff, Nat.reduceBEq, Nat.reduceBNe, reduceCtorEq, ↓reduceIte, implies_true, forall_const, Int.reduceNeg, Int.reduceToNat, Int.reduceLT, Int.reduceLE, Int.reduceAdd, Int.reduceSub, Int.reduceMul, Int.reducePow, Nat.reducePow, vcXM1, Tryd.f58, List.toList_toArray, e1,e2]))
      (try (first | with_reducible refine X_regRS ?_ | with_reducible refine X_regR ?_ | (with_reducible refine X_seqX ?_; with_reducible refine X_blockX ?_; with_reducible refine X_regR ?_))); (repeat ((first | with_reducible refine XR_make ?_ | with_reducible refine XR_append ?_ | with_reducible refine XR_copy ?_ | with_reducible refine XR_slice ?_ | with_reducible refine XR_arrAt ?_ | with_reducible refine XR_cons ?_ | with_reducible refine XR_consG ?_ | with_reducible refine XR_nil ?_); try simp -implicitDefEqProofs (maxSteps := 1000000) (disch := first | (simp only [nat4_length, nat8_length, arr_length, iarr_length, List.length_cons, List.length_nil, Nat.reduceAdd]; done) | omega) only [vcR, vcT, Int.reduceBEq, Int.reduceBNe, Int.reduceEq, Int.reduceNe, Ab.part, Nat.reduceAdd, Nat.reduceMul, Nat.reduceLeDiff, Nat.reduceEqDiff, Nat.reduceBEq, Nat.reduceBNe, reduceCtorEq, ↓reduceIte, implies_true, forall_const, Int.reduceNeg, Int.reduceToNat, Int.reduceLT, Int.reduceLE, Int.reduceAdd, Int.reduceSub, Int.reduceMul, Int.reducePow, Nat.reducePow, vcXM1, Tryd.f58, List.toList_toArray, arr_set]))
      (repeat (refine X_of _ ?_; simp -implicitDefEqProofs (maxSteps := 1000000) (disch := first | (simp only [nat4_length, nat8_length, arr_length, iarr_length, List.length_cons, List.length_nil, Nat.reduceAdd]; done) | omega) only [vcR, vcT, Int.reduceBEq, Int.reduceBNe, Int.reduceEq, Int.reduceNe, Ab.part, Nat.reduceAdd, Nat.reduceMul, Nat.reduceLeDiff, Nat.reduceEqDiff, Nat.reduceBEq, Nat.reduceBNe, reduceCtorEq, ↓reduceIte, implies_true, forall_const, Int.reduceNeg, Int.reduceToNat, Int.reduceLT, Int.reduceLE, Int.reduceAdd, Int.reduceSub, Int.reduceMul, Int.reducePow, Nat.reducePow, vcXM1, Tryd.f58, List.toList_toArray]))
      (refine X_drawC 8 (by kernel_rfl) (by kernel_rfl) ?_; simp only [List.take_succ_cons, List.take_zero, List.drop_succ_cons, List.drop_zero])
      (repeat ((first | with_reducible refine XQ_slice ?_ | with_reducible refine XQ_arrAt ?_ | with_reducible refine XQ_cons ?_ | with_reducible refine XQ_consG ?_ | with_reducible refine XQ_nil ?_); try simp -implicitDefEqProofs (maxSteps := 1000000) (disch := first | (simp only [nat4_length, nat8_length, arr_length, iarr_length, List.length_cons, List.length_nil, Nat.reduceAdd]; done) | omega) only [vcR, vcT, Int.reduceBEq, Int.reduceBNe, Int.reduceEq, Int.reduceNe, Ab.part, Nat.reduceAdd, Nat.reduceMul, Nat.reduceLeDiff, Nat.reduceEqDiff, Nat.reduceBEq, Nat.reduceBNe, reduceCtorEq, ↓reduceIte, implies_true, forall_const, Int.reduceNeg, Int.reduceToNat, Int.reduceLT, Int.reduceLE, Int.reduceAdd, Int.reduceSub, Int.reduceMul, Int.reducePow, Nat.reducePow, vcXM1, Tryd.f58, List.toList_toArray, ht5,e3,e4]))
      (try (first | with_reducible refine X_regRS ?_ | with_reducible refine X_regR ?_ | (with_reducible refine X_seqX ?_; with_reducible refine X_blockX ?_; with_reducible refine X_regR ?_))); (repeat ((first | with_reducible refine XR_make ?_ | with_reducible refine XR_append ?_ | with_reducible refine XR_copy ?_ | with_reducible refine XR_slice ?_ | with_reducible refine XR_arrAt ?_ | with_reducible refine XR_cons ?_ | with_reducible refine XR_consG ?_ | with_reducible refine XR_nil ?_); try simp -implicitDefEqProofs (maxSteps := 1000000) (disch := first | (simp only [nat4_length, nat8_length, arr_length, iarr_length, List.length_cons, List.length_nil, Nat.reduceAdd]; done) | omega) only [vcR, vcT, Int.reduceBEq, Int.reduceBNe, Int.reduceEq, Int.reduceNe, Ab.part, Nat.reduceAdd, Nat.reduceMul, Nat.reduceLeDiff, Nat.reduceEqDiff, Nat.reduceBEq, Nat.reduceBNe, reduceCtorEq, ↓reduceIte, implies_true, forall_const, Int.reduceNeg, Int.reduceToNat, Int.reduceLT, Int.reduceLE, Int.reduceAdd, Int.reduceSub, Int.reduceMul, Int.reducePow, Nat.reducePow, vcXM1, Tryd.f58, List.toList_toArray, arr_set]))
      refine ⟨_, arr_congr fun i hi => ?_, rfl⟩
      by_cases h5 : i = 5
      · rw [if_pos h5, h5]
      · rw [if_neg h5]
        by_cases h4 : i = 4
        · rw [if_pos h4, h4]
        · rw [if_neg h4, if_pos (by omega)]
end Go.Proofs.YthniflakjkbpiaaDoor
