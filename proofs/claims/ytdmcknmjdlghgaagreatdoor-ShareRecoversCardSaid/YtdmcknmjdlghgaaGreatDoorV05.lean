/-
  Texts laid together: O1, O2, M0, M1.
  Texts laid together: Mc, Md, Me, Mf.
  The calls' laws once more, with what is shown alike each time; the rules in one bundle.
  What package mont's Mod does without what is made later: which number it is, below it, sums, differences.
  What is made when it is first asked: the closure of mont.Mod.ready.
  mont.Mod.ready: what is made when it is first asked.
  Products of images: mont.Mod.Mul, To, From.
  Package mont's statements: they answer true.
-/
import Derived.Tactics
import Derived.Tactics2
import Derived.Defers
import Derived.Laws.Pointers
import Derived.Laws.LoneSync
import Derived.RegionTactic
import Derived.RegionCalls
import Derived.ChangeAlike
import Derived.KernelRfl
import Derived.Laws.NewBlocks
import Derived.Test.YtdmcknmjdlghgaaGreatDoorV01
import Derived.Test.YtdmcknmjdlghgaaGreatDoorV02
import Derived.Test.YtdmcknmjdlghgaaGreatDoorV03
import Derived.Test.YtdmcknmjdlghgaaGreatDoorV04
/-
  What sync.Once does, in one goroutine: its parts (after the kit's worked texts on it).
-/
namespace Go.Proofs.YtdmcknmjdlghgaaGreatDoor
open Go
set_option linter.unusedSimpArgs false
set_option linter.unusedVariables false
set_option maxRecDepth 100000
set_option maxHeartbeats 4000000
theorem dzSKO {p : Prop} (h : p := by first | (simp only [nat4_length, nat8_length, arr_length, iarr_length, List.length_cons, List.length_nil, Nat.reduceAdd]; done) | omega) : p := h
theorem o_disable (w : World) : (callFunc 113 #[]).run Tryz.prog w = .ok (.value (.tuple #[])) w := run_call_mark0 Tryz.func113 (by kernel_rfl) (by kernel_rfl) (by kernel_rfl) .disable (by kernel_rfl) w
theorem o_enable (w : World) : (callFunc 115 #[]).run Tryz.prog w = .ok (.value (.tuple #[])) w := run_call_mark0 Tryz.func115 (by kernel_rfl) (by kernel_rfl) (by kernel_rfl) .enable (by kernel_rfl) w
theorem o_acquire (a : Addr) (w : World) : (callFunc 116 #[.pointer (some a)]).run Tryz.prog w = .ok (.value (.tuple #[])) w := run_call_marked Tryz.func116 (by kernel_rfl) (by kernel_rfl) (by kernel_rfl) .acquire (by kernel_rfl) a w
theorem o_releaseMerge (a : Addr) (w : World) : (callFunc 118 #[.pointer (some a)]).run Tryz.prog w = .ok (.value (.tuple #[])) w := run_call_marked Tryz.func118 (by kernel_rfl) (by kernel_rfl) (by kernel_rfl) .releaseMerge (by kernel_rfl) a w
theorem o_store_deferred (a : Addr) (x : Value) (u : FrameMode) (w : World) (hc : w.cell? a = some x) (hz : w.frozen? a = false) :
    CallsD Tryz.prog 107 #[.pointer (some a), .bool true] u w fun e u' w' => u' = u ∧ (e = .returned (.tuple #[]) ∧ w' = w.drew.setCell a (.int .u32 1)) := by
  have hc' : w.drew.cell? a = some x := by go_simp
  have hz' : w.drew.frozen? a = false := by go_simp
  have hst := run_call_store (P := Tryz.prog) Tryz.func111 (by kernel_rfl) (by kernel_rfl) (by kernel_rfl) (by kernel_rfl) (k := .u32) (y := 1) hc' hz'
  go_enter_d Tryz.func107, Tryz.ntmps107
  go_wp2
  go_region_calls
  all_goals (go_end0; exact ⟨rfl, rfl⟩)
theorem o_unlock_deferred (a : Addr) (u : FrameMode) (w : World) (hc : w.cell? a = some (.int .i32 1)) (hz : w.frozen? a = false) :
    CallsD Tryz.prog 106 #[.pointer (some a)] u w fun e u' w' => u' = u ∧ (e = .returned (.tuple #[]) ∧ w' = w.setCell a (.int .i32 0)) := by
  have hd := o_disable
  have he := o_enable
  have hr := o_releaseMerge
  have hadd := run_call_add (P := Tryz.prog) Tryz.func119 (by kernel_rfl) (by kernel_rfl) (by kernel_rfl) .i32 (by kernel_rfl) (y := -1) (s := 0) hc hz (by simp [go_sem]; rfl)
  have hcv := run_convert_to_unsafe (P := Tryz.prog) (src := 168) (dst := 172) Tryz.underlying168 Tryz.underlying172 (by kernel_rfl) hc
  go_enter_d Tryz.func106, Tryz.ntmps106
  go_wp2
  go_end0
  go_wp2
  go_end0
  exact ⟨rfl, rfl⟩
theorem o_lock_free (a : Addr) (w : World) (hc : w.cell? a = some (.int .i32 0)) (hz : w.frozen? a = false) :
    Calls Tryz.prog 105 #[.pointer (some a)] w fun e w' => e = .returned (.tuple #[]) ∧ w' = w.setCell a (.int .i32 1) := by
  have hd := o_disable
  have he := o_enable
  have ha := o_acquire
  have hcas := run_call_cas_hit (P := Tryz.prog) Tryz.func114 (by kernel_rfl) (by kernel_rfl) (by kernel_rfl) .i32 (by kernel_rfl) (y := 1) hc hz
  have hc' : (w.setCell a (.int .i32 1)).cell? a = some (.int .i32 1) := World.cell?_setCell_same w a _ hc
  have hcv := run_convert_to_unsafe (P := Tryz.prog) (src := 168) (dst := 172) Tryz.underlying168 Tryz.underlying172 (by kernel_rfl) hc'
  go_enter Tryz.func105, Tryz.ntmps105
  go_wp2
  first | go_end0 | (simp only [Exit.inBlock, Exit.then]; refine bodyPost_ret (results_none rfl _ _ _) rfl ?_) | refine bodyPost_ret (results_none rfl _ _ _) rfl ?_
  go_wp2
  go_end0
  exact ⟨rfl, rfl⟩
set_option maxRecDepth 100000 in
set_option maxHeartbeats 1600000 in
theorem o_do_done (a : Addr) (d : Int) (hd : ¬ d = 0) (fv : Value) (w : World) (h0 : w.cell? a = some (.int .u32 d)) :
    Calls Tryz.prog 93 #[.pointer (some a), fv] w fun e w' => e = .returned (.tuple #[]) ∧ w' = w := by
  have hl := run_call_load (P := Tryz.prog) Tryz.func104 (by kernel_rfl) (by kernel_rfl) (by kernel_rfl) .u32 (by kernel_rfl) h0
  have hnot : ∀ (x : Bool) (w : World), (Op.unary .not (.bool x)).run Tryz.prog w = .ok (.bool (!x)) w := fun _ _ => rfl
  have hd' : (d != 0) = true := by simp [hd]
  go_enter Tryz.func93, Tryz.ntmps93
  go_wp2
  go_end0
  exact ⟨rfl, rfl⟩
end Go.Proofs.YtdmcknmjdlghgaaGreatDoor
/-
  sync.Once's slow road, over what the function that is called does.
-/
namespace Go.Proofs.YtdmcknmjdlghgaaGreatDoor
open Go
set_option linter.unusedSimpArgs false
set_option linter.unusedVariables false
set_option maxRecDepth 100000
set_option maxHeartbeats 4000000
theorem o_slow (b off : Nat) (pl : Addr) (w : World) (Eff : World → Prop)
    (h0 : w.cell? ⟨b, off, none⟩ = some (.int .u32 0)) (h1 : w.cell? ⟨b, off + 1, none⟩ = some (.int .i32 0))
    (f0 : w.frozen? ⟨b, off, none⟩ = false) (f1 : w.frozen? ⟨b, off + 1, none⟩ = false)
    (hcl : Calls Tryz.prog 94 #[.pointer (some pl)] (w.setCell ⟨b, off + 1, none⟩ (.int .i32 1)) fun e w' => e = .returned (.tuple #[]) ∧ Eff w')
    (hE : ∀ w', Eff w' → w'.cell? ⟨b, off, none⟩ = some (.int .u32 0) ∧ w'.cell? ⟨b, off + 1, none⟩ = some (.int .i32 1) ∧ w'.frozen? ⟨b, off, none⟩ = false ∧ w'.frozen? ⟨b, off + 1, none⟩ = false) :
    Calls Tryz.prog 102 #[.pointer (some ⟨b, off, none⟩), .func (.func 94) #[] #[.pointer (some pl)]] w fun e w' => e = .returned (.tuple #[]) ∧
      ∃ w1, Eff w1 ∧ w' = (w1.drew.setCell ⟨b, off, none⟩ (.int .u32 1)).setCell ⟨b, off + 1, none⟩ (.int .i32 0) := by
  have hl := run_call_load (P := Tryz.prog) Tryz.func104 (by kernel_rfl) (by kernel_rfl) (by kernel_rfl) .u32 (by kernel_rfl) (w := w.setCell ⟨b, off + 1, none⟩ (.int .i32 1)) (a := ⟨b, off, none⟩) (x := 0) ((World.cell?_setCell_other _ ⟨b, off + 1, none⟩ ⟨b, off, none⟩ _ (by simp)).trans h0)
  have hnot : ∀ (x : Bool) (w : World), (Op.unary .not (.bool x)).run Tryz.prog w = .ok (.bool (!x)) w := fun _ _ => rfl
  go_enter_defers Tryz.func102, Tryz.ntmps102
  go_wp2_with (first | (go_at_call 105; refine (o_lock_free ⟨b, off + 1, none⟩ _ (by go_simp) (by go_simp)).mono ?_; rintro e w' ⟨rfl, rfl⟩) | (go_at_call 94; refine hcl.mono ?_; rintro e w1 ⟨rfl, hEff⟩) | (go_at_call 101; go_in))
  obtain ⟨k0, k1, z0, z1⟩ := hE w1 hEff
  refine leaves_cons (f := 107) (args := #[.pointer (some ⟨b, off, none⟩), .bool true]) (by simp) (by simp [go_sem]) ?_
  refine (o_store_deferred ⟨b, off, none⟩ (.int .u32 0) .returning _ k0 z0).mono ?_
  rintro e u' w'' ⟨rfl, rfl, rfl⟩
  refine leaves_cons (f := 106) (args := #[.pointer (some ⟨b, off + 1, none⟩)]) (by simp [settle]) (by simp [go_sem]) ?_
  refine (o_unlock_deferred ⟨b, off + 1, none⟩ _ _ ?_ (by simp [z1])).mono ?_
  · refine (World.cell?_setCell_other _ ⟨b, off, none⟩ ⟨b, off + 1, none⟩ _ (by simp)).trans ?_
    rw [World.cell?_drew]
    exact k1
  rintro e u' w'' ⟨rfl, rfl, rfl⟩
  simp [Leaves, settle, results, Tryz.results102]
  exact ⟨w1, hEff, rfl⟩
theorem o_do_first (b off : Nat) (pl : Addr) (w : World) (Eff : World → Prop)
    (h0 : w.cell? ⟨b, off, none⟩ = some (.int .u32 0)) (h1 : w.cell? ⟨b, off + 1, none⟩ = some (.int .i32 0))
    (f0 : w.frozen? ⟨b, off, none⟩ = false) (f1 : w.frozen? ⟨b, off + 1, none⟩ = false)
    (hcl : Calls Tryz.prog 94 #[.pointer (some pl)] (w.setCell ⟨b, off + 1, none⟩ (.int .i32 1)) fun e w' => e = .returned (.tuple #[]) ∧ Eff w')
    (hE : ∀ w', Eff w' → w'.cell? ⟨b, off, none⟩ = some (.int .u32 0) ∧ w'.cell? ⟨b, off + 1, none⟩ = some (.int .i32 1) ∧ w'.frozen? ⟨b, off, none⟩ = false ∧ w'.frozen? ⟨b, off + 1, none⟩ = false) :
    Calls Tryz.prog 93 #[.pointer (some ⟨b, off, none⟩), .func (.func 94) #[] #[.pointer (some pl)]] w fun e w' => e = .returned (.tuple #[]) ∧
      ∃ w1, Eff w1 ∧ w' = (w1.drew.setCell ⟨b, off, none⟩ (.int .u32 1)).setCell ⟨b, off + 1, none⟩ (.int .i32 0) := by
  have hl := run_call_load (P := Tryz.prog) Tryz.func104 (by kernel_rfl) (by kernel_rfl) (by kernel_rfl) .u32 (by kernel_rfl) h0
  have hnot : ∀ (x : Bool) (w : World), (Op.unary .not (.bool x)).run Tryz.prog w = .ok (.bool (!x)) w := fun _ _ => rfl
  go_enter Tryz.func93, Tryz.ntmps93
  go_wp2_with (first | (go_at_call 102; refine (o_slow b off pl w Eff h0 h1 f0 f1 hcl hE).mono ?_; rintro e w' ⟨rfl, hw'⟩) | (go_at_call 101; go_in))
  go_end0
  exact ⟨rfl, hw'⟩
end Go.Proofs.YtdmcknmjdlghgaaGreatDoor
/-
  Types of package mont.
-/
namespace Go.Proofs.YtdmcknmjdlghgaaGreatDoor
open Go Go.Ab
set_option linter.unusedSimpArgs false
set_option linter.unusedVariables false
theorem tf135_row : rowOf Tryz.prog 135 = some true := by kernel_rfl
theorem tf135_sz : Tryz.prog.cellsOf 135 = 12 := by kernel_rfl
theorem tf135_szO : szO Tryz.prog 135 = some 12 := by kernel_rfl
theorem tf135_f0 : fieldOff Tryz.prog 135 0 = some (0, 26) := by kernel_rfl
theorem tf135_f1 : fieldOff Tryz.prog 135 1 = some (4, 133) := by kernel_rfl
theorem tf135_f2 : fieldOff Tryz.prog 135 2 = some (7, 24) := by kernel_rfl
theorem tf135_f3 : fieldOff Tryz.prog 135 3 = some (8, 26) := by kernel_rfl
theorem tf135_known : known Tryz.prog 135 = true := by kernel_rfl
theorem tf135_zero : zeroA Tryz.prog 135 = some [.v (.int .u64 0), .v (.int .u64 0), .v (.int .u64 0), .v (.int .u64 0), .v (.int .u32 0), .v (.int .i32 0), .v (.int .u32 0), .v (.int .u64 0), .v (.int .u64 0), .v (.int .u64 0), .v (.int .u64 0), .v (.int .u64 0)] := by kernel_rfl
theorem tf135_p0 : placeOf Tryz.prog 135 0 = some (0, 4) := by kernel_rfl
theorem tf135_p1 : placeOf Tryz.prog 135 1 = some (4, 3) := by kernel_rfl
theorem tf135_p2 : placeOf Tryz.prog 135 2 = some (7, 1) := by kernel_rfl
theorem tf135_p3 : placeOf Tryz.prog 135 3 = some (8, 4) := by kernel_rfl
theorem tf135_slc : slcOf Tryz.prog 135 = none := by kernel_rfl
theorem tf144_row : rowOf Tryz.prog 144 = some true := by kernel_rfl
theorem tf144_sz : Tryz.prog.cellsOf 144 = 6 := by kernel_rfl
theorem tf144_szO : szO Tryz.prog 144 = some 6 := by kernel_rfl
theorem tf144_arr : arrOf Tryz.prog 144 = some (6, 24) := by kernel_rfl
theorem tf144_known : known Tryz.prog 144 = true := by kernel_rfl
theorem tf144_eq : eqTy Tryz.prog 144 = true := by kernel_rfl
theorem tf144_zero : zeroA Tryz.prog 144 = some (arr 6 fun _ => 0) := by kernel_rfl
theorem tf144_lits (f : Nat → Nat) (hf : ∀ i, i < 6 → f i < 18446744073709551616) : litsA Tryz.prog 144 (some (arr 6 f)) = some (lits 6 f) := litsA_arr (e := 24) (by kernel_rfl) (by kernel_rfl) (by kernel_rfl) (by kernel_rfl) hf
theorem tf144_u : Tryz.prog.underlying 144 = some (.array 6 24) := by kernel_rfl
theorem tf144_ce : Tryz.prog.cellsOf 24 = 1 := by kernel_rfl
theorem tf144_place (i : Nat) : placeOf Tryz.prog 144 i = some (i * 1, 1) := by simp only [placeOf, tf144_u, tf144_ce]
theorem tf144_slc : slcOf Tryz.prog 144 = none := by kernel_rfl
theorem tf71_row : rowOf Tryz.prog 71 = some false := by kernel_rfl
theorem tf71_sz : Tryz.prog.cellsOf 71 = 1 := by kernel_rfl
theorem tf71_szO : szO Tryz.prog 71 = some 1 := by kernel_rfl
theorem tf71_slc : slcOf Tryz.prog 71 = none := by kernel_rfl
theorem tf71_ptr : isPtr Tryz.prog 71 = true := by kernel_rfl
theorem tf71_zero : zeroA Tryz.prog 71 = some [.v (.pointer none)] := by kernel_rfl
theorem tf146_row : rowOf Tryz.prog 146 = some false := by kernel_rfl
theorem tf146_sz : Tryz.prog.cellsOf 146 = 1 := by kernel_rfl
theorem tf146_szO : szO Tryz.prog 146 = some 1 := by kernel_rfl
theorem tf146_slc : slcOf Tryz.prog 146 = none := by kernel_rfl
theorem tf146_ptr : isPtr Tryz.prog 146 = true := by kernel_rfl
theorem tf146_zero : zeroA Tryz.prog 146 = some [.v (.pointer none)] := by kernel_rfl
theorem tf147_row : rowOf Tryz.prog 147 = some false := by kernel_rfl
theorem tf147_sz : Tryz.prog.cellsOf 147 = 1 := by kernel_rfl
theorem tf147_szO : szO Tryz.prog 147 = some 1 := by kernel_rfl
theorem tf147_slc : slcOf Tryz.prog 147 = some 24 := by kernel_rfl
theorem tf147_arr : arrOf Tryz.prog 147 = none := by kernel_rfl
theorem tf147_isSlc : isSlc Tryz.prog 147 = true := by kernel_rfl
theorem tf147_zero : zeroA Tryz.prog 147 = some [.v (.slice none 0 0)] := by kernel_rfl
theorem tf125_row : rowOf Tryz.prog 125 = some false := by kernel_rfl
theorem tf125_sz : Tryz.prog.cellsOf 125 = 1 := by kernel_rfl
theorem tf125_szO : szO Tryz.prog 125 = some 1 := by kernel_rfl
theorem tf125_slc : slcOf Tryz.prog 125 = none := by kernel_rfl
theorem tf125_int : intKindOf Tryz.prog 125 = some .u32 := by kernel_rfl
theorem tf125_zero : zeroA Tryz.prog 125 = some [.v (.int .u32 0)] := by kernel_rfl
theorem tf21_row : rowOf Tryz.prog 21 = some false := by kernel_rfl
theorem tf21_sz : Tryz.prog.cellsOf 21 = 1 := by kernel_rfl
theorem tf21_szO : szO Tryz.prog 21 = some 1 := by kernel_rfl
theorem tf21_slc : slcOf Tryz.prog 21 = none := by kernel_rfl
theorem tf21_int : intKindOf Tryz.prog 21 = some .i32 := by kernel_rfl
theorem tf21_zero : zeroA Tryz.prog 21 = some [.v (.int .i32 0)] := by kernel_rfl
end Go.Proofs.YtdmcknmjdlghgaaGreatDoor
/-
  mont.row: a word's product with a number is added to six words of the caller's.
-/
namespace Go.Proofs.YtdmcknmjdlghgaaGreatDoor
open Go Go.Ab
set_option linter.unusedSimpArgs false
set_option linter.unusedVariables false
set_option linter.defProp false
def vcXM1 := (And.intro (And.intro (And.intro (And.intro (And.intro (And.intro @tf135_row @tf135_sz) (And.intro @tf135_szO @tf135_f0)) (And.intro (And.intro @tf135_f1 @tf135_f2) (And.intro @tf135_f3 @tf135_known))) (And.intro (And.intro (And.intro @tf135_zero @tf135_p0) (And.intro @tf135_p1 @tf135_p2)) (And.intro (And.intro @tf135_p3 @tf135_slc) (And.intro @tf144_row @tf144_sz)))) (And.intro (And.intro (And.intro (And.intro @tf144_szO @tf144_arr) (And.intro @tf144_known @tf144_eq)) (And.intro (And.intro @tf144_zero @tf144_lits) (And.intro @tf144_place @tf144_slc))) (And.intro (And.intro (And.intro @tf71_row @tf71_sz) (And.intro @tf71_szO @tf71_slc)) (And.intro (And.intro @tf71_ptr @tf71_zero) (And.intro @tf146_row @tf146_sz))))) (And.intro (And.intro (And.intro (And.intro (And.intro @tf146_szO @tf146_slc) (And.intro @tf146_ptr @tf146_zero)) (And.intro (And.intro @tf147_row @tf147_sz) (And.intro @tf147_szO @tf147_slc))) (And.intro (And.intro (And.intro @tf147_arr @tf147_isSlc) (And.intro @tf147_zero @tf125_row)) (And.intro (And.intro @tf125_sz @tf125_szO) (And.intro @tf125_slc @tf125_int)))) (And.intro (And.intro (And.intro (And.intro @tf125_zero @tf21_row) (And.intro @tf21_sz @tf21_szO)) (And.intro (And.intro @tf21_slc @tf21_int) (And.intro @tf21_zero @ctxN_P))) (And.intro (And.intro (And.intro @ctxN_TM @bnd_none) (And.intro @bnd_int @xslB_some)) (And.intro (And.intro @xslice_p @xslice_sl) (And.intro @xslice_v (And.intro @xarrAt_sl @xarrAt_v)))))))
def vcOM1 := (And.intro (And.intro (And.intro @okv_p (And.intro @okv_sl @oks_s)) (And.intro @oks_agg (And.intro @oks_tup @oka_s))) (And.intro (And.intro @oka_agg (And.intro @okv_v @nat4_okk)) (And.intro @nat8_okk (And.intro @arr_okk @iarr_okk))))
set_option maxHeartbeats 20000000
set_option maxRecDepth 100000
theorem row_o (T w b n : Nat) (hn : n = 384) (hw : w < 18446744073709551616) (hb : b < 2 ^ 256) (h6 : T + w * b < 2 ^ n) :
    OwnC Tryz.prog 86 [.s (.p 0 0), .s (.v (.int .u64 (w : Int))), .agg (nat4 b)] [⟨144, arr 6 (wd T)⟩] [⟨144, arr 6 (wd (T + w * b))⟩] (.tup []) := by
  have h5 := cr_five T w b hb
  have hs := cr_six T w b n hn hb h6
  have l4 := cr_lt T w b 4 hw
  have l5 := cr_lt T w b 5 hw
  clear h6 hn hb
  (refine own_of Tryz.func86 rfl (by simp only [List.length_cons, List.length_nil, List.map_cons, List.map_nil, List.nodup_cons, List.nodup_nil, List.mem_cons, Nat.reduceAdd, Nat.reduceEqDiff, or_false, not_false_eq_true, forall_eq_or_imp, forall_eq, or_self, Nat.reduceLT, Nat.reduceLeDiff, and_self, List.forall_mem_cons, List.not_mem_nil, false_implies, implies_true, and_true, true_and, vcOM1]) (by simp only [List.length_cons, List.length_nil, List.map_cons, List.map_nil, List.nodup_cons, List.nodup_nil, List.mem_cons, Nat.reduceAdd, Nat.reduceEqDiff, or_false, not_false_eq_true, forall_eq_or_imp, forall_eq, or_self, Nat.reduceLT, Nat.reduceLeDiff, and_self, List.forall_mem_cons, List.not_mem_nil, false_implies, implies_true, and_true, true_and, vcOM1]) (by simp only [List.length_cons, List.length_nil, List.map_cons, List.map_nil, List.nodup_cons, List.nodup_nil, List.mem_cons, Nat.reduceAdd, Nat.reduceEqDiff, or_false, not_false_eq_true, forall_eq_or_imp, forall_eq, or_self, Nat.reduceLT, Nat.reduceLeDiff, and_self, List.forall_mem_cons, List.not_mem_nil, false_implies, implies_true, and_true, true_and, vcOM1]) (by simp only [List.length_cons, List.length_nil, List.map_cons, List.map_nil, List.nodup_cons, List.nodup_nil, List.mem_cons, Nat.reduceAdd, Nat.reduceEqDiff, or_false, not_false_eq_true, forall_eq_or_imp, forall_eq, or_self, Nat.reduceLT, Nat.reduceLeDiff, and_self, List.forall_mem_cons, List.not_mem_nil, false_implies, implies_true, and_true, true_and, vcOM1]) rfl fun w0 β0 => ?_; simp only [List.length_cons, List.length_nil, Tryz.ntmps86, Nat.reduceAdd, Nat.reduceSub, List.replicate_succ, List.replicate_zero, List.cons_append, List.nil_append])
  (repeat (refine X_of _ ?_; simp -implicitDefEqProofs (maxSteps := 1000000) (disch := first | exact dzSKO | fail) only [vcR, vcT, simprocAttr, Ab.part, implies_true, forall_const, vcXM1, Tryz.f86, List.toList_toArray]))
  refine X_loop (ι := Nat) (fun k => k ≤ 4) (fun k => 4 - k) [6, 7, 8, 9, 10, 11, 14, 15, 16, 17, 18, 19, 20, 21, 22, 23, 24, 25, 26, 27, 28, 29, 30, 31, 32, 33, 34, 35, 36, 37, 38, 39, 40, 41, 42, 43, 44, 45, 46, 47, 48, 49, 50]
    (fun k => [(6, .s (.v (.int .u64 (cr T w b k : Nat)))), (14, .s (.v (.int .i64 (k : Nat))))])
    (fun k => [(0, arr 6 fun i => if i < k then wd (T + w * b) i else wd T i)]) 0 (shape_of fun i => ?_) (by decide) ?_ ?_
  · simp only [List.length_cons, List.length_nil, List.map_cons, List.map_nil, List.nodup_cons, List.nodup_nil, List.mem_cons, Nat.reduceAdd, Nat.reduceEqDiff, or_false, not_false_eq_true, forall_eq_or_imp, forall_eq, or_self, Nat.reduceLT, Nat.reduceLeDiff, and_self, List.forall_mem_cons, List.not_mem_nil, false_implies, implies_true, and_true, true_and, vcOM1]
  · simp -implicitDefEqProofs (maxSteps := 1000000) (disch := first | exact dzSKO | fail) only [vcR, vcT, simprocAttr, Ab.part, implies_true, forall_const, vcXM1, Tryz.f86, List.toList_toArray, again_eq]
    simp [cr_zero]
  · intro k us hk
    (repeat (refine X_of _ ?_; simp -implicitDefEqProofs (maxSteps := 1000000) (disch := first | exact dzSKO | fail) only [vcR, vcT, simprocAttr, Ab.part, implies_true, forall_const, vcXM1, Tryz.f86, List.toList_toArray, nat4]))
    refine ⟨fun h => ?_, fun h => ?_⟩
    · have hst := cr_step T w b k
      have hx := wd_lt (T + w * b) k
      have ht := wd_lt T k
      have hyb := wd_lt b k
      have hc := cr_lt T w b k hw
      have hy := cr_lt T w b (k + 1) hw
      obtain ⟨y, hye⟩ : ∃ y, wd b k = y := ⟨_, rfl⟩
      obtain ⟨c, hce⟩ : ∃ c, cr T w b k = c := ⟨_, rfl⟩
      obtain ⟨c', hce'⟩ : ∃ c, cr T w b (k + 1) = c := ⟨_, rfl⟩
      obtain ⟨t, hte⟩ : ∃ t, wd T k = t := ⟨_, rfl⟩
      rw [hye] at hst hyb
      rw [hce] at hst hc
      rw [hce'] at hst hy
      rw [hte] at hst ht
      obtain ⟨p, hp⟩ : ∃ p, w * y = p := ⟨_, rfl⟩
      rw [hp] at hst
      obtain ⟨r1, _, r3⟩ := row_word (p := p) (t := t) (c := c) (x := wd (T + w * b) k) (y := c') rfl (by omega) hx hy ht hc
      have hm := mul64_p w y hw hyb
      rw [hp] at hm
      rw [hce]
      obtain ⟨lo, hlo⟩ : ∃ l, p % 18446744073709551616 = l := ⟨_, rfl⟩
      obtain ⟨hi, hhi⟩ : ∃ l, p / 18446744073709551616 = l := ⟨_, rfl⟩
      rw [hlo, hhi] at hm
      rw [hlo] at r1
      rw [hlo, hhi] at r3
      obtain ⟨l2, hl2⟩ : ∃ l, (lo + t) % 18446744073709551616 = l := ⟨_, rfl⟩
      obtain ⟨c1, hc1⟩ : ∃ l, (lo + t) / 18446744073709551616 = l := ⟨_, rfl⟩
      rw [hl2] at r1
      rw [hl2, hc1] at r3
      obtain ⟨h2, hh2⟩ : ∃ l, (hi + c1) % 18446744073709551616 = l := ⟨_, rfl⟩
      obtain ⟨c2, hc2⟩ : ∃ l, (l2 + c) / 18446744073709551616 = l := ⟨_, rfl⟩
      rw [hh2, hc2] at r3
      clear hst hx hw hyb h5 hs l4 l5 ht hy hc hlo hhi hp
      (repeat (refine X_of _ ?_; simp -implicitDefEqProofs (maxSteps := 1000000) (disch := first | exact dzSKO | fail) only [vcR, vcT, simprocAttr, Ab.part, implies_true, forall_const, vcXM1, Tryz.f86, List.toList_toArray, hye]))
      (apply xcall_pure; kernel_rfl; exact PureC.cal (hm); try simp -implicitDefEqProofs (maxSteps := 1000000) (disch := first | exact dzSKO | fail) only [vcR, vcT, simprocAttr, Ab.part, implies_true, forall_const, vcXM1, Tryz.f86, List.toList_toArray])
      (repeat (refine X_of _ ?_; simp -implicitDefEqProofs (maxSteps := 1000000) (disch := first | exact dzSKO | fail) only [vcR, vcT, simprocAttr, Ab.part, implies_true, forall_const, vcXM1, Tryz.f86, List.toList_toArray, hte]))
      (apply xcall_ext; exact (add64_x lo t 0 (by decide)); simp only [List.length_cons, List.length_nil, List.map_cons, List.map_nil, List.nodup_cons, List.nodup_nil, List.mem_cons, Nat.reduceAdd, Nat.reduceEqDiff, or_false, not_false_eq_true, forall_eq_or_imp, forall_eq, or_self, Nat.reduceLT, Nat.reduceLeDiff, and_self, List.forall_mem_cons, List.not_mem_nil, false_implies, implies_true, and_true, true_and, vcOM1]; try simp -implicitDefEqProofs (maxSteps := 1000000) (disch := first | exact dzSKO | fail) only [vcR, vcT, simprocAttr, Ab.part, implies_true, forall_const, vcXM1, Tryz.f86, List.toList_toArray, hl2, hc1])
      (repeat (refine X_of _ ?_; simp -implicitDefEqProofs (maxSteps := 1000000) (disch := first | exact dzSKO | fail) only [vcR, vcT, simprocAttr, Ab.part, implies_true, forall_const, vcXM1, Tryz.f86, List.toList_toArray, w64m, hh2]))
      (refine X_drawC 10 (by kernel_rfl) (by kernel_rfl) ?_; simp only [List.take_succ_cons, List.take_zero, List.drop_succ_cons, List.drop_zero])
      (repeat ((first | with_reducible refine XQ_slice ?_ | with_reducible refine XQ_arrAt ?_ | with_reducible refine XQ_cons ?_ | with_reducible refine XQ_consG ?_ | with_reducible refine XQ_nil ?_); try simp -implicitDefEqProofs (maxSteps := 1000000) (disch := first | exact dzSKO | fail) only [vcR, vcT, simprocAttr, Ab.part, implies_true, forall_const, vcXM1, Tryz.f86, List.toList_toArray]))
      (apply xcallV_ext; exact (add64_x l2 c 0 (by decide)); simp only [List.length_cons, List.length_nil, List.map_cons, List.map_nil, List.nodup_cons, List.nodup_nil, List.mem_cons, Nat.reduceAdd, Nat.reduceEqDiff, or_false, not_false_eq_true, forall_eq_or_imp, forall_eq, or_self, Nat.reduceLT, Nat.reduceLeDiff, and_self, List.forall_mem_cons, List.not_mem_nil, false_implies, implies_true, and_true, true_and, vcOM1]; try simp -implicitDefEqProofs (maxSteps := 1000000) (disch := first | exact dzSKO | fail) only [vcR, vcT, simprocAttr, Ab.part, implies_true, forall_const, vcXM1, Tryz.f86, List.toList_toArray, r1, hc2])
      (repeat ((first | with_reducible refine XQ_slice ?_ | with_reducible refine XQ_arrAt ?_ | with_reducible refine XQ_cons ?_ | with_reducible refine XQ_consG ?_ | with_reducible refine XQ_nil ?_); try simp -implicitDefEqProofs (maxSteps := 1000000) (disch := first | exact dzSKO | fail) only [vcR, vcT, simprocAttr, Ab.part, implies_true, forall_const, vcXM1, Tryz.f86, List.toList_toArray, r1, hc2]))
      (try (first | with_reducible refine X_regRS ?_ | with_reducible refine X_regR ?_ | (with_reducible refine X_seqX ?_; with_reducible refine X_blockX ?_; with_reducible refine X_regR ?_))); (repeat ((first | with_reducible refine XR_make ?_ | with_reducible refine XR_append ?_ | with_reducible refine XR_copy ?_ | with_reducible refine XR_slice ?_ | with_reducible refine XR_arrAt ?_ | with_reducible refine XR_cons ?_ | with_reducible refine XR_consG ?_ | with_reducible refine XR_nil ?_); try simp -implicitDefEqProofs (maxSteps := 1000000) (disch := first | exact dzSKO | fail) only [vcR, vcT, simprocAttr, Ab.part, implies_true, forall_const, vcXM1, Tryz.f86, List.toList_toArray, arr_set]))
      (repeat (refine X_of _ ?_; simp -implicitDefEqProofs (maxSteps := 1000000) (disch := first | exact dzSKO | fail) only [vcR, vcT, simprocAttr, Ab.part, implies_true, forall_const, vcXM1, Tryz.f86, List.toList_toArray, w64m, r3]))
      refine ⟨k + 1, by omega, ?_⟩
      simp -implicitDefEqProofs (maxSteps := 1000000) (disch := first | exact dzSKO | fail) only [vcR, vcT, simprocAttr, Ab.part, implies_true, forall_const, vcXM1, Tryz.f86, List.toList_toArray, again_eq, hce']
      exact ⟨_, arr_congr fun i hi => upd_two (f := wd (T + w * b)) rfl, rfl⟩
    · have : k = 4 := by omega
      subst this
      obtain ⟨x5, hx5⟩ : ∃ x, cr T w b 5 = x := ⟨_, rfl⟩
      obtain ⟨t4, ht4⟩ : ∃ x, wd T 4 = x := ⟨_, rfl⟩
      obtain ⟨t5, ht5⟩ : ∃ x, wd T 5 = x := ⟨_, rfl⟩
      obtain ⟨c4, hc4⟩ : ∃ x, cr T w b 4 = x := ⟨_, rfl⟩
      have hx4 := wd_lt (T + w * b) 4
      have hxx := wd_lt (T + w * b) 5
      rw [ht4, hc4, hx5] at h5
      rw [ht5, hx5] at hs
      rw [hc4] at l4
      rw [hx5] at l5
      rw [hc4]
      have e1 : (t4 + c4) % 18446744073709551616 = wd (T + w * b) 4 := by omega
      have e2 : (t4 + c4) / 18446744073709551616 = x5 := by omega
      have e3 : t5 + x5 = wd (T + w * b) 5 := hs
      have e4 : IntKind.u64.wrap ((wd (T + w * b) 5 : Nat) : Int) = ((wd (T + w * b) 5 : Nat) : Int) := w64 _ hxx
      clear h5 hs l4 l5 hx4 hxx hw
      (repeat (refine X_of _ ?_; simp -implicitDefEqProofs (maxSteps := 1000000) (disch := first | exact dzSKO | fail) only [vcR, vcT, simprocAttr, Ab.part, implies_true, forall_const, vcXM1, Tryz.f86, List.toList_toArray]))
      (refine X_drawC 12 (by kernel_rfl) (by kernel_rfl) ?_; simp only [List.take_succ_cons, List.take_zero, List.drop_succ_cons, List.drop_zero])
      (repeat ((first | with_reducible refine XQ_slice ?_ | with_reducible refine XQ_arrAt ?_ | with_reducible refine XQ_cons ?_ | with_reducible refine XQ_consG ?_ | with_reducible refine XQ_nil ?_); try simp -implicitDefEqProofs (maxSteps := 1000000) (disch := first | exact dzSKO | fail) only [vcR, vcT, simprocAttr, Ab.part, implies_true, forall_const, vcXM1, Tryz.f86, List.toList_toArray, ht4]))
      (apply xcallV_ext; exact (add64_x t4 c4 0 (by decide)); simp only [List.length_cons, List.length_nil, List.map_cons, List.map_nil, List.nodup_cons, List.nodup_nil, List.mem_cons, Nat.reduceAdd, Nat.reduceEqDiff, or_false, not_false_eq_true, forall_eq_or_imp, forall_eq, or_self, Nat.reduceLT, Nat.reduceLeDiff, and_self, List.forall_mem_cons, List.not_mem_nil, false_implies, implies_true, and_true, true_and, vcOM1]; try simp -implicitDefEqProofs (maxSteps := 1000000) (disch := first | exact dzSKO | fail) only [vcR, vcT, simprocAttr, Ab.part, implies_true, forall_const, vcXM1, Tryz.f86, List.toList_toArray, e1, e2])
      (repeat ((first | with_reducible refine XQ_slice ?_ | with_reducible refine XQ_arrAt ?_ | with_reducible refine XQ_cons ?_ | with_reducible refine XQ_consG ?_ | with_reducible refine XQ_nil ?_); try simp -implicitDefEqProofs (maxSteps := 1000000) (disch := first | exact dzSKO | fail) only [vcR, vcT, simprocAttr, Ab.part, implies_true, forall_const, vcXM1, Tryz.f86, List.toList_toArray, e1, e2]))
      (try (first | with_reducible refine X_regRS ?_ | with_reducible refine X_regR ?_ | (with_reducible refine X_seqX ?_; with_reducible refine X_blockX ?_; with_reducible refine X_regR ?_))); (repeat ((first | with_reducible refine XR_make ?_ | with_reducible refine XR_append ?_ | with_reducible refine XR_copy ?_ | with_reducible refine XR_slice ?_ | with_reducible refine XR_arrAt ?_ | with_reducible refine XR_cons ?_ | with_reducible refine XR_consG ?_ | with_reducible refine XR_nil ?_); try simp -implicitDefEqProofs (maxSteps := 1000000) (disch := first | exact dzSKO | fail) only [vcR, vcT, simprocAttr, Ab.part, implies_true, forall_const, vcXM1, Tryz.f86, List.toList_toArray, arr_set]))
      (repeat (refine X_of _ ?_; simp -implicitDefEqProofs (maxSteps := 1000000) (disch := first | exact dzSKO | fail) only [vcR, vcT, simprocAttr, Ab.part, implies_true, forall_const, vcXM1, Tryz.f86, List.toList_toArray]))
      (refine X_drawC 8 (by kernel_rfl) (by kernel_rfl) ?_; simp only [List.take_succ_cons, List.take_zero, List.drop_succ_cons, List.drop_zero])
      (repeat ((first | with_reducible refine XQ_slice ?_ | with_reducible refine XQ_arrAt ?_ | with_reducible refine XQ_cons ?_ | with_reducible refine XQ_consG ?_ | with_reducible refine XQ_nil ?_); try simp -implicitDefEqProofs (maxSteps := 1000000) (disch := first | exact dzSKO | fail) only [vcR, vcT, simprocAttr, Ab.part, implies_true, forall_const, vcXM1, Tryz.f86, List.toList_toArray, ht5, e3, e4]))
      (try (first | with_reducible refine X_regRS ?_ | with_reducible refine X_regR ?_ | (with_reducible refine X_seqX ?_; with_reducible refine X_blockX ?_; with_reducible refine X_regR ?_))); (repeat ((first | with_reducible refine XR_make ?_ | with_reducible refine XR_append ?_ | with_reducible refine XR_copy ?_ | with_reducible refine XR_slice ?_ | with_reducible refine XR_arrAt ?_ | with_reducible refine XR_cons ?_ | with_reducible refine XR_consG ?_ | with_reducible refine XR_nil ?_); try simp -implicitDefEqProofs (maxSteps := 1000000) (disch := first | exact dzSKO | fail) only [vcR, vcT, simprocAttr, Ab.part, implies_true, forall_const, vcXM1, Tryz.f86, List.toList_toArray, arr_set]))
      refine ⟨_, arr_congr fun i hi => ?_, rfl⟩
      by_cases h5 : i = 5
      · rw [if_pos h5, h5]
      · rw [if_neg h5]
        by_cases h4 : i = 4
        · rw [if_pos h4, h4]
        · rw [if_neg h4, if_pos (by omega)]
end Go.Proofs.YtdmcknmjdlghgaaGreatDoor
/-
  The cells of a Mod.
-/
namespace Go.Ab
open Go
set_option linter.unusedSimpArgs false
set_option linter.unusedVariables false
def modc (m d l i s : Nat) : List SV := nat4 m ++ ([.v (.int .u32 (d : Int)), .v (.int .i32 (l : Int)), .v (.int .u32 0), .v (.int .u64 (i : Int))] ++ nat4 s)
section
variable {m d l i s n x : Nat}
theorem modc_length : (modc m d l i s).length = 12 := rfl
theorem modc_take : List.take 4 (modc m d l i s) = nat4 m := rfl
theorem modc_sq : List.take 4 (List.drop 8 (modc m d l i s)) = nat4 s := rfl
theorem modc_i : (modc m d l i s)[7]? = some (.v (.int .u64 (i : Int))) := rfl
theorem modc_set7 : (modc m d l i s).set 7 (.v (.int .u64 (x : Int))) = modc m d l x s := rfl
theorem modc_spl : splice (modc m d l i s) 8 (nat4 x) = modc m d l i x := rfl
theorem modc_ok : ∀ y ∈ modc m d l i s, y.ok n := by
  intro y hy
  unfold modc at hy
  rcases List.mem_append.1 hy with hy | hy
  · exact arr_ok n y hy
  · rcases List.mem_append.1 hy with hy | hy
    · simp only [List.mem_cons, List.not_mem_nil, or_false] at hy
      rcases hy with rfl | rfl | rfl | rfl <;> trivial
    · exact arr_ok n y hy
theorem modc_okk : (∀ y ∈ modc m d l i s, y.ok n) = True := eq_true modc_ok
end
end Go.Ab
/-
  The states of a Mod: as it was made, and with what was made when it was first asked.
-/
namespace Go.Ab
open Go
set_option linter.unusedSimpArgs false
set_option linter.unusedVariables false
structure OddM (m : Nat) : Prop where
  lt : m < 2 ^ 256
  odd : m % 2 = 1
  gt : 1 < m
theorem OddM.pos {m : Nat} (h : OddM m) : 0 < m := Nat.lt_trans Nat.zero_lt_one h.gt
theorem OddM.mod_lt {m x : Nat} (h : OddM m) : x % m < 2 ^ 256 := Nat.lt_trans (Nat.mod_lt _ h.pos) h.lt
theorem OddM.mo_lt {n m x : Nat} (h : OddM m) : moN n m x < 2 ^ 256 := Nat.lt_trans (moN_lt h.pos) h.lt
def sqm (m : Nat) : Nat := 2 ^ 256 % m * (2 ^ 256 % m) % m
theorem OddM.sq_lt {m : Nat} (h : OddM m) : sqm m < 2 ^ 256 := h.mod_lt
def modS (m : Nat) (b : Bool) : List SV := if b then modc m 1 0 (mi m) (sqm m) else modc m 0 0 0 0
theorem modS_true {m : Nat} : modS m true = modc m 1 0 (mi m) (sqm m) := rfl
theorem modS_eq (m : Nat) (b : Bool) : ∃ d i s, modS m b = modc m d 0 i s := by cases b; exact ⟨_, _, _, rfl⟩; exact ⟨_, _, _, rfl⟩
theorem modS_length {m : Nat} {b : Bool} : (modS m b).length = 12 := by cases b <;> rfl
theorem modS_ok {m n : Nat} {b : Bool} : ∀ y ∈ modS m b, y.ok n := by obtain ⟨d, i, s, h⟩ := modS_eq m b; rw [h]; exact modc_ok
theorem modS_okk {m n : Nat} {b : Bool} : (∀ y ∈ modS m b, y.ok n) = True := eq_true modS_ok
def img (m x : Nat) : Nat := x * 2 ^ 256 % m
def mo (m x : Nat) : Nat := moN 256 m x
theorem OddM.img_lt {m x : Nat} (h : OddM m) : img m x < 2 ^ 256 := h.mod_lt
theorem OddM.mo_lt' {m x : Nat} (h : OddM m) : mo m x < 2 ^ 256 := h.mo_lt
theorem mo_sq {m : Nat} (h : OddM m) (x : Nat) : mo m (x * sqm m) = img m x := to_end h.odd
theorem mo_times {m : Nat} (h : OddM m) (x y : Nat) : mo m (img m x * y) = x * y % m := times_end h.odd
theorem mo_back {m : Nat} (h : OddM m) (x : Nat) : mo m (img m x) = x % m := back_end h.odd
theorem mo_img {m : Nat} (h : OddM m) (x y : Nat) : mo m (img m x * img m y) = img m (x * y) := img_mul h.odd
theorem pow_img {m : Nat} (h : OddM m) (a n k : Nat) : (if n / 2 ^ k % 2 = 1 then mo m (img m (a ^ (n % 2 ^ k)) * img m (a ^ 2 ^ k)) else img m (a ^ (n % 2 ^ k))) = img m (a ^ (n % 2 ^ (k + 1))) := by
  rw [pow_bit, mo_img h]
  split <;> rfl
theorem pow_sq {m : Nat} (h : OddM m) (a k : Nat) : mo m (img m (a ^ 2 ^ k) * img m (a ^ 2 ^ k)) = img m (a ^ 2 ^ (k + 1)) := by
  rw [mo_img h, ← Nat.pow_add, Nat.pow_succ, Nat.mul_two]
theorem lt_up {a n k : Nat} (hn : k ≤ n) (h : a < 2 ^ k) : a < 2 ^ n := Nat.lt_of_lt_of_le h (Nat.pow_le_pow_right (by decide) hn)
theorem lt_up_add {a b n k : Nat} (hn : k + 1 ≤ n) (h : a < 2 ^ k) (h' : b < 2 ^ k) : a + b < 2 ^ n := by
  have e : 2 ^ (k + 1) = 2 ^ k * 2 := Nat.pow_succ 2 k
  have h2 : 2 ^ (k + 1) ≤ 2 ^ n := Nat.pow_le_pow_right (by decide) hn
  rw [e] at h2
  omega
theorem lt_up_mul {a b n k : Nat} (hn : n = k + k) (h : a < 2 ^ k) (h' : b < 2 ^ k) : a * b < 2 ^ n := by
  rw [hn, Nat.pow_add 2 k k]
  exact Nat.mul_lt_mul_of_lt_of_le h (Nat.le_of_lt h') (Nat.two_pow_pos _)
theorem at512 {a n : Nat} (hn : n = 512) (h : a < 2 ^ n) : a < 2 ^ 512 := by subst hn; exact h
theorem lt512 {a : Nat} (h : a < 2 ^ 256) : a < 2 ^ 512 := by
  obtain ⟨n, hn⟩ : ∃ n, n = 512 := ⟨_, rfl⟩
  exact at512 hn (lt_up (by omega) h)
theorem lt512_add {a b : Nat} (h : a < 2 ^ 256) (h' : b < 2 ^ 256) : a + b < 2 ^ 512 := by
  obtain ⟨n, hn⟩ : ∃ n, n = 512 := ⟨_, rfl⟩
  exact at512 hn (lt_up_add (by omega) h h')
theorem lt512_mul {a b : Nat} (h : a < 2 ^ 256) (h' : b < 2 ^ 256) : a * b < 2 ^ 512 := by
  obtain ⟨n, hn⟩ : ∃ n, n = 512 := ⟨_, rfl⟩
  exact at512 hn (lt_up_mul (by omega) h h')
def chk (m : Nat) : Int := if m = 0 ∨ m = 1 then 11 else if m % 2 = 0 then 12 else 0
theorem good_of {m : Nat} (hm : m < 2 ^ 256) (h : chk m = 0) : OddM m := by
  unfold chk at h
  split at h
  · cases h
  · split at h
    · cases h
    · exact ⟨hm, by omega, by omega⟩
theorem chk_bad {m : Nat} (hm : m < 2 ^ 256) (h : ¬ OddM m) : chk m = 11 ∨ chk m = 12 := by
  by_cases h0 : chk m = 0
  · exact absurd (good_of hm h0) h
  · unfold chk at *
    split
    · exact .inl rfl
    · split
      · exact .inr rfl
      · rename_i h1 h2; simp [h1, h2] at h0
theorem nat4_set0 {a : Nat} (ha : a < 18446744073709551616) : (nat4 0).set 0 (.v (.int .u64 (a : Int))) = nat4 a := by
  rw [← arr4_zero, arr_set, nat4_small ha]
theorem nat4_setL (a : Nat) (ha : OfNat.ofNat a < 18446744073709551616) : (nat4 0).set 0 (.v (.int .u64 (no_index (OfNat.ofNat a : Int)))) = nat4 (OfNat.ofNat a) := nat4_set0 ha
theorem nat4_set1 : (nat4 0).set 0 (.v (.int .u64 1)) = nat4 1 := nat4_set0 (a := 1) (by decide)
set_option linter.defProp false in
def vcS := And.intro @true_or (And.intro @Option.isNone_some.{0} (And.intro @Option.isNone_none.{0} (And.intro @List.toList_toArray.{0} (And.intro @arr4_zero (And.intro @nat4_set1 (And.intro @nat4_setL @nat4_set0))))))
end Go.Ab
/-
  Blocks of Mods may turn: from as they were made to as they are when they were asked.
-/
namespace Go.Ab
open Go
set_option linter.unusedSimpArgs false
set_option linter.unusedVariables false
def modObj (T m : Nat) (b : Bool) : Obj := .cells ((modS m b).map (SV.conc fun _ => 0)).toArray T (0, 0)
theorem modObj_conc (T m : Nat) (b : Bool) (β : Nat → Nat) : (AB.mk T (modS m b)).conc β = modObj T m b := conc_vals (b := ⟨T, modS m b⟩) modS_ok _ _
theorem modS_fst (m : Nat) (b : Bool) : ∃ l, modS m b = nat4 m ++ l := by cases b <;> exact ⟨_, rfl⟩
theorem modObj_inj {T m m' : Nat} {b b' : Bool} (hm : OddM m) (hm' : OddM m') (h : modObj T m b = modObj T m' b') : m = m' := by
  refine (nat4_inj m m' hm.lt hm'.lt).1 ?_
  unfold modObj at h
  injection h with h _ _
  injection h with h
  obtain ⟨l, hl⟩ := modS_fst m b
  obtain ⟨l', hl'⟩ := modS_fst m' b'
  rw [hl, hl', List.map_append, List.map_append] at h
  have h1 := (List.append_inj h (by simp [nat4, arr])).1
  refine arr_congr fun i hi => ?_
  have h2 := congrArg (fun l => l[i]?) h1
  have h3 : ((wd m i : Nat) : Int) = ((wd m' i : Nat) : Int) := by simpa [nat4, arr, hi, SV.conc] using h2
  omega
def modEvo (T : Nat) : Evo where
  E o o' := ∃ m b b', OddM m ∧ o = modObj T m b ∧ o' = modObj T m b'
  TM t := t = T
  ofE := fun o o' ⟨m, b, b', _, h, _⟩ => ⟨_, _, _, h, rfl⟩
  trans := fun a b c ⟨m, x, y, hm, h1, h2⟩ ⟨m', x', y', hm', h3, h4⟩ => by
    have : m = m' := modObj_inj hm hm' (h2.symm.trans h3)
    subst this
    exact ⟨m, x, y', hm, h1, h4⟩
def isMod (T k m : Nat) : Nat → World → Prop := fun B w => OddM m ∧ B ≤ k ∧ ∃ b, w.heap[k]? = some (modObj T m b)
theorem isMod_stays (T k m : Nat) : Stays (modEvo T) (isMod T k m) := by
  rintro B w w' ⟨hm, hB, b, hb⟩ hx
  refine ⟨hm, hB, ?_⟩
  rcases hx.blk k (Array.getElem?_eq_some_iff.1 hb).1 with h1 | ⟨_, o, o', h1, h2, m', x, y, hm', h3, h4⟩
  · exact ⟨b, h1.trans hb⟩
  · rw [hb] at h1
    injection h1 with h1
    have : m = m' := modObj_inj hm hm' (h1.trans h3)
    subst this
    exact ⟨y, h2.trans (congrArg some h4)⟩
theorem modEvo_TM {T e : Nat} : (modEvo T).TM e = (e = T) := rfl
theorem isMod_gone {Γ : Ctx} {T m B : Nat} {bb : Bool} {H : Heap} {β : Nat → Nat} {w : World} {L : List Nat} {j : Nat} (hR : Rep Γ H β w) (hb : H[j]? = some ⟨T, modS m bb⟩) (hj : j ∉ L) (hlt : ∀ i ∈ L, i < H.length) (hm : OddM m) (hB : B ≤ β j) :
    Kn (Γ.after (modEvo T) B w β L) (isMod T (β j) m) := by
  intro w' h
  refine ⟨hm, hB, ?_⟩
  rcases gone hR hb hj hlt h with h1 | ⟨_, o, h1, m', x, y, hm', h3, h4⟩
  · exact ⟨bb, h1.trans (congrArg some (modObj_conc T m bb β))⟩
  · rw [modObj_conc] at h3
    have : m = m' := modObj_inj hm hm' h3
    subst this
    exact ⟨y, h1.trans (congrArg some h4)⟩
theorem new_lie {Γ : Ctx} {H : Heap} {β : Nat → Nat} {w : World} (hR : Rep Γ H β w) (ho : ∀ k, ¬ Γ.own k) {j : Nat} (hj : j < H.length) : Γ.W.heap.size ≤ β j := (hR.lie j hj).resolve_right (ho _)
theorem OwnC.mod {P : Program} {f : FuncId} {T k m : Nat} {args : List TV} {r : TV} (ha : ∀ x ∈ args, x.ok 0) (h : OddM m → ∀ b, ∃ b', OwnC P f (.s (.p 0 0) :: args) [⟨T, modS m b⟩] [⟨T, modS m b'⟩] r) :
    EvC (modEvo T) P f (.s (.v (.pointer (some ⟨k, 0, none⟩))) :: args) (isMod T k m) r := by
  refine OwnC.ev ha fun B w ⟨hm, hB, b, hb⟩ => ?_
  obtain ⟨b', h1⟩ := h hm b
  exact ⟨_, _, h1, modS_ok, hb.trans (congrArg some (modObj_conc T m b _).symm), .inr ⟨hB, m, b, b', hm, modObj_conc T m b _, modObj_conc T m b' _⟩⟩
section
variable {Γ : Ctx} {V : Evo} {B : Nat} {w : World} {β : Nat → Nat} {L : List Nat} {e : TypeId}
theorem after_P : (Γ.after V B w β L).P = Γ.P := rfl
theorem after_TM : (Γ.after V B w β L).ev.TM e = V.TM e := rfl
end
def gimg (m a n i : Nat) : Nat := img m (a ^ (n % 2 ^ i))
def pimg (m a i : Nat) : Nat := img m (a ^ 2 ^ i)
theorem gimg_zero (m a n : Nat) : gimg m a n 0 = img m 1 := by unfold gimg; rw [Nat.pow_zero, Nat.mod_one, Nat.pow_zero]
theorem pimg_zero (m a : Nat) : pimg m a 0 = img m a := by unfold pimg; rw [Nat.pow_zero, Nat.pow_one]
theorem gimg_lt {m : Nat} (h : OddM m) (a n i : Nat) : gimg m a n i < 2 ^ 256 := h.img_lt
theorem pimg_lt {m : Nat} (h : OddM m) (a i : Nat) : pimg m a i < 2 ^ 256 := h.img_lt
theorem gimg_end {m : Nat} (h : OddM m) (a n : Nat) : mo m (gimg m a n (blen n)) = a ^ n % m := by unfold gimg; rw [Nat.mod_eq_of_lt (lt_blen n), mo_back h]
theorem gimg_step {m : Nat} (h : OddM m) (a n i : Nat) : (n / 2 ^ i % 2 = 0 ∧ gimg m a n i = gimg m a n (i + 1)) ∨ (n / 2 ^ i % 2 = 1 ∧ mo m (gimg m a n i * pimg m a i) = gimg m a n (i + 1)) := by
  have e := pow_img h a n i
  unfold gimg pimg
  by_cases h3 : n / 2 ^ i % 2 = 1
  · rw [if_pos h3] at e; exact .inr ⟨h3, e⟩
  · rw [if_neg h3] at e; exact .inl ⟨by omega, e⟩
theorem pimg_step {m : Nat} (h : OddM m) (a i : Nat) : mo m (pimg m a i * pimg m a i) = pimg m a (i + 1) := pow_sq h a i
theorem ren_nat4 {ρ : Nat → Nat} {a : Nat} : TV.ren ρ (.agg (nat4 a)) = .agg (nat4 a) := TV.ren_ok0 (x := .agg (nat4 a)) fun x hx => arr_ok 0 x hx
theorem avren_nat4 {ρ : Nat → Nat} {a : Nat} : AV.ren ρ (.agg (nat4 a)) = .agg (nat4 a) := AV.ren_ok0 (x := .agg (nat4 a)) fun x hx => arr_ok 0 x hx
end Go.Ab
/-
  A Mod that was made is let go: from there on it is known.
-/
namespace Go.Ab
open Go
set_option linter.unusedSimpArgs false
set_option linter.unusedVariables false
section
variable {L : List Nat} {β : Nat → Nat} {H : Heap} {o n c j i : Nat} {x : Value}
theorem fz_v : TV.fz L β (.s (.v x)) = .s (.v x) := rfl
theorem fz_p : TV.fz L β (.s (.p j o)) = .s (fzP β o j (posL L j)) := rfl
theorem fz_sl : TV.fz L β (.s (.sl j o n c)) = .s (fzS β o n c j (posL L j)) := rfl
theorem fz_agg {l : List SV} : TV.fz L β (.agg l) = .agg (l.map (SV.fz L β)) := rfl
theorem fz_tup {l : List AV} : TV.fz L β (.tup l) = .tup (l.map (AV.fz L β)) := rfl
theorem fz_undef : TV.fz L β undefT = undefT := rfl
theorem avfz_v : AV.fz L β (.s (.v x)) = .s (.v x) := rfl
theorem avfz_p : AV.fz L β (.s (.p j o)) = .s (fzP β o j (posL L j)) := rfl
theorem avfz_sl : AV.fz L β (.s (.sl j o n c)) = .s (fzS β o n c j (posL L j)) := rfl
theorem avfz_agg {l : List SV} : AV.fz L β (.agg l) = .agg (l.map (SV.fz L β)) := rfl
theorem svfz_v : SV.fz L β (.v x) = .v x := rfl
theorem svfz_p : SV.fz L β (.p j o) = fzP β o j (posL L j) := rfl
theorem svfz_sl : SV.fz L β (.sl j o n c) = fzS β o n c j (posL L j) := rfl
theorem fzP_none : fzP β o j none = .v (.pointer (some ⟨β j, o, none⟩)) := rfl
theorem fzP_some : fzP β o j (some i) = .p i o := rfl
theorem fzS_none : fzS β o n c j none = .v (.slice (some ⟨β j, o, none⟩) n c) := rfl
theorem fzS_some : fzS β o n c j (some i) = .sl i o n c := rfl
theorem fz_ok0 {l : List SV} (h : ∀ x ∈ l, x.ok 0) : l.map (SV.fz L β) = l := by
  refine (List.map_congr_left (g := id) fun x hx => ?_).trans (List.map_id l)
  have := h x hx
  cases x with
  | v x => rfl
  | p j o => exact absurd this (Nat.not_lt_zero j)
  | sl j o n c => exact absurd this (Nat.not_lt_zero j)
theorem fz_nat4 {a : Nat} : (nat4 a).map (SV.fz L β) = nat4 a := fz_ok0 fun x hx => arr_ok 0 x hx
theorem fz_arr {n : Nat} {f : Nat → Nat} : (arr n f).map (SV.fz L β) = arr n f := fz_ok0 fun x hx => arr_ok 0 x hx
theorem fz_iarr {n : Nat} {f : Nat → Int} : (iarr n f).map (SV.fz L β) = iarr n f := fz_ok0 fun x hx => iarr_ok 0 x hx
def fzB (L : List Nat) (β : Nat → Nat) (b : Option AB) (H : Heap) : Heap := match b with | some b => ⟨b.t, b.cs.map (SV.fz L β)⟩ :: H | none => H
theorem fzB_some {t : Nat} {cs : List SV} : fzB L β (some ⟨t, cs⟩) H = ⟨t, cs.map (SV.fz L β)⟩ :: H := rfl
theorem fzH_nil : fzH L β H [] = [] := rfl
theorem fzH_cons {r : List Nat} : fzH L β H (i :: r) = fzB L β H[i]? (fzH L β H r) := by
  simp only [fzH]
  cases H[i]? <;> rfl
end
end Go.Ab
namespace Go.Proofs.YtdmcknmjdlghgaaGreatDoor
open Go Go.Ab
set_option linter.unusedSimpArgs false
set_option linter.unusedVariables false
set_option linter.defProp false
def vcXAb26 := (And.intro (And.intro (And.intro (And.intro (And.intro (And.intro (And.intro @modc_length @modc_take) (And.intro @modc_sq @modc_i)) (And.intro (And.intro @modS_length @dgs_length) (And.intro @dgs_one (And.intro @dgs_get @qm_call)))) (And.intro (And.intro (And.intro @qm_move @qm_assign) (And.intro @qm_pick @qm_build)) (And.intro (And.intro @qm_load @qm_nilCheck) (And.intro @qm_binOp (And.intro @qm_unOp @qm_convert))))) (And.intro (And.intro (And.intro (And.intro @qm_fieldAddr @qm_field) (And.intro @qm_indexAddr @qm_index)) (And.intro (And.intro @qm_extract @qm_makeFunc) (And.intro @xcalledM_first (And.intro @xcalledM_cap @maskOK_p)))) (And.intro (And.intro (And.intro @maskOK_v @xcallHM_value) (And.intro @xcallHM_len @xcalledM_some)) (And.intro (And.intro @xTrM_nil @xTrM_false) (And.intro @xTrM_cons (And.intro @xAtM_assign @xAtM_move)))))) (And.intro (And.intro (And.intro (And.intro (And.intro @xAtM_extract @xAtM_alloc) (And.intro @xAtM_store @famL_nil)) (And.intro (And.intro @famL_cons @tf135_row) (And.intro @tf135_sz (And.intro @tf135_szO @tf135_f0)))) (And.intro (And.intro (And.intro @tf135_f1 @tf135_f2) (And.intro @tf135_f3 @tf135_known)) (And.intro (And.intro @tf135_zero @tf135_p0) (And.intro @tf135_p1 (And.intro @tf135_p2 @tf135_p3))))) (And.intro (And.intro (And.intro (And.intro @tf135_slc @tf144_row) (And.intro @tf144_sz @tf144_szO)) (And.intro (And.intro @tf144_arr @tf144_known) (And.intro @tf144_eq (And.intro @tf144_zero @tf144_lits)))) (And.intro (And.intro (And.intro @tf144_place @tf144_slc) (And.intro @tf71_row (And.intro @tf71_sz @tf71_szO))) (And.intro (And.intro @tf71_slc @tf71_ptr) (And.intro @tf71_zero (And.intro @tf146_row @tf146_sz))))))) (And.intro (And.intro (And.intro (And.intro (And.intro (And.intro @tf146_szO @tf146_slc) (And.intro @tf146_ptr @tf146_zero)) (And.intro (And.intro @tf147_row @tf147_sz) (And.intro @tf147_szO (And.intro @tf147_slc @tf147_arr)))) (And.intro (And.intro (And.intro @tf147_isSlc @tf147_zero) (And.intro @tf125_row @tf125_sz)) (And.intro (And.intro @tf125_szO @tf125_slc) (And.intro @tf125_int (And.intro @tf125_zero @tf21_row))))) (And.intro (And.intro (And.intro (And.intro @tf21_sz @tf21_szO) (And.intro @tf21_slc @tf21_int)) (And.intro (And.intro @tf21_zero @ctxN_P) (And.intro @ctxN_TM (And.intro @bnd_none @bnd_int)))) (And.intro (And.intro (And.intro @xslB_some @xslice_p) (And.intro @xslice_sl @xslice_v)) (And.intro (And.intro @xarrAt_sl @xarrAt_v) (And.intro @ctxE_P (And.intro @ctxE_TM @modEvo_TM)))))) (And.intro (And.intro (And.intro (And.intro (And.intro @after_P @after_TM) (And.intro @fz_v @fz_p)) (And.intro (And.intro @fz_sl @fz_agg) (And.intro @fz_tup (And.intro @fz_undef @avfz_v)))) (And.intro (And.intro (And.intro @avfz_p @avfz_sl) (And.intro @avfz_agg @svfz_v)) (And.intro (And.intro @svfz_p @svfz_sl) (And.intro @fzP_none (And.intro @fzP_some @fzS_none))))) (And.intro (And.intro (And.intro (And.intro @fzS_some @fz_nat4) (And.intro @fz_arr @fz_iarr)) (And.intro (And.intro @fzB_some @fzH_nil) (And.intro @fzH_cons (And.intro @posL_nil @posL_cons)))) (And.intro (And.intro (And.intro @ren_v @ren_p) (And.intro @ren_sl (And.intro @ren_undef @ren_nat4))) (And.intro (And.intro @ren_tupE @ren_tup) (And.intro @avren_v (And.intro @avren_p @avren_nat4))))))))
def vcQAb26 := (And.intro (And.intro (And.intro (And.intro @okT_nil (And.intro @okT_cons @okS_nil)) (And.intro @okS_cons (And.intro @okA_nil @okA_cons))) (And.intro (And.intro @and_self (And.intro @true_and @and_true)) (And.intro @okv_p (And.intro @okv_sl @oks_s)))) (And.intro (And.intro (And.intro @oks_agg (And.intro @oks_tup @oka_s)) (And.intro @oka_agg (And.intro @okv_v @nat4_okk))) (And.intro (And.intro @nat8_okk (And.intro @arr_okk @iarr_okk)) (And.intro @modc_okk (And.intro @modS_okk @dgs_okk)))))
def vcOAb26 := (And.intro (And.intro (And.intro @okv_p (And.intro @okv_sl @oks_s)) (And.intro (And.intro @oks_agg @oks_tup) (And.intro @oka_s @oka_agg))) (And.intro (And.intro (And.intro @okv_v @nat4_okk) (And.intro @nat8_okk @arr_okk)) (And.intro (And.intro @iarr_okk @modc_okk) (And.intro @modS_okk @dgs_okk))))
theorem bd0 {p : Prop} (h : p := by first | (with_reducible first | assumption | exact OddM.mod_lt (by assumption) | exact OddM.mo_lt (by assumption) | exact OddM.mo_lt' (by assumption) | exact OddM.img_lt (by assumption) | exact OddM.lt (by assumption) | exact OddM.pos (by assumption) | exact lt512 (by assumption) | exact lt512_add (by first | assumption | exact OddM.mod_lt (by assumption)) (by first | assumption | exact OddM.lt (by assumption)) | exact lt512_mul (by assumption) (by assumption)) | decide | omega) : p := h
theorem dz0 {p : Prop} (h : p := by first | (simp only [nat4_length, nat8_length, arr_length, iarr_length, modc_length, modS_length, dgs_length, List.length_cons, List.length_nil, Nat.reduceAdd]; done) | omega) : p := h
section
variable {Γ : Ctx} {P : Program} {V : Evo} {H : Heap} {M : List Nat} {f : FuncId} {args : List TV} {r : TV} {pre : Nat → World → Prop} {K : TV → Heap → Prop} {KV : TV → Prop}
theorem cF_pure (h : PureC P f args r) (hK : K r H) (hP : Γ.P = P := by with_unfolding_all rfl) (hc : callable P f = true := by kernel_rfl) : xcallF Γ H f args K := yF_pure h hP hc hK
theorem cV_pure (h : PureC P f args r) (hK : KV r) (hP : Γ.P = P := by with_unfolding_all rfl) (hc : callable P f = true := by kernel_rfl) : xcallV Γ H f args KV := yV_pure h hP hc hK
theorem cM_pure (h : PureC P f args r) (hK : KV r) (hP : Γ.P = P := by with_unfolding_all rfl) (hc : callable P f = true := by kernel_rfl) : xcallM Γ H M f args KV := yM_pure h hP hc hK
theorem cF_ev (h : EvC V P f args pre r) (hK : K r H) (hP : Γ.P = P := by with_unfolding_all rfl) (hV : Γ.ev = V := by with_unfolding_all rfl) (hc : callable P f = true := by kernel_rfl) (ha : ∀ x ∈ args, x.ok 0 := by simp only [vcQAb26])
    (hp : Kn Γ pre := by with_reducible first | assumption | exact Kn.and (by assumption) (by assumption)) : xcallF Γ H f args K := yF_ev h hP hV hc ha hp hK
theorem cV_ev (h : EvC V P f args pre r) (hK : KV r) (hP : Γ.P = P := by with_unfolding_all rfl) (hV : Γ.ev = V := by with_unfolding_all rfl) (hc : callable P f = true := by kernel_rfl) (ha : ∀ x ∈ args, x.ok 0 := by simp only [vcQAb26])
    (hp : Kn Γ pre := by with_reducible first | assumption | exact Kn.and (by assumption) (by assumption)) : xcallV Γ H f args KV := yV_ev h hP hV hc ha hp hK
theorem cM_ev (h : EvC V P f args pre r) (hK : KV r) (hP : Γ.P = P := by with_unfolding_all rfl) (hV : Γ.ev = V := by with_unfolding_all rfl) (hc : callable P f = true := by kernel_rfl) (ha : ∀ x ∈ args, x.ok 0 := by simp only [vcQAb26])
    (hp : Kn Γ pre := by with_reducible first | assumption | exact Kn.and (by assumption) (by assumption)) : xcallM Γ H M f args KV := yM_ev h hP hV hc ha hp hK
theorem cF_new {R : TV → Heap → Prop} (h : NewC P f args R) (hK : ∀ v H', R v H' → K (v.ren (· + H.length)) (H ++ H')) (hP : Γ.P = P := by with_unfolding_all rfl) (hc : callable P f = true := by kernel_rfl) (hev : ∀ t, ¬ Γ.ev.TM t := by with_unfolding_all exact fun _ h => h) : xcallF Γ H f args K := yF_new h hP hc hev hK
theorem cF_own {b b' : AB} {j o : Nat} (h : OwnC P f (.s (.p 0 o) :: args) [b] [b'] r) (hK : K r (putH H j b'.cs)) (hP : Γ.P = P := by with_unfolding_all rfl) (hb : H[j]? = some b := by with_unfolding_all rfl) (hc : callable P f = true := by kernel_rfl) (ha : ∀ x ∈ args, x.ok 0 := by simp only [vcQAb26])
    (hv : ∀ x ∈ b.cs, x.ok 0 := by simp only [vcQAb26]) (hv' : ∀ x ∈ b'.cs, x.ok 0 := by simp only [vcQAb26]) (ht : b'.t = b.t := by with_unfolding_all rfl) : xcallF Γ H f (.s (.p j o) :: args) K := yF_own h hP hb hc ha hv hv' ht hK
theorem cV_own {b : AB} {j o : Nat} (h : OwnC P f (.s (.p 0 o) :: args) [b] [b] r) (hK : KV r) (hP : Γ.P = P := by with_unfolding_all rfl) (hb : H[j]? = some b := by with_unfolding_all rfl) (hc : callable P f = true := by kernel_rfl) (ha : ∀ x ∈ args, x.ok 0 := by simp only [vcQAb26])
    (hv : ∀ x ∈ b.cs, x.ok 0 := by simp only [vcQAb26]) : xcallV Γ H f (.s (.p j o) :: args) KV := yV_own h hP hb hc ha hv hK
end
theorem dzSM2 {p : Prop} (h : p := by first | (simp only [nat4_length, nat8_length, arr_length, iarr_length, modc_length, List.length_cons, List.length_nil, Nat.reduceAdd]; done) | omega) : p := h
def vcXM2 := (And.intro (And.intro (And.intro (And.intro (And.intro (And.intro @modc_length (And.intro @modc_take @modc_sq)) (And.intro @modc_i (And.intro @qm_call @qm_move))) (And.intro (And.intro @qm_assign (And.intro @qm_pick @qm_build)) (And.intro @qm_load (And.intro @qm_nilCheck @qm_binOp)))) (And.intro (And.intro (And.intro @qm_unOp (And.intro @qm_convert @qm_fieldAddr)) (And.intro @qm_field (And.intro @qm_indexAddr @qm_index))) (And.intro (And.intro @qm_extract (And.intro @qm_makeFunc @xcalledM_first)) (And.intro (And.intro @xcalledM_cap @maskOK_p) (And.intro @maskOK_v @xcallHM_value))))) (And.intro (And.intro (And.intro (And.intro @xcallHM_len (And.intro @xcalledM_some @xTrM_nil)) (And.intro @xTrM_false (And.intro @xTrM_cons @xAtM_assign))) (And.intro (And.intro @xAtM_move (And.intro @xAtM_extract @xAtM_alloc)) (And.intro (And.intro @xAtM_store @famL_nil) (And.intro @famL_cons @tf135_row)))) (And.intro (And.intro (And.intro @tf135_sz (And.intro @tf135_szO @tf135_f0)) (And.intro @tf135_f1 (And.intro @tf135_f2 @tf135_f3))) (And.intro (And.intro @tf135_known (And.intro @tf135_zero @tf135_p0)) (And.intro (And.intro @tf135_p1 @tf135_p2) (And.intro @tf135_p3 @tf135_slc)))))) (And.intro (And.intro (And.intro (And.intro (And.intro @tf144_row (And.intro @tf144_sz @tf144_szO)) (And.intro @tf144_arr (And.intro @tf144_known @tf144_eq))) (And.intro (And.intro @tf144_zero (And.intro @tf144_lits @tf144_place)) (And.intro @tf144_slc (And.intro @tf71_row @tf71_sz)))) (And.intro (And.intro (And.intro @tf71_szO (And.intro @tf71_slc @tf71_ptr)) (And.intro @tf71_zero (And.intro @tf146_row @tf146_sz))) (And.intro (And.intro @tf146_szO (And.intro @tf146_slc @tf146_ptr)) (And.intro (And.intro @tf146_zero @tf147_row) (And.intro @tf147_sz @tf147_szO))))) (And.intro (And.intro (And.intro (And.intro @tf147_slc (And.intro @tf147_arr @tf147_isSlc)) (And.intro @tf147_zero (And.intro @tf125_row @tf125_sz))) (And.intro (And.intro @tf125_szO (And.intro @tf125_slc @tf125_int)) (And.intro (And.intro @tf125_zero @tf21_row) (And.intro @tf21_sz @tf21_szO)))) (And.intro (And.intro (And.intro @tf21_slc (And.intro @tf21_int @tf21_zero)) (And.intro @ctxN_P (And.intro @ctxN_TM @bnd_none))) (And.intro (And.intro @bnd_int (And.intro @xslB_some @xslice_p)) (And.intro (And.intro @xslice_sl @xslice_v) (And.intro @xarrAt_sl @xarrAt_v)))))))
def vcOM2 := (And.intro (And.intro (And.intro @okv_p (And.intro @okv_sl @oks_s)) (And.intro @oks_agg (And.intro @oks_tup @oka_s))) (And.intro (And.intro @oka_agg (And.intro @okv_v @nat4_okk)) (And.intro (And.intro @nat8_okk @arr_okk) (And.intro @iarr_okk @modc_okk))))
set_option maxHeartbeats 20000000
set_option maxRecDepth 100000
theorem M_o (m d l i s : Nat) : OwnC Tryz.prog 50 [.s (.p 0 0)] [⟨135, modc m d l i s⟩] [⟨135, modc m d l i s⟩] (.agg (nat4 m)) := by
  (refine own_of Tryz.func50 rfl (by simp only [List.length_cons, List.length_nil, List.map_cons, List.map_nil, List.nodup_cons, List.nodup_nil, List.mem_cons, Nat.reduceAdd, Nat.reduceEqDiff, or_false, not_false_eq_true, forall_eq_or_imp, forall_eq, or_self, Nat.reduceLT, Nat.reduceLeDiff, and_self, List.forall_mem_cons, List.not_mem_nil, false_implies, implies_true, and_true, true_and, vcOM2]) (by simp only [List.length_cons, List.length_nil, List.map_cons, List.map_nil, List.nodup_cons, List.nodup_nil, List.mem_cons, Nat.reduceAdd, Nat.reduceEqDiff, or_false, not_false_eq_true, forall_eq_or_imp, forall_eq, or_self, Nat.reduceLT, Nat.reduceLeDiff, and_self, List.forall_mem_cons, List.not_mem_nil, false_implies, implies_true, and_true, true_and, vcOM2]) (by simp only [List.length_cons, List.length_nil, List.map_cons, List.map_nil, List.nodup_cons, List.nodup_nil, List.mem_cons, Nat.reduceAdd, Nat.reduceEqDiff, or_false, not_false_eq_true, forall_eq_or_imp, forall_eq, or_self, Nat.reduceLT, Nat.reduceLeDiff, and_self, List.forall_mem_cons, List.not_mem_nil, false_implies, implies_true, and_true, true_and, vcOM2]) (by simp only [List.length_cons, List.length_nil, List.map_cons, List.map_nil, List.nodup_cons, List.nodup_nil, List.mem_cons, Nat.reduceAdd, Nat.reduceEqDiff, or_false, not_false_eq_true, forall_eq_or_imp, forall_eq, or_self, Nat.reduceLT, Nat.reduceLeDiff, and_self, List.forall_mem_cons, List.not_mem_nil, false_implies, implies_true, and_true, true_and, vcOM2]) rfl fun w0 β0 => ?_; simp only [List.length_cons, List.length_nil, Tryz.ntmps50, Nat.reduceAdd, Nat.reduceSub, List.replicate_succ, List.replicate_zero, List.cons_append, List.nil_append])
  (repeat (refine X_of _ ?_; simp -implicitDefEqProofs (maxSteps := 1000000) (disch := first | exact dzSM2 | fail) only [vcR, vcT, simprocAttr, Ab.part, implies_true, forall_const, true_or, vcXM2, Tryz.f50, List.toList_toArray]))
  exact ⟨_, rfl⟩
theorem below_o (m d l i s a : Nat) (hm : m < 2 ^ 256) (h0 : 0 < m) (ha : a < 2 ^ 256) : OwnC Tryz.prog 85 [.s (.p 0 0), .agg (nat4 a)] [⟨135, modc m d l i s⟩] [⟨135, modc m d l i s⟩] (.agg (nat4 (a % m))) := by
  have hc := cmp_c a m ha hm
  have hd := div_c a m ha hm h0
  have hcase : (a < m ∧ a % m = a) ∨ m ≤ a := by
    rcases Nat.lt_or_ge a m with h | h
    · exact .inl ⟨h, Nat.mod_eq_of_lt h⟩
    · exact .inr h
  obtain ⟨r, hr⟩ : ∃ r, a % m = r := ⟨_, rfl⟩
  rw [hr] at hd hcase
  rw [hr]
  clear hr hm h0 ha
  (refine own_of Tryz.func85 rfl (by simp only [List.length_cons, List.length_nil, List.map_cons, List.map_nil, List.nodup_cons, List.nodup_nil, List.mem_cons, Nat.reduceAdd, Nat.reduceEqDiff, or_false, not_false_eq_true, forall_eq_or_imp, forall_eq, or_self, Nat.reduceLT, Nat.reduceLeDiff, and_self, List.forall_mem_cons, List.not_mem_nil, false_implies, implies_true, and_true, true_and, vcOM2]) (by simp only [List.length_cons, List.length_nil, List.map_cons, List.map_nil, List.nodup_cons, List.nodup_nil, List.mem_cons, Nat.reduceAdd, Nat.reduceEqDiff, or_false, not_false_eq_true, forall_eq_or_imp, forall_eq, or_self, Nat.reduceLT, Nat.reduceLeDiff, and_self, List.forall_mem_cons, List.not_mem_nil, false_implies, implies_true, and_true, true_and, vcOM2]) (by simp only [List.length_cons, List.length_nil, List.map_cons, List.map_nil, List.nodup_cons, List.nodup_nil, List.mem_cons, Nat.reduceAdd, Nat.reduceEqDiff, or_false, not_false_eq_true, forall_eq_or_imp, forall_eq, or_self, Nat.reduceLT, Nat.reduceLeDiff, and_self, List.forall_mem_cons, List.not_mem_nil, false_implies, implies_true, and_true, true_and, vcOM2]) (by simp only [List.length_cons, List.length_nil, List.map_cons, List.map_nil, List.nodup_cons, List.nodup_nil, List.mem_cons, Nat.reduceAdd, Nat.reduceEqDiff, or_false, not_false_eq_true, forall_eq_or_imp, forall_eq, or_self, Nat.reduceLT, Nat.reduceLeDiff, and_self, List.forall_mem_cons, List.not_mem_nil, false_implies, implies_true, and_true, true_and, vcOM2]) rfl fun w0 β0 => ?_; simp only [List.length_cons, List.length_nil, Tryz.ntmps85, Nat.reduceAdd, Nat.reduceSub, List.replicate_succ, List.replicate_zero, List.cons_append, List.nil_append])
  (repeat (refine X_of _ ?_; simp -implicitDefEqProofs (maxSteps := 1000000) (disch := first | exact dzSM2 | fail) only [vcR, vcT, simprocAttr, Ab.part, implies_true, forall_const, true_or, vcXM2, Tryz.f85, List.toList_toArray]))
  (refine X_drawC 7 (by kernel_rfl) (by kernel_rfl) ?_; simp only [List.take_succ_cons, List.take_zero, List.drop_succ_cons, List.drop_zero])
  (repeat ((first | with_reducible refine XQ_slice ?_ | with_reducible refine XQ_arrAt ?_ | with_reducible refine XQ_cons ?_ | with_reducible refine XQ_consG ?_ | with_reducible refine XQ_nil ?_); try simp -implicitDefEqProofs (maxSteps := 1000000) (disch := first | exact dzSM2 | fail) only [vcR, vcT, simprocAttr, Ab.part, implies_true, forall_const, true_or, vcXM2, Tryz.f85, List.toList_toArray]))
  rcases hcase with ⟨h, rfl⟩ | h
  · rw [sg_neg h] at hc
    (apply xcallV_pure; kernel_rfl; exact PureC.cal (hc); try simp -implicitDefEqProofs (maxSteps := 1000000) (disch := first | exact dzSM2 | fail) only [vcR, vcT, simprocAttr, Ab.part, implies_true, forall_const, true_or, vcXM2, Tryz.f85, List.toList_toArray])
    (repeat ((first | with_reducible refine XQ_slice ?_ | with_reducible refine XQ_arrAt ?_ | with_reducible refine XQ_cons ?_ | with_reducible refine XQ_consG ?_ | with_reducible refine XQ_nil ?_); try simp -implicitDefEqProofs (maxSteps := 1000000) (disch := first | exact dzSM2 | fail) only [vcR, vcT, simprocAttr, Ab.part, implies_true, forall_const, true_or, vcXM2, Tryz.f85, List.toList_toArray]))
    (try (first | with_reducible refine X_regRS ?_ | with_reducible refine X_regR ?_ | (with_reducible refine X_seqX ?_; with_reducible refine X_blockX ?_; with_reducible refine X_regR ?_))); (repeat ((first | with_reducible refine XR_make ?_ | with_reducible refine XR_append ?_ | with_reducible refine XR_copy ?_ | with_reducible refine XR_slice ?_ | with_reducible refine XR_arrAt ?_ | with_reducible refine XR_cons ?_ | with_reducible refine XR_consG ?_ | with_reducible refine XR_nil ?_); try simp -implicitDefEqProofs (maxSteps := 1000000) (disch := first | exact dzSM2 | fail) only [vcR, vcT, simprocAttr, Ab.part, implies_true, forall_const, true_or, vcXM2, Tryz.f85, List.toList_toArray]))
    (repeat (refine X_of _ ?_; simp -implicitDefEqProofs (maxSteps := 1000000) (disch := first | exact dzSM2 | fail) only [vcR, vcT, simprocAttr, Ab.part, implies_true, forall_const, true_or, vcXM2, Tryz.f85, List.toList_toArray]))
    exact ⟨_, rfl⟩
  · have hs := sg_nonneg h
    (apply xcallV_pure; kernel_rfl; exact PureC.cal (hc); try simp -implicitDefEqProofs (maxSteps := 1000000) (disch := first | exact dzSM2 | fail) only [vcR, vcT, simprocAttr, Ab.part, implies_true, forall_const, true_or, vcXM2, Tryz.f85, List.toList_toArray])
    (repeat ((first | with_reducible refine XQ_slice ?_ | with_reducible refine XQ_arrAt ?_ | with_reducible refine XQ_cons ?_ | with_reducible refine XQ_consG ?_ | with_reducible refine XQ_nil ?_); try simp -implicitDefEqProofs (maxSteps := 1000000) (disch := first | exact dzSM2 | fail) only [vcR, vcT, simprocAttr, Ab.part, implies_true, forall_const, true_or, vcXM2, Tryz.f85, List.toList_toArray]))
    (try (first | with_reducible refine X_regRS ?_ | with_reducible refine X_regR ?_ | (with_reducible refine X_seqX ?_; with_reducible refine X_blockX ?_; with_reducible refine X_regR ?_))); (repeat ((first | with_reducible refine XR_make ?_ | with_reducible refine XR_append ?_ | with_reducible refine XR_copy ?_ | with_reducible refine XR_slice ?_ | with_reducible refine XR_arrAt ?_ | with_reducible refine XR_cons ?_ | with_reducible refine XR_consG ?_ | with_reducible refine XR_nil ?_); try simp -implicitDefEqProofs (maxSteps := 1000000) (disch := first | exact dzSM2 | fail) only [vcR, vcT, simprocAttr, Ab.part, implies_true, forall_const, true_or, vcXM2, Tryz.f85, List.toList_toArray]))
    (repeat (refine X_of _ ?_; simp -implicitDefEqProofs (maxSteps := 1000000) (disch := first | exact dzSM2 | fail) only [vcR, vcT, simprocAttr, Ab.part, implies_true, forall_const, true_or, vcXM2, Tryz.f85, List.toList_toArray]))
    (refine X_drawM 10 [] (.cons 10 (.cons 11 (.cons 12 (.cons 13 (.cons 14 .nil .nil) .nil) .nil) .nil) (.cons 11 (.cons 10 (.cons 12 (.cons 13 (.cons 14 .nil .nil) .nil) .nil) .nil) .nil)) (by kernel_rfl) (by kernel_rfl) ?_; simp only [List.take_succ_cons, List.take_zero])
    (repeat ((first | with_reducible refine XM_cons ?_ | with_reducible refine XM_consG ?_ | with_reducible refine XM_nil ?_); try simp -implicitDefEqProofs (maxSteps := 1000000) (disch := first | exact dzSM2 | fail) only [vcR, vcT, simprocAttr, Ab.part, implies_true, forall_const, true_or, vcXM2, Tryz.f85, List.toList_toArray]))
    (apply xcallM_pure; kernel_rfl; exact (hd); try simp -implicitDefEqProofs (maxSteps := 1000000) (disch := first | exact dzSM2 | fail) only [vcR, vcT, simprocAttr, Ab.part, implies_true, forall_const, true_or, vcXM2, Tryz.f85, List.toList_toArray])
    (repeat ((first | with_reducible refine XM_cons ?_ | with_reducible refine XM_consG ?_ | with_reducible refine XM_nil ?_); try simp -implicitDefEqProofs (maxSteps := 1000000) (disch := first | exact dzSM2 | fail) only [vcR, vcT, simprocAttr, Ab.part, implies_true, forall_const, true_or, vcXM2, Tryz.f85, List.toList_toArray]))
    refine ⟨?_, ?_⟩
    · (repeat (refine X_of _ ?_; simp -implicitDefEqProofs (maxSteps := 1000000) (disch := first | exact dzSM2 | fail) only [vcR, vcT, simprocAttr, Ab.part, implies_true, forall_const, true_or, vcXM2, Tryz.f85, List.toList_toArray]))
      exact ⟨_, rfl⟩
    · (repeat (refine X_of _ ?_; simp -implicitDefEqProofs (maxSteps := 1000000) (disch := first | exact dzSM2 | fail) only [vcR, vcT, simprocAttr, Ab.part, implies_true, forall_const, true_or, vcXM2, Tryz.f85, List.toList_toArray]))
      exact ⟨_, rfl⟩
theorem less_o (m d l i s a top r : Nat) (hm : m < 2 ^ 256) (ha : a < 2 ^ 256) (ht : top ≤ 1) (h2 : a + 2 ^ 256 * top < 2 * m) (hr : r = if m ≤ a + 2 ^ 256 * top then a + 2 ^ 256 * top - m else a + 2 ^ 256 * top) :
    OwnC Tryz.prog 87 [.s (.p 0 0), .agg (nat4 a), .s (.v (.int .u64 (top : Int)))] [⟨135, modc m d l i s⟩] [⟨135, modc m d l i s⟩] (.agg (nat4 r)) := by
  have hcase : (top = 0 ∧ a < m ∧ r = a) ∨ (top = 0 ∧ m ≤ a ∧ r + m = a) ∨ (top = 1 ∧ a < m ∧ r + m = a + 2 ^ 256 ∧ r < 2 ^ 256) := by
    rcases (by omega : top = 0 ∨ top = 1) with rfl | rfl
    · by_cases h : m ≤ a
      · refine .inr (.inl ⟨rfl, h, ?_⟩)
        rw [if_pos (by omega)] at hr
        omega
      · refine .inl ⟨rfl, by omega, ?_⟩
        rw [if_neg (by omega)] at hr
        omega
    · refine .inr (.inr ⟨rfl, by omega, ?_⟩)
      rw [if_pos (by omega)] at hr
      omega
  clear h2 hr ht
  (refine own_of Tryz.func87 rfl (by simp only [List.length_cons, List.length_nil, List.map_cons, List.map_nil, List.nodup_cons, List.nodup_nil, List.mem_cons, Nat.reduceAdd, Nat.reduceEqDiff, or_false, not_false_eq_true, forall_eq_or_imp, forall_eq, or_self, Nat.reduceLT, Nat.reduceLeDiff, and_self, List.forall_mem_cons, List.not_mem_nil, false_implies, implies_true, and_true, true_and, vcOM2]) (by simp only [List.length_cons, List.length_nil, List.map_cons, List.map_nil, List.nodup_cons, List.nodup_nil, List.mem_cons, Nat.reduceAdd, Nat.reduceEqDiff, or_false, not_false_eq_true, forall_eq_or_imp, forall_eq, or_self, Nat.reduceLT, Nat.reduceLeDiff, and_self, List.forall_mem_cons, List.not_mem_nil, false_implies, implies_true, and_true, true_and, vcOM2]) (by simp only [List.length_cons, List.length_nil, List.map_cons, List.map_nil, List.nodup_cons, List.nodup_nil, List.mem_cons, Nat.reduceAdd, Nat.reduceEqDiff, or_false, not_false_eq_true, forall_eq_or_imp, forall_eq, or_self, Nat.reduceLT, Nat.reduceLeDiff, and_self, List.forall_mem_cons, List.not_mem_nil, false_implies, implies_true, and_true, true_and, vcOM2]) (by simp only [List.length_cons, List.length_nil, List.map_cons, List.map_nil, List.nodup_cons, List.nodup_nil, List.mem_cons, Nat.reduceAdd, Nat.reduceEqDiff, or_false, not_false_eq_true, forall_eq_or_imp, forall_eq, or_self, Nat.reduceLT, Nat.reduceLeDiff, and_self, List.forall_mem_cons, List.not_mem_nil, false_implies, implies_true, and_true, true_and, vcOM2]) rfl fun w0 β0 => ?_; simp only [List.length_cons, List.length_nil, Tryz.ntmps87, Nat.reduceAdd, Nat.reduceSub, List.replicate_succ, List.replicate_zero, List.cons_append, List.nil_append])
  (repeat (refine X_of _ ?_; simp -implicitDefEqProofs (maxSteps := 1000000) (disch := first | exact dzSM2 | fail) only [vcR, vcT, simprocAttr, Ab.part, implies_true, forall_const, true_or, vcXM2, Tryz.f87, List.toList_toArray]))
  (refine X_drawM 9 [] (.cons 9 (.cons 10 (.cons 11 .nil .nil) .nil) .nil) (by kernel_rfl) (by kernel_rfl) ?_; simp only [List.take_succ_cons, List.take_zero])
  (repeat ((first | with_reducible refine XM_cons ?_ | with_reducible refine XM_consG ?_ | with_reducible refine XM_nil ?_); try simp -implicitDefEqProofs (maxSteps := 1000000) (disch := first | exact dzSM2 | fail) only [vcR, vcT, simprocAttr, Ab.part, implies_true, forall_const, true_or, vcXM2, Tryz.f87, List.toList_toArray]))
  rcases hcase with ⟨rfl, h, rfl⟩ | ⟨rfl, h, hr⟩ | ⟨rfl, h, hr, hr2⟩
  · have hs := sub_c r m (r + 2 ^ 256 - m) 1 ha hm (by omega) (by omega)
    clear hm ha h
    (apply xcallM_pure; kernel_rfl; exact (hs); try simp -implicitDefEqProofs (maxSteps := 1000000) (disch := first | exact dzSM2 | fail) only [vcR, vcT, simprocAttr, Ab.part, implies_true, forall_const, true_or, vcXM2, Tryz.f87, List.toList_toArray])
    (repeat ((first | with_reducible refine XM_cons ?_ | with_reducible refine XM_consG ?_ | with_reducible refine XM_nil ?_); try simp -implicitDefEqProofs (maxSteps := 1000000) (disch := first | exact dzSM2 | fail) only [vcR, vcT, simprocAttr, Ab.part, implies_true, forall_const, true_or, vcXM2, Tryz.f87, List.toList_toArray]))
    (repeat (refine X_of _ ?_; simp -implicitDefEqProofs (maxSteps := 1000000) (disch := first | exact dzSM2 | fail) only [vcR, vcT, simprocAttr, Ab.part, implies_true, forall_const, true_or, vcXM2, Tryz.f87, List.toList_toArray]))
    exact ⟨_, rfl⟩
  · have hs := sub_c a m r 0 ha hm (by omega) (by omega)
    clear hm ha h
    (apply xcallM_pure; kernel_rfl; exact (hs); try simp -implicitDefEqProofs (maxSteps := 1000000) (disch := first | exact dzSM2 | fail) only [vcR, vcT, simprocAttr, Ab.part, implies_true, forall_const, true_or, vcXM2, Tryz.f87, List.toList_toArray])
    (repeat ((first | with_reducible refine XM_cons ?_ | with_reducible refine XM_consG ?_ | with_reducible refine XM_nil ?_); try simp -implicitDefEqProofs (maxSteps := 1000000) (disch := first | exact dzSM2 | fail) only [vcR, vcT, simprocAttr, Ab.part, implies_true, forall_const, true_or, vcXM2, Tryz.f87, List.toList_toArray]))
    (repeat (refine X_of _ ?_; simp -implicitDefEqProofs (maxSteps := 1000000) (disch := first | exact dzSM2 | fail) only [vcR, vcT, simprocAttr, Ab.part, implies_true, forall_const, true_or, vcXM2, Tryz.f87, List.toList_toArray]))
    exact ⟨_, rfl⟩
  · have hs := sub_c a m r 1 ha hm hr2 (by omega)
    clear hm ha h
    (apply xcallM_pure; kernel_rfl; exact (hs); try simp -implicitDefEqProofs (maxSteps := 1000000) (disch := first | exact dzSM2 | fail) only [vcR, vcT, simprocAttr, Ab.part, implies_true, forall_const, true_or, vcXM2, Tryz.f87, List.toList_toArray])
    (repeat ((first | with_reducible refine XM_cons ?_ | with_reducible refine XM_consG ?_ | with_reducible refine XM_nil ?_); try simp -implicitDefEqProofs (maxSteps := 1000000) (disch := first | exact dzSM2 | fail) only [vcR, vcT, simprocAttr, Ab.part, implies_true, forall_const, true_or, vcXM2, Tryz.f87, List.toList_toArray]))
    (repeat (refine X_of _ ?_; simp -implicitDefEqProofs (maxSteps := 1000000) (disch := first | exact dzSM2 | fail) only [vcR, vcT, simprocAttr, Ab.part, implies_true, forall_const, true_or, vcXM2, Tryz.f87, List.toList_toArray]))
    exact ⟨_, rfl⟩
theorem plus_o (m d l i s a b r : Nat) (hm : m < 2 ^ 256) (h0 : 0 < m) (ha : a < 2 ^ 256) (hb : b < 2 ^ 256) (hr : r = (a + b) % m) :
    OwnC Tryz.prog 73 [.s (.p 0 0), .agg (nat4 a), .agg (nat4 b)] [⟨135, modc m d l i s⟩] [⟨135, modc m d l i s⟩] (.agg (nat4 r)) := by
  have h1 := below_o m d l i s a hm h0 ha
  have h2 := below_o m d l i s b hm h0 hb
  have hx := Nat.mod_lt a h0
  have hy := Nat.mod_lt b h0
  rw [Nat.add_mod] at hr
  obtain ⟨x, hxe⟩ : ∃ x, a % m = x := ⟨_, rfl⟩
  obtain ⟨y, hye⟩ : ∃ x, b % m = x := ⟨_, rfl⟩
  rw [hxe] at h1 hx hr
  rw [hye] at h2 hy hr
  have h3 := add_c x y (by omega) (by omega)
  have hrr : r = if m ≤ x + y then x + y - m else x + y := by
    rw [hr]
    by_cases h : m ≤ x + y
    · rw [if_pos h, Nat.mod_eq_sub_mod h, Nat.mod_eq_of_lt (by omega)]
    · rw [if_neg h, Nat.mod_eq_of_lt (by omega)]
  have h4 := less_o m d l i s ((x + y) % 2 ^ 256) ((x + y) / 2 ^ 256) r hm (Nat.mod_lt _ (by decide)) (by omega) (by rw [Nat.add_comm, Nat.div_add_mod]; omega) (by rw [Nat.add_comm, Nat.div_add_mod]; exact hrr)
  rw [nat4_mod] at h4
  obtain ⟨z, hz⟩ : ∃ z, x + y = z := ⟨_, rfl⟩
  rw [hz] at h3 h4
  obtain ⟨q, hq⟩ : ∃ q, z / 2 ^ 256 = q := ⟨_, rfl⟩
  rw [hq] at h3 h4
  clear hx hy hr hrr hm h0 ha hb hxe hye hz hq
  (refine own_of Tryz.func73 rfl (by simp only [List.length_cons, List.length_nil, List.map_cons, List.map_nil, List.nodup_cons, List.nodup_nil, List.mem_cons, Nat.reduceAdd, Nat.reduceEqDiff, or_false, not_false_eq_true, forall_eq_or_imp, forall_eq, or_self, Nat.reduceLT, Nat.reduceLeDiff, and_self, List.forall_mem_cons, List.not_mem_nil, false_implies, implies_true, and_true, true_and, vcOM2]) (by simp only [List.length_cons, List.length_nil, List.map_cons, List.map_nil, List.nodup_cons, List.nodup_nil, List.mem_cons, Nat.reduceAdd, Nat.reduceEqDiff, or_false, not_false_eq_true, forall_eq_or_imp, forall_eq, or_self, Nat.reduceLT, Nat.reduceLeDiff, and_self, List.forall_mem_cons, List.not_mem_nil, false_implies, implies_true, and_true, true_and, vcOM2]) (by simp only [List.length_cons, List.length_nil, List.map_cons, List.map_nil, List.nodup_cons, List.nodup_nil, List.mem_cons, Nat.reduceAdd, Nat.reduceEqDiff, or_false, not_false_eq_true, forall_eq_or_imp, forall_eq, or_self, Nat.reduceLT, Nat.reduceLeDiff, and_self, List.forall_mem_cons, List.not_mem_nil, false_implies, implies_true, and_true, true_and, vcOM2]) (by simp only [List.length_cons, List.length_nil, List.map_cons, List.map_nil, List.nodup_cons, List.nodup_nil, List.mem_cons, Nat.reduceAdd, Nat.reduceEqDiff, or_false, not_false_eq_true, forall_eq_or_imp, forall_eq, or_self, Nat.reduceLT, Nat.reduceLeDiff, and_self, List.forall_mem_cons, List.not_mem_nil, false_implies, implies_true, and_true, true_and, vcOM2]) rfl fun w0 β0 => ?_; simp only [List.length_cons, List.length_nil, Tryz.ntmps73, Nat.reduceAdd, Nat.reduceSub, List.replicate_succ, List.replicate_zero, List.cons_append, List.nil_append])
  (repeat (refine X_of _ ?_; simp -implicitDefEqProofs (maxSteps := 1000000) (disch := first | exact dzSM2 | fail) only [vcR, vcT, simprocAttr, Ab.part, implies_true, forall_const, true_or, vcXM2, Tryz.f73, List.toList_toArray]))
  (refine X_drawM 10 [] (.cons 10 (.cons 11 (.cons 12 .nil .nil) .nil) .nil) (by kernel_rfl) (by kernel_rfl) ?_; simp only [List.take_succ_cons, List.take_zero])
  (repeat ((first | with_reducible refine XM_cons ?_ | with_reducible refine XM_consG ?_ | with_reducible refine XM_nil ?_); try simp -implicitDefEqProofs (maxSteps := 1000000) (disch := first | exact dzSM2 | fail) only [vcR, vcT, simprocAttr, Ab.part, implies_true, forall_const, true_or, vcXM2, Tryz.f73, List.toList_toArray]))
  (refine xcallM_own (by kernel_rfl) (h1) rfl rfl rfl (by simp only [List.length_cons, List.length_nil, List.map_cons, List.map_nil, List.nodup_cons, List.nodup_nil, List.mem_cons, Nat.reduceAdd, Nat.reduceEqDiff, or_false, not_false_eq_true, forall_eq_or_imp, forall_eq, or_self, Nat.reduceLT, Nat.reduceLeDiff, and_self, List.forall_mem_cons, List.not_mem_nil, false_implies, implies_true, and_true, true_and, vcOM2]) ?_; try simp -implicitDefEqProofs (maxSteps := 1000000) (disch := first | exact dzSM2 | fail) only [vcR, vcT, simprocAttr, Ab.part, implies_true, forall_const, true_or, vcXM2, Tryz.f73, List.toList_toArray])
  (repeat ((first | with_reducible refine XM_cons ?_ | with_reducible refine XM_consG ?_ | with_reducible refine XM_nil ?_); try simp -implicitDefEqProofs (maxSteps := 1000000) (disch := first | exact dzSM2 | fail) only [vcR, vcT, simprocAttr, Ab.part, implies_true, forall_const, true_or, vcXM2, Tryz.f73, List.toList_toArray]))
  (refine xcallM_own (by kernel_rfl) (h2) rfl rfl rfl (by simp only [List.length_cons, List.length_nil, List.map_cons, List.map_nil, List.nodup_cons, List.nodup_nil, List.mem_cons, Nat.reduceAdd, Nat.reduceEqDiff, or_false, not_false_eq_true, forall_eq_or_imp, forall_eq, or_self, Nat.reduceLT, Nat.reduceLeDiff, and_self, List.forall_mem_cons, List.not_mem_nil, false_implies, implies_true, and_true, true_and, vcOM2]) ?_; try simp -implicitDefEqProofs (maxSteps := 1000000) (disch := first | exact dzSM2 | fail) only [vcR, vcT, simprocAttr, Ab.part, implies_true, forall_const, true_or, vcXM2, Tryz.f73, List.toList_toArray])
  (repeat ((first | with_reducible refine XM_cons ?_ | with_reducible refine XM_consG ?_ | with_reducible refine XM_nil ?_); try simp -implicitDefEqProofs (maxSteps := 1000000) (disch := first | exact dzSM2 | fail) only [vcR, vcT, simprocAttr, Ab.part, implies_true, forall_const, true_or, vcXM2, Tryz.f73, List.toList_toArray]))
  (apply xcallM_pure; kernel_rfl; exact (h3); try simp -implicitDefEqProofs (maxSteps := 1000000) (disch := first | exact dzSM2 | fail) only [vcR, vcT, simprocAttr, Ab.part, implies_true, forall_const, true_or, vcXM2, Tryz.f73, List.toList_toArray])
  (repeat ((first | with_reducible refine XM_cons ?_ | with_reducible refine XM_consG ?_ | with_reducible refine XM_nil ?_); try simp -implicitDefEqProofs (maxSteps := 1000000) (disch := first | exact dzSM2 | fail) only [vcR, vcT, simprocAttr, Ab.part, implies_true, forall_const, true_or, vcXM2, Tryz.f73, List.toList_toArray]))
  (repeat (refine X_of _ ?_; simp -implicitDefEqProofs (maxSteps := 1000000) (disch := first | exact dzSM2 | fail) only [vcR, vcT, simprocAttr, Ab.part, implies_true, forall_const, true_or, vcXM2, Tryz.f73, List.toList_toArray]))
  (refine xcall_own (by kernel_rfl) (h4) rfl rfl (by simp only [List.length_cons, List.length_nil, List.map_cons, List.map_nil, List.nodup_cons, List.nodup_nil, List.mem_cons, Nat.reduceAdd, Nat.reduceEqDiff, or_false, not_false_eq_true, forall_eq_or_imp, forall_eq, or_self, Nat.reduceLT, Nat.reduceLeDiff, and_self, List.forall_mem_cons, List.not_mem_nil, false_implies, implies_true, and_true, true_and, vcOM2]) (by simp only [List.length_cons, List.length_nil, List.map_cons, List.map_nil, List.nodup_cons, List.nodup_nil, List.mem_cons, Nat.reduceAdd, Nat.reduceEqDiff, or_false, not_false_eq_true, forall_eq_or_imp, forall_eq, or_self, Nat.reduceLT, Nat.reduceLeDiff, and_self, List.forall_mem_cons, List.not_mem_nil, false_implies, implies_true, and_true, true_and, vcOM2]) rfl ?_; try simp -implicitDefEqProofs (maxSteps := 1000000) (disch := first | exact dzSM2 | fail) only [vcR, vcT, simprocAttr, Ab.part, implies_true, forall_const, true_or, vcXM2, Tryz.f73, List.toList_toArray])
  (repeat (refine X_of _ ?_; simp -implicitDefEqProofs (maxSteps := 1000000) (disch := first | exact dzSM2 | fail) only [vcR, vcT, simprocAttr, Ab.part, implies_true, forall_const, true_or, vcXM2, Tryz.f73, List.toList_toArray]))
  exact ⟨_, rfl⟩
theorem minus_o (m d l i s a b r : Nat) (hm : m < 2 ^ 256) (h0 : 0 < m) (ha : a < 2 ^ 256) (hb : b < 2 ^ 256) (hr : r = (a % m + (m - b % m)) % m) :
    OwnC Tryz.prog 75 [.s (.p 0 0), .agg (nat4 a), .agg (nat4 b)] [⟨135, modc m d l i s⟩] [⟨135, modc m d l i s⟩] (.agg (nat4 r)) := by
  have h1 := below_o m d l i s a hm h0 ha
  have h2 := below_o m d l i s b hm h0 hb
  have hx := Nat.mod_lt a h0
  have hy := Nat.mod_lt b h0
  obtain ⟨x, hxe⟩ : ∃ x, a % m = x := ⟨_, rfl⟩
  obtain ⟨y, hye⟩ : ∃ x, b % m = x := ⟨_, rfl⟩
  rw [hxe] at h1 hx hr
  rw [hye] at h2 hy hr
  have hcase : (y ≤ x ∧ r + y = x) ∨ (x < y ∧ r = x + m - y ∧ x + 2 ^ 256 - y < 2 ^ 256 ∧ (x + 2 ^ 256 - y + m) = r + 2 ^ 256 ∧ r < 2 ^ 256) := by
    by_cases h : y ≤ x
    · refine .inl ⟨h, ?_⟩
      rw [Nat.mod_eq_sub_mod (by omega), Nat.mod_eq_of_lt (by omega)] at hr
      omega
    · rw [Nat.mod_eq_of_lt (by omega)] at hr
      exact .inr (by omega)
  clear hr
  rcases hcase with ⟨h, hr⟩ | ⟨h, hr, h5, h6, h7⟩
  · have h3 := sub_c x y r 0 (by omega) (by omega) (by omega) (by omega)
    clear hx hy hr hm h0 ha hb hxe hye h
    (refine own_of Tryz.func75 rfl (by simp only [List.length_cons, List.length_nil, List.map_cons, List.map_nil, List.nodup_cons, List.nodup_nil, List.mem_cons, Nat.reduceAdd, Nat.reduceEqDiff, or_false, not_false_eq_true, forall_eq_or_imp, forall_eq, or_self, Nat.reduceLT, Nat.reduceLeDiff, and_self, List.forall_mem_cons, List.not_mem_nil, false_implies, implies_true, and_true, true_and, vcOM2]) (by simp only [List.length_cons, List.length_nil, List.map_cons, List.map_nil, List.nodup_cons, List.nodup_nil, List.mem_cons, Nat.reduceAdd, Nat.reduceEqDiff, or_false, not_false_eq_true, forall_eq_or_imp, forall_eq, or_self, Nat.reduceLT, Nat.reduceLeDiff, and_self, List.forall_mem_cons, List.not_mem_nil, false_implies, implies_true, and_true, true_and, vcOM2]) (by simp only [List.length_cons, List.length_nil, List.map_cons, List.map_nil, List.nodup_cons, List.nodup_nil, List.mem_cons, Nat.reduceAdd, Nat.reduceEqDiff, or_false, not_false_eq_true, forall_eq_or_imp, forall_eq, or_self, Nat.reduceLT, Nat.reduceLeDiff, and_self, List.forall_mem_cons, List.not_mem_nil, false_implies, implies_true, and_true, true_and, vcOM2]) (by simp only [List.length_cons, List.length_nil, List.map_cons, List.map_nil, List.nodup_cons, List.nodup_nil, List.mem_cons, Nat.reduceAdd, Nat.reduceEqDiff, or_false, not_false_eq_true, forall_eq_or_imp, forall_eq, or_self, Nat.reduceLT, Nat.reduceLeDiff, and_self, List.forall_mem_cons, List.not_mem_nil, false_implies, implies_true, and_true, true_and, vcOM2]) rfl fun w0 β0 => ?_; simp only [List.length_cons, List.length_nil, Tryz.ntmps75, Nat.reduceAdd, Nat.reduceSub, List.replicate_succ, List.replicate_zero, List.cons_append, List.nil_append])
    (repeat (refine X_of _ ?_; simp -implicitDefEqProofs (maxSteps := 1000000) (disch := first | exact dzSM2 | fail) only [vcR, vcT, simprocAttr, Ab.part, implies_true, forall_const, true_or, vcXM2, Tryz.f75, List.toList_toArray]))
    (refine X_drawM 10 [] (.cons 10 (.cons 11 (.cons 12 .nil .nil) .nil) .nil) (by kernel_rfl) (by kernel_rfl) ?_; simp only [List.take_succ_cons, List.take_zero])
    (repeat ((first | with_reducible refine XM_cons ?_ | with_reducible refine XM_consG ?_ | with_reducible refine XM_nil ?_); try simp -implicitDefEqProofs (maxSteps := 1000000) (disch := first | exact dzSM2 | fail) only [vcR, vcT, simprocAttr, Ab.part, implies_true, forall_const, true_or, vcXM2, Tryz.f75, List.toList_toArray]))
    (refine xcallM_own (by kernel_rfl) (h1) rfl rfl rfl (by simp only [List.length_cons, List.length_nil, List.map_cons, List.map_nil, List.nodup_cons, List.nodup_nil, List.mem_cons, Nat.reduceAdd, Nat.reduceEqDiff, or_false, not_false_eq_true, forall_eq_or_imp, forall_eq, or_self, Nat.reduceLT, Nat.reduceLeDiff, and_self, List.forall_mem_cons, List.not_mem_nil, false_implies, implies_true, and_true, true_and, vcOM2]) ?_; try simp -implicitDefEqProofs (maxSteps := 1000000) (disch := first | exact dzSM2 | fail) only [vcR, vcT, simprocAttr, Ab.part, implies_true, forall_const, true_or, vcXM2, Tryz.f75, List.toList_toArray])
    (repeat ((first | with_reducible refine XM_cons ?_ | with_reducible refine XM_consG ?_ | with_reducible refine XM_nil ?_); try simp -implicitDefEqProofs (maxSteps := 1000000) (disch := first | exact dzSM2 | fail) only [vcR, vcT, simprocAttr, Ab.part, implies_true, forall_const, true_or, vcXM2, Tryz.f75, List.toList_toArray]))
    (refine xcallM_own (by kernel_rfl) (h2) rfl rfl rfl (by simp only [List.length_cons, List.length_nil, List.map_cons, List.map_nil, List.nodup_cons, List.nodup_nil, List.mem_cons, Nat.reduceAdd, Nat.reduceEqDiff, or_false, not_false_eq_true, forall_eq_or_imp, forall_eq, or_self, Nat.reduceLT, Nat.reduceLeDiff, and_self, List.forall_mem_cons, List.not_mem_nil, false_implies, implies_true, and_true, true_and, vcOM2]) ?_; try simp -implicitDefEqProofs (maxSteps := 1000000) (disch := first | exact dzSM2 | fail) only [vcR, vcT, simprocAttr, Ab.part, implies_true, forall_const, true_or, vcXM2, Tryz.f75, List.toList_toArray])
    (repeat ((first | with_reducible refine XM_cons ?_ | with_reducible refine XM_consG ?_ | with_reducible refine XM_nil ?_); try simp -implicitDefEqProofs (maxSteps := 1000000) (disch := first | exact dzSM2 | fail) only [vcR, vcT, simprocAttr, Ab.part, implies_true, forall_const, true_or, vcXM2, Tryz.f75, List.toList_toArray]))
    (apply xcallM_pure; kernel_rfl; exact (h3); try simp -implicitDefEqProofs (maxSteps := 1000000) (disch := first | exact dzSM2 | fail) only [vcR, vcT, simprocAttr, Ab.part, implies_true, forall_const, true_or, vcXM2, Tryz.f75, List.toList_toArray])
    (repeat ((first | with_reducible refine XM_cons ?_ | with_reducible refine XM_consG ?_ | with_reducible refine XM_nil ?_); try simp -implicitDefEqProofs (maxSteps := 1000000) (disch := first | exact dzSM2 | fail) only [vcR, vcT, simprocAttr, Ab.part, implies_true, forall_const, true_or, vcXM2, Tryz.f75, List.toList_toArray]))
    (repeat (refine X_of _ ?_; simp -implicitDefEqProofs (maxSteps := 1000000) (disch := first | exact dzSM2 | fail) only [vcR, vcT, simprocAttr, Ab.part, implies_true, forall_const, true_or, vcXM2, Tryz.f75, List.toList_toArray]))
    exact ⟨_, rfl⟩
  · have h3 := sub_c x y (x + 2 ^ 256 - y) 1 (by omega) (by omega) h5 (by omega)
    have h4 := add_c (x + 2 ^ 256 - y) m h5 hm
    rw [h6, show nat4 (r + 2 ^ 256) = nat4 r from arr_congr fun k hk => by have := wd_four_add r 1 k hk; rwa [Nat.mul_one] at this] at h4
    obtain ⟨z, hz⟩ : ∃ z, x + 2 ^ 256 - y = z := ⟨_, rfl⟩
    obtain ⟨q, hq⟩ : ∃ z, (r + 2 ^ 256) / 2 ^ 256 = z := ⟨_, rfl⟩
    rw [hz] at h3 h4
    rw [hq] at h4
    clear hx hy hr hm h0 ha hb hxe hye h hz hq h5 h6 h7
    (refine own_of Tryz.func75 rfl (by simp only [List.length_cons, List.length_nil, List.map_cons, List.map_nil, List.nodup_cons, List.nodup_nil, List.mem_cons, Nat.reduceAdd, Nat.reduceEqDiff, or_false, not_false_eq_true, forall_eq_or_imp, forall_eq, or_self, Nat.reduceLT, Nat.reduceLeDiff, and_self, List.forall_mem_cons, List.not_mem_nil, false_implies, implies_true, and_true, true_and, vcOM2]) (by simp only [List.length_cons, List.length_nil, List.map_cons, List.map_nil, List.nodup_cons, List.nodup_nil, List.mem_cons, Nat.reduceAdd, Nat.reduceEqDiff, or_false, not_false_eq_true, forall_eq_or_imp, forall_eq, or_self, Nat.reduceLT, Nat.reduceLeDiff, and_self, List.forall_mem_cons, List.not_mem_nil, false_implies, implies_true, and_true, true_and, vcOM2]) (by simp only [List.length_cons, List.length_nil, List.map_cons, List.map_nil, List.nodup_cons, List.nodup_nil, List.mem_cons, Nat.reduceAdd, Nat.reduceEqDiff, or_false, not_false_eq_true, forall_eq_or_imp, forall_eq, or_self, Nat.reduceLT, Nat.reduceLeDiff, and_self, List.forall_mem_cons, List.not_mem_nil, false_implies, implies_true, and_true, true_and, vcOM2]) (by simp only [List.length_cons, List.length_nil, List.map_cons, List.map_nil, List.nodup_cons, List.nodup_nil, List.mem_cons, Nat.reduceAdd, Nat.reduceEqDiff, or_false, not_false_eq_true, forall_eq_or_imp, forall_eq, or_self, Nat.reduceLT, Nat.reduceLeDiff, and_self, List.forall_mem_cons, List.not_mem_nil, false_implies, implies_true, and_true, true_and, vcOM2]) rfl fun w0 β0 => ?_; simp only [List.length_cons, List.length_nil, Tryz.ntmps75, Nat.reduceAdd, Nat.reduceSub, List.replicate_succ, List.replicate_zero, List.cons_append, List.nil_append])
    (repeat (refine X_of _ ?_; simp -implicitDefEqProofs (maxSteps := 1000000) (disch := first | exact dzSM2 | fail) only [vcR, vcT, simprocAttr, Ab.part, implies_true, forall_const, true_or, vcXM2, Tryz.f75, List.toList_toArray]))
    (refine X_drawM 10 [] (.cons 10 (.cons 11 (.cons 12 .nil .nil) .nil) .nil) (by kernel_rfl) (by kernel_rfl) ?_; simp only [List.take_succ_cons, List.take_zero])
    (repeat ((first | with_reducible refine XM_cons ?_ | with_reducible refine XM_consG ?_ | with_reducible refine XM_nil ?_); try simp -implicitDefEqProofs (maxSteps := 1000000) (disch := first | exact dzSM2 | fail) only [vcR, vcT, simprocAttr, Ab.part, implies_true, forall_const, true_or, vcXM2, Tryz.f75, List.toList_toArray]))
    (refine xcallM_own (by kernel_rfl) (h1) rfl rfl rfl (by simp only [List.length_cons, List.length_nil, List.map_cons, List.map_nil, List.nodup_cons, List.nodup_nil, List.mem_cons, Nat.reduceAdd, Nat.reduceEqDiff, or_false, not_false_eq_true, forall_eq_or_imp, forall_eq, or_self, Nat.reduceLT, Nat.reduceLeDiff, and_self, List.forall_mem_cons, List.not_mem_nil, false_implies, implies_true, and_true, true_and, vcOM2]) ?_; try simp -implicitDefEqProofs (maxSteps := 1000000) (disch := first | exact dzSM2 | fail) only [vcR, vcT, simprocAttr, Ab.part, implies_true, forall_const, true_or, vcXM2, Tryz.f75, List.toList_toArray])
    (repeat ((first | with_reducible refine XM_cons ?_ | with_reducible refine XM_consG ?_ | with_reducible refine XM_nil ?_); try simp -implicitDefEqProofs (maxSteps := 1000000) (disch := first | exact dzSM2 | fail) only [vcR, vcT, simprocAttr, Ab.part, implies_true, forall_const, true_or, vcXM2, Tryz.f75, List.toList_toArray]))
    (refine xcallM_own (by kernel_rfl) (h2) rfl rfl rfl (by simp only [List.length_cons, List.length_nil, List.map_cons, List.map_nil, List.nodup_cons, List.nodup_nil, List.mem_cons, Nat.reduceAdd, Nat.reduceEqDiff, or_false, not_false_eq_true, forall_eq_or_imp, forall_eq, or_self, Nat.reduceLT, Nat.reduceLeDiff, and_self, List.forall_mem_cons, List.not_mem_nil, false_implies, implies_true, and_true, true_and, vcOM2]) ?_; try simp -implicitDefEqProofs (maxSteps := 1000000) (disch := first | exact dzSM2 | fail) only [vcR, vcT, simprocAttr, Ab.part, implies_true, forall_const, true_or, vcXM2, Tryz.f75, List.toList_toArray])
    (repeat ((first | with_reducible refine XM_cons ?_ | with_reducible refine XM_consG ?_ | with_reducible refine XM_nil ?_); try simp -implicitDefEqProofs (maxSteps := 1000000) (disch := first | exact dzSM2 | fail) only [vcR, vcT, simprocAttr, Ab.part, implies_true, forall_const, true_or, vcXM2, Tryz.f75, List.toList_toArray]))
    (apply xcallM_pure; kernel_rfl; exact (h3); try simp -implicitDefEqProofs (maxSteps := 1000000) (disch := first | exact dzSM2 | fail) only [vcR, vcT, simprocAttr, Ab.part, implies_true, forall_const, true_or, vcXM2, Tryz.f75, List.toList_toArray])
    (repeat ((first | with_reducible refine XM_cons ?_ | with_reducible refine XM_consG ?_ | with_reducible refine XM_nil ?_); try simp -implicitDefEqProofs (maxSteps := 1000000) (disch := first | exact dzSM2 | fail) only [vcR, vcT, simprocAttr, Ab.part, implies_true, forall_const, true_or, vcXM2, Tryz.f75, List.toList_toArray]))
    (repeat (refine X_of _ ?_; simp -implicitDefEqProofs (maxSteps := 1000000) (disch := first | exact dzSM2 | fail) only [vcR, vcT, simprocAttr, Ab.part, implies_true, forall_const, true_or, vcXM2, Tryz.f75, List.toList_toArray]))
    (refine X_drawC 9 (by kernel_rfl) (by kernel_rfl) ?_; simp only [List.take_succ_cons, List.take_zero, List.drop_succ_cons, List.drop_zero])
    (repeat ((first | with_reducible refine XQ_slice ?_ | with_reducible refine XQ_arrAt ?_ | with_reducible refine XQ_cons ?_ | with_reducible refine XQ_consG ?_ | with_reducible refine XQ_nil ?_); try simp -implicitDefEqProofs (maxSteps := 1000000) (disch := first | exact dzSM2 | fail) only [vcR, vcT, simprocAttr, Ab.part, implies_true, forall_const, true_or, vcXM2, Tryz.f75, List.toList_toArray]))
    (apply xcallV_pure; kernel_rfl; exact PureC.cal (h4); try simp -implicitDefEqProofs (maxSteps := 1000000) (disch := first | exact dzSM2 | fail) only [vcR, vcT, simprocAttr, Ab.part, implies_true, forall_const, true_or, vcXM2, Tryz.f75, List.toList_toArray])
    (repeat ((first | with_reducible refine XQ_slice ?_ | with_reducible refine XQ_arrAt ?_ | with_reducible refine XQ_cons ?_ | with_reducible refine XQ_consG ?_ | with_reducible refine XQ_nil ?_); try simp -implicitDefEqProofs (maxSteps := 1000000) (disch := first | exact dzSM2 | fail) only [vcR, vcT, simprocAttr, Ab.part, implies_true, forall_const, true_or, vcXM2, Tryz.f75, List.toList_toArray]))
    (try (first | with_reducible refine X_regRS ?_ | with_reducible refine X_regR ?_ | (with_reducible refine X_seqX ?_; with_reducible refine X_blockX ?_; with_reducible refine X_regR ?_))); (repeat ((first | with_reducible refine XR_make ?_ | with_reducible refine XR_append ?_ | with_reducible refine XR_copy ?_ | with_reducible refine XR_slice ?_ | with_reducible refine XR_arrAt ?_ | with_reducible refine XR_cons ?_ | with_reducible refine XR_consG ?_ | with_reducible refine XR_nil ?_); try simp -implicitDefEqProofs (maxSteps := 1000000) (disch := first | exact dzSM2 | fail) only [vcR, vcT, simprocAttr, Ab.part, implies_true, forall_const, true_or, vcXM2, Tryz.f75, List.toList_toArray]))
    (repeat (refine X_of _ ?_; simp -implicitDefEqProofs (maxSteps := 1000000) (disch := first | exact dzSM2 | fail) only [vcR, vcT, simprocAttr, Ab.part, implies_true, forall_const, true_or, vcXM2, Tryz.f75, List.toList_toArray]))
    exact ⟨_, rfl⟩
theorem dzSM3 {p : Prop} (h : p := by first | (simp only [nat4_length, nat8_length, arr_length, iarr_length, modc_length, List.length_cons, List.length_nil, Nat.reduceAdd]; done) | omega) : p := h
def vcXM3 := (And.intro (And.intro (And.intro (And.intro (And.intro (And.intro @modc_length (And.intro @modc_take @modc_sq)) (And.intro @modc_i (And.intro @modc_set7 @modc_spl))) (And.intro (And.intro @qm_call (And.intro @qm_move @qm_assign)) (And.intro (And.intro @qm_pick @qm_build) (And.intro @qm_load @qm_nilCheck)))) (And.intro (And.intro (And.intro @qm_binOp (And.intro @qm_unOp @qm_convert)) (And.intro @qm_fieldAddr (And.intro @qm_field @qm_indexAddr))) (And.intro (And.intro @qm_index (And.intro @qm_extract @qm_makeFunc)) (And.intro (And.intro @xcalledM_first @xcalledM_cap) (And.intro @maskOK_p @maskOK_v))))) (And.intro (And.intro (And.intro (And.intro @xcallHM_value (And.intro @xcallHM_len @xcalledM_some)) (And.intro @xTrM_nil (And.intro @xTrM_false @xTrM_cons))) (And.intro (And.intro @xAtM_assign (And.intro @xAtM_move @xAtM_extract)) (And.intro (And.intro @xAtM_alloc @xAtM_store) (And.intro @famL_nil @famL_cons)))) (And.intro (And.intro (And.intro @tf135_row (And.intro @tf135_sz @tf135_szO)) (And.intro @tf135_f0 (And.intro @tf135_f1 @tf135_f2))) (And.intro (And.intro @tf135_f3 (And.intro @tf135_known @tf135_zero)) (And.intro (And.intro @tf135_p0 @tf135_p1) (And.intro @tf135_p2 @tf135_p3)))))) (And.intro (And.intro (And.intro (And.intro (And.intro @tf135_slc (And.intro @tf144_row @tf144_sz)) (And.intro @tf144_szO (And.intro @tf144_arr @tf144_known))) (And.intro (And.intro @tf144_eq (And.intro @tf144_zero @tf144_lits)) (And.intro (And.intro @tf144_place @tf144_slc) (And.intro @tf71_row @tf71_sz)))) (And.intro (And.intro (And.intro @tf71_szO (And.intro @tf71_slc @tf71_ptr)) (And.intro @tf71_zero (And.intro @tf146_row @tf146_sz))) (And.intro (And.intro @tf146_szO (And.intro @tf146_slc @tf146_ptr)) (And.intro (And.intro @tf146_zero @tf147_row) (And.intro @tf147_sz @tf147_szO))))) (And.intro (And.intro (And.intro (And.intro @tf147_slc (And.intro @tf147_arr @tf147_isSlc)) (And.intro @tf147_zero (And.intro @tf125_row @tf125_sz))) (And.intro (And.intro @tf125_szO (And.intro @tf125_slc @tf125_int)) (And.intro (And.intro @tf125_zero @tf21_row) (And.intro @tf21_sz @tf21_szO)))) (And.intro (And.intro (And.intro @tf21_slc (And.intro @tf21_int @tf21_zero)) (And.intro @ctxN_P (And.intro @ctxN_TM @bnd_none))) (And.intro (And.intro @bnd_int (And.intro @xslB_some @xslice_p)) (And.intro (And.intro @xslice_sl @xslice_v) (And.intro @xarrAt_sl @xarrAt_v)))))))
def vcOM3 := (And.intro (And.intro (And.intro @okv_p (And.intro @okv_sl @oks_s)) (And.intro @oks_agg (And.intro @oks_tup @oka_s))) (And.intro (And.intro @oka_agg (And.intro @okv_v @nat4_okk)) (And.intro (And.intro @nat8_okk @arr_okk) (And.intro @iarr_okk @modc_okk))))
set_option maxHeartbeats 20000000
set_option maxRecDepth 100000
theorem lt_two (x y n : Nat) (hn : n = 512) (hx : x < 2 ^ 256) (hy : y < 2 ^ 256) : x * y < 2 ^ n := by
  have h : 2 ^ n = 2 ^ 256 * 2 ^ 256 := by
    have h1 : n = 256 + 256 := hn
    subst h1
    exact Nat.pow_add 2 256 256
  rw [h]
  exact Nat.mul_lt_mul_of_lt_of_le hx (Nat.le_of_lt hy) (Nat.two_pow_pos _)
theorem rem_x (x y m n : Nat) (hn : n = 512) (h : x * y < 2 ^ n) (hm : m < 2 ^ 256) (h0 : 0 < m) : PureC Tryz.prog 95 [.agg (nat8 (x * y)), .agg (nat4 m)] (.tup [.agg (nat4 (x * y % m)), .s (.v (.int .i64 0))]) :=
  rem_c (x * y) m (by subst hn; exact h) hm h0
theorem rem_y (x m n : Nat) (hn : n = 512) (h : x < 2 ^ n) (hm : m < 2 ^ 256) (h0 : 0 < m) : PureC Tryz.prog 95 [.agg (nat8 x), .agg (nat4 m)] (.tup [.agg (nat4 (x % m)), .s (.v (.int .i64 0))]) :=
  rem_c x m (by subst hn; exact h) hm h0
theorem nat8_257 : arr 8 (fun j => if j = 4 then 1 else 0) = nat8 (2 ^ 256) := by
  obtain ⟨n, hn⟩ : ∃ n, n = 257 := ⟨_, rfl⟩
  have h1 : 2 ^ 256 < 2 ^ n := Nat.pow_lt_pow_right (by decide) (by omega)
  refine arr_congr fun i hi => ?_
  by_cases h : i = 4
  · subst h; decide
  · rw [if_neg h]
    by_cases h2 : i < 4
    · have := wd_four_add 0 1 i h2
      rw [Nat.mul_one, Nat.zero_add, wd_zero] at this
      exact this.symm
    · exact (wd_big2 (2 ^ 256) i n h1 (by omega)).symm
theorem rem_257 (m : Nat) (hm : m < 2 ^ 256) (h0 : 0 < m) : PureC Tryz.prog 95 [.agg (nat8 (2 ^ 256)), .agg (nat4 m)] (.tup [.agg (nat4 (2 ^ 256 % m)), .s (.v (.int .i64 0))]) := by
  obtain ⟨n, hn⟩ : ∃ n, n = 512 := ⟨_, rfl⟩
  exact rem_y (2 ^ 256) m n hn (Nat.pow_lt_pow_right (by decide) (by omega)) hm h0
theorem modc_get0 (m d l i s : Nat) : (modc m d l i s)[0]? = some (.v (.int .u64 (wd m 0 : Int))) := rfl
theorem made_o (m : Nat) (hm : m < 2 ^ 256) (h0 : 0 < m) : OwnC Tryz.prog 94 [.s (.p 1 0)] [⟨135, modc m 0 1 0 0⟩, ⟨71, [.p 0 0]⟩] [⟨135, modc m 0 1 (mi m) (sqm m)⟩, ⟨71, [.p 0 0]⟩] (.tup []) := by
  have hr := rem_257 m hm h0
  have ho : 2 ^ 256 % m < 2 ^ 256 := Nat.lt_trans (Nat.mod_lt _ h0) hm
  obtain ⟨s, hs⟩ : ∃ s, sqm m = s := ⟨_, rfl⟩
  have hs2 := hs
  unfold sqm at hs2
  obtain ⟨o, hoe⟩ : ∃ o, 2 ^ 256 % m = o := ⟨_, rfl⟩
  rw [hoe] at hr ho hs2
  have hmu := mul_c o o ho ho
  have hrr := rem_x o o m 512 rfl (lt_two o o 512 rfl ho ho) hm h0
  obtain ⟨oo, hoo⟩ : ∃ x, o * o = x := ⟨_, rfl⟩
  rw [hoo] at hs2 hmu hrr
  rw [hs2] at hrr
  rw [hs]
  clear hoo hs2 hs hoe ho hm h0
  obtain ⟨y, hy⟩ : ∃ y, wd m 0 = y := ⟨_, rfl⟩
  have hyl := wd_lt m 0
  rw [hy] at hyl
  have hmi : mi m = (18446744073709551616 - nv y 6) % 18446744073709551616 := by rw [← hy]; rfl
  rw [hmi]
  clear hmi
  (refine own_of Tryz.func94 rfl (by simp only [List.length_cons, List.length_nil, List.map_cons, List.map_nil, List.nodup_cons, List.nodup_nil, List.mem_cons, Nat.reduceAdd, Nat.reduceEqDiff, or_false, not_false_eq_true, forall_eq_or_imp, forall_eq, or_self, Nat.reduceLT, Nat.reduceLeDiff, and_self, List.forall_mem_cons, List.not_mem_nil, false_implies, implies_true, and_true, true_and, vcOM3]) (by simp only [List.length_cons, List.length_nil, List.map_cons, List.map_nil, List.nodup_cons, List.nodup_nil, List.mem_cons, Nat.reduceAdd, Nat.reduceEqDiff, or_false, not_false_eq_true, forall_eq_or_imp, forall_eq, or_self, Nat.reduceLT, Nat.reduceLeDiff, and_self, List.forall_mem_cons, List.not_mem_nil, false_implies, implies_true, and_true, true_and, vcOM3]) (by simp only [List.length_cons, List.length_nil, List.map_cons, List.map_nil, List.nodup_cons, List.nodup_nil, List.mem_cons, Nat.reduceAdd, Nat.reduceEqDiff, or_false, not_false_eq_true, forall_eq_or_imp, forall_eq, or_self, Nat.reduceLT, Nat.reduceLeDiff, and_self, List.forall_mem_cons, List.not_mem_nil, false_implies, implies_true, and_true, true_and, vcOM3]) (by simp only [List.length_cons, List.length_nil, List.map_cons, List.map_nil, List.nodup_cons, List.nodup_nil, List.mem_cons, Nat.reduceAdd, Nat.reduceEqDiff, or_false, not_false_eq_true, forall_eq_or_imp, forall_eq, or_self, Nat.reduceLT, Nat.reduceLeDiff, and_self, List.forall_mem_cons, List.not_mem_nil, false_implies, implies_true, and_true, true_and, vcOM3]) rfl fun w0 β0 => ?_; simp only [List.length_cons, List.length_nil, Tryz.ntmps94, Nat.reduceAdd, Nat.reduceSub, List.replicate_succ, List.replicate_zero, List.cons_append, List.nil_append])
  (repeat (refine X_of _ ?_; simp -implicitDefEqProofs (maxSteps := 1000000) (disch := first | exact dzSM3 | fail) only [vcR, vcT, simprocAttr, Ab.part, implies_true, forall_const, true_or, vcXM3, Tryz.f94, List.toList_toArray]))
  refine X_loop (ι := Nat) (fun k => k ≤ 6) (fun k => 6 - k) [1, 4, 5, 6, 7, 8, 9, 10, 11, 12, 13, 14, 15, 16]
    (fun k => [(1, .s (.v (.int .u64 (nv y k : Nat)))), (4, .s (.v (.int .i64 (k : Nat))))])
    (fun k => []) 0 (shape_of fun i => ?_) (by decide) ?_ ?_
  · simp only [List.length_cons, List.length_nil, List.map_cons, List.map_nil, List.nodup_cons, List.nodup_nil, List.mem_cons, Nat.reduceAdd, Nat.reduceEqDiff, or_false, not_false_eq_true, forall_eq_or_imp, forall_eq, or_self, Nat.reduceLT, Nat.reduceLeDiff, and_self, List.forall_mem_cons, List.not_mem_nil, false_implies, implies_true, and_true, true_and, vcOM3]
  · simp -implicitDefEqProofs (maxSteps := 1000000) (disch := first | exact dzSM3 | fail) only [vcR, vcT, simprocAttr, Ab.part, implies_true, forall_const, true_or, vcXM3, Tryz.f94, List.toList_toArray, again_eq]
    simp [nv]
  · intro k us hk
    (repeat (refine X_of _ ?_; simp -implicitDefEqProofs (maxSteps := 1000000) (disch := first | exact dzSM3 | fail) only [vcR, vcT, simprocAttr, Ab.part, implies_true, forall_const, true_or, vcXM3, Tryz.f94, List.toList_toArray]))
    refine ⟨fun h => ?_, fun h => ?_⟩
    · have hx := nv_lt y k
      have hn : nv y (k + 1) = nvs y (nv y k) := rfl
      obtain ⟨x, hxe⟩ : ∃ x, nv y k = x := ⟨_, rfl⟩
      obtain ⟨z, hze⟩ : ∃ x, nv y (k + 1) = x := ⟨_, rfl⟩
      rw [hxe, hze] at hn
      rw [hxe] at hx
      rw [hxe]
      unfold nvs at hn
      have hu := Nat.mod_lt (y * x) (show 0 < 18446744073709551616 by decide)
      obtain ⟨u, hue⟩ : ∃ u, y * x % 18446744073709551616 = u := ⟨_, rfl⟩
      rw [hue] at hn hu
      have hw := w_two_sub u hu
      obtain ⟨v, hve⟩ : ∃ v, (2 + 18446744073709551616 - u) % 18446744073709551616 = v := ⟨_, rfl⟩
      rw [hve] at hn hw
      have hn' := hn.symm
      clear hx hu hyl hn hve
      (repeat (refine X_of _ ?_; simp -implicitDefEqProofs (maxSteps := 1000000) (disch := first | exact dzSM3 | fail) only [vcR, vcT, simprocAttr, Ab.part, implies_true, forall_const, true_or, vcXM3, Tryz.f94, List.toList_toArray, modc_get0, hy, w64m, hue, hw, hn']))
      refine ⟨k + 1, by omega, ?_⟩
      simp -implicitDefEqProofs (maxSteps := 1000000) (disch := first | exact dzSM3 | fail) only [vcR, vcT, simprocAttr, Ab.part, implies_true, forall_const, true_or, vcXM3, Tryz.f94, List.toList_toArray, again_eq, hze]
      exact ⟨_, rfl⟩
    · have : k = 6 := by omega
      subst this
      have hw := w_neg (nv y 6) (nv_lt y 6)
      rw [← Int.zero_sub] at hw
      obtain ⟨i, hi⟩ : ∃ i, (18446744073709551616 - nv y 6) % 18446744073709551616 = i := ⟨_, rfl⟩
      rw [hi] at hw
      rw [hi]
      clear hyl hk
      (repeat (refine X_of _ ?_; simp -implicitDefEqProofs (maxSteps := 1000000) (disch := first | exact dzSM3 | fail) only [vcR, vcT, simprocAttr, Ab.part, implies_true, forall_const, true_or, vcXM3, Tryz.f94, List.toList_toArray, hw, arr_setL, nat8_257]))
      (apply xcall_pure; kernel_rfl; exact PureC.cal (hr); try simp -implicitDefEqProofs (maxSteps := 1000000) (disch := first | exact dzSM3 | fail) only [vcR, vcT, simprocAttr, Ab.part, implies_true, forall_const, true_or, vcXM3, Tryz.f94, List.toList_toArray])
      (repeat (refine X_of _ ?_; simp -implicitDefEqProofs (maxSteps := 1000000) (disch := first | exact dzSM3 | fail) only [vcR, vcT, simprocAttr, Ab.part, implies_true, forall_const, true_or, vcXM3, Tryz.f94, List.toList_toArray]))
      (refine X_drawC 14 (by kernel_rfl) (by kernel_rfl) ?_; simp only [List.take_succ_cons, List.take_zero, List.drop_succ_cons, List.drop_zero])
      (repeat ((first | with_reducible refine XQ_slice ?_ | with_reducible refine XQ_arrAt ?_ | with_reducible refine XQ_cons ?_ | with_reducible refine XQ_consG ?_ | with_reducible refine XQ_nil ?_); try simp -implicitDefEqProofs (maxSteps := 1000000) (disch := first | exact dzSM3 | fail) only [vcR, vcT, simprocAttr, Ab.part, implies_true, forall_const, true_or, vcXM3, Tryz.f94, List.toList_toArray]))
      (apply xcallV_pure; kernel_rfl; exact PureC.cal (hmu); try simp -implicitDefEqProofs (maxSteps := 1000000) (disch := first | exact dzSM3 | fail) only [vcR, vcT, simprocAttr, Ab.part, implies_true, forall_const, true_or, vcXM3, Tryz.f94, List.toList_toArray])
      (repeat ((first | with_reducible refine XQ_slice ?_ | with_reducible refine XQ_arrAt ?_ | with_reducible refine XQ_cons ?_ | with_reducible refine XQ_consG ?_ | with_reducible refine XQ_nil ?_); try simp -implicitDefEqProofs (maxSteps := 1000000) (disch := first | exact dzSM3 | fail) only [vcR, vcT, simprocAttr, Ab.part, implies_true, forall_const, true_or, vcXM3, Tryz.f94, List.toList_toArray]))
      (apply xcallV_pure; kernel_rfl; exact PureC.cal (hrr); try simp -implicitDefEqProofs (maxSteps := 1000000) (disch := first | exact dzSM3 | fail) only [vcR, vcT, simprocAttr, Ab.part, implies_true, forall_const, true_or, vcXM3, Tryz.f94, List.toList_toArray])
      (repeat ((first | with_reducible refine XQ_slice ?_ | with_reducible refine XQ_arrAt ?_ | with_reducible refine XQ_cons ?_ | with_reducible refine XQ_consG ?_ | with_reducible refine XQ_nil ?_); try simp -implicitDefEqProofs (maxSteps := 1000000) (disch := first | exact dzSM3 | fail) only [vcR, vcT, simprocAttr, Ab.part, implies_true, forall_const, true_or, vcXM3, Tryz.f94, List.toList_toArray]))
      (try (first | with_reducible refine X_regRS ?_ | with_reducible refine X_regR ?_ | (with_reducible refine X_seqX ?_; with_reducible refine X_blockX ?_; with_reducible refine X_regR ?_))); (repeat ((first | with_reducible refine XR_make ?_ | with_reducible refine XR_append ?_ | with_reducible refine XR_copy ?_ | with_reducible refine XR_slice ?_ | with_reducible refine XR_arrAt ?_ | with_reducible refine XR_cons ?_ | with_reducible refine XR_consG ?_ | with_reducible refine XR_nil ?_); try simp -implicitDefEqProofs (maxSteps := 1000000) (disch := first | exact dzSM3 | fail) only [vcR, vcT, simprocAttr, Ab.part, implies_true, forall_const, true_or, vcXM3, Tryz.f94, List.toList_toArray]))
      exact ⟨_, rfl⟩
open Go Go.Ab Go.RowKit
set_option maxHeartbeats 4000000
set_option maxRecDepth 100000
theorem conc_modc (m d l i s : Nat) (β β' : Nat → Nat) : (modc m d l i s).map (SV.conc β) = (modc m d l i s).map (SV.conc β') :=
  SV.concs_ok (n := 0) modc_ok fun j hj => absurd hj (Nat.not_lt_zero j)
theorem modc_cell {w : World} {k m d l i s : Nat} {β : Nat → Nat} (h : w.heap[k]? = some (.cells ((modc m d l i s).map (SV.conc β)).toArray 135 (0, 0))) :
    w.cell? ⟨k, 4, none⟩ = some (.int .u32 (d : Int)) ∧ w.cell? ⟨k, 5, none⟩ = some (.int .i32 (l : Int)) ∧ w.frozen? ⟨k, 4, none⟩ = false ∧ w.frozen? ⟨k, 5, none⟩ = false := by
  refine ⟨?_, ?_, ?_, ?_⟩
  · simp only [World.cell?, h]; rfl
  · simp only [World.cell?, h]; rfl
  · simp [World.frozen?, h]
  · simp [World.frozen?, h]
theorem ready_first (m : Nat) (hm : m < 2 ^ 256) (h0 : 0 < m) : OwnC Tryz.prog 83 [.s (.p 0 0)] [⟨135, modc m 0 0 0 0⟩] [⟨135, modc m 1 0 (mi m) (sqm m)⟩] (.tup []) := by
  rintro β w ⟨_, hl⟩
  have hb0 := hl 0 _ rfl
  show Calls Tryz.prog 83 #[.pointer (some ⟨β 0, 0, none⟩)] w _
  simp only [AB.conc] at hb0
  obtain ⟨k, hk⟩ : ∃ k, β 0 = k := ⟨_, rfl⟩
  have hlies : ∀ w' : World, w'.heap[k]? = some (.cells ((modc m 1 0 (mi m) (sqm m)).map (SV.conc β)).toArray 135 (0, 0)) → Ab.liesAt [⟨135, modc m 1 0 (mi m) (sqm m)⟩] β w' := fun w' h => by
    refine ⟨fun p q hp hq _ => by simp at hp hq; omega, fun j b hb => ?_⟩
    cases j with
    | zero => simp only [List.getElem?_cons_zero, Option.some.injEq] at hb; subst hb; rw [hk]; exact h
    | succ j => simp at hb
  rw [hk] at hb0
  rw [hk]
  have hkl : k < w.heap.size := (Array.getElem?_eq_some_iff.1 hb0).1
  have b1 : (w.alloc (.cells #[.pointer (some ⟨k, 0, none⟩)] 71)).heap[k]? = some (.cells ((modc m 0 0 0 0).map (SV.conc β)).toArray 135 (0, 0)) := by rw [Below.heap_alloc _ _ _ hkl]; exact hb0
  obtain ⟨a0, a1, z0, z1⟩ := modc_cell b1
  have h2 : ((w.alloc (.cells #[.pointer (some ⟨k, 0, none⟩)] 71)).setCell ⟨k, 5, none⟩ (.int .i32 1)).heap[k]? = some (.cells ((modc m 0 1 0 0).map (SV.conc β)).toArray 135 (0, 0)) := by
    rw [heap_setCell_same _ _ _ _ _ _ b1]
    rfl
  have hb2 : ((w.alloc (.cells #[.pointer (some ⟨k, 0, none⟩)] 71)).setCell ⟨k, 5, none⟩ (.int .i32 1)).heap[w.heap.size]? = some (.cells #[.pointer (some ⟨k, 0, none⟩)] 71) := by
    rw [heap_setCell_other _ _ _ _ (by show w.heap.size ≠ k; omega), heap_alloc_new]
  have hs2 : ((w.alloc (.cells #[.pointer (some ⟨k, 0, none⟩)] 71)).setCell ⟨k, 5, none⟩ (.int .i32 1)).heap.size = w.heap.size + 1 := by simp
  have ho2 : ∀ j, j < w.heap.size → j ≠ k → ((w.alloc (.cells #[.pointer (some ⟨k, 0, none⟩)] 71)).setCell ⟨k, 5, none⟩ (.int .i32 1)).heap[j]? = w.heap[j]? := fun j hj hne => by
    rw [heap_setCell_other _ _ _ _ (by show j ≠ k; exact hne), Below.heap_alloc _ _ _ hj]
  have hcl := made_o m hm h0 (fun j => if j = 0 then k else w.heap.size) ((w.alloc (.cells #[.pointer (some ⟨k, 0, none⟩)] 71)).setCell ⟨k, 5, none⟩ (.int .i32 1)) (by
    refine ⟨fun p q hp hq hpq => ?_, fun j b hb => ?_⟩
    · simp only [List.length_cons, List.length_nil] at hp hq
      by_cases h1 : p = 0
      · by_cases h2 : q = 0
        · omega
        · simp only [h1, h2, if_true, if_false] at hpq; omega
      · by_cases h2 : q = 0
        · simp only [h1, h2, if_true, if_false] at hpq; omega
        · omega
    · match j, hb with
      | 0, hb =>
        simp only [List.getElem?_cons_zero, Option.some.injEq] at hb
        subst hb
        simp only [AB.conc, if_true]
        rw [h2, conc_modc m 0 1 0 0 β]
      | 1, hb =>
        simp only [List.getElem?_cons_succ, List.getElem?_cons_zero, Option.some.injEq] at hb
        subst hb
        exact hb2
      | j + 2, hb => simp at hb)
  have hmf : ∀ (fn : Fn) (first cap : Array Value) (w : World), (Instr.makeFunc fn first cap).run Tryz.prog w = .ok (.func fn first cap) w := fun _ _ _ _ => rfl
  obtain ⟨Eff, hEff⟩ : ∃ Eff : World → Prop, ∀ w', Eff w' ↔ (w'.heap[k]? = some (.cells ((modc m 0 1 (mi m) (sqm m)).map (SV.conc β)).toArray 135 (0, 0)) ∧ w'.os = w.os ∧ w'.tape = w.tape ∧ w'.output = w.output ∧ w.heap.size ≤ w'.heap.size ∧ ∀ j, j < w.heap.size → j ≠ k → w'.heap[j]? = w.heap[j]?) := ⟨_, fun _ => Iff.rfl⟩
  have hcl2 : Calls Tryz.prog 94 #[.pointer (some ⟨w.heap.size, 0, none⟩)] ((w.alloc (.cells #[.pointer (some ⟨k, 0, none⟩)] 71)).setCell ⟨k, 5, none⟩ (.int .i32 1)) fun e w' => e = .returned (.tuple #[]) ∧ Eff w' :=
    hcl.mono fun e w' ⟨he, hl', hos, htape, hout, hsize, hsame⟩ => ⟨he fun _ => 0, (hEff w').2 ⟨by
      have h3 := hl'.2 0 _ rfl
      simp only [AB.conc, if_true] at h3
      rw [h3, conc_modc m 0 1 (mi m) (sqm m) β], hos, htape, hout, by rw [hs2] at hsize; omega, fun j hj hne => by
      rw [hsame j (by rw [hs2]; omega) (fun i hi => ?_), ho2 j hj hne]
      simp only [List.length_cons, List.length_nil] at hi
      by_cases h1 : i = 0
      · simp only [h1, if_true]; exact hne
      · simp only [h1, if_false]; omega⟩⟩
  have hE : ∀ w', Eff w' → w'.cell? ⟨k, 4, none⟩ = some (.int .u32 0) ∧ w'.cell? ⟨k, 5, none⟩ = some (.int .i32 1) ∧ w'.frozen? ⟨k, 4, none⟩ = false ∧ w'.frozen? ⟨k, 5, none⟩ = false := fun w' h => modc_cell ((hEff w').1 h).1
  clear hcl hb2 hs2 ho2 h2
  go_enter Tryz.func83, Tryz.ntmps83
  go_wp2_with (go_at_call 93; refine (o_do_first k 4 ⟨w.heap.size, 0, none⟩ _ Eff a0 a1 z0 z1 hcl2 hE).mono ?_; rintro e w' ⟨rfl, hw'⟩)
  go_end0
  obtain ⟨w1, h1, rfl⟩ := hw'
  obtain ⟨e1, e2, e3, e4, e5, e6⟩ := (hEff w1).1 h1
  refine ⟨fun _ => rfl, hlies _ ?_, e2, e3, e4, ?_, fun j hj hne => ?_⟩
  · have g1 : (w1.drew.setCell ⟨k, 4, none⟩ (.int .u32 1)).heap[k]? = some (.cells ((modc m 1 1 (mi m) (sqm m)).map (SV.conc β)).toArray 135 (0, 0)) := by
      rw [heap_setCell_same w1.drew k 4 _ _ _ e1]
      rfl
    rw [heap_setCell_same _ k 5 _ _ _ g1]
    rfl
  · simpa using e5
  · have hjk : j ≠ k := by have := hne 0 (by simp); rwa [hk] at this
    rw [heap_setCell_other _ _ _ _ (by exact hjk), heap_setCell_other _ _ _ _ (by exact hjk)]
    exact e6 j hj hjk
theorem ready_again (m : Nat) : OwnC Tryz.prog 83 [.s (.p 0 0)] [⟨135, modc m 1 0 (mi m) (sqm m)⟩] [⟨135, modc m 1 0 (mi m) (sqm m)⟩] (.tup []) := by
  rintro β w ⟨hinj, hl⟩
  have hb0 := hl 0 _ rfl
  show Calls Tryz.prog 83 #[.pointer (some ⟨β 0, 0, none⟩)] w _
  simp only [AB.conc] at hb0
  obtain ⟨k, hk⟩ : ∃ k, β 0 = k := ⟨_, rfl⟩
  have hlies : ∀ w' : World, w'.heap[k]? = some (.cells ((modc m 1 0 (mi m) (sqm m)).map (SV.conc β)).toArray 135 (0, 0)) → Ab.liesAt [⟨135, modc m 1 0 (mi m) (sqm m)⟩] β w' := fun w' h => by
    refine ⟨fun p q hp hq _ => by simp at hp hq; omega, fun j b hb => ?_⟩
    cases j with
    | zero => simp only [List.getElem?_cons_zero, Option.some.injEq] at hb; subst hb; rw [hk]; exact h
    | succ j => simp at hb
  rw [hk] at hb0
  rw [hk]
  have hkl : k < w.heap.size := (Array.getElem?_eq_some_iff.1 hb0).1
  have b1 : (w.alloc (.cells #[.pointer (some ⟨k, 0, none⟩)] 71)).heap[k]? = some (.cells ((modc m 1 0 (mi m) (sqm m)).map (SV.conc β)).toArray 135 (0, 0)) := by rw [Below.heap_alloc _ _ _ hkl]; exact hb0
  obtain ⟨a0, a1, z0, z1⟩ := modc_cell b1
  have hmf : ∀ (fn : Fn) (first cap : Array Value) (w : World), (Instr.makeFunc fn first cap).run Tryz.prog w = .ok (.func fn first cap) w := fun _ _ _ _ => rfl
  go_enter Tryz.func83, Tryz.ntmps83
  go_wp2_with (go_at_call 93; refine (o_do_done ⟨k, 4, none⟩ _ (by decide) _ _ a0).mono ?_; rintro e w' ⟨rfl, rfl⟩)
  go_end0
  refine ⟨fun _ => rfl, hlies _ b1, rfl, rfl, rfl, by simp, fun j hj hne => Below.heap_alloc _ _ _ hj⟩
set_option maxHeartbeats 20000000
theorem ready_o (m : Nat) (b : Bool) (hG : OddM m) : OwnC Tryz.prog 83 [.s (.p 0 0)] [⟨135, modS m b⟩] [⟨135, modc m 1 0 (mi m) (sqm m)⟩] (.tup []) := by
  cases b with
  | true => exact ready_again m
  | false => exact ready_first m hG.lt hG.pos
theorem tu_wd (m X : Nat) : wd X 0 * mi m % 18446744073709551616 = tu m X := by
  unfold tu wd
  rw [Nat.mul_zero, Nat.pow_zero, Nat.div_one]
theorem wd_div (Z i : Nat) : wd (Z / 18446744073709551616) i = wd Z (i + 1) := by
  unfold wd
  rw [Nat.div_div_eq_div_mul, P_succ, Nat.mul_comm]
theorem shift6 (Z n : Nat) (hn : n = 384) (h : Z < 2 ^ n) : ((((arr 6 (wd Z)).drop 1).take 5 ++ (arr 6 (wd Z)).drop 5).set 5 (.v (.int .u64 0))) = arr 6 (wd (Z / 18446744073709551616)) := by
  have h5 : wd (Z / 18446744073709551616) 5 = 0 := by rw [wd_div]; exact wd_big2 Z 6 n h (by omega)
  have e : ∀ f : Nat → Nat, arr 6 f = [.v (.int .u64 (f 0)), .v (.int .u64 (f 1)), .v (.int .u64 (f 2)), .v (.int .u64 (f 3)), .v (.int .u64 (f 4)), .v (.int .u64 (f 5))] := fun f => rfl
  rw [e, e, h5]
  simp only [wd_div]
  rfl
theorem len6 (f : Nat → Nat) : (((arr 6 f).drop 1).take 5 ++ (arr 6 f).drop 5).length = 6 := rfl
theorem part6_one (f : Nat → Nat) : oneAll (Ab.part (arr 6 f) 1 (min 5 (6 - 0))) := by
  rw [part_eq]
  exact fun x hx => (of_eq_true arr_one) x (List.mem_of_mem_drop (List.mem_of_mem_take hx))
theorem arr_take4 (T : Nat) : (arr 6 (wd T)).take 4 = nat4 T := rfl
theorem arr_get4 (f : Nat → Nat) : (arr 6 f)[4]? = some (.v (.int .u64 (f 4 : Int))) := rfl
theorem mul_o (m : Nat) (b : Bool) (x y : Nat) (hG : OddM m) (hx : x < 2 ^ 256) (hy : y < 2 ^ 256) :
    OwnC Tryz.prog 71 [.s (.p 0 0), .agg (nat4 x), .agg (nat4 y)] [⟨135, modS m b⟩] [⟨135, modc m 1 0 (mi m) (sqm m)⟩] (.agg (nat4 (mo m (x * y)))) := by
  have hr := ready_o m b hG
  have h1 := below_o m 1 0 (mi m) (sqm m) x hG.lt hG.pos hx
  have h2 := below_o m 1 0 (mi m) (sqm m) y hG.lt hG.pos hy
  have ha : x % m < 2 ^ 256 := hG.mod_lt
  have hc : y % m < m := Nat.mod_lt _ hG.pos
  have hend : mo m (x * y) = moN 256 m (x % m * (y % m)) := moN_mod (by rw [← Nat.mul_mod])
  rw [hend]
  clear hend
  obtain ⟨a, hae⟩ : ∃ a, x % m = a := ⟨_, rfl⟩
  obtain ⟨c, hce⟩ : ∃ c, y % m = c := ⟨_, rfl⟩
  rw [hae] at h1 ha
  rw [hce] at h2 hc
  rw [hae, hce]
  have hX := fun k => tm_X (a := a) hc k 384 rfl hG.lt
  have hmi := mi_lt m
  have h3 := fun k => row_o (tm m a c k) (wd a k) c 384 rfl (wd_lt a k) (Nat.lt_trans hc hG.lt) (hX k).1
  have h4 := fun k => row_o (tm m a c k + wd a k * c) (tu m (tm m a c k + wd a k * c)) m 384 rfl (tu_lt m _) hG.lt (hX k).2
  have h5 := fun k => shift6 (tm m a c k + wd a k * c + tu m (tm m a c k + wd a k * c) * m) 384 rfl (hX k).2
  have h6 : ∀ k, (tm m a c k + wd a k * c + tu m (tm m a c k + wd a k * c) * m) / 18446744073709551616 = tm m a c (k + 1) := fun k => rfl
  have hte := tm_end hG.odd hc ha
  have htl : tm m a c 4 < 2 * m := tm_lt hc 4
  have h7 := less_o m 1 0 (mi m) (sqm m) (tm m a c 4 % 2 ^ 256) (tm m a c 4 / 2 ^ 256) (moN 256 m (a * c)) hG.lt (Nat.mod_lt _ (by decide)) (by have := hG.lt; omega) (by rw [Nat.add_comm, Nat.div_add_mod]; exact htl) (by rw [Nat.add_comm, Nat.div_add_mod]; exact hte.symm)
  rw [nat4_mod] at h7
  have h8 : wd (tm m a c 4) 4 = tm m a c 4 / 2 ^ 256 := by
    show tm m a c 4 / 2 ^ 256 % 2 ^ 64 = _
    exact Nat.mod_eq_of_lt (by have := hG.lt; omega)
  rw [← h8] at h7
  clear h8 hte htl hae hce hx hy hG hX
  (refine own_of Tryz.func71 rfl (by simp only [List.length_cons, List.length_nil, List.map_cons, List.map_nil, List.nodup_cons, List.nodup_nil, List.mem_cons, Nat.reduceAdd, Nat.reduceEqDiff, or_false, not_false_eq_true, forall_eq_or_imp, forall_eq, or_self, Nat.reduceLT, Nat.reduceLeDiff, and_self, List.forall_mem_cons, List.not_mem_nil, false_implies, implies_true, and_true, true_and, vcOAb26]) (by simp only [List.length_cons, List.length_nil, List.map_cons, List.map_nil, List.nodup_cons, List.nodup_nil, List.mem_cons, Nat.reduceAdd, Nat.reduceEqDiff, or_false, not_false_eq_true, forall_eq_or_imp, forall_eq, or_self, Nat.reduceLT, Nat.reduceLeDiff, and_self, List.forall_mem_cons, List.not_mem_nil, false_implies, implies_true, and_true, true_and, vcOAb26]) (by simp only [List.length_cons, List.length_nil, List.map_cons, List.map_nil, List.nodup_cons, List.nodup_nil, List.mem_cons, Nat.reduceAdd, Nat.reduceEqDiff, or_false, not_false_eq_true, forall_eq_or_imp, forall_eq, or_self, Nat.reduceLT, Nat.reduceLeDiff, and_self, List.forall_mem_cons, List.not_mem_nil, false_implies, implies_true, and_true, true_and, vcOAb26]) (by simp only [List.length_cons, List.length_nil, List.map_cons, List.map_nil, List.nodup_cons, List.nodup_nil, List.mem_cons, Nat.reduceAdd, Nat.reduceEqDiff, or_false, not_false_eq_true, forall_eq_or_imp, forall_eq, or_self, Nat.reduceLT, Nat.reduceLeDiff, and_self, List.forall_mem_cons, List.not_mem_nil, false_implies, implies_true, and_true, true_and, vcOAb26]) rfl fun w0 β0 => ?_; simp only [List.length_cons, List.length_nil, Tryz.ntmps71, Nat.reduceAdd, Nat.reduceSub, List.replicate_succ, List.replicate_zero, List.cons_append, List.nil_append])
  (repeat' ((first | with_reducible (first | apply XQ_slice | apply XQ_arrAt | apply XQ_cons | apply XQ_consG | apply XQ_nil | apply XR_copy | apply XR_slice | apply XR_arrAt | apply XR_cons | apply XR_consG | apply XR_nil | apply cF_pure (by assumption) | apply cV_pure (by assumption) | apply cF_own (by assumption) | apply cV_own (by assumption)) | (with_reducible apply X_drawC (id := 2) 6; (next => (kernel_rfl)); (next => (kernel_rfl))) | (with_reducible apply X_drawC (id := 8) 11; (next => (kernel_rfl)); (next => (kernel_rfl))) | (with_reducible apply X_drawC (id := 9) 2; (next => (kernel_rfl)); (next => (kernel_rfl))) | (with_reducible apply X_drawC (id := 12) 7; (next => (kernel_rfl)); (next => (kernel_rfl))) | refine X_of _ ?_ | with_reducible (first | exact ⟨_, rfl⟩ | refine And.intro ?_ ?_ | intro _)) <;> try simp -implicitDefEqProofs (maxSteps := 1000000) (disch := first | exact dz0 | fail) only [vcR, vcT, simprocAttr, Ab.part, implies_true, forall_const, vcS, vcXAb26, Tryz.f71]))
  refine X_loop (ι := Nat) (fun k => k ≤ 4) (fun k => 4 - k) [9, 19, 20, 21, 22, 23, 24, 25, 26, 27, 28, 29, 30, 31, 32, 33, 34, 35, 36, 37, 38, 39, 40, 41]
    (fun k => [(19, .s (.v (.int .i64 (k : Nat))))])
    (fun k => [(4, arr 6 (wd (tm m a c k)))]) 0 (shape_of fun i => ?_) (by decide) ?_ ?_
  · simp only [List.length_cons, List.length_nil, List.map_cons, List.map_nil, List.nodup_cons, List.nodup_nil, List.mem_cons, Nat.reduceAdd, Nat.reduceEqDiff, or_false, not_false_eq_true, forall_eq_or_imp, forall_eq, or_self, Nat.reduceLT, Nat.reduceLeDiff, and_self, List.forall_mem_cons, List.not_mem_nil, false_implies, implies_true, and_true, true_and, vcOAb26]
  · simp -implicitDefEqProofs (maxSteps := 1000000) (disch := first | exact dz0 | fail) only [vcR, vcT, simprocAttr, Ab.part, implies_true, forall_const, vcS, vcXAb26, Tryz.f71, again_eq]
    exact ⟨_, arr_congr fun i _ => (wd_zero i).symm, rfl⟩
  · intro k us hk
    (repeat (refine X_of _ ?_; simp -implicitDefEqProofs (maxSteps := 1000000) (disch := first | exact dz0 | fail) only [vcR, vcT, simprocAttr, Ab.part, implies_true, forall_const, vcS, vcXAb26, Tryz.f71]))
    refine ⟨fun h => ?_, fun h => ?_⟩
    · have g3 := h3 k
      have g4 := h4 k
      have g5 := h5 k
      have g6 := h6 k
      have g7 := tu_wd m (tm m a c k + wd a k * c)
      obtain ⟨T, hT⟩ : ∃ T, tm m a c k = T := ⟨_, rfl⟩
      rw [hT] at g3 g4 g5 g6 g7
      rw [hT]
      obtain ⟨X, hX⟩ : ∃ X, T + wd a k * c = X := ⟨_, rfl⟩
      rw [hX] at g3 g4 g5 g6 g7
      obtain ⟨u, hu⟩ : ∃ u, tu m X = u := ⟨_, rfl⟩
      rw [hu] at g4 g5 g6 g7
      obtain ⟨Z, hZ⟩ : ∃ Z, X + u * m = Z := ⟨_, rfl⟩
      rw [hZ] at g4 g5 g6
      rw [g6] at g5
      clear h3 h4 h5 h6 h7 hX hu hZ g6 hT hmi hc ha h1 h2 hr
      (repeat' ((first | with_reducible (first | apply XQ_slice | apply XQ_arrAt | apply XQ_cons | apply XQ_consG | apply XQ_nil | apply XR_copy | apply XR_slice | apply XR_arrAt | apply XR_cons | apply XR_consG | apply XR_nil | apply cF_pure (by assumption) | apply cV_pure (by assumption) | apply cF_own (by assumption) | apply cV_own (by assumption)) | (with_reducible apply X_drawC (id := 2) 6; (next => (kernel_rfl)); (next => (kernel_rfl))) | (with_reducible apply X_drawC (id := 8) 11; (next => (kernel_rfl)); (next => (kernel_rfl))) | (with_reducible apply X_drawC (id := 9) 2; (next => (kernel_rfl)); (next => (kernel_rfl))) | (with_reducible apply X_drawC (id := 12) 7; (next => (kernel_rfl)); (next => (kernel_rfl))) | refine X_of _ ?_ | with_reducible (first | exact ⟨_, rfl⟩ | refine And.intro ?_ ?_ | intro _)) <;> try simp -implicitDefEqProofs (maxSteps := 1000000) (disch := first | exact dz0 | fail) only [vcR, vcT, simprocAttr, Ab.part, implies_true, forall_const, vcS, vcXAb26, Tryz.f71, nat4_get,w64m,g7,g5]))
      refine xcopy_some rfl rfl ⟨⟨by kernel_rfl, by simp only [arr_length]; decide, by simp only [arr_length]; decide, part6_one _⟩, ?_⟩
      simp -implicitDefEqProofs (maxSteps := 1000000) (disch := first | exact dz0 | fail) only [vcR, vcT, simprocAttr, Ab.part, implies_true, forall_const, vcS, vcXAb26, Tryz.f71]
      (repeat' ((first | with_reducible (first | apply XQ_slice | apply XQ_arrAt | apply XQ_cons | apply XQ_consG | apply XQ_nil | apply XR_copy | apply XR_slice | apply XR_arrAt | apply XR_cons | apply XR_consG | apply XR_nil | apply cF_pure (by assumption) | apply cV_pure (by assumption) | apply cF_own (by assumption) | apply cV_own (by assumption)) | (with_reducible apply X_drawC (id := 2) 6; (next => (kernel_rfl)); (next => (kernel_rfl))) | (with_reducible apply X_drawC (id := 8) 11; (next => (kernel_rfl)); (next => (kernel_rfl))) | (with_reducible apply X_drawC (id := 9) 2; (next => (kernel_rfl)); (next => (kernel_rfl))) | (with_reducible apply X_drawC (id := 12) 7; (next => (kernel_rfl)); (next => (kernel_rfl))) | refine X_of _ ?_ | with_reducible (first | exact ⟨_, rfl⟩ | refine And.intro ?_ ?_ | intro _)) <;> try simp -implicitDefEqProofs (maxSteps := 1000000) (disch := first | exact dz0 | fail) only [vcR, vcT, simprocAttr, Ab.part, implies_true, forall_const, vcS, vcXAb26, Tryz.f71, len6,g5]))
      refine ⟨k + 1, by omega, ?_⟩
      simp -implicitDefEqProofs (maxSteps := 1000000) (disch := first | exact dz0 | fail) only [vcR, vcT, simprocAttr, Ab.part, implies_true, forall_const, vcS, vcXAb26, Tryz.f71, again_eq]
      exact ⟨_, rfl⟩
    · have hk4 : k = 4 := by omega
      subst hk4
      clear h3 h4 h5 h6 h1 h2 hr hmi ha hc
      (repeat' ((first | with_reducible (first | apply XQ_slice | apply XQ_arrAt | apply XQ_cons | apply XQ_consG | apply XQ_nil | apply XR_copy | apply XR_slice | apply XR_arrAt | apply XR_cons | apply XR_consG | apply XR_nil | apply cF_pure (by assumption) | apply cV_pure (by assumption) | apply cF_own (by assumption) | apply cV_own (by assumption) | apply cF_own (row_o _ _ _ _ rfl bd0 bd0 bd0) | apply cV_own (row_o _ _ _ _ rfl bd0 bd0 bd0)) | (with_reducible apply X_drawC (id := 2) 6; (next => (kernel_rfl)); (next => (kernel_rfl))) | (with_reducible apply X_drawC (id := 8) 11; (next => (kernel_rfl)); (next => (kernel_rfl))) | (with_reducible apply X_drawC (id := 9) 2; (next => (kernel_rfl)); (next => (kernel_rfl))) | (with_reducible apply X_drawC (id := 12) 7; (next => (kernel_rfl)); (next => (kernel_rfl))) | refine X_of _ ?_ | with_reducible (first | exact ⟨_, rfl⟩ | refine And.intro ?_ ?_ | intro _)) <;> try simp -implicitDefEqProofs (maxSteps := 1000000) (disch := first | exact dz0 | fail) only [vcR, vcT, simprocAttr, Ab.part, implies_true, forall_const, vcS, vcXAb26, Tryz.f71, arr_take4,arr_get4]))
theorem mul_add_mod (m a b c : Nat) : a * ((b + c) % m) % m = (a * b % m + a * c % m) % m := by
  have e : a * ((b + c) % m) % m = a * (b + c) % m := cg_mul rfl (cg_mod _ _)
  rw [e, Nat.mul_add, Nat.add_mod]
end Go.Proofs.YtdmcknmjdlghgaaGreatDoor
