/-
  mont.Mod.ready: what is made when it is first asked.
-/
import Derived.Test.YthniflakjkbpiaaDoorM3
import Derived.Test.YthniflakjkbpiaaDoorKO
import Derived.Test.YthniflakjkbpiaaDoorKM
import Derived.Laws.NewBlocks
namespace Go.Proofs.YthniflakjkbpiaaDoor
open Go Go.Ab Go.RowKit
set_option linter.unusedSimpArgs false
set_option linter.unusedVariables false
set_option maxHeartbeats 4000000
set_option maxRecDepth 100000

theorem conc_modc (m d l i s : Nat) (β β' : Nat → Nat) : (modc m d l i s).map (SV.conc β) = (modc m d l i s).map (SV.conc β') :=
  SV.concs_ok (n := 0) modc_ok fun j hj => absurd hj (Nat.not_lt_zero j)
theorem modc_cell {w : World} {k m d l i s : Nat} {β : Nat → Nat} (h : w.heap[k]? = some (.cells ((modc m d l i s).map (SV.conc β)).toArray 86 (0, 0))) :
    w.cell? ⟨k, 4, none⟩ = some (.int .u32 (d : Int)) ∧ w.cell? ⟨k, 5, none⟩ = some (.int .i32 (l : Int)) ∧ w.frozen? ⟨k, 4, none⟩ = false ∧ w.frozen? ⟨k, 5, none⟩ = false := by
  refine ⟨?_, ?_, ?_, ?_⟩
  · simp only [World.cell?, h]; rfl
  · simp only [World.cell?, h]; rfl
  · simp [World.frozen?, h]
  · simp [World.frozen?, h]


theorem ready_first (m : Nat) (hm : m < 2 ^ 256) (h0 : 0 < m) : OwnC Tryd.prog 55 [.s (.p 0 0)] [⟨86, modc m 0 0 0 0⟩] [⟨86, modc m 1 0 (mi m) (sqm m)⟩] (.tup []) := by
  rintro β w ⟨_, hl⟩
  have hb0 := hl 0 _ rfl
  show Calls Tryd.prog 55 #[.pointer (some ⟨β 0, 0, none⟩)] w _
  simp only [AB.conc] at hb0
  obtain ⟨k, hk⟩ : ∃ k, β 0 = k := ⟨_, rfl⟩
  have hlies : ∀ w' : World, w'.heap[k]? = some (.cells ((modc m 1 0 (mi m) (sqm m)).map (SV.conc β)).toArray 86 (0, 0)) → Ab.liesAt [⟨86, modc m 1 0 (mi m) (sqm m)⟩] β w' := fun w' h => by
    refine ⟨fun p q hp hq _ => by simp at hp hq; omega, fun j b hb => ?_⟩
    cases j with
    | zero => simp only [List.getElem?_cons_zero, Option.some.injEq] at hb; subst hb; rw [hk]; exact h
    | succ j => simp at hb
  rw [hk] at hb0
  rw [hk]
  have hkl : k < w.heap.size := (Array.getElem?_eq_some_iff.1 hb0).1
  have b1 : (w.alloc (.cells #[.pointer (some ⟨k, 0, none⟩)] 52)).heap[k]? = some (.cells ((modc m 0 0 0 0).map (SV.conc β)).toArray 86 (0, 0)) := by rw [Below.heap_alloc _ _ _ hkl]; exact hb0
  obtain ⟨a0, a1, z0, z1⟩ := modc_cell b1
  have h2 : ((w.alloc (.cells #[.pointer (some ⟨k, 0, none⟩)] 52)).setCell ⟨k, 5, none⟩ (.int .i32 1)).heap[k]? = some (.cells ((modc m 0 1 0 0).map (SV.conc β)).toArray 86 (0, 0)) := by
    rw [heap_setCell_same _ _ _ _ _ _ b1]
    rfl
  have hb2 : ((w.alloc (.cells #[.pointer (some ⟨k, 0, none⟩)] 52)).setCell ⟨k, 5, none⟩ (.int .i32 1)).heap[w.heap.size]? = some (.cells #[.pointer (some ⟨k, 0, none⟩)] 52) := by
    rw [heap_setCell_other _ _ _ _ (by show w.heap.size ≠ k; omega), heap_alloc_new]
  have hs2 : ((w.alloc (.cells #[.pointer (some ⟨k, 0, none⟩)] 52)).setCell ⟨k, 5, none⟩ (.int .i32 1)).heap.size = w.heap.size + 1 := by simp
  have ho2 : ∀ j, j < w.heap.size → j ≠ k → ((w.alloc (.cells #[.pointer (some ⟨k, 0, none⟩)] 52)).setCell ⟨k, 5, none⟩ (.int .i32 1)).heap[j]? = w.heap[j]? := fun j hj hne => by
    rw [heap_setCell_other _ _ _ _ (by show j ≠ k; exact hne), Below.heap_alloc _ _ _ hj]
  have hcl := made_o m hm h0 (fun j => if j = 0 then k else w.heap.size) ((w.alloc (.cells #[.pointer (some ⟨k, 0, none⟩)] 52)).setCell ⟨k, 5, none⟩ (.int .i32 1)) (by
    refine ⟨fun p q hp hq hpq => ?_, fun j b hb => ?_⟩
    · simp only [List.length_cons, List.length_nil] at hp hq
      by_cases h1 : p = 0
      · by_cases h2 : q = 0
        · omega
        · simp only [h1, h2, if_true, if_false] at hpq; omega
      · by_cases h2 : q = 0
        · simp only [h1, h2, if_true, if_false] at hpq; omega
        · omega
    · match j, hb with
      | 0, hb =>
        simp only [List.getElem?_cons_zero, Option.some.injEq] at hb
        subst hb
        simp only [AB.conc, if_true]
        rw [h2, conc_modc m 0 1 0 0 β]
      | 1, hb =>
        simp only [List.getElem?_cons_succ, List.getElem?_cons_zero, Option.some.injEq] at hb
        subst hb
        exact hb2
      | j + 2, hb => simp at hb)
  have hmf : ∀ (fn : Fn) (first cap : Array Value) (w : World), (Instr.makeFunc fn first cap).run Tryd.prog w = .ok (.func fn first cap) w := fun _ _ _ _ => rfl
  obtain ⟨Eff, hEff⟩ : ∃ Eff : World → Prop, ∀ w', Eff w' ↔ (w'.heap[k]? = some (.cells ((modc m 0 1 (mi m) (sqm m)).map (SV.conc β)).toArray 86 (0, 0)) ∧ w'.os = w.os ∧ w'.tape = w.tape ∧ w'.output = w.output ∧ w.heap.size ≤ w'.heap.size ∧ ∀ j, j < w.heap.size → j ≠ k → w'.heap[j]? = w.heap[j]?) := ⟨_, fun _ => Iff.rfl⟩
  have hcl2 : Calls Tryd.prog 64 #[.pointer (some ⟨w.heap.size, 0, none⟩)] ((w.alloc (.cells #[.pointer (some ⟨k, 0, none⟩)] 52)).setCell ⟨k, 5, none⟩ (.int .i32 1)) fun e w' => e = .returned (.tuple #[]) ∧ Eff w' :=
    hcl.mono fun e w' ⟨he, hl', hos, htape, hout, hsize, hsame⟩ => ⟨he fun _ => 0, (hEff w').2 ⟨by
      have h3 := hl'.2 0 _ rfl
      simp only [AB.conc, if_true] at h3
      rw [h3, conc_modc m 0 1 (mi m) (sqm m) β], hos, htape, hout, by rw [hs2] at hsize; omega, fun j hj hne => by
      rw [hsame j (by rw [hs2]; omega) (fun i hi => ?_), ho2 j hj hne]
      simp only [List.length_cons, List.length_nil] at hi
      by_cases h1 : i = 0
      · simp only [h1, if_true]; exact hne
      · simp only [h1, if_false]; omega⟩⟩
  have hE : ∀ w', Eff w' → w'.cell? ⟨k, 4, none⟩ = some (.int .u32 0) ∧ w'.cell? ⟨k, 5, none⟩ = some (.int .i32 1) ∧ w'.frozen? ⟨k, 4, none⟩ = false ∧ w'.frozen? ⟨k, 5, none⟩ = false := fun w' h => modc_cell ((hEff w').1 h).1
  clear hcl hb2 hs2 ho2 h2
  go_enter Tryd.func55, Tryd.ntmps55
  go_wp2_with (go_at_call 63; refine (o_do_first k 4 ⟨w.heap.size, 0, none⟩ _ Eff a0 a1 z0 z1 hcl2 hE).mono ?_; rintro e w' ⟨rfl, hw'⟩)
  go_end0
  obtain ⟨w1, h1, rfl⟩ := hw'
  obtain ⟨e1, e2, e3, e4, e5, e6⟩ := (hEff w1).1 h1
  refine ⟨fun _ => rfl, hlies _ ?_, e2, e3, e4, ?_, fun j hj hne => ?_⟩
  · have g1 : (w1.drew.setCell ⟨k, 4, none⟩ (.int .u32 1)).heap[k]? = some (.cells ((modc m 1 1 (mi m) (sqm m)).map (SV.conc β)).toArray 86 (0, 0)) := by
      rw [heap_setCell_same w1.drew k 4 _ _ _ e1]
      rfl
    rw [heap_setCell_same _ k 5 _ _ _ g1]
    rfl
  · simpa using e5
  · have hjk : j ≠ k := by have := hne 0 (by simp); rwa [hk] at this
    rw [heap_setCell_other _ _ _ _ (by exact hjk), heap_setCell_other _ _ _ _ (by exact hjk)]
    exact e6 j hj hjk

/-- Done already. -/
theorem ready_again (m : Nat) : OwnC Tryd.prog 55 [.s (.p 0 0)] [⟨86, modc m 1 0 (mi m) (sqm m)⟩] [⟨86, modc m 1 0 (mi m) (sqm m)⟩] (.tup []) := by
  rintro β w ⟨hinj, hl⟩
  have hb0 := hl 0 _ rfl
  show Calls Tryd.prog 55 #[.pointer (some ⟨β 0, 0, none⟩)] w _
  simp only [AB.conc] at hb0
  obtain ⟨k, hk⟩ : ∃ k, β 0 = k := ⟨_, rfl⟩
  have hlies : ∀ w' : World, w'.heap[k]? = some (.cells ((modc m 1 0 (mi m) (sqm m)).map (SV.conc β)).toArray 86 (0, 0)) → Ab.liesAt [⟨86, modc m 1 0 (mi m) (sqm m)⟩] β w' := fun w' h => by
    refine ⟨fun p q hp hq _ => by simp at hp hq; omega, fun j b hb => ?_⟩
    cases j with
    | zero => simp only [List.getElem?_cons_zero, Option.some.injEq] at hb; subst hb; rw [hk]; exact h
    | succ j => simp at hb
  rw [hk] at hb0
  rw [hk]
  have hkl : k < w.heap.size := (Array.getElem?_eq_some_iff.1 hb0).1
  have b1 : (w.alloc (.cells #[.pointer (some ⟨k, 0, none⟩)] 52)).heap[k]? = some (.cells ((modc m 1 0 (mi m) (sqm m)).map (SV.conc β)).toArray 86 (0, 0)) := by rw [Below.heap_alloc _ _ _ hkl]; exact hb0
  obtain ⟨a0, a1, z0, z1⟩ := modc_cell b1
  have hmf : ∀ (fn : Fn) (first cap : Array Value) (w : World), (Instr.makeFunc fn first cap).run Tryd.prog w = .ok (.func fn first cap) w := fun _ _ _ _ => rfl
  go_enter Tryd.func55, Tryd.ntmps55
  go_wp2_with (go_at_call 63; refine (o_do_done ⟨k, 4, none⟩ _ (by decide) _ _ a0).mono ?_; rintro e w' ⟨rfl, rfl⟩)
  go_end0
  refine ⟨fun _ => rfl, hlies _ b1, rfl, rfl, rfl, by simp, fun j hj hne => Below.heap_alloc _ _ _ hj⟩
end Go.Proofs.YthniflakjkbpiaaDoor
