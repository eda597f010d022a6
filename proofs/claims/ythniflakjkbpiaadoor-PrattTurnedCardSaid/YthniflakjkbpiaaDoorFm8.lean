/-
  Arguments that are factors, proofs.
-/
import Derived.Test.YthniflakjkbpiaaDoorFm7
namespace Go.Proofs.YthniflakjkbpiaaDoor
open Go Go.Ab Go.ChangeShapes Go.WideShapes Go.ChangeAt Go.RowKit
set_option linter.unusedSimpArgs false
set_option linter.unusedVariables false
set_option maxRecDepth 100000

theorem wordsNat : Words Tryd.prog 26 4 := words_array tf26_u (by kernel_rfl : Tryd.prog.underlying 24 = some (.int .u64)) (by kernel_rfl) (by kernel_rfl)
theorem facU : ∃ fs f g, Tryd.prog.underlying 43 = some (.struct fs) ∧ fs.size = 2 ∧ fs[0]? = some f ∧ fs[1]? = some g ∧ f.offset = 0 ∧ g.offset = 4 ∧ f.type = 26 ∧ g.type = 3 := by
  have h1 : (Tryd.prog.underlying 43).map (fun d => match d with | .struct fs => (fs.size, fs[0]?.map (fun f => (f.type, f.offset)), fs[1]?.map (fun f => (f.type, f.offset))) | _ => (0, none, none)) = some (2, some (26, 0), some (3, 4)) := by kernel_rfl
  obtain ⟨d, hd, h2⟩ := Option.map_eq_some_iff.1 h1
  cases d with
  | struct fs =>
    simp only [Prod.mk.injEq] at h2
    obtain ⟨hs, h3, h4⟩ := h2
    obtain ⟨f, hf, h5⟩ := Option.map_eq_some_iff.1 h3
    obtain ⟨g, hg, h6⟩ := Option.map_eq_some_iff.1 h4
    simp only [Prod.mk.injEq] at h5 h6
    exact ⟨fs, f, g, hd, hs, hf, hg, h5.2, h6.2, h5.1, h6.1⟩
  | _ => simp at h2
theorem prfU : ∃ fs f g k, Tryd.prog.underlying 32 = some (.struct fs) ∧ fs.size = 3 ∧ fs[0]? = some f ∧ fs[1]? = some g ∧ fs[2]? = some k ∧ f.offset = 0 ∧ g.offset = 4 ∧ k.offset = 4 + 4 ∧ f.type = 26 ∧ g.type = 26 ∧ k.type = 22 := by
  have h1 : (Tryd.prog.underlying 32).map (fun d => match d with | .struct fs => (fs.size, fs[0]?.map (fun f => (f.type, f.offset)), fs[1]?.map (fun f => (f.type, f.offset)), fs[2]?.map (fun f => (f.type, f.offset))) | _ => (0, none, none, none)) = some (3, some (26, 0), some (26, 4), some (22, 4 + 4)) := by kernel_rfl
  obtain ⟨d, hd, h2⟩ := Option.map_eq_some_iff.1 h1
  cases d with
  | struct fs =>
    simp only [Prod.mk.injEq] at h2
    obtain ⟨hs, h3, h4, h7⟩ := h2
    obtain ⟨f, hf, h5⟩ := Option.map_eq_some_iff.1 h3
    obtain ⟨g, hg, h6⟩ := Option.map_eq_some_iff.1 h4
    obtain ⟨k, hk, h8⟩ := Option.map_eq_some_iff.1 h7
    simp only [Prod.mk.injEq] at h5 h6 h8
    exact ⟨fs, f, g, k, hd, hs, hf, hg, hk, h5.2, h6.2, h8.2, h5.1, h6.1, h8.1⟩
  | _ => simp at h2
theorem slcF : Tryd.prog.underlying 22 = some (.slice 43) := by kernel_rfl
theorem slcP : Tryd.prog.underlying 34 = some (.slice 32) := by kernel_rfl
theorem cellsFacs : Cells Tryd.prog 22 1 FacsT := by
  obtain ⟨fs, f, g, hd, hs, hf, hg, o1, o2, t1, t2⟩ := facU
  have h := cells_two hd hs hf hg o1 o2 (by rw [t1]; exact cells_nat wordsNat) (by rw [t2]; exact cells_int (by kernel_rfl) (by kernel_rfl)) (by kernel_rfl : Tryd.prog.cellsOf 43 = 4 + 1)
  have h2 := cells_slice slcF h (by decide) (by kernel_rfl)
  exact ⟨h2.1, fun H enc W base sp held fuel cs x hx => ⟨(h2.2 H enc W base sp held fuel cs x hx).1, facsT_of (h2.2 H enc W base sp held fuel cs x hx).2⟩⟩
theorem cellsPrf : Cells Tryd.prog 32 9 PrfT := by
  obtain ⟨fs, f, g, k, hd, hs, hf, hg, hk, o1, o2, o3, t1, t2, t3⟩ := prfU
  have h2 := cells_three hd hs hf hg hk o1 o2 o3 (by rw [t1]; exact cells_nat wordsNat) (by rw [t2]; exact cells_nat wordsNat) (by rw [t3]; exact cellsFacs) (by kernel_rfl : Tryd.prog.cellsOf 32 = 4 + 4 + 1)
  exact ⟨h2.1, fun H enc W base sp held fuel cs x hx => ⟨(h2.2 H enc W base sp held fuel cs x hx).1, prfT_of (h2.2 H enc W base sp held fuel cs x hx).2⟩⟩
theorem cellsPrfs : Cells Tryd.prog 34 1 PrfsT := by
  have h2 := cells_slice slcP cellsPrf (by decide) (by kernel_rfl)
  exact ⟨h2.1, fun H enc W base sp held fuel cs x hx => ⟨(h2.2 H enc W base sp held fuel cs x hx).1, prfsT_of (h2.2 H enc W base sp held fuel cs x hx).2⟩⟩
section
variable {H : Type} {enc : TypeId × Value → H} {W : World} {base b0 : Nat} {sp : Nat → Bool} {held : Bool} {r : Reach} {v : Value} {d : DataW H} {ps : List MemPlace}
theorem open_facs (hval : Value.okWide Tryd.prog W r b0 22 v) (hd : DataW.Trod enc Tryd.prog W base sp held 22 v d ps) :
    ∃ (x : Option Addr) (n c : Nat) (P : Nat → Nat) (E : Nat → Int), v = .slice x n c ∧ n < 9223372036854775808 ∧ n ≤ c ∧ (∀ i, P i < 2 ^ 256) ∧ (∀ i, -9223372036854775808 ≤ E i ∧ E i < 9223372036854775808) ∧ facs x n P E W := by
  obtain ⟨x, n, c, rfl⟩ := okWide_slice slcF hval
  obtain ⟨fuel, hf⟩ := hd
  obtain ⟨y, m, k, P, E, he, h1, h2, h3, h4, h5⟩ := (cellsFacs.2 _ _ _ _ _ _ _ _ _ hf).2
  have he' : [Value.slice x n c] = [Value.slice y m k] := he
  injection he' with he' _
  injection he' with e1 e2 e3
  subst e1; subst e2; subst e3
  exact ⟨x, n, c, P, E, rfl, h1, h2, h3, h4, h5⟩
theorem open_prfs (hval : Value.okWide Tryd.prog W r b0 34 v) (hd : DataW.Trod enc Tryd.prog W base sp held 34 v d ps) :
    ∃ (x : Option Addr) (n c : Nat) (l : Nat → Pf), v = .slice x n c ∧ n < 9223372036854775808 ∧ n ≤ c ∧ PfOk l ∧ prfs x n l W := by
  obtain ⟨x, n, c, rfl⟩ := okWide_slice slcP hval
  obtain ⟨fuel, hf⟩ := hd
  obtain ⟨y, m, k, l, he, h1, h2, h3, h4⟩ := (cellsPrfs.2 _ _ _ _ _ _ _ _ _ hf).2
  have he' : [Value.slice x n c] = [Value.slice y m k] := he
  injection he' with he' _
  injection he' with e1 e2 e3
  subst e1; subst e2; subst e3
  exact ⟨x, n, c, l, rfl, h1, h2, h3, h4⟩
theorem prfL_conc (p : Pf) (β : Nat → Nat) : (TV.agg (prf p.N p.G (.v (.slice p.y p.n p.c)))).conc β = .agg (prfL p).toArray := by
  simp [conc_agg, prf, prfL, nat4, arr, natL, Function.comp_def, SV.conc]
theorem open_prf (hval : Value.okWide Tryd.prog W r b0 32 v) (hd : DataW.Trod enc Tryd.prog W base sp held 32 v d ps) :
    ∃ p : Pf, PrfOk W p ∧ ∀ β, v = (TV.agg (prf p.N p.G (.v (.slice p.y p.n p.c)))).conc β := by
  obtain ⟨fs, f, g, k, hu, _⟩ := prfU
  obtain ⟨cs, rfl, _⟩ := okWide_struct hu hval
  obtain ⟨fuel, hf⟩ := hd
  obtain ⟨p, hp, he⟩ := (cellsPrf.2 _ _ _ _ _ _ _ _ _ hf).2
  refine ⟨p, hp, fun β => ?_⟩
  rw [prfL_conc]
  have he' : cs.toList = prfL p := he
  rw [← he', Array.toArray_toList]
end
end Go.Proofs.YthniflakjkbpiaaDoor
