/-
  Arguments that are pieces.
-/
import Derived.Test.YtdmcknmjdlghgaaDoorT01
import Derived.Test.YtdmcknmjdlghgaaDoorT02
import Derived.Test.YtdmcknmjdlghgaaDoorT03
import Derived.Test.YtdmcknmjdlghgaaDoorT05
import Derived.Test.YtdmcknmjdlghgaaDoorT06
import Derived.Test.YtdmcknmjdlghgaaDoorT07
import Derived.Test.YtdmcknmjdlghgaaDoorT08
import Derived.Test.YtdmcknmjdlghgaaDoorT09
import Derived.Test.YtdmcknmjdlghgaaDoorT16
namespace Go.Proofs.YtdmcknmjdlghgaaDoor
open Go Go.Ab Go.ChangeShapes Go.WideShapes Go.ChangeAt Go.RowKit
set_option linter.unusedSimpArgs false
set_option linter.unusedVariables false
set_option maxRecDepth 100000
theorem pcU : ∃ fs f g, Tryd.prog.underlying 64 = some (.struct fs) ∧ fs.size = 2 ∧ fs[0]? = some f ∧ fs[1]? = some g ∧ f.offset = 0 ∧ g.offset = 1 ∧ f.type = 3 ∧ g.type = 24 := by
  have h1 : (Tryd.prog.underlying 64).map (fun d => match d with | .struct fs => (fs.size, fs[0]?.map (fun f => (f.type, f.offset)), fs[1]?.map (fun f => (f.type, f.offset))) | _ => (0, none, none)) = some (2, some (3, 0), some (24, 1)) := by kernel_rfl
  obtain ⟨d, hd, h2⟩ := Option.map_eq_some_iff.1 h1
  cases d with
  | struct fs =>
    simp only [Prod.mk.injEq] at h2
    obtain ⟨hs, h3, h4⟩ := h2
    obtain ⟨f, hf, h5⟩ := Option.map_eq_some_iff.1 h3
    obtain ⟨g, hg, h6⟩ := Option.map_eq_some_iff.1 h4
    simp only [Prod.mk.injEq] at h5 h6
    exact ⟨fs, f, g, hd, hs, hf, hg, h5.2, h6.2, h5.1, h6.1⟩
  | _ => simp at h2
theorem slcPc : Tryd.prog.underlying 70 = some (.slice 64) := by kernel_rfl
def pcL (s : Int) (a : Nat) : List Value := [.int .i64 s] ++ natL a
theorem pcL_get {S : Nat → Int} {A : Nat → Nat} {i k : Nat} (h : k < 5) : (pcL (S i) (A i))[k]? = some (pcsG S A (i * 5 + k)) := by
  unfold pcL
  rcases k with _ | k
  · rw [Nat.add_zero, pcsG_s]; rfl
  · rw [pcsG_w (by omega), List.getElem?_append_right (by show 1 ≤ k + 1; omega)]
    show (natL (A i))[k + 1 - 1]? = _
    rw [Nat.add_sub_cancel, natL_get (by omega)]
theorem cellsPc : Cells Tryd.prog 64 5 fun _ cs => ∃ z a, (-9223372036854775808 ≤ z ∧ z < 9223372036854775808) ∧ a < 2 ^ 256 ∧ cs = pcL z a := by
  obtain ⟨fs, f, g, hd, hs, hf, hg, o1, o2, t1, t2⟩ := pcU
  have h := cells_two hd hs hf hg o1 o2 (by rw [t1]; exact cells_int (by kernel_rfl) (by kernel_rfl)) (by rw [t2]; exact cells_nat wordsNat) (by kernel_rfl : Tryd.prog.cellsOf 64 = 1 + 4)
  refine ⟨h.1, fun H enc W base sp held fuel cs x hx => ⟨(h.2 H enc W base sp held fuel cs x hx).1, ?_⟩⟩
  obtain ⟨u, v, rfl, ⟨z, hz, rfl⟩, ⟨a, ha, rfl⟩⟩ := (h.2 H enc W base sp held fuel cs x hx).2
  exact ⟨z, a, hz, ha, rfl⟩
def PcsT (W : World) (cs : List Value) : Prop := ∃ (y : Option Addr) (n c : Nat) (S : Nat → Int) (A : Nat → Nat), cs = [.slice y n c] ∧ n < 9223372036854775808 ∧ n ≤ c ∧ (∀ i, -9223372036854775808 ≤ S i ∧ S i < 9223372036854775808) ∧ (∀ i, A i < 2 ^ 256) ∧ pcsAt (modEvo 108) y n S A W.heap.size W
theorem pcsT_of {W : World} {cs : List Value} (h : ∃ (y : Option Addr) (n c : Nat), cs = [.slice y n c] ∧ n < 9223372036854775808 ∧ n ≤ c ∧
    (n = 0 ∨ ∃ ad, y = some ad ∧ ad.spot = none ∧ ∃ cc tt ff, W.heap[ad.block]? = some (.cells cc tt ff) ∧ ∀ i, i < n → ∃ l, (∃ z a, (-9223372036854775808 ≤ z ∧ z < 9223372036854775808) ∧ a < 2 ^ 256 ∧ l = pcL z a) ∧ l.length = 5 ∧ ∀ k, k < 5 → cc[ad.off + (i * 5 + k)]? = l[k]?)) : PcsT W cs := by
  obtain ⟨y, n, c, hcs, hn, hc, h⟩ := h
  rcases h with h | ⟨ad, hy, hs, cc, tt, ff, hk, h⟩
  · exact ⟨y, n, c, fun _ => 0, fun _ => 0, hcs, hn, hc, fun _ => by show -9223372036854775808 ≤ (0 : Int) ∧ (0 : Int) < 9223372036854775808; decide, fun _ => by show 0 < 2 ^ 256; decide, .inl h⟩
  · have key : ∀ i, i < n → ∃ z : Int, ∃ p : Nat, (-9223372036854775808 ≤ z ∧ z < 9223372036854775808) ∧ p < 2 ^ 256 ∧ ∀ k, k < 5 → cc[ad.off + (i * 5 + k)]? = (pcL z p)[k]? := by
      intro i hi
      obtain ⟨l, ⟨z, p, hz, hp, rfl⟩, _, hl⟩ := h i hi
      exact ⟨z, p, hz, hp, hl⟩
    refine ⟨y, n, c, fun i => if h : i < n then (key i h).choose else 0, fun i => if h : i < n then (key i h).choose_spec.choose else 0, hcs, hn, hc, fun i => ?_, fun i => ?_, .inr ⟨ad, hy, hs, cc, tt, ff, hk, .inl (Array.getElem?_eq_some_iff.1 hk).1, fun j hj => ?_⟩⟩
    · by_cases hi : i < n
      · simp only [hi, dite_true]; exact (key i hi).choose_spec.choose_spec.1
      · simp only [hi, dite_false]; decide
    · by_cases hi : i < n
      · simp only [hi, dite_true]; exact (key i hi).choose_spec.choose_spec.2.1
      · simp only [hi, dite_false]; decide
    · have hi : j / 5 < n := by omega
      have h1 := (key (j / 5) hi).choose_spec.choose_spec.2.2 (j % 5) (by omega)
      rw [show j / 5 * 5 + j % 5 = j by omega] at h1
      rw [h1]
      have h2 := pcL_get (S := fun i => if h : i < n then (key i h).choose else 0) (A := fun i => if h : i < n then (key i h).choose_spec.choose else 0) (i := j / 5) (k := j % 5) (by omega)
      rw [show j / 5 * 5 + j % 5 = j by omega] at h2
      rw [← h2]
      simp only [hi, dite_true]
theorem cellsPcs : Cells Tryd.prog 70 1 PcsT := by
  have h2 := cells_slice slcPc cellsPc (by decide) (by kernel_rfl)
  exact ⟨h2.1, fun H enc W base sp held fuel cs x hx => ⟨(h2.2 H enc W base sp held fuel cs x hx).1, pcsT_of (h2.2 H enc W base sp held fuel cs x hx).2⟩⟩
section
variable {H : Type} {enc : TypeId × Value → H} {W : World} {base b0 : Nat} {sp : Nat → Bool} {held : Bool} {r : Reach} {v : Value} {d : DataW H} {ps : List MemPlace}
theorem open_pieces (hval : Value.okWide Tryd.prog W r b0 70 v) (hd : DataW.Trod enc Tryd.prog W base sp held 70 v d ps) :
    ∃ (x : Option Addr) (n c : Nat) (S : Nat → Int) (A : Nat → Nat), v = .slice x n c ∧ n < 9223372036854775808 ∧ n ≤ c ∧ (∀ i, -9223372036854775808 ≤ S i ∧ S i < 9223372036854775808) ∧ (∀ i, A i < 2 ^ 256) ∧ pcsAt (modEvo 108) x n S A W.heap.size W := by
  obtain ⟨x, n, c, rfl⟩ := okWide_slice slcPc hval
  obtain ⟨fuel, hf⟩ := hd
  obtain ⟨y, m, k, S, A, he, h1, h2, h3, h4, h5⟩ := (cellsPcs.2 _ _ _ _ _ _ _ _ _ hf).2
  have he' : [Value.slice x n c] = [Value.slice y m k] := he
  injection he' with he' _
  injection he' with e1 e2 e3
  subst e1; subst e2; subst e3
  exact ⟨x, n, c, S, A, rfl, h1, h2, h3, h4, h5⟩
theorem pcL_conc (s : Int) (a : Nat) (β : Nat → Nat) : (TV.agg (pieceC s a)).conc β = .agg (pcL s a).toArray := by
  simp [conc_agg, pieceC, pcL, nat4, arr, natL, Function.comp_def, SV.conc]
theorem open_piece (hval : Value.okWide Tryd.prog W r b0 64 v) (hd : DataW.Trod enc Tryd.prog W base sp held 64 v d ps) :
    ∃ (s : Int) (a : Nat), (-9223372036854775808 ≤ s ∧ s < 9223372036854775808) ∧ a < 2 ^ 256 ∧ ∀ β, v = (TV.agg (pieceC s a)).conc β := by
  obtain ⟨fs, f, g, hu, _⟩ := pcU
  obtain ⟨cs, rfl, _⟩ := okWide_struct hu hval
  obtain ⟨fuel, hf⟩ := hd
  obtain ⟨s, a, hs, ha, he⟩ := (cellsPc.2 _ _ _ _ _ _ _ _ _ hf).2
  refine ⟨s, a, hs, ha, fun β => ?_⟩
  rw [pcL_conc]
  have he' : cs.toList = pcL s a := he
  rw [← he', Array.toArray_toList]
end
end Go.Proofs.YtdmcknmjdlghgaaDoor
