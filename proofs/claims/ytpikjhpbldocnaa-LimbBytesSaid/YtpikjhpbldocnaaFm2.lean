/-
  A law's argument that is a slice of bytes.
-/
import Derived.Test.YtpikjhpbldocnaaFm
import Derived.Test.YtpikjhpbldocnaaAb14
import Derived.ChangeSlices
namespace Go.Ab
open Go Go.ChangeShapes Go.WideShapes Go.ChangeAt Go.RowKit
set_option linter.unusedSimpArgs false
set_option linter.unusedVariables false

theorem open_bytes {H : Type} {enc : TypeId × Value → H} {P : Program} {W : World} {base b0 : Nat} {r : Reach} {t e : Nat} {v : Value} {d : DataW H} {ps : List MemPlace}
    (ht : P.underlying t = some (.slice e)) (he : P.underlying e = some (.int .u8)) (hc : P.cellsOf e = 1) (hval : Value.okWide P W r b0 t v) (hd : DataW.Trod enc P W base (fun _ => true) true t v d ps) :
    ∃ (x : Option Addr) (n c : Nat), v = .slice x n c ∧ n < 9223372036854775808 ∧ (n = 0 ∨ ∃ (ad : Addr) (f : Nat → Nat), x = some ad ∧ (∀ i, f i < 256) ∧ bytesAt W ad n f) := by
  obtain ⟨x, n, c, rfl⟩ := okWide_slice ht hval
  refine ⟨x, n, c, rfl, ?_⟩
  obtain ⟨fuel, hf⟩ := hd
  rcases open_ints ht he hc hf with ⟨h1, _⟩ | ⟨a, len, cap, zs, h1, _, hlc, hcm, hzl, _, hcell, hwf⟩
  · simp only [Value.cells, List.cons.injEq, Value.slice.injEq, and_true] at h1
    obtain ⟨_, rfl, _⟩ := h1
    exact ⟨by omega, .inl rfl⟩
  · simp only [Value.cells, List.cons.injEq, Value.slice.injEq, and_true] at h1
    obtain ⟨rfl, rfl, rfl⟩ := h1
    simp only [if_true] at hzl
    refine ⟨by simp only [maxLen] at hcm; omega, ?_⟩
    by_cases h0 : n = 0
    · exact .inl h0
    · right
      obtain ⟨b, off, rfl, _⟩ := ints_at hcell (by omega)
      have hb : ∀ i, i < zs.length → 0 ≤ zs.getD i 0 ∧ zs.getD i 0 ≤ 255 := fun i hi => bounds_u8 (by
        have := hwf zs[i] (List.getElem_mem hi)
        simpa [hi] using this)
      refine ⟨_, fun i => if i < zs.length then (zs.getD i 0).toNat else 0, rfl, fun i => ?_, rfl, fun i hi => ?_⟩
      · by_cases h : i < zs.length
        · have := hb i h
          simp only [h, if_true]
          omega
        · simp only [h, if_false]
          omega
      · have hi' : i < zs.length := by omega
        rw [hcell i hi']
        have := hb i hi'
        simp only [hi', if_true]
        rw [Int.toNat_of_nonneg this.1]
end Go.Ab
