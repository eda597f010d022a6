/-
  Texts laid together: Fm, Fm2.
  A law's argument that is a slice of numbers, or of points: words in a row.
  A law's argument that is a slice of factors, a proof, or a slice of proofs.
-/
import Derived.ProofKit
import Derived.Below
import Derived.ChangeSame
import Derived.OpenShut
import Derived.ChangeSlices
import Derived.Test.YtdmcknmjdlghgaaGreatDoorV01
import Derived.Test.YtdmcknmjdlghgaaGreatDoorV02
import Derived.Test.YtdmcknmjdlghgaaGreatDoorV03
import Derived.Test.YtdmcknmjdlghgaaGreatDoorV05
import Derived.Test.YtdmcknmjdlghgaaGreatDoorV06
import Derived.Test.YtdmcknmjdlghgaaGreatDoorV07
/-
  The frame of a law: what an argument reads stays as it read; words by value, read as numbers.
-/
namespace Go.Ab
open Go Go.ChangeShapes Go.WideShapes Go.ChangeAt Go.RowKit
set_option linter.unusedSimpArgs false
set_option linter.unusedVariables false
section
variable {H : Type} {enc : TypeId × Value → H} {P : Program}
theorem trodAll_stays (hl : laidOutB P = true) {W W' : World} (hb : Below W.heap.size W W') {sp' : Nat → Bool} : ∀ {ts : List TypeId} {vs : List Value} {ds : List (DataW H)} {ps : List MemPlace},
    (∀ t ∈ ts, P.readableRec t = true ∧ t < P.types.size) → DataW.TrodAll enc P W 0 (fun _ => true) true ts vs ds ps → (∀ p ∈ ps, p.block < W.heap.size) → (∀ p ∈ ps, sp' p.block = true) →
    DataW.TrodAll enc P W' 0 sp' true ts vs ds ps
  | [], [], [], _, _, h, _, _ => h
  | _ :: _, _ :: _, _ :: _, _, hT, ⟨p, q, h1, h2, e⟩, hlt, hs =>
    ⟨p, q, WideElems.Trod_stays hl (hT _ (List.mem_cons.2 (Or.inl rfl))).1 (hT _ (List.mem_cons.2 (Or.inl rfl))).2 h1 (fun x hx => hb.same (hlt x (by rw [e]; exact List.mem_append_left _ hx))) (fun x hx => hs x (by rw [e]; exact List.mem_append_left _ hx)),
      trodAll_stays hl hb (fun t ht => hT t (List.mem_cons.2 (Or.inr ht))) h2 (fun x hx => hlt x (by rw [e]; exact List.mem_append_right _ hx)) (fun x hx => hs x (by rw [e]; exact List.mem_append_right _ hx)), e⟩
theorem post_of_below {f : Func} {s : ChangeSpec} {apart fresh handsOn again : Bool} {W W' : World} {args : Array Value} {v : Value} {ds gs : List (DataW H)} {before pa pv : List MemPlace}
    (hW : DataW.Whole enc P f.params.toList s.vars apart W args.toList ds gs before)
    (hres : ∀ (b : Nat) (sp : Nat → Bool) (hd : Bool), DataW.TrodAll enc P W' b sp hd f.resultTypes.toList (v.resultList f.resultTypes.size) (s.fn H (ds ++ gs)).results [])
    (hargs : ∀ sp : Nat → Bool, (∀ p ∈ before, sp p.block = true) → DataW.TrodAll enc P W' 0 sp true f.params.toList args.toList (s.fn H (ds ++ gs)).args pa)
    (hvars : ∀ sp : Nat → Bool, (∀ p ∈ before, sp p.block = true) → DataW.TrodVars enc P W' sp s.vars (s.fn H (ds ++ gs)).vars pv)
    (hps : before = pa ++ pv) (hb : Below W.heap.size W W')
    (hok : ∀ (j : Nat) (t : TypeId) (r : Value), f.resultTypes[j]? = some t → (v.resultList f.resultTypes.size)[j]? = some r → Value.okWide P W' .any 0 t r) :
    s.post enc P f apart fresh handsOn again W args v W' := by
  have hlt : ∀ p ∈ before, p.block < W.heap.size := fun p hp => hW.lt p hp
  have hold : ∀ p ∈ before, (fun b => decide (b < W.heap.size)) p.block = true := fun p hp => by simpa using hlt p hp
  refine ⟨ds, gs, before, [], pa, pv, hW, hres _ _ _, hargs _ hold, hvars _ hold, World.keptBut_mono (fun p hp => ⟨hp, ?_⟩) (hb.frame (· ∈ before)), fun _ => ?_⟩
  · rw [hps, List.mem_append] at hp
    exact Or.inr hp
  · obtain ⟨_, _, _, _, _, hz, hn⟩ := hW
    refine ⟨hok, _, _, ([] ++ pa) ++ pv, ⟨[] ++ pa, pv, trodAll_append (hargs _ (fun _ _ => rfl)) (hres _ _ _), hvars _ (fun _ _ => rfl), rfl, ?_, ?_⟩, ?_⟩
    · intro b off hp
      have hin : MemPlace.cell b off ∈ before := by rw [hps]; simpa using hp
      rw [hb.frozen (hlt _ hin)]
      exact hz b off hin
    · intro ha
      have := hn ha
      rw [hps] at this
      simpa using this
    · intro p hp _
      rw [hps]
      simpa using hp
theorem trodAll_len : ∀ {W : World} {b : Nat} {sp : Nat → Bool} {hd : Bool} {ts : List TypeId} {vs : List Value} {ds : List (DataW H)} {ps : List MemPlace}, DataW.TrodAll enc P W b sp hd ts vs ds ps → ds.length = ts.length ∧ vs.length = ts.length
  | _, _, _, _, [], [], [], _, _ => ⟨rfl, rfl⟩
  | _, _, _, _, _ :: _, _ :: _, _ :: _, _, ⟨p, q, h1, h2, e⟩ => by
    obtain ⟨h3, h4⟩ := trodAll_len h2
    exact ⟨by simp [h3], by simp [h4]⟩
end
/-! Tryz# Words by value, read as numbers -/
def wsum (g : Nat → Nat) : Nat → Nat
  | 0 => 0
  | n + 1 => wsum g n + g n * 2 ^ (64 * n)
theorem wsum_lt (g : Nat → Nat) (hg : ∀ i, g i < 18446744073709551616) : ∀ n, wsum g n < 2 ^ (64 * n)
  | 0 => by simp [wsum]
  | n + 1 => by
    have h := wsum_lt g hg n
    have h2 : g n * 2 ^ (64 * n) ≤ 18446744073709551615 * 2 ^ (64 * n) := Nat.mul_le_mul_right _ (by have := hg n; omega)
    rw [P_succ]
    simp only [wsum]
    omega
theorem wd_wsum (g : Nat → Nat) (hg : ∀ i, g i < 18446744073709551616) : ∀ n i, i < n → wd (wsum g n) i = g i
  | n + 1, i, h => by
    simp only [wsum]
    by_cases h1 : i = n
    · subst h1
      rw [wd_eq, Nat.mul_comm (g i), Nat.add_mul_div_left _ _ (Nat.two_pow_pos _), Nat.div_eq_of_lt (wsum_lt g hg i), Nat.zero_add, Nat.mod_eq_of_lt (hg i)]
    · rw [wd_add_high _ _ _ _ (by omega), wd_wsum g hg n i (by omega)]
section
variable {H : Type} {enc : TypeId × Value → H} {P : Program} {W : World} {base b0 : Nat} {sp : Nat → Bool} {held : Bool} {r : Reach} {t e n : Nat} {v : Value} {d : DataW H} {ps : List MemPlace}
end
end Go.Ab
/-
  A law's argument that is a slice of bytes.
-/
namespace Go.Ab
open Go Go.ChangeShapes Go.WideShapes Go.ChangeAt Go.RowKit
set_option linter.unusedSimpArgs false
set_option linter.unusedVariables false
end Go.Ab
namespace Go.Ab
open Go Go.ChangeShapes Go.WideShapes Go.ChangeAt Go.RowKit
set_option linter.unusedSimpArgs false
set_option linter.unusedVariables false
def Words (P : Program) (t n : Nat) : Prop :=
  P.cellsOf t = n ∧ ∀ (H : Type) (enc : TypeId × Value → H) (W : World) (base : Nat) (sp : Nat → Bool) (held : Bool) (fuel : Nat) (cs : List Value) (x : DataW H × List MemPlace),
    DataW.trod enc P W base sp held fuel t cs = some x → cs.length = n ∧ ∀ i, i < n → ∃ z : Nat, z < 18446744073709551616 ∧ cs[i]? = some (.int .u64 (z : Int))
theorem words_array {P : Program} {t e n : Nat} (ht : P.underlying t = some (.array n e)) (he : P.underlying e = some (.int .u64)) (hc : P.cellsOf t = n) (hce : P.cellsOf e = 1) : Words P t n := by
  refine ⟨hc, fun H enc W base sp held fuel cs x hf => ?_⟩
  obtain ⟨xs, m, _, _, hl, hxl, hi⟩ := DataW.trod_array ht hf
  rw [hc] at hl
  refine ⟨hl, fun i hin => ?_⟩
  have h1 := hi i hin
  rw [hce, Nat.mul_one] at h1
  rw [List.getElem?_eq_getElem (by omega)] at h1
  obtain ⟨z, ez, _, wz⟩ := DataW.trod_int he h1
  have hb := bounds_u64 wz
  obtain ⟨z, rfl⟩ := Int.eq_ofNat_of_zero_le hb.1
  refine ⟨z, by omega, ?_⟩
  have h2 := congrArg (·[0]?) ez
  simpa [List.getElem?_take, List.getElem?_drop] using h2
theorem open_row {H : Type} {enc : TypeId × Value → H} {P : Program} {W : World} {base b0 q : Nat} {r : Reach} {t e : Nat} {v : Value} {d : DataW H} {ps : List MemPlace} {V : Evo}
    (ht : P.underlying t = some (.slice e)) (he : Words P e (4 * q)) (hq : 0 < q) (hval : Value.okWide P W r b0 t v) (hd : DataW.Trod enc P W base (fun _ => true) true t v d ps) :
    ∃ (x : Option Addr) (n c : Nat) (l : Nat → Nat), v = .slice x n c ∧ n < 9223372036854775808 ∧ n ≤ c ∧ (∀ i, l i < 2 ^ 256) ∧ natsAt V x (q * n) l W.heap.size W := by
  obtain ⟨x, n, c, rfl⟩ := okWide_slice ht hval
  obtain ⟨fuel, hf⟩ := hd
  rcases DataW.trod_slice ht hf with ⟨h1, _⟩ | ⟨a, len, cap, elems, rest, fu, _, h1, _, hb, hlc, hcm, hel, hi, _, _⟩
  · simp only [Value.cells, List.cons.injEq, Value.slice.injEq, and_true] at h1
    obtain ⟨_, rfl, rfl⟩ := h1
    exact ⟨x, 0, 0, fun _ => 0, rfl, by decide, Nat.le_refl _, fun _ => by show 0 < 2 ^ 256; decide, .inl (Nat.mul_zero q)⟩
  · simp only [Value.cells, List.cons.injEq, Value.slice.injEq, and_true] at h1
    obtain ⟨rfl, rfl, rfl⟩ := h1
    have cell : ∀ i k, i < n → k < 4 * q → ∃ z : Nat, z < 18446744073709551616 ∧ W.cell? ((a.add (i * (4 * q))).add k) = some (.int .u64 (z : Int)) := by
      intro i k hin hk
      have h2 := hi i hin
      rw [List.getElem?_eq_getElem (by omega), Option.bind_eq_some_iff, he.1] at h2
      obtain ⟨cs, hcs, htr⟩ := h2
      obtain ⟨_, hw⟩ := he.2 _ _ _ _ _ _ _ _ _ htr
      obtain ⟨z, hz, hcz⟩ := hw _ hk
      unfold World.cells? at hcs
      split at hcs
      · have h3 := mapM_some_get hcs k k (by rw [List.getElem?_range hk])
        exact ⟨z, hz, h3.trans hcz⟩
      · cases hcs
    by_cases h0 : n = 0
    · subst h0
      exact ⟨_, 0, c, fun _ => 0, rfl, by decide, hlc, fun _ => by show 0 < 2 ^ 256; decide, .inl (Nat.mul_zero q)⟩
    obtain ⟨z0, _, hz0⟩ := cell 0 0 (by omega) (by omega)
    have hsp := World.cell?_spot hz0
    obtain ⟨b, o, s⟩ := a
    have hs : s = none := by simpa [Addr.add] using hsp
    subst hs
    have key : ∀ j, j < 4 * (q * n) → ∃ z : Nat, z < 18446744073709551616 ∧ W.cell? ⟨b, o + j, none⟩ = some (.int .u64 (z : Int)) := by
      intro j hj
      have hdm := Nat.div_add_mod j (4 * q)
      have hm := Nat.mod_lt j (show 0 < 4 * q by omega)
      have hin : j / (4 * q) < n := by
        rw [Nat.div_lt_iff_lt_mul (by omega)]
        have : n * (4 * q) = 4 * (q * n) := by rw [Nat.mul_comm n, Nat.mul_assoc]
        omega
      obtain ⟨z, hz, h3⟩ := cell _ _ hin hm
      refine ⟨z, hz, ?_⟩
      rw [addr_add, addr_add] at h3
      rw [show o + j = o + j / (4 * q) * (4 * q) + j % (4 * q) by rw [Nat.mul_comm (j / (4 * q))]; omega]
      exact h3
    let g : Nat → Nat := fun i => if h : i < 4 * (q * n) then (key i h).choose else 0
    have hg : ∀ i, g i < 18446744073709551616 := by
      intro i
      by_cases h : i < 4 * (q * n)
      · simp only [g, h, dite_true]; exact (key i h).choose_spec.1
      · simp only [g, h, dite_false]; decide
    have hgc : ∀ i, i < 4 * (q * n) → W.cell? ⟨b, o + i, none⟩ = some (.int .u64 (g i : Int)) := by
      intro i h
      simp only [g, h, dite_true]; exact (key i h).choose_spec.2
    have h00 := hgc 0 (by have := Nat.mul_pos hq (Nat.pos_of_ne_zero h0); omega)
    have hcl : ∃ cc t f, W.heap[b]? = some (.cells cc t f) := by
      unfold World.cell? at h00
      split at h00
      · rename_i cc t f hk; exact ⟨cc, t, f, hk⟩
      · cases h00
    obtain ⟨cc, tt, ff, hk⟩ := hcl
    refine ⟨_, n, c, fun i => wsum (fun k => g (4 * i + k)) 4, rfl, by simp only [maxLen] at hcm; omega, hlc, fun i => wsum_lt _ (fun k => hg _) 4, .inr ⟨_, rfl, rfl, cc, tt, ff, hk, .inl (Array.getElem?_eq_some_iff.1 hk).1, fun i hin => ?_⟩⟩
    have h1 := hgc i hin
    unfold World.cell? at h1
    simp only [hk] at h1
    rw [show natsG (fun i => wsum (fun k => g (4 * i + k)) 4) i = .int .u64 (g i : Int) by
      unfold natsG
      rw [wd_wsum _ (fun k => hg _) 4 _ (Nat.mod_lt _ (by decide)), show 4 * (i / 4) + i % 4 = i by omega]]
    exact h1
def Cells (P : Program) (t n : Nat) (G : World → List Value → Prop) : Prop :=
  P.cellsOf t = n ∧ ∀ (H : Type) (enc : TypeId × Value → H) (W : World) (base : Nat) (sp : Nat → Bool) (held : Bool) (fuel : Nat) (cs : List Value) (x : DataW H × List MemPlace),
    DataW.trod enc P W base sp held fuel t cs = some x → cs.length = n ∧ G W cs
theorem cells_int {P : Program} {t : Nat} (ht : P.underlying t = some (.int .i64)) (hc : P.cellsOf t = 1) : Cells P t 1 fun _ cs => ∃ z : Int, (-9223372036854775808 ≤ z ∧ z < 9223372036854775808) ∧ cs = [.int .i64 z] := by
  refine ⟨hc, fun H enc W base sp held fuel cs x hx => ?_⟩
  obtain ⟨z, ez, _, wz⟩ := DataW.trod_int ht hx
  have hb := bounds_i64 wz
  refine ⟨by rw [ez]; rfl, z, by omega, ez⟩
theorem cells_slice {P : Program} {t e q : Nat} {G : World → List Value → Prop} (ht : P.underlying t = some (.slice e)) (he : Cells P e q G) (hq : 0 < q) (hct : P.cellsOf t = 1) : Cells P t 1 fun W cs => ∃ (y : Option Addr) (n c : Nat), cs = [.slice y n c] ∧ n < 9223372036854775808 ∧ n ≤ c ∧
    (n = 0 ∨ ∃ ad, y = some ad ∧ ad.spot = none ∧ ∃ cc tt ff, W.heap[ad.block]? = some (.cells cc tt ff) ∧ ∀ i, i < n → ∃ l, G W l ∧ l.length = q ∧ ∀ k, k < q → cc[ad.off + (i * q + k)]? = l[k]?) := by
  refine ⟨hct, fun H enc W base sp held fuel cs x hf => ?_⟩
  rcases DataW.trod_slice ht hf with ⟨h1, _⟩ | ⟨a, len, cap, elems, rest, fu, _, h1, _, hb, hlc, hcm, hel, hi, _, _⟩
  · exact ⟨by rw [h1]; rfl, _, 0, 0, h1, by decide, Nat.le_refl _, .inl rfl⟩
  · refine ⟨by rw [h1]; rfl, some a, len, cap, h1, by simp only [maxLen] at hcm; omega, hlc, ?_⟩
    by_cases h0 : len = 0
    · exact .inl h0
    · have cell : ∀ i, i < len → ∃ l, G W l ∧ l.length = q ∧ ∀ k, k < q → W.cell? ((a.add (i * q)).add k) = l[k]? := by
        intro i hin
        have h2 := hi i hin
        rw [List.getElem?_eq_getElem (by omega), Option.bind_eq_some_iff, he.1] at h2
        obtain ⟨cs, hcs, htr⟩ := h2
        obtain ⟨hl, hG⟩ := he.2 _ _ _ _ _ _ _ _ _ htr
        refine ⟨cs, hG, hl, fun k hk => ?_⟩
        unfold World.cells? at hcs
        split at hcs
        · have h3 := mapM_some_get hcs k k (by rw [List.getElem?_range hk])
          exact h3
        · cases hcs
      obtain ⟨l0, _, hl0, hc0⟩ := cell 0 (by omega)
      have hz0 := hc0 0 hq
      rw [List.getElem?_eq_getElem (by omega)] at hz0
      have hsp := World.cell?_spot hz0
      obtain ⟨b, o, s⟩ := a
      have hs : s = none := by simpa [Addr.add] using hsp
      subst hs
      have hcl : ∃ cc t f, W.heap[b]? = some (.cells cc t f) := by
        rw [addr_add, addr_add] at hz0
        unfold World.cell? at hz0
        split at hz0
        · rename_i cc t f hk; exact ⟨cc, t, f, hk⟩
        · cases hz0
      obtain ⟨cc, tt, ff, hk⟩ := hcl
      refine .inr ⟨_, rfl, rfl, cc, tt, ff, hk, fun i hin => ?_⟩
      obtain ⟨l, hG, hl, hc⟩ := cell i hin
      refine ⟨l, hG, hl, fun k hk2 => ?_⟩
      have h3 := hc k hk2
      rw [addr_add, addr_add] at h3
      unfold World.cell? at h3
      simp only [hk] at h3
      rw [← Nat.add_assoc]
      exact h3
/-! Tryz# Factors and proofs -/
structure PrfOk (W : World) (p : Pf) : Prop where
  N : p.N < 2 ^ 256
  G : p.G < 2 ^ 256
  P : ∀ k, p.P k < 2 ^ 256
  E : ∀ k, -9223372036854775808 ≤ p.E k ∧ p.E k < 9223372036854775808
  n : p.n < 9223372036854775808
  c : p.n ≤ p.c
  f : facs p.y p.n p.P p.E W
end Go.Ab
