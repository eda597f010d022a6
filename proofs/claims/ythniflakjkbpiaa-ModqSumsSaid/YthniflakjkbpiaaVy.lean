/-
  The laws of polynomials modulo m, in plain numbers.
-/
import Derived.Test.YthniflakjkbpiaaVw
import Derived.Test.YthniflakjkbpiaaQ3
namespace Go.Proofs.Ythniflakjkbpiaa
open Go Go.Ab
set_option linter.unusedSimpArgs false
set_option linter.unusedVariables false

/-! Try# Turned about -/
theorem msub_0 {m : Nat} (hm : 0 < m) (a b : Nat) : msub m a b = 0 ↔ msub m b a = 0 := by
  have ha := Nat.mod_lt a hm
  have hb := Nat.mod_lt b hm
  have key : ∀ x y : Nat, x < m → y < m → ((x + (m - y)) % m = 0 ↔ x = y) := fun x y hx hy => by
    by_cases h : y ≤ x
    · rw [show x + (m - y) = x - y + m by omega, Nat.add_mod_right, Nat.mod_eq_of_lt (by omega)]; omega
    · rw [Nat.mod_eq_of_lt (by omega)]; omega
  unfold msub
  rw [key _ _ ha hb, key _ _ hb ha]
  exact eq_comm
theorem sm1_iff {m : Nat} (l : Nat → Nat) (a : Nat) : ∀ n, sm1 m l a n = true ↔ ∃ j, j < n ∧ msub m a (l j) = 0
  | 0 => by show false = true ↔ _; simp
  | n + 1 => by
    show (sm1 m l a n || decide (msub m a (l n) = 0)) = true ↔ _
    rw [Bool.or_eq_true, sm1_iff l a n, decide_eq_true_eq]
    constructor
    · rintro (⟨j, h1, h2⟩ | h)
      · exact ⟨j, by omega, h2⟩
      · exact ⟨n, by omega, h⟩
    · rintro ⟨j, h1, h2⟩
      by_cases h : j = n
      · subst h; exact .inr h2
      · exact .inl ⟨j, by omega, h2⟩
theorem sm_iff {m : Nat} (l : Nat → Nat) : ∀ n, sm m l n = true ↔ ∃ i, i < n ∧ ∃ j, j < i ∧ msub m (l i) (l j) = 0
  | 0 => by show false = true ↔ _; simp
  | n + 1 => by
    show (sm m l n || sm1 m l (l n) n) = true ↔ _
    rw [Bool.or_eq_true, sm_iff l n, sm1_iff]
    constructor
    · rintro (⟨i, h1, h2⟩ | h)
      · exact ⟨i, by omega, h2⟩
      · exact ⟨n, by omega, h⟩
    · rintro ⟨i, h1, h2⟩
      by_cases h : i = n
      · subst h; exact .inr h2
      · exact .inl ⟨i, by omega, h2⟩
theorem sm_turn {m : Nat} (hm : 0 < m) (l l' : Nat → Nat) (n : Nat) (h : ∀ i, i < n → l' i = l (n - 1 - i)) : sm m l n = true → sm m l' n = true := by
  rw [sm_iff, sm_iff]
  rintro ⟨i, hi, j, hj, h0⟩
  refine ⟨n - 1 - j, by omega, n - 1 - i, by omega, ?_⟩
  rw [h _ (by omega), h _ (by omega), show n - 1 - (n - 1 - j) = j by omega, show n - 1 - (n - 1 - i) = i by omega]
  exact (msub_0 hm _ _).1 h0
section
variable {m : Nat} [NeZero m]
theorem sF_front {g : Nat → Fin m} : ∀ {n : Nat}, sF g (n + 1) = g 0 + sF (fun i => g (i + 1)) n
  | 0 => by show (0 : Fin m) + g 0 = g 0 + 0; grind
  | n + 1 => by
    have h := sF_front (g := g) (n := n)
    show sF g (n + 1) + g (n + 1) = g 0 + (sF (fun i => g (i + 1)) n + g (n + 1))
    rw [h]; grind
theorem sF_zero {g : Nat → Fin m} : ∀ {n : Nat}, (∀ i, i < n → g i = 0) → sF g n = 0
  | 0, _ => rfl
  | n + 1, h => by show sF g n + g n = 0; rw [sF_zero fun i hi => h i (by omega), h n (by omega)]; grind
theorem sumM_ph (l : Nat → Nat) : ∀ n, ph m (sumM m l n) = sF (fun i => ph m (l i)) n
  | 0 => rfl
  | n + 1 => by show ph m ((sumM m l n + l n) % m) = _ + _; rw [ph_mod, ph_add, sumM_ph l n]
theorem sumM_m (l : Nat → Nat) : ∀ n, sumM m l n < m
  | 0 => Nat.pos_of_ne_zero (NeZero.ne m)
  | n + 1 => Nat.mod_lt _ (Nat.pos_of_ne_zero (NeZero.ne m))
theorem hrn_step (l : Nat → Nat) (n a i : Nat) : ph m (hrn m l n a (i + 1)) = ph m (hrn m l n a i) * ph m a + ph m (l (n - 1 - i)) := by
  show ph m (((0 + hrn m l n a i * a % m) % m + l (n - 1 - i)) % m) = _
  rw [ph_mod, ph_add, ph_mod, Nat.zero_add, ph_mod, ph_mul]
theorem hrn_m (l : Nat → Nat) (n a : Nat) : ∀ i, hrn m l n a i < m
  | 0 => Nat.pos_of_ne_zero (NeZero.ne m)
  | i + 1 => sumM_m _ 2
theorem hrn_ph (l : Nat → Nat) (n a : Nat) : ∀ i, i ≤ n → ph m (hrn m l n a i) = sF (fun j => ph m (l (n - i + j)) * pw (ph m a) j) i
  | 0, _ => rfl
  | i + 1, h => by
    rw [hrn_step, hrn_ph l n a i (by omega), sF_front, ← sF_mul]
    have e : sF (fun j => ph m (l (n - i + j)) * pw (ph m a) j * ph m a) i = sF (fun j => ph m (l (n - (i + 1) + (j + 1))) * pw (ph m a) (j + 1)) i := sF_congr fun j hj => by
      rw [show n - (i + 1) + (j + 1) = n - i + j by omega]
      show _ = _ * (pw (ph m a) j * ph m a)
      grind
    rw [e, show n - (i + 1) + 0 = n - 1 - i by omega]
    show _ = ph m (l (n - 1 - i)) * 1 + _
    grind
theorem hrn_all (l : Nat → Nat) (n a : Nat) : ph m (hrn m l n a n) = sF (fun j => ph m (l j) * pw (ph m a) j) n := by
  rw [hrn_ph l n a n (Nat.le_refl n)]
  exact sF_congr fun j _ => by rw [Nat.sub_self, Nat.zero_add]
theorem pwr_ph (a : Nat) : ∀ i, ph m (pwr m a i) = pw (ph m a) i
  | 0 => rfl
  | i + 1 => by show ph m (pwr m a i * a % m) = _ * _; rw [ph_mod, ph_mul, pwr_ph a i]
theorem evr_ph (l : Nat → Nat) (a : Nat) : ∀ i, ph m (evr m l a i) = sF (fun j => ph m (l j) * pw (ph m a) j) i
  | 0 => rfl
  | i + 1 => by show ph m ((evr m l a i + l i * pwr m a i % m) % m) = _ + _; rw [ph_mod, ph_add, ph_mod, ph_mul, pwr_ph a i, evr_ph l a i]
theorem evr_m (l : Nat → Nat) (a : Nat) : ∀ i, evr m l a i < m
  | 0 => Nat.pos_of_ne_zero (NeZero.ne m)
  | i + 1 => Nat.mod_lt _ (Nat.pos_of_ne_zero (NeZero.ne m))
theorem values_law (l : Nat → Nat) (n a : Nat) : hrn m l n a n = evr m l a n :=
  ph_inj (by rw [hrn_all, evr_ph]) (hrn_m l n a n) (evr_m l a n)
theorem pw_0 : ∀ i, i ≠ 0 → pw (0 : Fin m) i = 0
  | 0, h => absurd rfl h
  | i + 1, _ => by show pw (0 : Fin m) i * 0 = 0; grind
theorem first_law (l : Nat → Nat) (n : Nat) : hrn m l n 0 n = if n = 0 then 0 else (l 0 + 0) % m := by
  by_cases h : n = 0
  · subst h; rfl
  · rw [if_neg h]
    obtain ⟨k, rfl⟩ := Nat.exists_eq_succ_of_ne_zero h
    refine ph_inj ?_ (hrn_m l _ 0 _) (Nat.mod_lt _ (Nat.pos_of_ne_zero (NeZero.ne m)))
    rw [hrn_all, ph_mod, Nat.add_zero, ph_0, sF_front, sF_zero fun i _ => by rw [pw_0 (i + 1) (by omega)]; grind]
    show ph m (l 0) * 1 + 0 = _
    grind
theorem tail_law (l l' : Nat → Nat) (n a : Nat) (h : ∀ i, i < n → l' i = l i) (h0 : l' n = 0) (h1 : l' (n + 1) = m) : hrn m l' (n + 2) a (n + 2) = hrn m l n a n := by
  refine ph_inj ?_ (hrn_m l' _ a _) (hrn_m l n a n)
  rw [hrn_all, hrn_all]
  show sF _ n + ph m (l' n) * pw (ph m a) n + ph m (l' (n + 1)) * pw (ph m a) (n + 1) = _
  rw [h0, h1, ph_self, ph_0, sF_congr (g := fun j => ph m (l j) * pw (ph m a) j) fun i hi => by rw [h i hi]]
  grind
/-- As far as a list goes. -/
def upto (l : Nat → Nat) (n i : Nat) : Nat := if i < n then l i else 0
theorem upto_sF (l : Nat → Nat) (n a : Nat) : ∀ N, n ≤ N → sF (fun j => ph m (upto l n j) * pw (ph m a) j) N = sF (fun j => ph m (l j) * pw (ph m a) j) n := by
  intro N hN
  induction N with
  | zero => rw [show n = 0 by omega]; rfl
  | succ N ih =>
    by_cases h : n = N + 1
    · subst h
      exact sF_congr fun i hi => by unfold upto; rw [if_pos hi]
    · show sF _ N + ph m (upto l n N) * pw (ph m a) N = _
      rw [ih (by omega)]
      unfold upto
      rw [if_neg (by omega), ph_0]
      grind
theorem sums_law (l k b : Nat → Nat) (n p N a : Nat) (hn : n ≤ N) (hp : p ≤ N) (hb : ∀ i, i < N → b i % m = (upto l n i + upto k p i) % m) :
    hrn m b N a N = (hrn m l n a n + hrn m k p a p) % m := by
  refine ph_inj ?_ (hrn_m b N a N) (Nat.mod_lt _ (Nat.pos_of_ne_zero (NeZero.ne m)))
  rw [ph_mod, ph_add, hrn_all, hrn_all, hrn_all, ← upto_sF l n a N hn, ← upto_sF k p a N hp, ← sF_add]
  refine sF_congr fun i hi => ?_
  have h : ph m (b i) = ph m (upto l n i) + ph m (upto k p i) := by rw [← ph_add, ← ph_mod (b i), hb i hi, ph_mod]
  rw [h]; grind
theorem by_law (l t : Nat → Nat) (n a y : Nat) (ht : ∀ i, i < n → t i = l i * y % m) : hrn m t n a n = hrn m l n a n * y % m := by
  refine ph_inj ?_ (hrn_m t n a n) (Nat.mod_lt _ (Nat.pos_of_ne_zero (NeZero.ne m)))
  rw [ph_mod, ph_mul, hrn_all, hrn_all, ← sF_mul]
  exact sF_congr fun i hi => by rw [ht i hi, ph_mod, ph_mul]; grind
theorem apart_of (hm : 1 < m) (l : Nat → Nat) (n : Nat) (h : WE m l n = 0) : (∀ i, i < n → wgE m l n i = 0) ∧ ∀ i k, i < n → k < n → i ≠ k → (ph m (l k) - ph m (l i)) * vv m l i k = 1 := by
  have h1 : wE m l n n = 0 := by
    unfold WE at h
    split at h
    · cases h
    · exact h
  have h2 := (wE_all l n n).1.1 h1
  refine ⟨h2, fun i k hi hk hik => ?_⟩
  have h3 := inv_mul ((wgE_0 hm l n i).1 (h2 i hi) k hk (Ne.symm hik))
  rw [ph_msub] at h3
  exact h3
theorem ones_law (hm : 1 < m) (l : Nat → Nat) (n : Nat) (h : WE m l n = 0) (hn : n ≠ 0) : sumM m (wgt m l n) n = 1 := by
  obtain ⟨h1, h2⟩ := apart_of hm l n h
  refine ph_inj ?_ (sumM_m _ n) hm
  rw [sumM_ph, sF_congr fun i hi => wgt_fW hm l n i (h1 i hi), ph_1]
  exact all_one (X := fun k => ph m (l k)) (v := vv m l) hn h2
theorem tells_law (hm : 1 < m) (p c : Nat → Nat) (n d : Nat) (hd : d ≤ n) (hp : ∀ i, i < n → py p i = hrn m c d (px p i) d) (h : WE m (px p) n = 0) : atz m p n = if d = 0 then 0 else (c 0 + 0) % m := by
  obtain ⟨h1, h2⟩ := apart_of hm (px p) n h
  rw [atz_0 h]
  refine ph_inj ?_ (sumM_m _ n) (by split; omega; exact Nat.mod_lt _ (by omega))
  rw [sumM_ph]
  have e : sF (fun i => ph m (prt m p n i)) n = sF (fun i => sF (fun j => (fun j => ph m (c j)) j * pw ((fun k => ph m (px p k)) i) j) d * fW (rr m (px p)) i n) n := sF_congr fun i hi => by
    show ph m (py p i * wgt m (px p) n i % m) = _
    rw [ph_mod, ph_mul, wgt_fW hm _ n i (h1 i hi), hp i hi, hrn_all]
  rw [e]
  refine (at_zero (X := fun k => ph m (px p k)) (v := vv m (px p)) h2 (fun j => ph m (c j)) d hd).trans ?_
  by_cases h0 : d = 0
  · rw [if_pos h0, if_pos h0]; rfl
  · rw [if_neg h0, if_neg h0, ph_mod, Nat.add_zero]
theorem wE_turn (hm : 1 < m) (l l' : Nat → Nat) (n : Nat) (h : ∀ i, i < n → l' i = l (n - 1 - i)) : wE m l n n = 0 → wE m l' n n = 0 := by
  rw [(wE_all l n n).1, (wE_all l' n n).1]
  intro H i hi
  rw [wgE_0 hm]
  intro k hk hki
  rw [h i hi, h k hk]
  exact (wgE_0 hm l n _).1 (H (n - 1 - i) (by omega)) (n - 1 - k) (by omega) (by omega)
theorem WE_turn (hm : 1 < m) (l l' : Nat → Nat) (n : Nat) (h : ∀ i, i < n → l' i = l (n - 1 - i)) : WE m l' n = WE m l n := by
  have h' : ∀ i, i < n → l i = l' (n - 1 - i) := fun i hi => by rw [h _ (by omega), show n - 1 - (n - 1 - i) = i by omega]
  have h1 := sm_turn (m := m) (by omega) l l' n h
  have h2 := sm_turn (m := m) (by omega) l' l n h'
  have hs : sm m l' n = sm m l n := by
    cases hA : sm m l n with
    | true => exact h1 hA
    | false =>
      cases hB : sm m l' n with
      | true => rw [h2 hB] at hA; exact hA
      | false => rfl
  have hw : wE m l' n n = wE m l n n := by
    have a1 := wE_turn (m := m) hm l l' n h
    have a2 := wE_turn (m := m) hm l' l n h'
    rcases (wE_all (m := m) l n n).2 with e | e
    · rw [e]; exact a1 e
    · rcases (wE_all (m := m) l' n n).2 with e' | e'
      · have := a2 e'; rw [e] at this; cases this
      · rw [e, e']
  unfold WE
  rw [hs, hw]
theorem atz_turn (hm : 1 < m) (p p' : Nat → Nat) (n : Nat) (hx : ∀ i, i < n → px p' i = px p (n - 1 - i)) (hy : ∀ i, i < n → py p' i = py p (n - 1 - i)) : atz m p' n = atz m p n := by
  have hW := WE_turn hm (px p) (px p') n hx
  by_cases h : WE m (px p) n = 0
  · have h' := hW.trans h
    obtain ⟨h1, _⟩ := apart_of hm (px p) n h
    obtain ⟨h1', _⟩ := apart_of hm (px p') n h'
    rw [atz_0 h, atz_0 h']
    refine ph_inj ?_ (sumM_m _ n) (sumM_m _ n)
    rw [sumM_ph, sumM_ph]
    have e : sF (fun i => ph m (prt m p n i)) n = sF (fun i => (fun i => ph m (py p i)) i * fW (rr m (px p)) i n) n := sF_congr fun i hi => by
      show ph m (py p i * wgt m (px p) n i % m) = _
      rw [ph_mod, ph_mul, wgt_fW hm _ n i (h1 i hi)]
    rw [e, ← turned]
    refine sF_congr fun i hi => ?_
    show ph m (py p' i * wgt m (px p') n i % m) = _
    rw [ph_mod, ph_mul, wgt_fW hm _ n i (h1' i hi), hy i hi]
    have e2 : ∀ k, k ≤ n → fW (rr m (px p')) i k = fW (fun i k => rr m (px p) (n - 1 - i) (n - 1 - k)) i k := by
      intro k
      induction k with
      | zero => intro _; rfl
      | succ k ih =>
        intro hk
        show ite _ _ _ = ite _ _ _
        rw [ih (by omega)]
        split
        · rfl
        · unfold rr vv
          rw [hx i hi, hx k (by omega)]
    rw [e2 n (Nat.le_refl n)]
  · rw [atz_e h, atz_e (by rw [hW]; exact h)]
end
end Go.Proofs.Ythniflakjkbpiaa
