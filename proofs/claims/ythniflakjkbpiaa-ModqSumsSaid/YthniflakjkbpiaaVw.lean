/-
  What is reckoned modulo m, in the numbers modulo m.
-/
import Derived.Test.YthniflakjkbpiaaR4
import Derived.Test.YthniflakjkbpiaaVq
namespace Go.Proofs.Ythniflakjkbpiaa
open Go Go.Ab
set_option linter.unusedSimpArgs false
set_option linter.unusedVariables false

/-- A number, modulo m. -/
def ph (m : Nat) [NeZero m] (x : Nat) : Fin m := Fin.ofNat m x
section
variable {m : Nat} [NeZero m]
theorem ph_val (x : Nat) : (ph m x).val = x % m := rfl
theorem ph_mod (x : Nat) : ph m (x % m) = ph m x := Fin.ext (Nat.mod_mod x m)
theorem ph_mul (x y : Nat) : ph m (x * y) = ph m x * ph m y := Fin.ext (by rw [Fin.val_mul, ph_val, ph_val, ph_val, ← Nat.mul_mod])
theorem ph_add (x y : Nat) : ph m (x + y) = ph m x + ph m y := Fin.ext (by rw [Fin.val_add, ph_val, ph_val, ph_val, ← Nat.add_mod])
theorem ph_eq {x y : Nat} (h : ph m x = ph m y) : x % m = y % m := congrArg Fin.val h
theorem ph_inj {x y : Nat} (h : ph m x = ph m y) (hx : x < m) (hy : y < m) : x = y := by rw [← Nat.mod_eq_of_lt hx, ← Nat.mod_eq_of_lt hy, ph_eq h]
theorem ph_0 : ph m 0 = 0 := rfl
theorem ph_1 : ph m 1 = 1 := rfl
theorem ph_self : ph m m = 0 := Fin.ext (by rw [ph_val, Nat.mod_self]; rfl)
theorem ph_msub (x y : Nat) : ph m (msub m x y) = ph m x - ph m y := by
  have h : ph m (msub m x y) + ph m y = ph m x := by
    rw [← ph_add]
    refine Fin.ext ?_
    rw [ph_val, ph_val]
    have hp : 0 < m := Nat.pos_of_ne_zero (NeZero.ne m)
    have hy := Nat.mod_lt y hp
    unfold msub
    rw [Nat.mod_add_mod, Nat.add_mod, show (x % m + (m - y % m)) % m = (x % m + (m - y % m)) % m from rfl, ← Nat.add_mod]
    have e : (x % m + (m - y % m) + y) % m = (x % m + (m - y % m) + y % m) % m := cg_add rfl (cg_mod _ _).symm
    rw [e, show x % m + (m - y % m) + y % m = x % m + m by omega, Nat.add_mod_right, Nat.mod_mod]
  rw [← h]
  grind
/-- Can be divided by. -/
def Un (x : Fin m) : Prop := ∃ y, x * y = 1
theorem egc_spec (a : Nat) : ∀ (rest last s t : Nat), ph m last = ph m s * ph m a → ph m rest = ph m t * ph m a →
    (egc m last rest s t).1 = Nat.gcd last rest ∧ ph m (egc m last rest s t).1 = ph m (egc m last rest s t).2 * ph m a := by
  intro rest
  induction rest using Nat.strongRecOn with
  | ind rest ih =>
    intro last s t hl hr
    by_cases h0 : rest = 0
    · subst h0
      rw [egc_zero]
      exact ⟨(Nat.gcd_zero_right last).symm, hl⟩
    · rw [egc_step _ _ _ _ _ h0]
      have h1 : ph m (last % rest) = ph m (msub m s (last / rest * t % m)) * ph m a := by
        rw [ph_msub, ph_mod, ph_mul]
        have e : ph m last = ph m rest * ph m (last / rest) + ph m (last % rest) := by
          rw [← ph_mul, ← ph_add, Nat.div_add_mod]
        grind
      obtain ⟨g1, g2⟩ := ih _ (Nat.mod_lt _ (Nat.pos_of_ne_zero h0)) rest t _ hr h1
      refine ⟨?_, g2⟩
      rw [g1, Nat.gcd_comm rest, ← Nat.gcd_rec, Nat.gcd_comm]
theorem inv_spec (a : Nat) : ((invE m a = 0 ∧ Nat.gcd m a = 1) ∧ ph m a * ph m (inv m a) = 1) ∨ (invE m a = 11 ∧ Nat.gcd m a ≠ 1) := by
  obtain ⟨g1, g2⟩ := egc_spec (m := m) a (a % m) m 0 1 (by rw [ph_self, ph_0]; grind) (by rw [ph_mod, ph_1]; grind)
  have hg : (egc m m (a % m) 0 1).1 = Nat.gcd m a := by
    rw [g1, Nat.gcd_comm m (a % m), ← Nat.gcd_rec]
  by_cases h : (egc m m (a % m) 0 1).1 = 1
  · refine .inl ⟨⟨if_pos h, hg ▸ h⟩, ?_⟩
    have hi : inv m a = (egc m m (a % m) 0 1).2 := if_pos h
    rw [h, ph_1] at g2
    rw [hi, g2]
    grind
  · exact .inr ⟨if_neg h, hg ▸ h⟩
theorem un_gcd {a : Nat} (hm : 1 < m) (h : Un (ph m a)) : Nat.gcd m a = 1 := by
  obtain ⟨y, hy⟩ := h
  have h1 : a * y.val % m = 1 := by
    have h2 : (ph m a * y).val = (1 : Fin m).val := congrArg Fin.val hy
    rw [Fin.val_mul, ph_val] at h2
    rw [Nat.mod_mul_mod] at h2
    rw [h2]
    show 1 % m = 1
    exact Nat.mod_eq_of_lt hm
  have hd1 : Nat.gcd m a ∣ a * y.val := Nat.dvd_trans (Nat.gcd_dvd_right m a) (Nat.dvd_mul_right a y.val)
  have hd2 : Nat.gcd m a ∣ a * y.val % m := (Nat.dvd_mod_iff (Nat.gcd_dvd_left m a)).2 hd1
  rw [h1] at hd2
  exact Nat.dvd_one.1 hd2
theorem inv_0 {a : Nat} (hm : 1 < m) : invE m a = 0 ↔ Un (ph m a) := by
  rcases inv_spec (m := m) a with ⟨⟨h, _⟩, h2⟩ | ⟨h, h2⟩
  · exact ⟨fun _ => ⟨_, h2⟩, fun _ => h⟩
  · rw [h]
    exact ⟨fun h => absurd h (by decide), fun hu => absurd (un_gcd hm hu) h2⟩
theorem inv_11 {a : Nat} (h : invE m a ≠ 0) : invE m a = 11 := by
  rcases inv_spec (m := m) a with ⟨⟨h', _⟩, _⟩ | ⟨h', _⟩
  · exact absurd h' h
  · exact h'
theorem inv_mul {a : Nat} (h : invE m a = 0) : ph m a * ph m (inv m a) = 1 := by
  rcases inv_spec (m := m) a with ⟨_, h2⟩ | ⟨h', _⟩
  · exact h2
  · rw [h] at h'; cases h'
theorem Un.mul {x y : Fin m} (h : Un x) (h' : Un y) : Un (x * y) := by
  obtain ⟨a, ha⟩ := h
  obtain ⟨b, hb⟩ := h'
  exact ⟨a * b, by grind⟩
theorem Un.left {x y : Fin m} (h : Un (x * y)) : Un x := by
  obtain ⟨a, ha⟩ := h
  exact ⟨y * a, by grind⟩
theorem Un.right {x y : Fin m} (h : Un (x * y)) : Un y := by
  obtain ⟨a, ha⟩ := h
  exact ⟨x * a, by grind⟩
theorem un_one : Un (1 : Fin m) := ⟨1, by grind⟩
/-- What the weight of i has of place k. -/
def vv (m : Nat) [NeZero m] (l : Nat → Nat) (i k : Nat) : Fin m := ph m (inv m (msub m (l k) (l i)))
def rr (m : Nat) [NeZero m] (l : Nat → Nat) (i k : Nat) : Fin m := ph m (l k) * vv m l i k
theorem up_fW (l : Nat → Nat) (i : Nat) : ∀ k, ph m (upN m l i k) = fW (fun _ k => ph m (l k)) i k
  | 0 => rfl
  | k + 1 => by
    show ph m (ite _ _ _) = ite _ _ _
    split
    · exact up_fW l i k
    · rw [ph_mod, ph_mul, up_fW l i k]
theorem dn_fW (l : Nat → Nat) (i : Nat) : ∀ k, ph m (dnN m l i k) = fW (fun i k => ph m (l k) - ph m (l i)) i k
  | 0 => rfl
  | k + 1 => by
    show ph m (ite _ _ _) = ite _ _ _
    split
    · exact dn_fW l i k
    · rw [ph_mod, ph_mul, dn_fW l i k, ph_msub]
theorem fW_un (r : Nat → Nat → Fin m) (i : Nat) : ∀ n, Un (fW r i n) ↔ ∀ k, k < n → k ≠ i → Un (r i k)
  | 0 => ⟨fun _ k h => absurd h (Nat.not_lt_zero k), fun _ => un_one⟩
  | n + 1 => by
    have ih := fW_un r i n
    show Un (ite _ _ _) ↔ _
    split
    · rename_i h
      rw [ih]
      exact ⟨fun H k hk hki => H k (by omega) hki, fun H k hk hki => H k (by omega) hki⟩
    · rename_i h
      refine ⟨fun H k hk hki => ?_, fun H => Un.mul (ih.2 fun k hk hki => H k (by omega) hki) (H n (by omega) h)⟩
      by_cases h2 : k = n
      · subst h2; exact H.right
      · exact ih.1 H.left k (by omega) hki
theorem fW_mul (r s : Nat → Nat → Fin m) (i : Nat) : ∀ n, fW r i n * fW s i n = fW (fun i k => r i k * s i k) i n
  | 0 => by show (1 : Fin m) * 1 = 1; grind
  | n + 1 => by
    have ih := fW_mul r s i n
    show (ite _ _ _) * (ite _ _ _) = ite _ _ _
    split
    · exact ih
    · rw [← ih]; grind
theorem fW_one {r : Nat → Nat → Fin m} {i : Nat} : ∀ n, (∀ k, k < n → k ≠ i → r i k = 1) → fW r i n = 1
  | 0, _ => rfl
  | n + 1, h => by
    have ih := fW_one n fun k hk => h k (by omega)
    show (ite _ _ _) = (1 : Fin m)
    split
    · exact ih
    · rename_i h2
      rw [ih, h n (by omega) h2]; grind
theorem wgE_0 (hm : 1 < m) (l : Nat → Nat) (n i : Nat) : wgE m l n i = 0 ↔ ∀ k, k < n → k ≠ i → invE m (msub m (l k) (l i)) = 0 := by
  unfold wgE
  rw [inv_0 hm, dn_fW, fW_un]
  refine ⟨fun H k hk hki => ?_, fun H k hk hki => ?_⟩
  · rw [inv_0 hm, ph_msub]; exact H k hk hki
  · have := H k hk hki
    rw [inv_0 hm, ph_msub] at this; exact this
theorem wgt_fW (hm : 1 < m) (l : Nat → Nat) (n i : Nat) (h : wgE m l n i = 0) : ph m (wgt m l n i) = fW (rr m l) i n := by
  have h1 := (wgE_0 hm l n i).1 h
  have h2 : ph m (dnN m l i n) * ph m (inv m (dnN m l i n)) = 1 := inv_mul h
  have h3 : ph m (dnN m l i n) * fW (vv m l) i n = 1 := by
    rw [dn_fW, fW_mul]
    refine fW_one n fun k hk hki => ?_
    have h4 := inv_mul (h1 k hk hki)
    rw [ph_msub] at h4
    exact h4
  have h5 : ph m (inv m (dnN m l i n)) = fW (vv m l) i n := by grind
  unfold wgt
  rw [ph_mod, ph_mul, up_fW, h5, fW_mul]
  rfl
/-- As the document reckons it. -/
def rwt (m : Nat) (l : Nat → Nat) (i : Nat) : Nat → Nat
  | 0 => 1 % m
  | k + 1 => if k = i then rwt m l i k else rwt m l i k * (l k * inv m (msub m (l k) (l i)) % m) % m
def rE1 (m : Nat) (l : Nat → Nat) (i : Nat) : Nat → Int
  | 0 => 0
  | k + 1 => if k = i then rE1 m l i k else if rE1 m l i k = 0 then invE m (msub m (l k) (l i)) else rE1 m l i k
theorem rwt_lt' (l : Nat → Nat) (i : Nat) : ∀ k, rwt m l i k < m
  | 0 => Nat.mod_lt _ (Nat.pos_of_ne_zero (NeZero.ne m))
  | k + 1 => by
    show ite _ _ _ < m
    split
    · exact rwt_lt' l i k
    · exact Nat.mod_lt _ (Nat.pos_of_ne_zero (NeZero.ne m))
theorem rwt_fW (l : Nat → Nat) (i : Nat) : ∀ k, ph m (rwt m l i k) = fW (rr m l) i k
  | 0 => ph_mod 1
  | k + 1 => by
    show ph m (ite _ _ _) = ite _ _ _
    split
    · exact rwt_fW l i k
    · rw [ph_mod, ph_mul, rwt_fW l i k, ph_mod, ph_mul]
      rfl
theorem rE1_0 (l : Nat → Nat) (i : Nat) : ∀ n, (rE1 m l i n = 0 ↔ ∀ k, k < n → k ≠ i → invE m (msub m (l k) (l i)) = 0) ∧ (rE1 m l i n = 0 ∨ rE1 m l i n = 11)
  | 0 => ⟨⟨fun _ k h => absurd h (Nat.not_lt_zero k), fun _ => rfl⟩, .inl rfl⟩
  | n + 1 => by
    obtain ⟨ih, iv⟩ := rE1_0 l i n
    show (ite _ _ _ = (0 : Int) ↔ _) ∧ (ite _ _ _ = (0 : Int) ∨ ite _ _ _ = (11 : Int))
    split
    · rename_i h
      refine ⟨?_, iv⟩
      rw [ih]
      exact ⟨fun H k hk hki => H k (by omega) hki, fun H k hk hki => H k (by omega) hki⟩
    · rename_i h
      split
      · rename_i h0
        refine ⟨⟨fun H k hk hki => ?_, fun H => H n (by omega) h⟩, ?_⟩
        · by_cases h2 : k = n
          · subst h2; exact H
          · exact ih.1 h0 k (by omega) hki
        · by_cases h2 : invE m (msub m (l n) (l i)) = 0
          · exact .inl h2
          · exact .inr (inv_11 h2)
      · rename_i h0
        refine ⟨⟨fun H => absurd H h0, fun H => ih.2 fun k hk hki => H k (by omega) hki⟩, .inr (iv.resolve_left h0)⟩
theorem rE1_eq (hm : 1 < m) (l : Nat → Nat) (n i : Nat) : rE1 m l i n = wgE m l n i := by
  obtain ⟨h1, h2⟩ := rE1_0 (m := m) l i n
  have h3 := wgE_0 hm l n i
  by_cases h : wgE m l n i = 0
  · rw [h]; exact h1.2 (h3.1 h)
  · have h4 : wgE m l n i = 11 := inv_11 h
    rw [h4]
    exact h2.resolve_left fun h5 => h (h3.2 (h1.1 h5))
theorem rwt_eq (hm : 1 < m) (l : Nat → Nat) (n i : Nat) (h : wgE m l n i = 0) : rwt m l i n = wgt m l n i :=
  ph_inj (by rw [rwt_fW, wgt_fW hm l n i h]) (rwt_lt' l i n) (Nat.mod_lt _ (by omega))
theorem wE_all (l : Nat → Nat) (n : Nat) : ∀ k, (wE m l n k = 0 ↔ ∀ i, i < k → wgE m l n i = 0) ∧ (wE m l n k = 0 ∨ wE m l n k = 11)
  | 0 => ⟨⟨fun _ k h => absurd h (Nat.not_lt_zero k), fun _ => rfl⟩, .inl rfl⟩
  | k + 1 => by
    obtain ⟨ih, iv⟩ := wE_all l n k
    show (ite _ _ _ = (0 : Int) ↔ _) ∧ (ite _ _ _ = (0 : Int) ∨ ite _ _ _ = (11 : Int))
    split
    · rename_i h0
      refine ⟨⟨fun H i hi => ?_, fun H => H k (by omega)⟩, ?_⟩
      · by_cases h2 : i = k
        · subst h2; exact H
        · exact ih.1 h0 i (by omega)
      · by_cases h2 : wgE m l n k = 0
        · exact .inl h2
        · exact .inr (inv_11 h2)
    · rename_i h0
      exact ⟨⟨fun H => absurd H h0, fun H => ih.2 fun i hi => H i (by omega)⟩, .inr (iv.resolve_left h0)⟩
end
end Go.Proofs.Ythniflakjkbpiaa
