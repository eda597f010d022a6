/-
  What a list proves is prime: Lucas, by the factors that the list proved.
-/
import Derived.Test.YthniflakjkbpiaaDoorPv
namespace Go.Ab
set_option linter.unusedSimpArgs false
set_option linter.unusedVariables false

def IsPrime (p : Nat) : Prop := 2 ≤ p ∧ ∀ d, d ∣ p → d = 1 ∨ d = p
theorem exists_prime : ∀ t : Nat, 2 ≤ t → ∃ p, IsPrime p ∧ p ∣ t := by
  intro t
  induction t using Nat.strongRecOn with
  | ind t ih =>
    intro ht
    by_cases h : ∃ d, d ∣ t ∧ d ≠ 1 ∧ d ≠ t
    · obtain ⟨d, hd, h1, h2⟩ := h
      have hle : d ≤ t := Nat.le_of_dvd (by omega) hd
      have h0 : d ≠ 0 := fun h => by subst h; rw [Nat.zero_dvd] at hd; omega
      obtain ⟨p, hp, hpd⟩ := ih d (by omega) (by omega)
      exact ⟨p, hp, Nat.dvd_trans hpd hd⟩
    · refine ⟨t, ⟨ht, fun d hd => ?_⟩, Nat.dvd_refl t⟩
      by_cases h1 : d = 1
      · exact .inl h1
      · by_cases h2 : d = t
        · exact .inr h2
        · exact absurd ⟨d, hd, h1, h2⟩ h
theorem prime_mul {p a b : Nat} (hp : IsPrime p) (h : p ∣ a * b) : p ∣ a ∨ p ∣ b := by
  rcases hp.2 (Nat.gcd p a) (Nat.gcd_dvd_left p a) with h1 | h1
  · exact .inr (Nat.Coprime.dvd_of_dvd_mul_left (show Nat.Coprime p a from h1) h)
  · exact .inl (h1 ▸ Nat.gcd_dvd_right p a)
theorem prime_pow {p a : Nat} (hp : IsPrime p) : ∀ {k : Nat}, p ∣ a ^ k → p ∣ a
  | 0, h => by
    have h1 := Nat.le_of_dvd Nat.one_pos (by simpa using h)
    have := hp.1
    omega
  | k + 1, h => by
    rw [Nat.pow_succ] at h
    rcases prime_mul hp h with h | h
    · exact prime_pow hp h
    · exact h
theorem prime_prT {p : Nat} (hp : IsPrime p) {P : Nat → Nat} {E : Nat → Int} : ∀ {n : Nat}, p ∣ prT P E n → ∃ i, i < n ∧ p ∣ P i
  | 0, h => by
    have h1 := Nat.le_of_dvd Nat.one_pos (show p ∣ 1 from h)
    have := hp.1
    omega
  | n + 1, h => by
    rcases prime_mul hp (show p ∣ prT P E n * P n ^ (E n).toNat from h) with h | h
    · obtain ⟨i, hi, h⟩ := prime_prT hp h
      exact ⟨i, by omega, h⟩
    · exact ⟨n, by omega, prime_pow hp h⟩
/-- As many pigeons as holes. -/
theorem onto_of_inj : ∀ (n : Nat) (f : Nat → Nat), (∀ i, i < n → f i < n) → (∀ i j, i < n → j < n → f i = f j → i = j) → ∀ y, y < n → ∃ i, i < n ∧ f i = y
  | 0, _, _, _, y, hy => absurd hy (Nat.not_lt_zero y)
  | n + 1, f, hf, hi, y, hy => by
    have hlt : ∀ i, i < n → (if f i = n then f n else f i) < n := fun i h => by
      have h1 := hf i (by omega)
      have h2 := hf n (by omega)
      split
      · rename_i h3
        have : f n ≠ n := fun h4 => by
          have := hi i n (by omega) (by omega) (h3.trans h4.symm)
          omega
        omega
      · omega
    have hinj : ∀ i j, i < n → j < n → (if f i = n then f n else f i) = (if f j = n then f n else f j) → i = j := fun i j h1 h2 h => by
      split at h
      · split at h
        · rename_i h3 h4; exact hi i j (by omega) (by omega) (h3.trans h4.symm)
        · have := hi n j (by omega) (by omega) h; omega
      · split at h
        · have := hi i n (by omega) (by omega) h; omega
        · exact hi i j (by omega) (by omega) h
    have ih := onto_of_inj n (fun i => if f i = n then f n else f i) hlt hinj
    by_cases hya : y = f n
    · exact ⟨n, by omega, hya.symm⟩
    · by_cases hyn : y = n
      · have han : f n < n := by have := hf n (by omega); omega
        obtain ⟨i, h1, h2⟩ := ih (f n) han
        split at h2
        · rename_i h3; exact ⟨i, by omega, h3.trans hyn.symm⟩
        · have := hi i n (by omega) (by omega) h2; omega
      · obtain ⟨i, h1, h2⟩ := ih y (by omega)
        split at h2
        · exact absurd h2.symm hya
        · exact ⟨i, by omega, h2⟩
/-- The least that makes 1. -/
theorem least_one {N G : Nat} : ∀ {b : Nat}, 0 < b → G ^ b % N = 1 → ∃ k, 0 < k ∧ G ^ k % N = 1 ∧ ∀ j, 0 < j → j < k → G ^ j % N ≠ 1 := by
  intro b
  induction b using Nat.strongRecOn with
  | ind b ih =>
    intro hb h
    by_cases hh : ∃ j, 0 < j ∧ j < b ∧ G ^ j % N = 1
    · obtain ⟨j, h1, h2, h3⟩ := hh
      exact ih j h2 h1 h3
    · exact ⟨b, hb, h, fun j h1 h2 h3 => hh ⟨j, h1, h2, h3⟩⟩
theorem pow_mul_one {N G k : Nat} (hN : 1 < N) (h : G ^ k % N = 1) (q : Nat) : G ^ (k * q) % N = 1 := by
  rw [Nat.pow_mul, Nat.pow_mod, h, Nat.one_pow, Nat.mod_eq_of_lt hN]
theorem pow_add_one {N G k : Nat} (h : G ^ k % N = 1) (q : Nat) : G ^ (k + q) % N = G ^ q % N := by
  rw [Nat.pow_add, Nat.mul_mod, h, Nat.one_mul, Nat.mod_mod]
/-- LUCAS. -/
theorem lucas {N G : Nat} (hN : 3 ≤ N) (h1 : G ^ (N - 1) % N = 1) (h2 : ∀ p, IsPrime p → p ∣ N - 1 → G ^ ((N - 1) / p) % N ≠ 1) : IsPrime N := by
  obtain ⟨k, hk0, hk1, hkm⟩ := least_one (b := N - 1) (by omega) h1
  have hdvd : k ∣ N - 1 := by
    have hdm := Nat.div_add_mod (N - 1) k
    have hr := Nat.mod_lt (N - 1) hk0
    have h3 : G ^ ((N - 1) % k) % N = 1 := by
      have h4 : G ^ (k * ((N - 1) / k) + (N - 1) % k) % N = G ^ ((N - 1) % k) % N := pow_add_one (pow_mul_one (by omega) hk1 _) _
      rw [hdm, h1] at h4
      exact h4.symm
    by_cases h0 : (N - 1) % k = 0
    · exact Nat.dvd_of_mod_eq_zero h0
    · exact absurd h3 (hkm _ (by omega) hr)
  have hk : k = N - 1 := by
    obtain ⟨t, ht⟩ := hdvd
    by_cases ht1 : t = 1
    · rw [ht1, Nat.mul_one] at ht; exact ht.symm
    · have ht2 : 2 ≤ t := by
        rcases t with _ | _ | t
        · rw [Nat.mul_zero] at ht; omega
        · omega
        · omega
      obtain ⟨p, hp, q, rfl⟩ := exists_prime t ht2
      have hpp := hp.1
      refine absurd ?_ (h2 p hp ⟨k * q, by rw [ht, Nat.mul_left_comm]⟩)
      rw [ht, Nat.mul_left_comm, Nat.mul_div_cancel_left _ (by omega)]
      exact pow_mul_one (by omega) hk1 q
  subst hk
  have hunit : ∀ i, i < N - 1 → G ^ (i + 1) % N * G ^ (N - 1 - (i + 1)) % N = 1 := fun i hi => by
    rw [Nat.mod_mul_mod, ← Nat.pow_add, show i + 1 + (N - 1 - (i + 1)) = N - 1 by omega, h1]
  have hpos : ∀ i, i < N - 1 → 0 < G ^ (i + 1) % N := fun i hi => by
    have h3 := hunit i hi
    refine Nat.pos_of_ne_zero fun h0 => ?_
    rw [h0, Nat.zero_mul, Nat.zero_mod] at h3
    cases h3
  have hneq : ∀ i j, i < j → j < N - 1 → G ^ (i + 1) % N ≠ G ^ (j + 1) % N := fun i j hij hj he => by
    have h3 := hunit i (by omega)
    rw [he, Nat.mod_mul_mod, ← Nat.pow_add, show j + 1 + (N - 1 - (i + 1)) = N - 1 + (j - i) by omega, pow_add_one h1] at h3
    exact hkm (j - i) (by omega) (by omega) h3
  have honto := onto_of_inj (N - 1) (fun i => G ^ (i + 1) % N - 1) (fun i hi => by
    have h3 := hpos i hi
    have h4 := Nat.mod_lt (G ^ (i + 1)) (show 0 < N by omega)
    show G ^ (i + 1) % N - 1 < N - 1
    omega) (fun i j hi hj he => by
    have h3 := hpos i hi
    have h4 := hpos j hj
    have he' : G ^ (i + 1) % N = G ^ (j + 1) % N := by
      have : G ^ (i + 1) % N - 1 = G ^ (j + 1) % N - 1 := he
      omega
    by_cases hij : i = j
    · exact hij
    · rcases Nat.lt_or_gt_of_ne hij with h5 | h5
      · exact absurd he' (hneq i j h5 hj)
      · exact absurd he'.symm (hneq j i h5 hi))
  refine ⟨by omega, fun d hd => ?_⟩
  by_cases hd1 : d = 1
  · exact .inl hd1
  · by_cases hdN : d = N
    · exact .inr hdN
    · exfalso
      have hle : d ≤ N := Nat.le_of_dvd (by omega) hd
      have h0 : d ≠ 0 := fun h => by subst h; rw [Nat.zero_dvd] at hd; omega
      obtain ⟨i, hi, hie⟩ := honto (d - 1) (by omega)
      have hie' : G ^ (i + 1) % N - 1 = d - 1 := hie
      have h3 := hpos i hi
      have h4 : G ^ (i + 1) % N = d := by omega
      have h5 := hunit i hi
      rw [h4] at h5
      have h6 : d * G ^ (N - 1 - (i + 1)) % N % d = 0 := by
        rw [Nat.mod_mod_of_dvd _ hd, Nat.mul_mod_right]
      rw [h5, Nat.mod_eq_of_lt (by omega)] at h6
      cases h6
/-- What a step says. -/
theorem stS_ok {N G n : Nat} {P : Nat → Nat} {E : Nat → Int} (h : stS N G n P E = 0) :
    N % 2 = 1 ∧ 3 ≤ N ∧ prT P E n = N - 1 ∧ G ^ (N - 1) % N = 1 ∧ ∀ i, i < n → G ^ ((N - 1) / P i) % N ≠ 1 := by
  unfold stS at h
  split at h
  · rename_i h1; exact absurd h h1
  rename_i h1
  split at h
  · cases h
  rename_i h2
  split at h
  · cases h
  rename_i h3
  split at h
  · cases h
  rename_i h4
  have h2' : N % 2 = 1 ∧ 3 ≤ N := Classical.not_not.1 h2
  have h1' : (prS n P E).2 = 0 := Classical.not_not.1 h1
  have h5 : (prS n P E).1 = N - 1 := by
    by_cases h6 : (prS n P E).1 = N - 1
    · exact h6
    · exact absurd (.inl h6) h3
  have h6 : G ^ (N - 1) % N = 1 := by
    by_cases h7 : G ^ (N - 1) % N = 1
    · exact h7
    · exact absurd (.inr h7) h3
  refine ⟨h2'.1, h2'.2, ?_, h6, fun i hi he => ?_⟩
  · unfold prS at h1' h5
    split at h5
    · rename_i hc; rw [if_pos hc] at h1'; cases h1'
    rename_i hc
    rw [if_neg hc] at h1'
    split at h5
    · rename_i hc2; rw [if_pos hc2] at h1'; cases h1'
    rename_i hc2
    rw [if_neg hc2] at h1'
    split at h5
    · simp only at h5; omega
    rename_i hc3
    rw [if_neg hc3] at h1'
    split at h5
    · exact h5
    · rename_i hc4; rw [if_neg hc4] at h1'; cases h1'
  · exact h4 (anyB_iff.2 ⟨i, hi, by unfold stB; rw [Bool.or_eq_true, decide_eq_true_iff, decide_eq_true_iff]; exact .inr he⟩)
theorem ckU_before {l : Nat → Pf} {m : Nat} (h : ckU l (m + 1) = 0) : ckU l m = 0 ∧ ckA l m = 0 := by
  have h' : (if ckU l m ≠ 0 then ckU l m else ckA l m) = 0 := h
  split at h'
  · rename_i h1; exact absurd h' h1
  · rename_i h1; exact ⟨Classical.not_not.1 h1, h'⟩
theorem ckA_ok {l : Nat → Pf} {i : Nat} (h : ckA l i = 0) : (∀ k, k < (l i).n → knS l i ((l i).P k) = true) ∧ stS (l i).N (l i).G (l i).n (l i).P (l i).E = 0 := by
  unfold ckA at h
  split at h
  · cases h
  · rename_i h1
    refine ⟨fun k hk => ?_, h⟩
    have h2 := anyB_false.1 (Bool.not_eq_true _ ▸ h1) k hk
    simpa using h2
theorem prime_two : IsPrime 2 := ⟨Nat.le_refl 2, fun d hd => by
  have := Nat.le_of_dvd (by decide) hd
  have h0 : d ≠ 0 := fun h => by subst h; rw [Nat.zero_dvd] at hd; cases hd
  omega⟩
/-- WHAT IS PROVED IS PRIME. -/
theorem prime_of_known {l : Nat → Pf} : ∀ {m : Nat}, ckU l m = 0 → ∀ n, knS l m n = true → IsPrime n
  | 0, _, n, hn => by
    rw [knS_zero] at hn
    have : n = 2 := by simpa using hn
    subst this
    exact prime_two
  | m + 1, h, n, hn => by
    obtain ⟨h1, h2⟩ := ckU_before h
    rw [knS_succ, Bool.or_eq_true] at hn
    rcases hn with hn | hn
    · exact prime_of_known h1 n hn
    · have : n = (l m).N := by simpa using hn
      subst this
      obtain ⟨h3, h4⟩ := ckA_ok h2
      obtain ⟨_, h6, h7, h8, h9⟩ := stS_ok h4
      refine lucas h6 h8 fun p hp hpd => ?_
      rw [← h7] at hpd
      obtain ⟨i, hi, hpi⟩ := prime_prT hp hpd
      have hP := prime_of_known h1 _ (h3 i hi)
      rcases hP.2 p hpi with h10 | h10
      · have := hp.1; omega
      · rw [h10]; exact h9 i hi
/-- What is proved is 2, or odd, and 3 at least. -/
theorem odd_of_known {l : Nat → Pf} : ∀ {m : Nat}, ckU l m = 0 → ∀ n, knS l m n = true → n = 2 ∨ (n % 2 = 1 ∧ 3 ≤ n)
  | 0, _, n, hn => by
    rw [knS_zero] at hn
    exact .inl (by simpa using hn)
  | m + 1, h, n, hn => by
    obtain ⟨h1, h2⟩ := ckU_before h
    rw [knS_succ, Bool.or_eq_true] at hn
    rcases hn with hn | hn
    · exact odd_of_known h1 n hn
    · have : n = (l m).N := by simpa using hn
      subst this
      obtain ⟨h5, h6, _⟩ := stS_ok (ckA_ok h2).2
      exact .inr ⟨h5, h6⟩
end Go.Ab
