/-
  Interpolation at 0, where differences can be divided by: in the numbers modulo m.
-/
namespace Go.Ab
set_option linter.unusedSimpArgs false
set_option linter.unusedVariables false

section
variable {m : Nat} [NeZero m]
/-- Powers. -/
def pw (x : Fin m) : Nat → Fin m
  | 0 => 1
  | n + 1 => pw x n * x
/-- The product of what i has of each. -/
def Wp (r : Nat → Nat → Fin m) (i : Nat) : List Nat → Fin m
  | [] => 1
  | k :: L => r i k * Wp r i L
/-- What all count for together. -/
def Ls (r : Nat → Nat → Fin m) : List Nat → (Nat → Fin m) → Fin m
  | [], _ => 0
  | i :: L, f => f i * Wp r i L + Ls r L fun k => f k * r k i
theorem Ls_congr {r : Nat → Nat → Fin m} : ∀ {L : List Nat} {f g : Nat → Fin m}, (∀ k ∈ L, f k = g k) → Ls r L f = Ls r L g
  | [], _, _, _ => rfl
  | i :: L, f, g, h => by
    show _ + _ = _ + _
    rw [h i (List.mem_cons_self ..), Ls_congr (L := L) (g := fun k => g k * r k i) fun k hk => by rw [h k (List.mem_cons_of_mem _ hk)]]
theorem Ls_add {r : Nat → Nat → Fin m} : ∀ {L : List Nat} {f g : Nat → Fin m}, Ls r L (fun k => f k + g k) = Ls r L f + Ls r L g
  | [], _, _ => by show (0 : Fin m) = 0 + 0; grind
  | i :: L, f, g => by
    have h := Ls_add (r := r) (L := L) (f := fun k => f k * r k i) (g := fun k => g k * r k i)
    have e : Ls r L (fun k => (f k + g k) * r k i) = Ls r L fun k => f k * r k i + g k * r k i := Ls_congr fun k _ => by grind
    show (f i + g i) * Wp r i L + Ls r L (fun k => (f k + g k) * r k i) = (f i * Wp r i L + Ls r L fun k => f k * r k i) + (g i * Wp r i L + Ls r L fun k => g k * r k i)
    rw [e, h]
    grind
theorem Ls_mul {r : Nat → Nat → Fin m} (a : Fin m) : ∀ {L : List Nat} {f : Nat → Fin m}, Ls r L (fun k => a * f k) = a * Ls r L f
  | [], _ => by show (0 : Fin m) = a * 0; grind
  | i :: L, f => by
    have h := Ls_mul (r := r) a (L := L) (f := fun k => f k * r k i)
    have e : Ls r L (fun k => (a * f k) * r k i) = Ls r L fun k => a * (f k * r k i) := Ls_congr fun k _ => by grind
    show (a * f i) * Wp r i L + Ls r L (fun k => (a * f k) * r k i) = a * (f i * Wp r i L + Ls r L fun k => f k * r k i)
    rw [e, h]
    grind
/-- Each two can be divided by their difference. -/
def Apart (X : Nat → Fin m) (v : Nat → Nat → Fin m) (L : List Nat) : Prop := L.Pairwise fun i k => (X k - X i) * v i k = 1 ∧ (X i - X k) * v k i = 1
variable {X : Nat → Fin m} {v : Nat → Nat → Fin m}
theorem Ls_one : ∀ (n : Nat) (L : List Nat), L.length = n + 1 → Apart X v L → Ls (fun i k => X k * v i k) L (fun _ => 1) = 1 := by
  intro n
  induction n with
  | zero =>
    intro L hL _
    match L, hL with
    | [i], _ => show (1 : Fin m) * 1 + 0 = 1; grind
  | succ n ih =>
    intro L hL hA
    match L, hL with
    | a :: b :: ys, hL =>
      simp only [Apart, List.pairwise_cons, List.mem_cons, forall_eq_or_imp] at hA
      obtain ⟨⟨⟨hab, hba⟩, ha⟩, hb, hys⟩ := hA
      have hla : (a :: ys).length = n + 1 := by simp only [List.length_cons] at hL ⊢; omega
      have hlb : (b :: ys).length = n + 1 := by simp only [List.length_cons] at hL ⊢; omega
      have ia := ih (a :: ys) hla (List.pairwise_cons.2 ⟨ha, hys⟩)
      have ib := ih (b :: ys) hlb (List.pairwise_cons.2 ⟨hb, hys⟩)
      let r : Nat → Nat → Fin m := fun i k => X k * v i k
      have ia' : 1 * Wp r a ys + Ls r ys (fun k => 1 * r k a) = 1 := ia
      have ib' : 1 * Wp r b ys + Ls r ys (fun k => 1 * r k b) = 1 := ib
      have hS : (X b - X a) * Ls r ys (fun k => 1 * r k a * r k b) = X b * Ls r ys (fun k => 1 * r k a) + -X a * Ls r ys (fun k => 1 * r k b) := by
        rw [← Ls_mul, ← Ls_mul, ← Ls_mul, ← Ls_add]
        refine Ls_congr fun k hk => ?_
        have h1 := (ha k hk).2
        have h2 := (hb k hk).2
        show (X b - X a) * (1 * (X a * v k a) * (X b * v k b)) = X b * (1 * (X a * v k a)) + -X a * (1 * (X b * v k b))
        grind
      show 1 * (X b * v a b * Wp r a ys) + (1 * (X a * v b a) * Wp r b ys + Ls r ys (fun k => 1 * r k a * r k b)) = 1
      generalize Ls r ys (fun k => 1 * r k a * r k b) = S at hS ⊢
      generalize Ls r ys (fun k => 1 * r k a) = Sa at hS ia'
      generalize Ls r ys (fun k => 1 * r k b) = Sb at hS ib'
      generalize Wp r a ys = A at ia' ⊢
      generalize Wp r b ys = B at ib' ⊢
      have h1 : (X b - X a) * (1 * (X b * v a b * A) + (1 * (X a * v b a) * B + S)) = X b - X a := by grind
      generalize (1 * (X b * v a b * A) + (1 * (X a * v b a) * B + S)) = Z at h1 ⊢
      grind
theorem Ls_pow : ∀ (p : Nat) (L : List Nat), p < L.length → Apart X v L → Ls (fun i k => X k * v i k) L (fun k => pw (X k) p) = if p = 0 then 1 else 0 := by
  intro p
  induction p with
  | zero =>
    intro L hp hA
    rw [if_pos rfl]
    exact Ls_one (L.length - 1) L (by omega) hA
  | succ p ih =>
    intro L hp hA
    rw [if_neg (by omega)]
    match L, hp with
    | x :: ys, hp =>
      have i1 := ih (x :: ys) (by omega) hA
      simp only [Apart, List.pairwise_cons] at hA
      obtain ⟨ha, hys⟩ := hA
      have i2 := ih ys (by simp only [List.length_cons] at hp; omega) hys
      let r : Nat → Nat → Fin m := fun i k => X k * v i k
      have i1' : pw (X x) p * Wp r x ys + Ls r ys (fun k => pw (X k) p * r k x) = if p = 0 then 1 else 0 := i1
      have i2' : Ls r ys (fun k => pw (X k) p) = if p = 0 then 1 else 0 := i2
      have hS : Ls r ys (fun k => pw (X k) p * X k * r k x) = X x * Ls r ys (fun k => pw (X k) p * r k x) + -X x * Ls r ys (fun k => pw (X k) p) := by
        rw [← Ls_mul, ← Ls_mul, ← Ls_add]
        refine Ls_congr fun k hk => ?_
        have h1 := (ha k hk).2
        show pw (X k) p * X k * (X x * v k x) = X x * (pw (X k) p * (X x * v k x)) + -X x * pw (X k) p
        grind
      show pw (X x) p * X x * Wp r x ys + Ls r ys (fun k => pw (X k) p * X k * r k x) = 0
      generalize Ls r ys (fun k => pw (X k) p * X k * r k x) = S at hS ⊢
      generalize Ls r ys (fun k => pw (X k) p * r k x) = S1 at hS i1'
      generalize Ls r ys (fun k => pw (X k) p) = S2 at hS i2'
      generalize Wp r x ys = A at i1' ⊢
      generalize (if p = 0 then (1 : Fin m) else 0) = D at i1' i2'
      grind
theorem Wp_perm {r : Nat → Nat → Fin m} {i : Nat} {L L' : List Nat} (h : L.Perm L') : Wp r i L = Wp r i L' := by
  induction h with
  | nil => rfl
  | cons x _ ih => show _ * _ = _ * _; rw [ih]
  | swap x y l => show r i y * (r i x * Wp r i l) = r i x * (r i y * Wp r i l); grind
  | trans _ _ h1 h2 => exact h1.trans h2
theorem Ls_perm {r : Nat → Nat → Fin m} {L L' : List Nat} (h : L.Perm L') : ∀ f : Nat → Fin m, Ls r L f = Ls r L' f := by
  induction h with
  | nil => intro f; rfl
  | cons x h ih => intro f; show _ + _ = _ + _; rw [ih, Wp_perm h]
  | swap x y l =>
    intro f
    have e : Ls r l (fun k => f k * r k y * r k x) = Ls r l (fun k => f k * r k x * r k y) := Ls_congr fun k _ => by grind
    show f y * (r y x * Wp r y l) + (f x * r x y * Wp r x l + Ls r l fun k => f k * r k y * r k x) = f x * (r x y * Wp r x l) + (f y * r y x * Wp r y l + Ls r l fun k => f k * r k x * r k y)
    rw [e]
    grind
  | trans _ _ h1 h2 => intro f; exact (h1 f).trans (h2 f)
theorem Wp_map {r : Nat → Nat → Fin m} {g : Nat → Nat} {i : Nat} : ∀ {L : List Nat}, Wp (fun i k => r (g i) (g k)) i L = Wp r (g i) (L.map g)
  | [] => rfl
  | k :: L => by show _ * _ = _ * _; rw [Wp_map]
theorem Ls_map {r : Nat → Nat → Fin m} {g : Nat → Nat} : ∀ {L : List Nat} {f : Nat → Fin m}, Ls (fun i k => r (g i) (g k)) L (fun k => f (g k)) = Ls r (L.map g) f
  | [], _ => rfl
  | i :: L, f => by
    show _ + _ = _ + _
    rw [Wp_map, Ls_map (L := L) (f := fun k => f k * r k (g i))]
/-- Sums. -/
def sF (g : Nat → Fin m) : Nat → Fin m
  | 0 => 0
  | n + 1 => sF g n + g n
theorem sF_congr {f g : Nat → Fin m} : ∀ {n : Nat}, (∀ i, i < n → f i = g i) → sF f n = sF g n
  | 0, _ => rfl
  | n + 1, h => by show _ + _ = _ + _; rw [sF_congr fun i hi => h i (by omega), h n (by omega)]
theorem sF_add {f g : Nat → Fin m} : ∀ {n : Nat}, sF (fun i => f i + g i) n = sF f n + sF g n
  | 0 => by show (0 : Fin m) = 0 + 0; grind
  | n + 1 => by
    have h := sF_add (f := f) (g := g) (n := n)
    show sF (fun i => f i + g i) n + (f n + g n) = sF f n + f n + (sF g n + g n)
    rw [h]; grind
theorem sF_mul {f : Nat → Fin m} {a : Fin m} : ∀ {n : Nat}, sF (fun i => f i * a) n = sF f n * a
  | 0 => by show (0 : Fin m) = 0 * a; grind
  | n + 1 => by
    have h := sF_mul (f := f) (a := a) (n := n)
    show sF (fun i => f i * a) n + f n * a = (sF f n + f n) * a
    rw [h]; grind
/-- The product of what i has of the first. -/
def fW (r : Nat → Nat → Fin m) (i : Nat) : Nat → Fin m
  | 0 => 1
  | k + 1 => if k = i then fW r i k else fW r i k * r i k
/-- From n down. -/
def dn : Nat → List Nat
  | 0 => []
  | n + 1 => n :: dn n
theorem dn_length : ∀ n, (dn n).length = n
  | 0 => rfl
  | n + 1 => congrArg (· + 1) (dn_length n)
theorem mem_dn {i : Nat} : ∀ {n : Nat}, i ∈ dn n ↔ i < n
  | 0 => by simp [dn]
  | n + 1 => by simp only [dn, List.mem_cons, mem_dn (n := n)]; omega
theorem fW_dn {r : Nat → Nat → Fin m} {i : Nat} : ∀ {k : Nat}, k ≤ i → fW r i k = Wp r i (dn k)
  | 0, _ => rfl
  | k + 1, h => by
    show ite _ _ _ = _ * _
    rw [if_neg (by omega), fW_dn (by omega)]
    grind
theorem sF_Ls {r : Nat → Nat → Fin m} : ∀ (n : Nat) (f : Nat → Fin m), sF (fun i => f i * fW r i n) n = Ls r (dn n) f
  | 0, _ => rfl
  | n + 1, f => by
    have h := sF_Ls (r := r) n fun k => f k * r k n
    have e1 : sF (fun i => f i * fW r i (n + 1)) n = sF (fun i => f i * r i n * fW r i n) n := sF_congr fun i hi => by
      show f i * ite _ _ _ = _
      rw [if_neg (by omega)]
      grind
    have e2 : fW r n (n + 1) = Wp r n (dn n) := by
      show ite _ _ _ = _
      rw [if_pos rfl, fW_dn (Nat.le_refl n)]
    show sF (fun i => f i * fW r i (n + 1)) n + f n * fW r n (n + 1) = f n * Wp r n (dn n) + Ls r (dn n) fun k => f k * r k n
    rw [e1, e2, h]
    grind
theorem dn_apart {n : Nat} (h : ∀ i k, i < n → k < n → i ≠ k → (X k - X i) * v i k = 1) : ∀ j, j ≤ n → Apart X v (dn j)
  | 0, _ => List.Pairwise.nil
  | j + 1, hj => List.pairwise_cons.2 ⟨fun k hk => ⟨h j k (by omega) (by have := mem_dn.1 hk; omega) (by have := mem_dn.1 hk; omega), h k j (by have := mem_dn.1 hk; omega) (by omega) (by have := mem_dn.1 hk; omega)⟩, dn_apart h j (by omega)⟩
theorem dn_get : ∀ {n i : Nat}, i < n → (dn n)[i]? = some (n - 1 - i)
  | n + 1, 0, _ => by simp [dn]
  | n + 1, i + 1, h => by
    show (dn n)[i]? = _
    rw [dn_get (by omega)]
    congr 1; omega
theorem dn_turn (n : Nat) : ((dn n).map fun i => n - 1 - i).Perm (dn n) := by
  have e : (dn n).map (fun i => n - 1 - i) = (dn n).reverse := by
    refine List.ext_getElem? fun i => ?_
    by_cases h : i < n
    · rw [List.getElem?_map, dn_get h, List.getElem?_reverse (by rw [dn_length]; exact h), dn_length, dn_get (by omega)]
      rfl
    · rw [List.getElem?_eq_none (by rw [List.length_map, dn_length]; omega), List.getElem?_eq_none (by rw [List.length_reverse, dn_length]; omega)]
  rw [e]
  exact List.reverse_perm _
/-- WHAT VALUES COUNT FOR: of a polynomial's values its value at 0 comes. -/
theorem at_zero {n : Nat} (h : ∀ i k, i < n → k < n → i ≠ k → (X k - X i) * v i k = 1) (c : Nat → Fin m) : ∀ d, d ≤ n →
    sF (fun i => sF (fun j => c j * pw (X i) j) d * fW (fun i k => X k * v i k) i n) n = if d = 0 then 0 else c 0 := by
  intro d hd
  rw [sF_Ls n fun i => sF (fun j => c j * pw (X i) j) d]
  induction d with
  | zero =>
    rw [if_pos rfl]
    have e : Ls (fun i k => X k * v i k) (dn n) (fun i => sF (fun j => c j * pw (X i) j) 0) = Ls (fun i k => X k * v i k) (dn n) (fun i => 0 * (fun _ => (0 : Fin m)) i) := Ls_congr fun k _ => by show (0 : Fin m) = 0 * 0; grind
    rw [e, Ls_mul]
    grind
  | succ d ih =>
    rw [if_neg (by omega)]
    have e : Ls (fun i k => X k * v i k) (dn n) (fun i => sF (fun j => c j * pw (X i) j) (d + 1)) = Ls (fun i k => X k * v i k) (dn n) (fun i => sF (fun j => c j * pw (X i) j) d + (fun i => c d * pw (X i) d) i) := rfl
    rw [e, Ls_add, Ls_mul, ih (by omega), Ls_pow d (dn n) (by rw [dn_length]; omega) (dn_apart h n (Nat.le_refl n))]
    by_cases hd0 : d = 0
    · subst hd0
      rw [if_pos rfl, if_pos rfl]
      grind
    · rw [if_neg hd0, if_neg hd0]
      grind
theorem all_one {n : Nat} (hn : n ≠ 0) (h : ∀ i k, i < n → k < n → i ≠ k → (X k - X i) * v i k = 1) : sF (fun i => fW (fun i k => X k * v i k) i n) n = 1 := by
  have e : sF (fun i => fW (fun i k => X k * v i k) i n) n = sF (fun i => (fun _ => (1 : Fin m)) i * fW (fun i k => X k * v i k) i n) n := sF_congr fun i _ => by grind
  rw [e, sF_Ls n fun _ => 1]
  exact Ls_one (n - 1) (dn n) (by rw [dn_length]; omega) (dn_apart h n (Nat.le_refl n))
theorem turned {r : Nat → Nat → Fin m} {n : Nat} (f : Nat → Fin m) :
    sF (fun i => f (n - 1 - i) * fW (fun i k => r (n - 1 - i) (n - 1 - k)) i n) n = sF (fun i => f i * fW r i n) n := by
  rw [sF_Ls n f, sF_Ls n fun i => f (n - 1 - i), Ls_map (g := fun i => n - 1 - i)]
  exact Ls_perm (dn_turn n) f
end
end Go.Ab
