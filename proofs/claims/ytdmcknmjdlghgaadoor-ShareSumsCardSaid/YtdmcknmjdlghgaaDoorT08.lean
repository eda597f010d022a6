/-
  Interpolation at 0, where differences can be divided by: in the numbers modulo m.
  Texts laid together: Fm, Fm2.
  A law's argument that is a slice of numbers, or of points: words in a row.
  A law's argument that is a slice of factors, a proof, or a slice of proofs.
-/
import Derived.ProofKit
import Derived.Below
import Derived.ChangeSame
import Derived.OpenShut
import Derived.ChangeSlices
import Derived.Test.YtdmcknmjdlghgaaDoorT01
import Derived.Test.YtdmcknmjdlghgaaDoorT02
import Derived.Test.YtdmcknmjdlghgaaDoorT03
import Derived.Test.YtdmcknmjdlghgaaDoorT05
import Derived.Test.YtdmcknmjdlghgaaDoorT06
import Derived.Test.YtdmcknmjdlghgaaDoorT07
namespace Go.Ab
set_option linter.unusedSimpArgs false
set_option linter.unusedVariables false
section
variable {m : Nat} [NeZero m]
def pw (x : Fin m) : Nat → Fin m
  | 0 => 1
  | n + 1 => pw x n * x
def Wp (r : Nat → Nat → Fin m) (i : Nat) : List Nat → Fin m
  | [] => 1
  | k :: L => r i k * Wp r i L
def Ls (r : Nat → Nat → Fin m) : List Nat → (Nat → Fin m) → Fin m
  | [], _ => 0
  | i :: L, f => f i * Wp r i L + Ls r L fun k => f k * r k i
theorem Ls_congr {r : Nat → Nat → Fin m} : ∀ {L : List Nat} {f g : Nat → Fin m}, (∀ k ∈ L, f k = g k) → Ls r L f = Ls r L g
  | [], _, _, _ => rfl
  | i :: L, f, g, h => by
    show _ + _ = _ + _
    rw [h i (List.mem_cons_self ..), Ls_congr (L := L) (g := fun k => g k * r k i) fun k hk => by rw [h k (List.mem_cons_of_mem _ hk)]]
theorem Ls_add {r : Nat → Nat → Fin m} : ∀ {L : List Nat} {f g : Nat → Fin m}, Ls r L (fun k => f k + g k) = Ls r L f + Ls r L g
  | [], _, _ => by show (0 : Fin m) = 0 + 0; grind
  | i :: L, f, g => by
    have h := Ls_add (r := r) (L := L) (f := fun k => f k * r k i) (g := fun k => g k * r k i)
    have e : Ls r L (fun k => (f k + g k) * r k i) = Ls r L fun k => f k * r k i + g k * r k i := Ls_congr fun k _ => by grind
    show (f i + g i) * Wp r i L + Ls r L (fun k => (f k + g k) * r k i) = (f i * Wp r i L + Ls r L fun k => f k * r k i) + (g i * Wp r i L + Ls r L fun k => g k * r k i)
    rw [e, h]
    grind
theorem Ls_mul {r : Nat → Nat → Fin m} (a : Fin m) : ∀ {L : List Nat} {f : Nat → Fin m}, Ls r L (fun k => a * f k) = a * Ls r L f
  | [], _ => by show (0 : Fin m) = a * 0; grind
  | i :: L, f => by
    have h := Ls_mul (r := r) a (L := L) (f := fun k => f k * r k i)
    have e : Ls r L (fun k => (a * f k) * r k i) = Ls r L fun k => a * (f k * r k i) := Ls_congr fun k _ => by grind
    show (a * f i) * Wp r i L + Ls r L (fun k => (a * f k) * r k i) = a * (f i * Wp r i L + Ls r L fun k => f k * r k i)
    rw [e, h]
    grind
def Apart (X : Nat → Fin m) (v : Nat → Nat → Fin m) (L : List Nat) : Prop := L.Pairwise fun i k => (X k - X i) * v i k = 1 ∧ (X i - X k) * v k i = 1
variable {X : Nat → Fin m} {v : Nat → Nat → Fin m}
theorem Ls_one : ∀ (n : Nat) (L : List Nat), L.length = n + 1 → Apart X v L → Ls (fun i k => X k * v i k) L (fun _ => 1) = 1 := by
  intro n
  induction n with
  | zero =>
    intro L hL _
    match L, hL with
    | [i], _ => show (1 : Fin m) * 1 + 0 = 1; grind
  | succ n ih =>
    intro L hL hA
    match L, hL with
    | a :: b :: ys, hL =>
      simp only [Apart, List.pairwise_cons, List.mem_cons, forall_eq_or_imp] at hA
      obtain ⟨⟨⟨hab, hba⟩, ha⟩, hb, hys⟩ := hA
      have hla : (a :: ys).length = n + 1 := by simp only [List.length_cons] at hL ⊢; omega
      have hlb : (b :: ys).length = n + 1 := by simp only [List.length_cons] at hL ⊢; omega
      have ia := ih (a :: ys) hla (List.pairwise_cons.2 ⟨ha, hys⟩)
      have ib := ih (b :: ys) hlb (List.pairwise_cons.2 ⟨hb, hys⟩)
      let r : Nat → Nat → Fin m := fun i k => X k * v i k
      have ia' : 1 * Wp r a ys + Ls r ys (fun k => 1 * r k a) = 1 := ia
      have ib' : 1 * Wp r b ys + Ls r ys (fun k => 1 * r k b) = 1 := ib
      have hS : (X b - X a) * Ls r ys (fun k => 1 * r k a * r k b) = X b * Ls r ys (fun k => 1 * r k a) + -X a * Ls r ys (fun k => 1 * r k b) := by
        rw [← Ls_mul, ← Ls_mul, ← Ls_mul, ← Ls_add]
        refine Ls_congr fun k hk => ?_
        have h1 := (ha k hk).2
        have h2 := (hb k hk).2
        show (X b - X a) * (1 * (X a * v k a) * (X b * v k b)) = X b * (1 * (X a * v k a)) + -X a * (1 * (X b * v k b))
        grind
      show 1 * (X b * v a b * Wp r a ys) + (1 * (X a * v b a) * Wp r b ys + Ls r ys (fun k => 1 * r k a * r k b)) = 1
      generalize Ls r ys (fun k => 1 * r k a * r k b) = S at hS ⊢
      generalize Ls r ys (fun k => 1 * r k a) = Sa at hS ia'
      generalize Ls r ys (fun k => 1 * r k b) = Sb at hS ib'
      generalize Wp r a ys = A at ia' ⊢
      generalize Wp r b ys = B at ib' ⊢
      have h1 : (X b - X a) * (1 * (X b * v a b * A) + (1 * (X a * v b a) * B + S)) = X b - X a := by grind
      generalize (1 * (X b * v a b * A) + (1 * (X a * v b a) * B + S)) = Z at h1 ⊢
      grind
theorem Ls_pow : ∀ (p : Nat) (L : List Nat), p < L.length → Apart X v L → Ls (fun i k => X k * v i k) L (fun k => pw (X k) p) = if p = 0 then 1 else 0 := by
  intro p
  induction p with
  | zero =>
    intro L hp hA
    rw [if_pos rfl]
    exact Ls_one (L.length - 1) L (by omega) hA
  | succ p ih =>
    intro L hp hA
    rw [if_neg (by omega)]
    match L, hp with
    | x :: ys, hp =>
      have i1 := ih (x :: ys) (by omega) hA
      simp only [Apart, List.pairwise_cons] at hA
      obtain ⟨ha, hys⟩ := hA
      have i2 := ih ys (by simp only [List.length_cons] at hp; omega) hys
      let r : Nat → Nat → Fin m := fun i k => X k * v i k
      have i1' : pw (X x) p * Wp r x ys + Ls r ys (fun k => pw (X k) p * r k x) = if p = 0 then 1 else 0 := i1
      have i2' : Ls r ys (fun k => pw (X k) p) = if p = 0 then 1 else 0 := i2
      have hS : Ls r ys (fun k => pw (X k) p * X k * r k x) = X x * Ls r ys (fun k => pw (X k) p * r k x) + -X x * Ls r ys (fun k => pw (X k) p) := by
        rw [← Ls_mul, ← Ls_mul, ← Ls_add]
        refine Ls_congr fun k hk => ?_
        have h1 := (ha k hk).2
        show pw (X k) p * X k * (X x * v k x) = X x * (pw (X k) p * (X x * v k x)) + -X x * pw (X k) p
        grind
      show pw (X x) p * X x * Wp r x ys + Ls r ys (fun k => pw (X k) p * X k * r k x) = 0
      generalize Ls r ys (fun k => pw (X k) p * X k * r k x) = S at hS ⊢
      generalize Ls r ys (fun k => pw (X k) p * r k x) = S1 at hS i1'
      generalize Ls r ys (fun k => pw (X k) p) = S2 at hS i2'
      generalize Wp r x ys = A at i1' ⊢
      generalize (if p = 0 then (1 : Fin m) else 0) = D at i1' i2'
      grind
theorem Wp_perm {r : Nat → Nat → Fin m} {i : Nat} {L L' : List Nat} (h : L.Perm L') : Wp r i L = Wp r i L' := by
  induction h with
  | nil => rfl
  | cons x _ ih => show _ * _ = _ * _; rw [ih]
  | swap x y l => show r i y * (r i x * Wp r i l) = r i x * (r i y * Wp r i l); grind
  | trans _ _ h1 h2 => exact h1.trans h2
theorem Ls_perm {r : Nat → Nat → Fin m} {L L' : List Nat} (h : L.Perm L') : ∀ f : Nat → Fin m, Ls r L f = Ls r L' f := by
  induction h with
  | nil => intro f; rfl
  | cons x h ih => intro f; show _ + _ = _ + _; rw [ih, Wp_perm h]
  | swap x y l =>
    intro f
    have e : Ls r l (fun k => f k * r k y * r k x) = Ls r l (fun k => f k * r k x * r k y) := Ls_congr fun k _ => by grind
    show f y * (r y x * Wp r y l) + (f x * r x y * Wp r x l + Ls r l fun k => f k * r k y * r k x) = f x * (r x y * Wp r x l) + (f y * r y x * Wp r y l + Ls r l fun k => f k * r k x * r k y)
    rw [e]
    grind
  | trans _ _ h1 h2 => intro f; exact (h1 f).trans (h2 f)
theorem Wp_map {r : Nat → Nat → Fin m} {g : Nat → Nat} {i : Nat} : ∀ {L : List Nat}, Wp (fun i k => r (g i) (g k)) i L = Wp r (g i) (L.map g)
  | [] => rfl
  | k :: L => by show _ * _ = _ * _; rw [Wp_map]
theorem Ls_map {r : Nat → Nat → Fin m} {g : Nat → Nat} : ∀ {L : List Nat} {f : Nat → Fin m}, Ls (fun i k => r (g i) (g k)) L (fun k => f (g k)) = Ls r (L.map g) f
  | [], _ => rfl
  | i :: L, f => by
    show _ + _ = _ + _
    rw [Wp_map, Ls_map (L := L) (f := fun k => f k * r k (g i))]
def sF (g : Nat → Fin m) : Nat → Fin m
  | 0 => 0
  | n + 1 => sF g n + g n
theorem sF_congr {f g : Nat → Fin m} : ∀ {n : Nat}, (∀ i, i < n → f i = g i) → sF f n = sF g n
  | 0, _ => rfl
  | n + 1, h => by show _ + _ = _ + _; rw [sF_congr fun i hi => h i (by omega), h n (by omega)]
theorem sF_add {f g : Nat → Fin m} : ∀ {n : Nat}, sF (fun i => f i + g i) n = sF f n + sF g n
  | 0 => by show (0 : Fin m) = 0 + 0; grind
  | n + 1 => by
    have h := sF_add (f := f) (g := g) (n := n)
    show sF (fun i => f i + g i) n + (f n + g n) = sF f n + f n + (sF g n + g n)
    rw [h]; grind
theorem sF_mul {f : Nat → Fin m} {a : Fin m} : ∀ {n : Nat}, sF (fun i => f i * a) n = sF f n * a
  | 0 => by show (0 : Fin m) = 0 * a; grind
  | n + 1 => by
    have h := sF_mul (f := f) (a := a) (n := n)
    show sF (fun i => f i * a) n + f n * a = (sF f n + f n) * a
    rw [h]; grind
def fW (r : Nat → Nat → Fin m) (i : Nat) : Nat → Fin m
  | 0 => 1
  | k + 1 => if k = i then fW r i k else fW r i k * r i k
def dn : Nat → List Nat
  | 0 => []
  | n + 1 => n :: dn n
theorem dn_length : ∀ n, (dn n).length = n
  | 0 => rfl
  | n + 1 => congrArg (· + 1) (dn_length n)
theorem mem_dn {i : Nat} : ∀ {n : Nat}, i ∈ dn n ↔ i < n
  | 0 => by simp [dn]
  | n + 1 => by simp only [dn, List.mem_cons, mem_dn (n := n)]; omega
theorem fW_dn {r : Nat → Nat → Fin m} {i : Nat} : ∀ {k : Nat}, k ≤ i → fW r i k = Wp r i (dn k)
  | 0, _ => rfl
  | k + 1, h => by
    show ite _ _ _ = _ * _
    rw [if_neg (by omega), fW_dn (by omega)]
    grind
theorem sF_Ls {r : Nat → Nat → Fin m} : ∀ (n : Nat) (f : Nat → Fin m), sF (fun i => f i * fW r i n) n = Ls r (dn n) f
  | 0, _ => rfl
  | n + 1, f => by
    have h := sF_Ls (r := r) n fun k => f k * r k n
    have e1 : sF (fun i => f i * fW r i (n + 1)) n = sF (fun i => f i * r i n * fW r i n) n := sF_congr fun i hi => by
      show f i * ite _ _ _ = _
      rw [if_neg (by omega)]
      grind
    have e2 : fW r n (n + 1) = Wp r n (dn n) := by
      show ite _ _ _ = _
      rw [if_pos rfl, fW_dn (Nat.le_refl n)]
    show sF (fun i => f i * fW r i (n + 1)) n + f n * fW r n (n + 1) = f n * Wp r n (dn n) + Ls r (dn n) fun k => f k * r k n
    rw [e1, e2, h]
    grind
theorem dn_apart {n : Nat} (h : ∀ i k, i < n → k < n → i ≠ k → (X k - X i) * v i k = 1) : ∀ j, j ≤ n → Apart X v (dn j)
  | 0, _ => List.Pairwise.nil
  | j + 1, hj => List.pairwise_cons.2 ⟨fun k hk => ⟨h j k (by omega) (by have := mem_dn.1 hk; omega) (by have := mem_dn.1 hk; omega), h k j (by have := mem_dn.1 hk; omega) (by omega) (by have := mem_dn.1 hk; omega)⟩, dn_apart h j (by omega)⟩
theorem dn_get : ∀ {n i : Nat}, i < n → (dn n)[i]? = some (n - 1 - i)
  | n + 1, 0, _ => by simp [dn]
  | n + 1, i + 1, h => by
    show (dn n)[i]? = _
    rw [dn_get (by omega)]
    congr 1; omega
theorem dn_turn (n : Nat) : ((dn n).map fun i => n - 1 - i).Perm (dn n) := by
  have e : (dn n).map (fun i => n - 1 - i) = (dn n).reverse := by
    refine List.ext_getElem? fun i => ?_
    by_cases h : i < n
    · rw [List.getElem?_map, dn_get h, List.getElem?_reverse (by rw [dn_length]; exact h), dn_length, dn_get (by omega)]
      rfl
    · rw [List.getElem?_eq_none (by rw [List.length_map, dn_length]; omega), List.getElem?_eq_none (by rw [List.length_reverse, dn_length]; omega)]
  rw [e]
  exact List.reverse_perm _
theorem at_zero {n : Nat} (h : ∀ i k, i < n → k < n → i ≠ k → (X k - X i) * v i k = 1) (c : Nat → Fin m) : ∀ d, d ≤ n →
    sF (fun i => sF (fun j => c j * pw (X i) j) d * fW (fun i k => X k * v i k) i n) n = if d = 0 then 0 else c 0 := by
  intro d hd
  rw [sF_Ls n fun i => sF (fun j => c j * pw (X i) j) d]
  induction d with
  | zero =>
    rw [if_pos rfl]
    have e : Ls (fun i k => X k * v i k) (dn n) (fun i => sF (fun j => c j * pw (X i) j) 0) = Ls (fun i k => X k * v i k) (dn n) (fun i => 0 * (fun _ => (0 : Fin m)) i) := Ls_congr fun k _ => by show (0 : Fin m) = 0 * 0; grind
    rw [e, Ls_mul]
    grind
  | succ d ih =>
    rw [if_neg (by omega)]
    have e : Ls (fun i k => X k * v i k) (dn n) (fun i => sF (fun j => c j * pw (X i) j) (d + 1)) = Ls (fun i k => X k * v i k) (dn n) (fun i => sF (fun j => c j * pw (X i) j) d + (fun i => c d * pw (X i) d) i) := rfl
    rw [e, Ls_add, Ls_mul, ih (by omega), Ls_pow d (dn n) (by rw [dn_length]; omega) (dn_apart h n (Nat.le_refl n))]
    by_cases hd0 : d = 0
    · subst hd0
      rw [if_pos rfl, if_pos rfl]
      grind
    · rw [if_neg hd0, if_neg hd0]
      grind
theorem turned {r : Nat → Nat → Fin m} {n : Nat} (f : Nat → Fin m) :
    sF (fun i => f (n - 1 - i) * fW (fun i k => r (n - 1 - i) (n - 1 - k)) i n) n = sF (fun i => f i * fW r i n) n := by
  rw [sF_Ls n f, sF_Ls n fun i => f (n - 1 - i), Ls_map (g := fun i => n - 1 - i)]
  exact Ls_perm (dn_turn n) f
end
end Go.Ab
/-
  The frame of a law: what an argument reads stays as it read; words by value, read as numbers.
-/
namespace Go.Ab
open Go Go.ChangeShapes Go.WideShapes Go.ChangeAt Go.RowKit
set_option linter.unusedSimpArgs false
set_option linter.unusedVariables false
section
variable {H : Type} {enc : TypeId × Value → H} {P : Program}
theorem trodAll_stays (hl : laidOutB P = true) {W W' : World} (hb : Below W.heap.size W W') {sp' : Nat → Bool} : ∀ {ts : List TypeId} {vs : List Value} {ds : List (DataW H)} {ps : List MemPlace},
    (∀ t ∈ ts, P.readableRec t = true ∧ t < P.types.size) → DataW.TrodAll enc P W 0 (fun _ => true) true ts vs ds ps → (∀ p ∈ ps, p.block < W.heap.size) → (∀ p ∈ ps, sp' p.block = true) →
    DataW.TrodAll enc P W' 0 sp' true ts vs ds ps
  | [], [], [], _, _, h, _, _ => h
  | _ :: _, _ :: _, _ :: _, _, hT, ⟨p, q, h1, h2, e⟩, hlt, hs =>
    ⟨p, q, WideElems.Trod_stays hl (hT _ (List.mem_cons.2 (Or.inl rfl))).1 (hT _ (List.mem_cons.2 (Or.inl rfl))).2 h1 (fun x hx => hb.same (hlt x (by rw [e]; exact List.mem_append_left _ hx))) (fun x hx => hs x (by rw [e]; exact List.mem_append_left _ hx)),
      trodAll_stays hl hb (fun t ht => hT t (List.mem_cons.2 (Or.inr ht))) h2 (fun x hx => hlt x (by rw [e]; exact List.mem_append_right _ hx)) (fun x hx => hs x (by rw [e]; exact List.mem_append_right _ hx)), e⟩
theorem post_of_below {f : Func} {s : ChangeSpec} {apart fresh handsOn again : Bool} {W W' : World} {args : Array Value} {v : Value} {ds gs : List (DataW H)} {before pa pv : List MemPlace}
    (hW : DataW.Whole enc P f.params.toList s.vars apart W args.toList ds gs before)
    (hres : ∀ (b : Nat) (sp : Nat → Bool) (hd : Bool), DataW.TrodAll enc P W' b sp hd f.resultTypes.toList (v.resultList f.resultTypes.size) (s.fn H (ds ++ gs)).results [])
    (hargs : ∀ sp : Nat → Bool, (∀ p ∈ before, sp p.block = true) → DataW.TrodAll enc P W' 0 sp true f.params.toList args.toList (s.fn H (ds ++ gs)).args pa)
    (hvars : ∀ sp : Nat → Bool, (∀ p ∈ before, sp p.block = true) → DataW.TrodVars enc P W' sp s.vars (s.fn H (ds ++ gs)).vars pv)
    (hps : before = pa ++ pv) (hb : Below W.heap.size W W')
    (hok : ∀ (j : Nat) (t : TypeId) (r : Value), f.resultTypes[j]? = some t → (v.resultList f.resultTypes.size)[j]? = some r → Value.okWide P W' .any 0 t r) :
    s.post enc P f apart fresh handsOn again W args v W' := by
  have hlt : ∀ p ∈ before, p.block < W.heap.size := fun p hp => hW.lt p hp
  have hold : ∀ p ∈ before, (fun b => decide (b < W.heap.size)) p.block = true := fun p hp => by simpa using hlt p hp
  refine ⟨ds, gs, before, [], pa, pv, hW, hres _ _ _, hargs _ hold, hvars _ hold, World.keptBut_mono (fun p hp => ⟨hp, ?_⟩) (hb.frame (· ∈ before)), fun _ => ?_⟩
  · rw [hps, List.mem_append] at hp
    exact Or.inr hp
  · obtain ⟨_, _, _, _, _, hz, hn⟩ := hW
    refine ⟨hok, _, _, ([] ++ pa) ++ pv, ⟨[] ++ pa, pv, trodAll_append (hargs _ (fun _ _ => rfl)) (hres _ _ _), hvars _ (fun _ _ => rfl), rfl, ?_, ?_⟩, ?_⟩
    · intro b off hp
      have hin : MemPlace.cell b off ∈ before := by rw [hps]; simpa using hp
      rw [hb.frozen (hlt _ hin)]
      exact hz b off hin
    · intro ha
      have := hn ha
      rw [hps] at this
      simpa using this
    · intro p hp _
      rw [hps]
      simpa using hp
theorem trodAll_len : ∀ {W : World} {b : Nat} {sp : Nat → Bool} {hd : Bool} {ts : List TypeId} {vs : List Value} {ds : List (DataW H)} {ps : List MemPlace}, DataW.TrodAll enc P W b sp hd ts vs ds ps → ds.length = ts.length ∧ vs.length = ts.length
  | _, _, _, _, [], [], [], _, _ => ⟨rfl, rfl⟩
  | _, _, _, _, _ :: _, _ :: _, _ :: _, _, ⟨p, q, h1, h2, e⟩ => by
    obtain ⟨h3, h4⟩ := trodAll_len h2
    exact ⟨by simp [h3], by simp [h4]⟩
end
/-! Tryd# Words by value, read as numbers -/
def wsum (g : Nat → Nat) : Nat → Nat
  | 0 => 0
  | n + 1 => wsum g n + g n * 2 ^ (64 * n)
theorem wsum_lt (g : Nat → Nat) (hg : ∀ i, g i < 18446744073709551616) : ∀ n, wsum g n < 2 ^ (64 * n)
  | 0 => by simp [wsum]
  | n + 1 => by
    have h := wsum_lt g hg n
    have h2 : g n * 2 ^ (64 * n) ≤ 18446744073709551615 * 2 ^ (64 * n) := Nat.mul_le_mul_right _ (by have := hg n; omega)
    rw [P_succ]
    simp only [wsum]
    omega
theorem wd_wsum (g : Nat → Nat) (hg : ∀ i, g i < 18446744073709551616) : ∀ n i, i < n → wd (wsum g n) i = g i
  | n + 1, i, h => by
    simp only [wsum]
    by_cases h1 : i = n
    · subst h1
      rw [wd_eq, Nat.mul_comm (g i), Nat.add_mul_div_left _ _ (Nat.two_pow_pos _), Nat.div_eq_of_lt (wsum_lt g hg i), Nat.zero_add, Nat.mod_eq_of_lt (hg i)]
    · rw [wd_add_high _ _ _ _ (by omega), wd_wsum g hg n i (by omega)]
section
variable {H : Type} {enc : TypeId × Value → H} {P : Program} {W : World} {base b0 : Nat} {sp : Nat → Bool} {held : Bool} {r : Reach} {t e n : Nat} {v : Value} {d : DataW H} {ps : List MemPlace}
theorem okWide_array {P : Program} {w : World} {r : Reach} {base : Nat} {t e n : Nat} {v : Value} (ht : P.underlying t = some (.array n e)) (h : Value.okWide P w r base t v) : ∃ cs, v = .agg cs ∧ cs.size = P.cellsOf t := by
  simp only [Value.okWide, ht] at h
  obtain ⟨cs, h1, h2, _⟩ := h
  exact ⟨cs, h1, h2⟩
theorem open_words (ht : P.underlying t = some (.array n e)) (he : P.underlying e = some (.int .u64)) (hc : P.cellsOf t = n) (hce : P.cellsOf e = 1)
    (hval : Value.okWide P W r b0 t v) (hd : DataW.Trod enc P W base sp held t v d ps) : ∃ a, a < 2 ^ (64 * n) ∧ ∀ β, v = (TV.agg (arr n (wd a))).conc β := by
  obtain ⟨cs, rfl, hsz⟩ := okWide_array ht hval
  rw [hc] at hsz
  obtain ⟨fuel, hf⟩ := hd
  obtain ⟨xs, m, _, _, hl, hxl, hi⟩ := DataW.trod_array ht hf
  simp only [Value.cells] at hl hi
  have key : ∀ i, i < n → ∃ z : Nat, z < 18446744073709551616 ∧ cs[i]? = some (.int .u64 (z : Int)) := by
    intro i hin
    have h1 := hi i hin
    rw [hce, Nat.mul_one] at h1
    rw [List.getElem?_eq_getElem (by omega)] at h1
    obtain ⟨z, ez, _, wz⟩ := DataW.trod_int he h1
    have hb := bounds_u64 wz
    obtain ⟨z, rfl⟩ := Int.eq_ofNat_of_zero_le hb.1
    refine ⟨z, by omega, ?_⟩
    have h2 := congrArg (·[0]?) ez
    simpa [List.getElem?_take, List.getElem?_drop] using h2
  let g : Nat → Nat := fun i => if h : i < n then (key i h).choose else 0
  have hg : ∀ i, g i < 18446744073709551616 := by
    intro i
    by_cases h : i < n
    · simp only [g, h, dite_true]; exact (key i h).choose_spec.1
    · simp only [g, h, dite_false]; decide
  refine ⟨wsum g n, wsum_lt g hg n, fun β => ?_⟩
  rw [conc_agg]
  congr 1
  apply Array.ext
  · simp [arr, hsz]
  · intro i h1 h2
    have hin : i < n := by omega
    have h3 := (key i hin).choose_spec.2
    have h4 : g i = (key i hin).choose := by simp only [g, hin, dite_true]
    rw [← h4] at h3
    rw [Array.getElem?_eq_getElem h1] at h3
    injection h3 with h3
    rw [h3]
    simp [arr, SV.conc, wd_wsum g hg n i hin]
end
end Go.Ab
/-
  A law's argument that is a slice of bytes.
-/
namespace Go.Ab
open Go Go.ChangeShapes Go.WideShapes Go.ChangeAt Go.RowKit
set_option linter.unusedSimpArgs false
set_option linter.unusedVariables false
end Go.Ab
namespace Go.Ab
open Go Go.ChangeShapes Go.WideShapes Go.ChangeAt Go.RowKit
set_option linter.unusedSimpArgs false
set_option linter.unusedVariables false
def Words (P : Program) (t n : Nat) : Prop :=
  P.cellsOf t = n ∧ ∀ (H : Type) (enc : TypeId × Value → H) (W : World) (base : Nat) (sp : Nat → Bool) (held : Bool) (fuel : Nat) (cs : List Value) (x : DataW H × List MemPlace),
    DataW.trod enc P W base sp held fuel t cs = some x → cs.length = n ∧ ∀ i, i < n → ∃ z : Nat, z < 18446744073709551616 ∧ cs[i]? = some (.int .u64 (z : Int))
theorem words_array {P : Program} {t e n : Nat} (ht : P.underlying t = some (.array n e)) (he : P.underlying e = some (.int .u64)) (hc : P.cellsOf t = n) (hce : P.cellsOf e = 1) : Words P t n := by
  refine ⟨hc, fun H enc W base sp held fuel cs x hf => ?_⟩
  obtain ⟨xs, m, _, _, hl, hxl, hi⟩ := DataW.trod_array ht hf
  rw [hc] at hl
  refine ⟨hl, fun i hin => ?_⟩
  have h1 := hi i hin
  rw [hce, Nat.mul_one] at h1
  rw [List.getElem?_eq_getElem (by omega)] at h1
  obtain ⟨z, ez, _, wz⟩ := DataW.trod_int he h1
  have hb := bounds_u64 wz
  obtain ⟨z, rfl⟩ := Int.eq_ofNat_of_zero_le hb.1
  refine ⟨z, by omega, ?_⟩
  have h2 := congrArg (·[0]?) ez
  simpa [List.getElem?_take, List.getElem?_drop] using h2
theorem open_row {H : Type} {enc : TypeId × Value → H} {P : Program} {W : World} {base b0 q : Nat} {r : Reach} {t e : Nat} {v : Value} {d : DataW H} {ps : List MemPlace} {V : Evo}
    (ht : P.underlying t = some (.slice e)) (he : Words P e (4 * q)) (hq : 0 < q) (hval : Value.okWide P W r b0 t v) (hd : DataW.Trod enc P W base (fun _ => true) true t v d ps) :
    ∃ (x : Option Addr) (n c : Nat) (l : Nat → Nat), v = .slice x n c ∧ n < 9223372036854775808 ∧ n ≤ c ∧ (∀ i, l i < 2 ^ 256) ∧ natsAt V x (q * n) l W.heap.size W := by
  obtain ⟨x, n, c, rfl⟩ := okWide_slice ht hval
  obtain ⟨fuel, hf⟩ := hd
  rcases DataW.trod_slice ht hf with ⟨h1, _⟩ | ⟨a, len, cap, elems, rest, fu, _, h1, _, hb, hlc, hcm, hel, hi, _, _⟩
  · simp only [Value.cells, List.cons.injEq, Value.slice.injEq, and_true] at h1
    obtain ⟨_, rfl, rfl⟩ := h1
    exact ⟨x, 0, 0, fun _ => 0, rfl, by decide, Nat.le_refl _, fun _ => by show 0 < 2 ^ 256; decide, .inl (Nat.mul_zero q)⟩
  · simp only [Value.cells, List.cons.injEq, Value.slice.injEq, and_true] at h1
    obtain ⟨rfl, rfl, rfl⟩ := h1
    have cell : ∀ i k, i < n → k < 4 * q → ∃ z : Nat, z < 18446744073709551616 ∧ W.cell? ((a.add (i * (4 * q))).add k) = some (.int .u64 (z : Int)) := by
      intro i k hin hk
      have h2 := hi i hin
      rw [List.getElem?_eq_getElem (by omega), Option.bind_eq_some_iff, he.1] at h2
      obtain ⟨cs, hcs, htr⟩ := h2
      obtain ⟨_, hw⟩ := he.2 _ _ _ _ _ _ _ _ _ htr
      obtain ⟨z, hz, hcz⟩ := hw _ hk
      unfold World.cells? at hcs
      split at hcs
      · have h3 := mapM_some_get hcs k k (by rw [List.getElem?_range hk])
        exact ⟨z, hz, h3.trans hcz⟩
      · cases hcs
    by_cases h0 : n = 0
    · subst h0
      exact ⟨_, 0, c, fun _ => 0, rfl, by decide, hlc, fun _ => by show 0 < 2 ^ 256; decide, .inl (Nat.mul_zero q)⟩
    obtain ⟨z0, _, hz0⟩ := cell 0 0 (by omega) (by omega)
    have hsp := World.cell?_spot hz0
    obtain ⟨b, o, s⟩ := a
    have hs : s = none := by simpa [Addr.add] using hsp
    subst hs
    have key : ∀ j, j < 4 * (q * n) → ∃ z : Nat, z < 18446744073709551616 ∧ W.cell? ⟨b, o + j, none⟩ = some (.int .u64 (z : Int)) := by
      intro j hj
      have hdm := Nat.div_add_mod j (4 * q)
      have hm := Nat.mod_lt j (show 0 < 4 * q by omega)
      have hin : j / (4 * q) < n := by
        rw [Nat.div_lt_iff_lt_mul (by omega)]
        have : n * (4 * q) = 4 * (q * n) := by rw [Nat.mul_comm n, Nat.mul_assoc]
        omega
      obtain ⟨z, hz, h3⟩ := cell _ _ hin hm
      refine ⟨z, hz, ?_⟩
      rw [addr_add, addr_add] at h3
      rw [show o + j = o + j / (4 * q) * (4 * q) + j % (4 * q) by rw [Nat.mul_comm (j / (4 * q))]; omega]
      exact h3
    let g : Nat → Nat := fun i => if h : i < 4 * (q * n) then (key i h).choose else 0
    have hg : ∀ i, g i < 18446744073709551616 := by
      intro i
      by_cases h : i < 4 * (q * n)
      · simp only [g, h, dite_true]; exact (key i h).choose_spec.1
      · simp only [g, h, dite_false]; decide
    have hgc : ∀ i, i < 4 * (q * n) → W.cell? ⟨b, o + i, none⟩ = some (.int .u64 (g i : Int)) := by
      intro i h
      simp only [g, h, dite_true]; exact (key i h).choose_spec.2
    have h00 := hgc 0 (by have := Nat.mul_pos hq (Nat.pos_of_ne_zero h0); omega)
    have hcl : ∃ cc t f, W.heap[b]? = some (.cells cc t f) := by
      unfold World.cell? at h00
      split at h00
      · rename_i cc t f hk; exact ⟨cc, t, f, hk⟩
      · cases h00
    obtain ⟨cc, tt, ff, hk⟩ := hcl
    refine ⟨_, n, c, fun i => wsum (fun k => g (4 * i + k)) 4, rfl, by simp only [maxLen] at hcm; omega, hlc, fun i => wsum_lt _ (fun k => hg _) 4, .inr ⟨_, rfl, rfl, cc, tt, ff, hk, .inl (Array.getElem?_eq_some_iff.1 hk).1, fun i hin => ?_⟩⟩
    have h1 := hgc i hin
    unfold World.cell? at h1
    simp only [hk] at h1
    rw [show natsG (fun i => wsum (fun k => g (4 * i + k)) 4) i = .int .u64 (g i : Int) by
      unfold natsG
      rw [wd_wsum _ (fun k => hg _) 4 _ (Nat.mod_lt _ (by decide)), show 4 * (i / 4) + i % 4 = i by omega]]
    exact h1
def Cells (P : Program) (t n : Nat) (G : World → List Value → Prop) : Prop :=
  P.cellsOf t = n ∧ ∀ (H : Type) (enc : TypeId × Value → H) (W : World) (base : Nat) (sp : Nat → Bool) (held : Bool) (fuel : Nat) (cs : List Value) (x : DataW H × List MemPlace),
    DataW.trod enc P W base sp held fuel t cs = some x → cs.length = n ∧ G W cs
def natL (p : Nat) : List Value := (List.range 4).map fun k => .int .u64 (wd p k : Int)
theorem cells_nat {P : Program} {t : Nat} (h : Words P t 4) : Cells P t 4 fun _ cs => ∃ p, p < 2 ^ 256 ∧ cs = natL p := by
  refine ⟨h.1, fun H enc W base sp held fuel cs x hx => ?_⟩
  obtain ⟨hl, hw⟩ := h.2 _ _ _ _ _ _ _ _ _ hx
  refine ⟨hl, ?_⟩
  let g : Nat → Nat := fun i => if h : i < 4 then (hw i h).choose else 0
  have hg : ∀ i, g i < 18446744073709551616 := by
    intro i
    by_cases h : i < 4
    · simp only [g, h, dite_true]; exact (hw i h).choose_spec.1
    · simp only [g, h, dite_false]; decide
  have hgc : ∀ i, i < 4 → cs[i]? = some (.int .u64 (g i : Int)) := by
    intro i h
    simp only [g, h, dite_true]; exact (hw i h).choose_spec.2
  refine ⟨wsum g 4, wsum_lt _ hg 4, List.ext_getElem? fun i => ?_⟩
  by_cases hi : i < 4
  · rw [hgc i hi]
    unfold natL
    rw [List.getElem?_map, List.getElem?_range hi, Option.map_some, wd_wsum _ hg 4 _ hi]
  · rw [List.getElem?_eq_none (by omega), List.getElem?_eq_none (by simp [natL]; omega)]
theorem cells_int {P : Program} {t : Nat} (ht : P.underlying t = some (.int .i64)) (hc : P.cellsOf t = 1) : Cells P t 1 fun _ cs => ∃ z : Int, (-9223372036854775808 ≤ z ∧ z < 9223372036854775808) ∧ cs = [.int .i64 z] := by
  refine ⟨hc, fun H enc W base sp held fuel cs x hx => ?_⟩
  obtain ⟨z, ez, _, wz⟩ := DataW.trod_int ht hx
  have hb := bounds_i64 wz
  refine ⟨by rw [ez]; rfl, z, by omega, ez⟩
theorem cells_two {P : Program} {t a b : Nat} {fs : Array Field} {f g : Field} {F G : World → List Value → Prop} (ht : P.underlying t = some (.struct fs)) (hs : fs.size = 2) (h0 : fs[0]? = some f) (h1 : fs[1]? = some g) (hf : f.offset = 0) (hg : g.offset = a)
    (ha : Cells P f.type a F) (hb : Cells P g.type b G) (hc : P.cellsOf t = a + b) : Cells P t (a + b) fun W cs => ∃ u v, cs = u ++ v ∧ F W u ∧ G W v := by
  refine ⟨hc, fun H enc W base sp held fuel cs x hx => ?_⟩
  obtain ⟨xs, m, _, _, hl, hxl, hi⟩ := DataW.trod_struct ht hx
  rw [hc] at hl
  have e0 := hi 0 f h0
  have e1 := hi 1 g h1
  rw [List.getElem?_eq_getElem (by omega), hf, ha.1] at e0
  rw [List.getElem?_eq_getElem (by omega), hg, hb.1] at e1
  obtain ⟨_, k0⟩ := ha.2 _ _ _ _ _ _ _ _ _ e0
  obtain ⟨_, k1⟩ := hb.2 _ _ _ _ _ _ _ _ _ e1
  refine ⟨hl, _, _, ?_, k0, k1⟩
  rw [List.drop_zero, List.take_of_length_le (l := cs.drop a) (by rw [List.length_drop]; omega), List.take_append_drop]
theorem cells_slice {P : Program} {t e q : Nat} {G : World → List Value → Prop} (ht : P.underlying t = some (.slice e)) (he : Cells P e q G) (hq : 0 < q) (hct : P.cellsOf t = 1) : Cells P t 1 fun W cs => ∃ (y : Option Addr) (n c : Nat), cs = [.slice y n c] ∧ n < 9223372036854775808 ∧ n ≤ c ∧
    (n = 0 ∨ ∃ ad, y = some ad ∧ ad.spot = none ∧ ∃ cc tt ff, W.heap[ad.block]? = some (.cells cc tt ff) ∧ ∀ i, i < n → ∃ l, G W l ∧ l.length = q ∧ ∀ k, k < q → cc[ad.off + (i * q + k)]? = l[k]?) := by
  refine ⟨hct, fun H enc W base sp held fuel cs x hf => ?_⟩
  rcases DataW.trod_slice ht hf with ⟨h1, _⟩ | ⟨a, len, cap, elems, rest, fu, _, h1, _, hb, hlc, hcm, hel, hi, _, _⟩
  · exact ⟨by rw [h1]; rfl, _, 0, 0, h1, by decide, Nat.le_refl _, .inl rfl⟩
  · refine ⟨by rw [h1]; rfl, some a, len, cap, h1, by simp only [maxLen] at hcm; omega, hlc, ?_⟩
    by_cases h0 : len = 0
    · exact .inl h0
    · have cell : ∀ i, i < len → ∃ l, G W l ∧ l.length = q ∧ ∀ k, k < q → W.cell? ((a.add (i * q)).add k) = l[k]? := by
        intro i hin
        have h2 := hi i hin
        rw [List.getElem?_eq_getElem (by omega), Option.bind_eq_some_iff, he.1] at h2
        obtain ⟨cs, hcs, htr⟩ := h2
        obtain ⟨hl, hG⟩ := he.2 _ _ _ _ _ _ _ _ _ htr
        refine ⟨cs, hG, hl, fun k hk => ?_⟩
        unfold World.cells? at hcs
        split at hcs
        · have h3 := mapM_some_get hcs k k (by rw [List.getElem?_range hk])
          exact h3
        · cases hcs
      obtain ⟨l0, _, hl0, hc0⟩ := cell 0 (by omega)
      have hz0 := hc0 0 hq
      rw [List.getElem?_eq_getElem (by omega)] at hz0
      have hsp := World.cell?_spot hz0
      obtain ⟨b, o, s⟩ := a
      have hs : s = none := by simpa [Addr.add] using hsp
      subst hs
      have hcl : ∃ cc t f, W.heap[b]? = some (.cells cc t f) := by
        rw [addr_add, addr_add] at hz0
        unfold World.cell? at hz0
        split at hz0
        · rename_i cc t f hk; exact ⟨cc, t, f, hk⟩
        · cases hz0
      obtain ⟨cc, tt, ff, hk⟩ := hcl
      refine .inr ⟨_, rfl, rfl, cc, tt, ff, hk, fun i hin => ?_⟩
      obtain ⟨l, hG, hl, hc⟩ := cell i hin
      refine ⟨l, hG, hl, fun k hk2 => ?_⟩
      have h3 := hc k hk2
      rw [addr_add, addr_add] at h3
      unfold World.cell? at h3
      simp only [hk] at h3
      rw [← Nat.add_assoc]
      exact h3
/-! Tryd# Factors and proofs -/
theorem natL_get {p k : Nat} (h : k < 4) : (natL p)[k]? = some (.int .u64 (wd p k : Int)) := by
  unfold natL
  rw [List.getElem?_map, List.getElem?_range h]
  rfl
structure PrfOk (W : World) (p : Pf) : Prop where
  N : p.N < 2 ^ 256
  G : p.G < 2 ^ 256
  P : ∀ k, p.P k < 2 ^ 256
  E : ∀ k, -9223372036854775808 ≤ p.E k ∧ p.E k < 9223372036854775808
  n : p.n < 9223372036854775808
  c : p.n ≤ p.c
  f : facs p.y p.n p.P p.E W
end Go.Ab
