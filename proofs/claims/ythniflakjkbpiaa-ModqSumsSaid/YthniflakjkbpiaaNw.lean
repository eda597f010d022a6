/-
  What values count for, as it is reckoned.
-/
import Derived.Test.YthniflakjkbpiaaR3
import Derived.Test.YthniflakjkbpiaaAb23
import Derived.Test.YthniflakjkbpiaaNd
namespace Go.Proofs.Ythniflakjkbpiaa
open Go Go.Ab
set_option linter.unusedSimpArgs false
set_option linter.unusedVariables false

/-- Is a among the first n, modulo m? -/
def sm1 (m : Nat) (l : Nat → Nat) (a : Nat) : Nat → Bool
  | 0 => false
  | n + 1 => sm1 m l a n || decide (msub m a (l n) = 0)
/-- Are two of the first n one, modulo m? -/
def sm (m : Nat) (l : Nat → Nat) : Nat → Bool
  | 0 => false
  | n + 1 => sm m l n || sm1 m l (l n) n
theorem sm1_mono {m : Nat} {l : Nat → Nat} {a i : Nat} (h : sm1 m l a i = true) : ∀ n, i ≤ n → sm1 m l a n = true := by
  intro n
  induction n with
  | zero => intro hi; rwa [show i = 0 by omega] at h
  | succ n ih =>
    intro hi
    by_cases h1 : i = n + 1
    · rwa [← h1]
    · show (_ || _) = true
      rw [ih (by omega), Bool.true_or]
theorem sm_mono {m : Nat} {l : Nat → Nat} {i : Nat} (h : sm m l i = true) : ∀ n, i ≤ n → sm m l n = true := by
  intro n
  induction n with
  | zero => intro hi; rwa [show i = 0 by omega] at h
  | succ n ih =>
    intro hi
    by_cases h1 : i = n + 1
    · rwa [← h1]
    · show (_ || _) = true
      rw [ih (by omega), Bool.true_or]
theorem sm_hit {m : Nat} {l : Nat → Nat} {i j n : Nat} (hj : j < i) (hi : i < n) (h : msub m (l i) (l j) = 0) : sm m l n = true := by
  refine sm_mono (i := i + 1) ?_ n (by omega)
  have h1 : sm1 m l (l i) i = true := sm1_mono (i := j + 1) (by show (_ || _) = true; rw [h]; simp) i (by omega)
  show (_ || _) = true
  rw [h1, Bool.or_true]
/-- What stands above and below, for value i. -/
def upN (m : Nat) (l : Nat → Nat) (i : Nat) : Nat → Nat
  | 0 => 1
  | k + 1 => if k = i then upN m l i k else upN m l i k * l k % m
def dnN (m : Nat) (l : Nat → Nat) (i : Nat) : Nat → Nat
  | 0 => 1
  | k + 1 => if k = i then dnN m l i k else dnN m l i k * msub m (l k) (l i) % m
theorem upN_same {m : Nat} {l : Nat → Nat} {i : Nat} : upN m l i (i + 1) = upN m l i i := if_pos rfl
theorem dnN_same {m : Nat} {l : Nat → Nat} {i : Nat} : dnN m l i (i + 1) = dnN m l i i := if_pos rfl
theorem upN_other {m : Nat} {l : Nat → Nat} {i k : Nat} (h : k ≠ i) : upN m l i (k + 1) = upN m l i k * l k % m := if_neg h
theorem dnN_other {m : Nat} {l : Nat → Nat} {i k : Nat} (h : k ≠ i) : dnN m l i (k + 1) = dnN m l i k * msub m (l k) (l i) % m := if_neg h
theorem upN_lt {m : Nat} (h : OddM m) (l : Nat → Nat) (i : Nat) : ∀ k, upN m l i k < 2 ^ 256
  | 0 => by show 1 < 2 ^ 256; decide
  | k + 1 => by
    show ite _ _ _ < _
    split
    · exact upN_lt h l i k
    · exact h.mod_lt
theorem dnN_lt {m : Nat} (h : OddM m) (l : Nat → Nat) (i : Nat) : ∀ k, dnN m l i k < 2 ^ 256
  | 0 => by show 1 < 2 ^ 256; decide
  | k + 1 => by
    show ite _ _ _ < _
    split
    · exact dnN_lt h l i k
    · exact h.mod_lt
/-- What value i counts for, and whether it can be reckoned. -/
def wgt (m : Nat) (l : Nat → Nat) (n i : Nat) : Nat := upN m l i n * inv m (dnN m l i n) % m
def wgE (m : Nat) (l : Nat → Nat) (n i : Nat) : Int := invE m (dnN m l i n)
theorem wgt_lt {m : Nat} (h : OddM m) (l : Nat → Nat) (n i : Nat) : wgt m l n i < 2 ^ 256 := h.mod_lt
/-- Can the first k of n be reckoned? The first that cannot, why. -/
def wE (m : Nat) (l : Nat → Nat) (n : Nat) : Nat → Int
  | 0 => 0
  | k + 1 => if wE m l n k = 0 then wgE m l n k else wE m l n k
theorem wE_stuck {m n i : Nat} {l : Nat → Nat} (h : wE m l n i ≠ 0) : ∀ k, i ≤ k → wE m l n k = wE m l n i := by
  intro k
  induction k with
  | zero => intro hi; rw [show i = 0 by omega]
  | succ k ih =>
    intro hi
    by_cases h1 : i = k + 1
    · rw [h1]
    · have := ih (by omega)
      show ite _ _ _ = _
      rw [this, if_neg h]
def WE (m : Nat) (l : Nat → Nat) (n : Nat) : Int := if sm m l n then 13 else wE m l n n
/-- What Weights hands back. -/
def wOut (t : TypeId) (m : Nat) (l : Nat → Nat) (n : Nat) (v : TV) (H : Heap) : Prop :=
  (WE m l n ≠ 0 ∧ v = .tup [.s (.v (.slice none 0 0)), .s (.v (.int .i64 (WE m l n)))] ∧ H = []) ∨
  (WE m l n = 0 ∧ ∃ (c : Nat) (sp : List Value), (n ≠ 0 → n ≤ c ∧ sp.length = (c - n) * 4) ∧ v = .tup [.s (rowV 0 n c), .s (.v (.int .i64 0))] ∧ H = rowH t n (nats n (wgt m l n)) sp)
theorem ok_two {a b : SV} {n : Nat} (ha : a.ok n) (hb : b.ok n) : TV.ok n (.tup [.s a, .s b]) := by
  intro x hx
  simp only [List.mem_cons, List.not_mem_nil, or_false] at hx
  rcases hx with rfl | rfl
  · exact ha
  · exact hb
theorem gives_err {t : TypeId} {m : Nat} {l : Nat → Nat} {n : Nat} {e : Int} {H : Heap} (h : WE m l n = e) (he : e ≠ 0) : Gives (wOut t m l n) (.tup [.s (.v (.slice none 0 0)), .s (.v (.int .i64 e))]) H :=
  ⟨[], .tup [.s (.v (.slice none 0 0)), .s (.v (.int .i64 e))], [], .inl ⟨by rw [h]; exact he, by rw [h], rfl⟩, List.nodup_nil, rfl, ok_two trivial trivial, trivial, fun b hb => by simp at hb⟩
theorem gives_ok {t : TypeId} {m : Nat} {l : Nat → Nat} {n j c : Nat} {sp : List Value} {H : Heap} (h : WE m l n = 0) (hc : n ≠ 0 → n ≤ c ∧ sp.length = (c - n) * 4) (hH : n ≠ 0 → H[j]? = some ⟨t, nats n (wgt m l n) ++ sp.map .v⟩) :
    Gives (wOut t m l n) (.tup [.s (rowV j n c), .s (.v (.int .i64 0))]) H := by
  by_cases h0 : n = 0
  · subst h0
    exact ⟨[], .tup [.s (.v (.slice none 0 0)), .s (.v (.int .i64 0))], [], .inr ⟨h, c, sp, hc, rfl, rfl⟩, List.nodup_nil, rfl, ok_two trivial trivial, trivial, fun b hb => by simp at hb⟩
  · refine ⟨[j], .tup [.s (rowV 0 n c), .s (.v (.int .i64 0))], [⟨t, nats n (wgt m l n) ++ sp.map .v⟩], .inr ⟨h, c, sp, hc, rfl, (rowH_s h0).symm⟩, by simp, ?_, ok_two (rowV_ok fun _ => Nat.zero_lt_one) trivial, ⟨hH h0, trivial⟩, ?_⟩
    · rw [rowV_s h0, rowV_s h0]
      rfl
    · intro b hb x hx
      simp only [List.mem_cons, List.not_mem_nil, or_false] at hb
      subst hb
      rcases List.mem_append.1 hx with hx | hx
      · exact nats_ok 0 x hx
      · exact vals_ok x hx
def px (l : Nat → Nat) (i : Nat) : Nat := l (2 * i)
def py (l : Nat → Nat) (i : Nat) : Nat := l (2 * i + 1)
theorem sumM_0 {m : Nat} {l : Nat → Nat} : sumM m l 0 = 0 := rfl
/-- What a value counts for, with the value. -/
def prt (m : Nat) (l : Nat → Nat) (n i : Nat) : Nat := py l i * wgt m (px l) n i % m
/-- The value at 0. -/
def atz (m : Nat) (l : Nat → Nat) (n : Nat) : Nat := if WE m (px l) n = 0 then sumM m (prt m l n) n else 0
theorem atz_0 {m : Nat} {l : Nat → Nat} {n : Nat} (h : WE m (px l) n = 0) : atz m l n = sumM m (prt m l n) n := if_pos h
theorem atz_e {m : Nat} {l : Nat → Nat} {n : Nat} (h : WE m (px l) n ≠ 0) : atz m l n = 0 := if_neg h
end Go.Proofs.Ythniflakjkbpiaa
