/-
  Texts laid together: Mc, Md, Me, Mf.
-/
import Derived.Test.YthniflakjkbpiaaDoorKB
import Derived.Test.YthniflakjkbpiaaDoorKN
/-
  The cells of a Mod.
-/
namespace Go.Ab
open Go
set_option linter.unusedSimpArgs false
set_option linter.unusedVariables false

/-- A Mod's cells: the number, the Once (done, its lock), what makes -1, the image of 2^256. -/
def modc (m d l i s : Nat) : List SV := nat4 m ++ ([.v (.int .u32 (d : Int)), .v (.int .i32 (l : Int)), .v (.int .u32 0), .v (.int .u64 (i : Int))] ++ nat4 s)
section
variable {m d l i s n x : Nat}
theorem nat4_four (a : Nat) : nat4 a = [.v (.int .u64 (wd a 0 : Int)), .v (.int .u64 (wd a 1 : Int)), .v (.int .u64 (wd a 2 : Int)), .v (.int .u64 (wd a 3 : Int))] := rfl
theorem modc_length : (modc m d l i s).length = 12 := rfl
theorem modc_take : List.take 4 (modc m d l i s) = nat4 m := rfl
theorem modc_sq : List.take 4 (List.drop 8 (modc m d l i s)) = nat4 s := rfl
theorem modc_i : (modc m d l i s)[7]? = some (.v (.int .u64 (i : Int))) := rfl
theorem modc_set7 : (modc m d l i s).set 7 (.v (.int .u64 (x : Int))) = modc m d l x s := rfl
theorem modc_spl : splice (modc m d l i s) 8 (nat4 x) = modc m d l i x := rfl
theorem modc_ok : ∀ y ∈ modc m d l i s, y.ok n := by
  intro y hy
  unfold modc at hy
  rcases List.mem_append.1 hy with hy | hy
  · exact arr_ok n y hy
  · rcases List.mem_append.1 hy with hy | hy
    · simp only [List.mem_cons, List.not_mem_nil, or_false] at hy
      rcases hy with rfl | rfl | rfl | rfl <;> trivial
    · exact arr_ok n y hy
theorem modc_okk : (∀ y ∈ modc m d l i s, y.ok n) = True := eq_true modc_ok
end
end Go.Ab

/-
  The states of a Mod: as it was made, and with what was made when it was first asked.
-/
namespace Go.Ab
open Go
set_option linter.unusedSimpArgs false
set_option linter.unusedVariables false

/-- A number that a Mod may be of. -/
structure OddM (m : Nat) : Prop where
  lt : m < 2 ^ 256
  odd : m % 2 = 1
  gt : 1 < m
theorem OddM.pos {m : Nat} (h : OddM m) : 0 < m := Nat.lt_trans Nat.zero_lt_one h.gt
theorem OddM.mod_lt {m x : Nat} (h : OddM m) : x % m < 2 ^ 256 := Nat.lt_trans (Nat.mod_lt _ h.pos) h.lt
theorem OddM.mo_lt {n m x : Nat} (h : OddM m) : moN n m x < 2 ^ 256 := Nat.lt_trans (moN_lt h.pos) h.lt
/-- The image of 2^256. -/
def sqm (m : Nat) : Nat := 2 ^ 256 % m * (2 ^ 256 % m) % m
theorem OddM.sq_lt {m : Nat} (h : OddM m) : sqm m < 2 ^ 256 := h.mod_lt
/-- A Mod's cells: asked already? -/
def modS (m : Nat) (b : Bool) : List SV := if b then modc m 1 0 (mi m) (sqm m) else modc m 0 0 0 0
theorem modS_true {m : Nat} : modS m true = modc m 1 0 (mi m) (sqm m) := rfl
theorem modS_false {m : Nat} : modS m false = modc m 0 0 0 0 := rfl
theorem modS_eq (m : Nat) (b : Bool) : ∃ d i s, modS m b = modc m d 0 i s := by cases b; exact ⟨_, _, _, rfl⟩; exact ⟨_, _, _, rfl⟩
theorem modS_length {m : Nat} {b : Bool} : (modS m b).length = 12 := by cases b <;> rfl
theorem modS_ok {m n : Nat} {b : Bool} : ∀ y ∈ modS m b, y.ok n := by obtain ⟨d, i, s, h⟩ := modS_eq m b; rw [h]; exact modc_ok
theorem modS_okk {m n : Nat} {b : Bool} : (∀ y ∈ modS m b, y.ok n) = True := eq_true modS_ok
theorem modS_take {m : Nat} {b : Bool} : List.take 4 (modS m b) = nat4 m := by obtain ⟨d, i, s, h⟩ := modS_eq m b; rw [h]; rfl
/-- A number's image, and what an image stands for. -/
def img (m x : Nat) : Nat := x * 2 ^ 256 % m
def mo (m x : Nat) : Nat := moN 256 m x
theorem OddM.img_lt {m x : Nat} (h : OddM m) : img m x < 2 ^ 256 := h.mod_lt
theorem OddM.mo_lt' {m x : Nat} (h : OddM m) : mo m x < 2 ^ 256 := h.mo_lt
theorem mo_sq {m : Nat} (h : OddM m) (x : Nat) : mo m (x * sqm m) = img m x := to_end h.odd
theorem mo_times {m : Nat} (h : OddM m) (x y : Nat) : mo m (img m x * y) = x * y % m := times_end h.odd
theorem mo_back {m : Nat} (h : OddM m) (x : Nat) : mo m (img m x) = x % m := back_end h.odd
theorem mo_img {m : Nat} (h : OddM m) (x y : Nat) : mo m (img m x * img m y) = img m (x * y) := img_mul h.odd
theorem mo_mod {m : Nat} (x : Nat) : mo m (x % m) = mo m x := moN_mod (cg_mod _ _)
theorem img_mod {m : Nat} (x : Nat) : img m (x % m) = img m x := cg_mul (cg_mod _ _) rfl
theorem img_add {m : Nat} (x y : Nat) : (img m x + img m y) % m = img m (x + y) := by
  unfold img
  rw [Nat.add_mul]
  exact cg_add (cg_mod _ _) (cg_mod _ _)
theorem mo_congr {m x y : Nat} (h : x % m = y % m) : mo m x = mo m y := moN_mod h
theorem mo_mulL {m : Nat} (x y : Nat) : mo m (x % m * y) = mo m (x * y) := moN_mod (cg_mul (cg_mod _ _) rfl)
theorem mo_mul {m : Nat} (h : OddM m) (x y : Nat) : mo m (x * y) = x * mo m y % m := moN_mul h.odd
theorem pow_img {m : Nat} (h : OddM m) (a n k : Nat) : (if n / 2 ^ k % 2 = 1 then mo m (img m (a ^ (n % 2 ^ k)) * img m (a ^ 2 ^ k)) else img m (a ^ (n % 2 ^ k))) = img m (a ^ (n % 2 ^ (k + 1))) := by
  rw [pow_bit, mo_img h]
  split <;> rfl
theorem pow_sq {m : Nat} (h : OddM m) (a k : Nat) : mo m (img m (a ^ 2 ^ k) * img m (a ^ 2 ^ k)) = img m (a ^ 2 ^ (k + 1)) := by
  rw [mo_img h, ← Nat.pow_add, Nat.pow_succ, Nat.mul_two]
theorem lt_up {a n k : Nat} (hn : k ≤ n) (h : a < 2 ^ k) : a < 2 ^ n := Nat.lt_of_lt_of_le h (Nat.pow_le_pow_right (by decide) hn)
theorem lt_up_add {a b n k : Nat} (hn : k + 1 ≤ n) (h : a < 2 ^ k) (h' : b < 2 ^ k) : a + b < 2 ^ n := by
  have e : 2 ^ (k + 1) = 2 ^ k * 2 := Nat.pow_succ 2 k
  have h2 : 2 ^ (k + 1) ≤ 2 ^ n := Nat.pow_le_pow_right (by decide) hn
  rw [e] at h2
  omega
theorem lt_up_mul {a b n k : Nat} (hn : n = k + k) (h : a < 2 ^ k) (h' : b < 2 ^ k) : a * b < 2 ^ n := by
  rw [hn, Nat.pow_add 2 k k]
  exact Nat.mul_lt_mul_of_lt_of_le h (Nat.le_of_lt h') (Nat.two_pow_pos _)
theorem at512 {a n : Nat} (hn : n = 512) (h : a < 2 ^ n) : a < 2 ^ 512 := by subst hn; exact h
theorem lt512 {a : Nat} (h : a < 2 ^ 256) : a < 2 ^ 512 := by
  obtain ⟨n, hn⟩ : ∃ n, n = 512 := ⟨_, rfl⟩
  exact at512 hn (lt_up (by omega) h)
theorem lt512_add {a b : Nat} (h : a < 2 ^ 256) (h' : b < 2 ^ 256) : a + b < 2 ^ 512 := by
  obtain ⟨n, hn⟩ : ∃ n, n = 512 := ⟨_, rfl⟩
  exact at512 hn (lt_up_add (by omega) h h')
theorem lt512_mul {a b : Nat} (h : a < 2 ^ 256) (h' : b < 2 ^ 256) : a * b < 2 ^ 512 := by
  obtain ⟨n, hn⟩ : ∃ n, n = 512 := ⟨_, rfl⟩
  exact at512 hn (lt_up_mul (by omega) h h')
/-- Why a number may not be. -/
def chk (m : Nat) : Int := if m = 0 ∨ m = 1 then 11 else if m % 2 = 0 then 12 else 0
theorem chk_good {m : Nat} (h : OddM m) : chk m = 0 := by
  have := h.gt
  have := h.odd
  unfold chk
  rw [if_neg (by omega), if_neg (by omega)]
theorem good_of {m : Nat} (hm : m < 2 ^ 256) (h : chk m = 0) : OddM m := by
  unfold chk at h
  split at h
  · cases h
  · split at h
    · cases h
    · exact ⟨hm, by omega, by omega⟩
theorem chk_bad {m : Nat} (hm : m < 2 ^ 256) (h : ¬ OddM m) : chk m = 11 ∨ chk m = 12 := by
  by_cases h0 : chk m = 0
  · exact absurd (good_of hm h0) h
  · unfold chk at *
    split
    · exact .inl rfl
    · split
      · exact .inr rfl
      · rename_i h1 h2; simp [h1, h2] at h0
theorem nat4_set0 {a : Nat} (ha : a < 18446744073709551616) : (nat4 0).set 0 (.v (.int .u64 (a : Int))) = nat4 a := by
  rw [← arr4_zero, arr_set, nat4_small ha]
theorem nat4_setL (a : Nat) (ha : OfNat.ofNat a < 18446744073709551616) : (nat4 0).set 0 (.v (.int .u64 (no_index (OfNat.ofNat a : Int)))) = nat4 (OfNat.ofNat a) := nat4_set0 ha
theorem nat4_set1 : (nat4 0).set 0 (.v (.int .u64 1)) = nat4 1 := nat4_set0 (a := 1) (by decide)
theorem lt512_mulp {x : Nat} (h : x < 2 ^ 256) : x * 2 ^ 256 < 2 ^ 512 := by
  obtain ⟨n, hn⟩ : ∃ n, n = 512 := ⟨_, rfl⟩
  obtain ⟨k, hk⟩ : ∃ k, k = 256 := ⟨_, rfl⟩
  refine at512 hn ?_
  rw [← hk] at h ⊢
  rw [show n = k + k by omega, Nat.pow_add]
  exact Nat.mul_lt_mul_of_pos_right h (Nat.two_pow_pos _)
end Go.Ab

/-
  Blocks of Mods may turn: from as they were made to as they are when they were asked.
-/
namespace Go.Ab
open Go
set_option linter.unusedSimpArgs false
set_option linter.unusedVariables false

def modObj (T m : Nat) (b : Bool) : Obj := .cells ((modS m b).map (SV.conc fun _ => 0)).toArray T (0, 0)
theorem modObj_conc (T m : Nat) (b : Bool) (β : Nat → Nat) : (AB.mk T (modS m b)).conc β = modObj T m b := conc_vals (b := ⟨T, modS m b⟩) modS_ok _ _
theorem modS_fst (m : Nat) (b : Bool) : ∃ l, modS m b = nat4 m ++ l := by cases b <;> exact ⟨_, rfl⟩
theorem modObj_inj {T m m' : Nat} {b b' : Bool} (hm : OddM m) (hm' : OddM m') (h : modObj T m b = modObj T m' b') : m = m' := by
  refine (nat4_inj m m' hm.lt hm'.lt).1 ?_
  unfold modObj at h
  injection h with h _ _
  injection h with h
  obtain ⟨l, hl⟩ := modS_fst m b
  obtain ⟨l', hl'⟩ := modS_fst m' b'
  rw [hl, hl', List.map_append, List.map_append] at h
  have h1 := (List.append_inj h (by simp [nat4, arr])).1
  refine arr_congr fun i hi => ?_
  have h2 := congrArg (fun l => l[i]?) h1
  have h3 : ((wd m i : Nat) : Int) = ((wd m' i : Nat) : Int) := by simpa [nat4, arr, hi, SV.conc] using h2
  omega
def modEvo (T : Nat) : Evo where
  E o o' := ∃ m b b', OddM m ∧ o = modObj T m b ∧ o' = modObj T m b'
  TM t := t = T
  ofE := fun o o' ⟨m, b, b', _, h, _⟩ => ⟨_, _, _, h, rfl⟩
  trans := fun a b c ⟨m, x, y, hm, h1, h2⟩ ⟨m', x', y', hm', h3, h4⟩ => by
    have : m = m' := modObj_inj hm hm' (h2.symm.trans h3)
    subst this
    exact ⟨m, x, y', hm, h1, h4⟩
/-- Block k is a Mod of m. -/
def isMod (T k m : Nat) : Nat → World → Prop := fun B w => OddM m ∧ B ≤ k ∧ ∃ b, w.heap[k]? = some (modObj T m b)
theorem isMod_stays (T k m : Nat) : Stays (modEvo T) (isMod T k m) := by
  rintro B w w' ⟨hm, hB, b, hb⟩ hx
  refine ⟨hm, hB, ?_⟩
  rcases hx.blk k (Array.getElem?_eq_some_iff.1 hb).1 with h1 | ⟨_, o, o', h1, h2, m', x, y, hm', h3, h4⟩
  · exact ⟨b, h1.trans hb⟩
  · rw [hb] at h1
    injection h1 with h1
    have : m = m' := modObj_inj hm hm' (h1.trans h3)
    subst this
    exact ⟨y, h2.trans (congrArg some h4)⟩
theorem modEvo_TM {T e : Nat} : (modEvo T).TM e = (e = T) := rfl
/-- A Mod that was let go. -/
theorem isMod_gone {Γ : Ctx} {T m B : Nat} {bb : Bool} {H : Heap} {β : Nat → Nat} {w : World} {L : List Nat} {j : Nat} (hR : Rep Γ H β w) (hb : H[j]? = some ⟨T, modS m bb⟩) (hj : j ∉ L) (hlt : ∀ i ∈ L, i < H.length) (hm : OddM m) (hB : B ≤ β j) :
    Kn (Γ.after (modEvo T) B w β L) (isMod T (β j) m) := by
  intro w' h
  refine ⟨hm, hB, ?_⟩
  rcases gone hR hb hj hlt h with h1 | ⟨_, o, h1, m', x, y, hm', h3, h4⟩
  · exact ⟨bb, h1.trans (congrArg some (modObj_conc T m bb β))⟩
  · rw [modObj_conc] at h3
    have : m = m' := modObj_inj hm hm' h3
    subst this
    exact ⟨y, h1.trans (congrArg some h4)⟩
theorem new_lie {Γ : Ctx} {H : Heap} {β : Nat → Nat} {w : World} (hR : Rep Γ H β w) (ho : ∀ k, ¬ Γ.own k) {j : Nat} (hj : j < H.length) : Γ.W.heap.size ≤ β j := (hR.lie j hj).resolve_right (ho _)
/-- What does something with one Mod of ours may do it with any. -/
theorem OwnC.mod {P : Program} {f : FuncId} {T k m : Nat} {args : List TV} {r : TV} (ha : ∀ x ∈ args, x.ok 0) (h : OddM m → ∀ b, ∃ b', OwnC P f (.s (.p 0 0) :: args) [⟨T, modS m b⟩] [⟨T, modS m b'⟩] r) :
    EvC (modEvo T) P f (.s (.v (.pointer (some ⟨k, 0, none⟩))) :: args) (isMod T k m) r := by
  refine OwnC.ev ha fun B w ⟨hm, hB, b, hb⟩ => ?_
  obtain ⟨b', h1⟩ := h hm b
  exact ⟨_, _, h1, modS_ok, hb.trans (congrArg some (modObj_conc T m b _).symm), .inr ⟨hB, m, b, b', hm, modObj_conc T m b _, modObj_conc T m b' _⟩⟩
section
variable {Γ : Ctx} {V : Evo} {B : Nat} {w : World} {β : Nat → Nat} {L : List Nat} {e : TypeId}
theorem after_P : (Γ.after V B w β L).P = Γ.P := rfl
theorem after_TM : (Γ.after V B w β L).ev.TM e = V.TM e := rfl
theorem after_B : (Γ.after V B w β L).B = B := rfl
theorem after_n0 : (Γ.after V B w β L).n0 = 0 := rfl
end
/-- What a power is made of, bit by bit. -/
def gimg (m a n i : Nat) : Nat := img m (a ^ (n % 2 ^ i))
def pimg (m a i : Nat) : Nat := img m (a ^ 2 ^ i)
theorem gimg_zero (m a n : Nat) : gimg m a n 0 = img m 1 := by unfold gimg; rw [Nat.pow_zero, Nat.mod_one, Nat.pow_zero]
theorem pimg_zero (m a : Nat) : pimg m a 0 = img m a := by unfold pimg; rw [Nat.pow_zero, Nat.pow_one]
theorem gimg_lt {m : Nat} (h : OddM m) (a n i : Nat) : gimg m a n i < 2 ^ 256 := h.img_lt
theorem pimg_lt {m : Nat} (h : OddM m) (a i : Nat) : pimg m a i < 2 ^ 256 := h.img_lt
theorem gimg_end {m : Nat} (h : OddM m) (a n : Nat) : mo m (gimg m a n (blen n)) = a ^ n % m := by unfold gimg; rw [Nat.mod_eq_of_lt (lt_blen n), mo_back h]
theorem gimg_step {m : Nat} (h : OddM m) (a n i : Nat) : (n / 2 ^ i % 2 = 0 ∧ gimg m a n i = gimg m a n (i + 1)) ∨ (n / 2 ^ i % 2 = 1 ∧ mo m (gimg m a n i * pimg m a i) = gimg m a n (i + 1)) := by
  have e := pow_img h a n i
  unfold gimg pimg
  by_cases h3 : n / 2 ^ i % 2 = 1
  · rw [if_pos h3] at e; exact .inr ⟨h3, e⟩
  · rw [if_neg h3] at e; exact .inl ⟨by omega, e⟩
theorem pimg_step {m : Nat} (h : OddM m) (a i : Nat) : mo m (pimg m a i * pimg m a i) = pimg m a (i + 1) := pow_sq h a i
theorem ren_nat4 {ρ : Nat → Nat} {a : Nat} : TV.ren ρ (.agg (nat4 a)) = .agg (nat4 a) := TV.ren_ok0 (x := .agg (nat4 a)) fun x hx => arr_ok 0 x hx
theorem avren_nat4 {ρ : Nat → Nat} {a : Nat} : AV.ren ρ (.agg (nat4 a)) = .agg (nat4 a) := AV.ren_ok0 (x := .agg (nat4 a)) fun x hx => arr_ok 0 x hx
end Go.Ab

/-
  A Mod that was made is let go: from there on it is known.
-/
namespace Go.Ab
open Go
set_option linter.unusedSimpArgs false
set_option linter.unusedVariables false
section
variable {L : List Nat} {β : Nat → Nat} {H : Heap} {o n c j i : Nat} {x : Value}
theorem fz_v : TV.fz L β (.s (.v x)) = .s (.v x) := rfl
theorem fz_p : TV.fz L β (.s (.p j o)) = .s (fzP β o j (posL L j)) := rfl
theorem fz_sl : TV.fz L β (.s (.sl j o n c)) = .s (fzS β o n c j (posL L j)) := rfl
theorem fz_agg {l : List SV} : TV.fz L β (.agg l) = .agg (l.map (SV.fz L β)) := rfl
theorem fz_tup {l : List AV} : TV.fz L β (.tup l) = .tup (l.map (AV.fz L β)) := rfl
theorem fz_undef : TV.fz L β undefT = undefT := rfl
theorem avfz_v : AV.fz L β (.s (.v x)) = .s (.v x) := rfl
theorem avfz_p : AV.fz L β (.s (.p j o)) = .s (fzP β o j (posL L j)) := rfl
theorem avfz_sl : AV.fz L β (.s (.sl j o n c)) = .s (fzS β o n c j (posL L j)) := rfl
theorem avfz_agg {l : List SV} : AV.fz L β (.agg l) = .agg (l.map (SV.fz L β)) := rfl
theorem svfz_v : SV.fz L β (.v x) = .v x := rfl
theorem svfz_p : SV.fz L β (.p j o) = fzP β o j (posL L j) := rfl
theorem svfz_sl : SV.fz L β (.sl j o n c) = fzS β o n c j (posL L j) := rfl
theorem fzP_none : fzP β o j none = .v (.pointer (some ⟨β j, o, none⟩)) := rfl
theorem fzP_some : fzP β o j (some i) = .p i o := rfl
theorem fzS_none : fzS β o n c j none = .v (.slice (some ⟨β j, o, none⟩) n c) := rfl
theorem fzS_some : fzS β o n c j (some i) = .sl i o n c := rfl
theorem fz_ok0 {l : List SV} (h : ∀ x ∈ l, x.ok 0) : l.map (SV.fz L β) = l := by
  refine (List.map_congr_left (g := id) fun x hx => ?_).trans (List.map_id l)
  have := h x hx
  cases x with
  | v x => rfl
  | p j o => exact absurd this (Nat.not_lt_zero j)
  | sl j o n c => exact absurd this (Nat.not_lt_zero j)
theorem fz_nat4 {a : Nat} : (nat4 a).map (SV.fz L β) = nat4 a := fz_ok0 fun x hx => arr_ok 0 x hx
theorem fz_arr {n : Nat} {f : Nat → Nat} : (arr n f).map (SV.fz L β) = arr n f := fz_ok0 fun x hx => arr_ok 0 x hx
theorem fz_iarr {n : Nat} {f : Nat → Int} : (iarr n f).map (SV.fz L β) = iarr n f := fz_ok0 fun x hx => iarr_ok 0 x hx
def fzB (L : List Nat) (β : Nat → Nat) (b : Option AB) (H : Heap) : Heap := match b with | some b => ⟨b.t, b.cs.map (SV.fz L β)⟩ :: H | none => H
theorem fzB_some {t : Nat} {cs : List SV} : fzB L β (some ⟨t, cs⟩) H = ⟨t, cs.map (SV.fz L β)⟩ :: H := rfl
theorem fzH_nil : fzH L β H [] = [] := rfl
theorem fzH_cons {r : List Nat} : fzH L β H (i :: r) = fzB L β H[i]? (fzH L β H r) := by
  simp only [fzH]
  cases H[i]? <;> rfl
end
/-- FROM HERE ON block j, a Mod, is known; the blocks of L are kept. -/
theorem X_mod {P : Program} {w0 : World} {c : Code} {T : List TV} {H : Heap} {Q : QX} {T0 m : Nat} {bb : Bool} (j : Nat) (L : List Nat) (hb : H[j]? = some ⟨T0, modS m bb⟩) (hL : L.Nodup) (hLj : j ∉ L) (hG : OddM m) (hlt : ∀ i ∈ L, i < H.length)
    (hLT : ∀ b ∈ pickH H L, b.t ≠ T0)
    (h : ∀ β w, Kn ((ctx0 P w0).after (modEvo T0) w0.heap.size w β L) (isMod T0 (β j) m) → X ((ctx0 P w0).after (modEvo T0) w0.heap.size w β L) c (T.map (TV.fz L β)) (fzH L β H L) Q) : X (ctx0 P w0) c T H Q := by
  refine X_rebase (modEvo T0) w0.heap.size L hL hlt rfl (.inr (Nat.le_refl _)) (fun _ h => h.elim) (fun i hi b hb => ?_) fun β w hR => h β w ?_
  · refine hLT b ?_
    clear h hLT hL hLj hlt
    induction L with
    | nil => cases hi
    | cons i' r ih =>
      rw [pickH_cons]
      rcases List.mem_cons.1 hi with h1 | h1
      · subst h1; rw [hb, consH_some]; exact List.mem_cons_self ..
      · have h2 := ih h1
        cases h3 : H[i']? with
        | none => exact h2
        | some b' => exact List.mem_cons_of_mem _ h2
  · exact isMod_gone hR hb hLj hlt hG (new_lie hR (fun _ h => h) (List.getElem?_eq_some_iff.1 hb).1)
end Go.Ab
