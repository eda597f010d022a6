/-
  Factors in a row, proofs in a row: memory that is known.
-/
import Derived.Test.YthniflakjkbpiaaDoorNb
import Derived.Test.YthniflakjkbpiaaDoorAb29
namespace Go.Ab
open Go Go.RowKit
set_option linter.unusedSimpArgs false
set_option linter.unusedVariables false

/-- A row of cells that is known. -/
theorem xext_cells {Γ : Ctx} {V : Evo} {ad : Addr} {n k q : Nat} {g : Nat → Value} (h : Kn Γ (cellsAt V ad n g)) (hk : k + q ≤ n) {K : TV → HE → Prop} : xext Γ (some true) q (ad.add k) K = K (.agg ((List.range q).map fun i => .v (g (k + i)))) .none := by
  have hs := h.spot
  obtain ⟨b, o, s⟩ := ad
  simp only at hs
  subst hs
  rw [addr_add]
  have hc : ∀ i, i < q → extCell Γ ⟨b, o + k + i, none⟩ (g (k + i)) := fun i hi => by
    have h3 := h.cell (i := k + i) (by omega)
    rw [addr_add, ← Nat.add_assoc] at h3
    exact h3
  simp only [xext, eq_iff_iff]
  have e : ∀ l : List Value, l.length = q → (∀ i x, l[i]? = some x → extCell Γ ⟨b, o + k + i, none⟩ x) → l = (List.range q).map fun i => g (k + i) := by
    intro l hl hc'
    refine List.ext_getElem? fun i => ?_
    by_cases hi : i < q
    · have h1 := hc' i l[i] (List.getElem?_eq_getElem (by omega))
      rw [List.getElem?_eq_getElem (by omega), extCell_fun h1 (hc i hi), List.getElem?_map, List.getElem?_range hi]
      rfl
    · rw [List.getElem?_eq_none (by omega), List.getElem?_eq_none (by simp; omega)]
  constructor
  · rintro ⟨l, hl, _, hc', hK⟩
    rw [e l hl hc', List.map_map] at hK
    exact hK
  · intro hK
    refine ⟨(List.range q).map fun i => g (k + i), by simp, trivial, fun i x hx => ?_, by rw [List.map_map]; exact hK⟩
    simp only [List.getElem?_map, Option.map_eq_some_iff] at hx
    obtain ⟨a, ha, rfl⟩ := hx
    have hi : i < q := by
      have := (List.getElem?_eq_some_iff.1 ha).1
      simpa using this
    rw [List.getElem?_range hi] at ha
    injection ha with ha
    subst ha
    exact hc i hi
theorem add_add {ad : Addr} (hs : ad.spot = none) (i j : Nat) : (ad.add i).add j = ad.add (i + j) := by
  obtain ⟨b, o, s⟩ := ad
  simp only at hs
  subst hs
  rw [addr_add, addr_add, addr_add, Nat.add_assoc]
/-! Tryd# Factors -/
/-- A factor. -/
def fac (p : Nat) (e : Int) : List SV := nat4 p ++ [.v (.int .i64 e)]
section
variable {p : Nat} {e : Int}
theorem fac_length : (fac p e).length = 5 := rfl
theorem fac_okk {m : Nat} : (∀ x ∈ fac p e, x.ok m) = True := eq_true fun x hx => by
  rcases List.mem_append.1 hx with h | h
  · exact arr_ok m x h
  · simp only [List.mem_singleton] at h; subst h; trivial
theorem fac_one : oneAll (fac p e) = True := eq_true fun x hx => by
  rcases List.mem_append.1 hx with h | h
  · have : oneAll (nat4 p) := by rw [nat4_one]; trivial
    exact this x h
  · simp only [List.mem_singleton] at h; subst h; rfl
theorem fac_fst : List.take 4 (fac p e) = nat4 p := rfl
theorem fac_snd : (fac p e)[4]? = some (.v (.int .i64 e)) := rfl
theorem fac_splice {l : List SV} (h : l.length = 5) : splice l 0 (fac p e) = fac p e := splice_all (by rw [h]; rfl) (by rw [fac_length]; decide)
end
def facG (P : Nat → Nat) (E : Nat → Int) (j : Nat) : Value := if j % 5 < 4 then .int .u64 (wd (P (j / 5)) (j % 5) : Int) else .int .i64 (E (j / 5))
/-- n factors at an address (none, if there are none). -/
def facsAt (V : Evo) (x : Option Addr) (n : Nat) (P : Nat → Nat) (E : Nat → Int) : Nat → World → Prop := fun B w => n = 0 ∨ ∃ ad, x = some ad ∧ cellsAt V ad (5 * n) (facG P E) B w
theorem facsAt_stays (V : Evo) (x : Option Addr) (n : Nat) (P : Nat → Nat) (E : Nat → Int) : Stays V (facsAt V x n P E) := by
  rintro B w w' (h | ⟨ad, hx, h⟩) he
  · exact .inl h
  · exact .inr ⟨ad, hx, cellsAt_stays V ad _ _ B w w' h he⟩
/-- They lie there. -/
def facs (x : Option Addr) (n : Nat) (P : Nat → Nat) (E : Nat → Int) (w : World) : Prop := n = 0 ∨ ∃ ad, x = some ad ∧ ad.spot = none ∧ ∃ c t f, w.heap[ad.block]? = some (.cells c t f) ∧ ∀ i, i < 5 * n → c[ad.off + i]? = some (facG P E i)
theorem facs_at {x : Option Addr} {n : Nat} {P : Nat → Nat} {E : Nat → Int} {w : World} (V : Evo) (h : facs x n P E w) : facsAt V x n P E w.heap.size w := by
  rcases h with h | ⟨ad, hx, hs, c, t, f, hk, hc⟩
  · exact .inl h
  · exact .inr ⟨ad, hx, hs, c, t, f, hk, .inl (Array.getElem?_eq_some_iff.1 hk).1, hc⟩
theorem facs_of {x : Option Addr} {n : Nat} {P : Nat → Nat} {E : Nat → Int} {w : World} {V : Evo} {B : Nat} (h : facsAt V x n P E B w) : facs x n P E w := by
  rcases h with h | ⟨ad, hx, hs, c, t, f, hk, _, hc⟩
  · exact .inl h
  · exact .inr ⟨ad, hx, hs, c, t, f, hk, hc⟩
/-- What is so when a function of values begins stays so in it. -/
theorem kn0_law {P : Program} {w : World} {V : Evo} {p : Nat → World → Prop} (hs : Stays V p) (hp : p w.heap.size w) : Kn (ctx0 P w) p := by
  intro w' ⟨h1, h2, h3, h4, h5⟩
  exact hs _ w w' hp ⟨h1, h2, h3, h4, fun k hk => .inl (by
    rcases h5 k hk with h6 | h6 | ⟨_, _, _, _, _, h6⟩
    · exact h6.elim
    · exact h6
    · exact h6.elim)⟩
theorem facs_kn {P0 : Program} {w : World} {x : Option Addr} {n : Nat} {P : Nat → Nat} {E : Nat → Int} (h : facs x n P E w) : Kn (ctx0 P0 w) (facsAt Evo.none x n P E) := kn0_law (facsAt_stays Evo.none x n P E) (facs_at _ h)
theorem Kn.facs0 {Γ : Ctx} {V : Evo} {x : Option Addr} {n : Nat} {P : Nat → Nat} {E : Nat → Int} (h : Kn Γ (facsAt V x n P E)) : Kn Γ fun _ w => Ab.facs x n P E w := fun w hw => facs_of (h w hw)
section
variable {Γ : Ctx} {V : Evo} {ad : Addr} {n i : Nat} {P : Nat → Nat} {E : Nat → Int}
theorem Kn.facs (h : Kn Γ (facsAt V (some ad) n P E)) (hi : i < n) : Kn Γ (cellsAt V ad (5 * n) (facG P E)) := fun w hw => by
  rcases h w hw with h1 | ⟨ad', hx, h1⟩
  · omega
  · injection hx with hx
    subst hx
    exact h1
theorem facG_p {k : Nat} (hk : k < 4) : facG P E (i * 5 + k) = .int .u64 (wd (P i) k : Int) := by
  unfold facG
  rw [show (i * 5 + k) % 5 = k by omega, show (i * 5 + k) / 5 = i by omega, if_pos hk]
theorem facG_e : facG P E (i * 5 + 4) = .int .i64 (E i) := by
  unfold facG
  rw [show (i * 5 + 4) % 5 = 4 by omega, show (i * 5 + 4) / 5 = i by omega, if_neg (by decide)]
theorem map_facG_p : ((List.range 4).map fun k => SV.v (facG P E (i * 5 + k))) = nat4 (P i) := by
  unfold nat4 arr
  refine List.map_congr_left fun k hk => ?_
  rw [List.mem_range] at hk
  rw [facG_p hk]
theorem map_facG : ((List.range 5).map fun k => SV.v (facG P E (i * 5 + k))) = fac (P i) (E i) := by
  rw [List.range_succ, List.map_append, map_facG_p, List.map_singleton, facG_e]
  rfl
/-- A factor out of a row that is known; its number; how often it stands. -/
theorem Kn.fac (h : Kn Γ (facsAt V (some ad) n P E)) (hi : i < n) {K : TV → HE → Prop} : xext Γ (some true) 5 (ad.add (i * 5)) K = K (.agg (Ab.fac (P i) (E i))) .none := by
  rw [xext_cells (h.facs hi) (by omega), map_facG]
theorem Kn.facP (h : Kn Γ (facsAt V (some ad) n P E)) (hi : i < n) {K : TV → HE → Prop} : xext Γ (some true) 4 (ad.add (i * 5)) K = K (.agg (nat4 (P i))) .none := by
  rw [xext_cells (h.facs hi) (by omega), map_facG_p]
theorem Kn.facE (h : Kn Γ (facsAt V (some ad) n P E)) (hi : i < n) {q : Nat} {K : TV → HE → Prop} : xext Γ (some false) q ((ad.add (i * 5)).add 4) K = K (.s (.v (.int .i64 (E i)))) .none := by
  have h2 := h.facs hi
  rw [add_add h2.spot, xext_eq (h2.cell (by omega)), facG_e]
end
/-! Tryd# Proofs -/
/-- A proof that a number is prime: the number, what tells it, and factors. -/
structure Pf where
  N : Nat
  G : Nat
  y : Option Addr
  n : Nat
  c : Nat
  P : Nat → Nat
  E : Nat → Int
/-- As cells. -/
def prf (N G : Nat) (s : SV) : List SV := nat4 N ++ (nat4 G ++ [s])
section
variable {N G : Nat} {s : SV}
theorem prf_length : (prf N G s).length = 9 := rfl
theorem prf_okk {m : Nat} : (∀ x ∈ prf N G s, x.ok m) = s.ok m := by
  refine propext ⟨fun h => h s (List.mem_append_right _ (List.mem_append_right _ (List.mem_singleton_self s))), fun h x hx => ?_⟩
  rcases List.mem_append.1 hx with h1 | h1
  · exact arr_ok m x h1
  · rcases List.mem_append.1 h1 with h1 | h1
    · exact arr_ok m x h1
    · simp only [List.mem_singleton] at h1; subst h1; exact h
theorem prf_one : oneAll (prf N G s) = (s.one = true) := by
  refine propext ⟨fun h => h s (List.mem_append_right _ (List.mem_append_right _ (List.mem_singleton_self s))), fun h x hx => ?_⟩
  have h4 : ∀ q, oneAll (nat4 q) := fun q => by rw [nat4_one]; trivial
  rcases List.mem_append.1 hx with h1 | h1
  · exact h4 N x h1
  · rcases List.mem_append.1 h1 with h1 | h1
    · exact h4 G x h1
    · simp only [List.mem_singleton] at h1; subst h1; exact h
theorem prf_fst : List.take 4 (prf N G s) = nat4 N := rfl
theorem prf_snd : List.take 4 (List.drop 4 (prf N G s)) = nat4 G := rfl
theorem prf_thd : (prf N G s)[8]? = some s := rfl
theorem prf_splice {l : List SV} (h : l.length = 9) : splice l 0 (prf N G s) = prf N G s := splice_all (by rw [h]; rfl) (by rw [prf_length]; decide)
theorem fz_prf {L : List Nat} {β : Nat → Nat} : (prf N G s).map (SV.fz L β) = prf N G (s.fz L β) := rfl
end
def prfG (l : Nat → Pf) (j : Nat) : Value := if j % 9 < 4 then .int .u64 (wd (l (j / 9)).N (j % 9) : Int) else if j % 9 < 8 then .int .u64 (wd (l (j / 9)).G (j % 9 - 4) : Int) else .slice (l (j / 9)).y (l (j / 9)).n (l (j / 9)).c
/-- m proofs at an address (none, if there are none), with their factors. -/
def prfAt (V : Evo) (x : Option Addr) (m : Nat) (l : Nat → Pf) : Nat → World → Prop := fun B w => (m = 0 ∨ ∃ ad, x = some ad ∧ cellsAt V ad (9 * m) (prfG l) B w) ∧ ∀ i, i < m → facsAt V (l i).y (l i).n (l i).P (l i).E B w
theorem prfAt_stays (V : Evo) (x : Option Addr) (m : Nat) (l : Nat → Pf) : Stays V (prfAt V x m l) := by
  rintro B w w' ⟨h, hf⟩ he
  refine ⟨?_, fun i hi => facsAt_stays V _ _ _ _ B w w' (hf i hi) he⟩
  rcases h with h | ⟨ad, hx, h⟩
  · exact .inl h
  · exact .inr ⟨ad, hx, cellsAt_stays V ad _ _ B w w' h he⟩
/-- They lie there. -/
def prfs (x : Option Addr) (m : Nat) (l : Nat → Pf) (w : World) : Prop := (m = 0 ∨ ∃ ad, x = some ad ∧ ad.spot = none ∧ ∃ c t f, w.heap[ad.block]? = some (.cells c t f) ∧ ∀ i, i < 9 * m → c[ad.off + i]? = some (prfG l i)) ∧ ∀ i, i < m → facs (l i).y (l i).n (l i).P (l i).E w
theorem prfs_at {x : Option Addr} {m : Nat} {l : Nat → Pf} {w : World} (V : Evo) (h : prfs x m l w) : prfAt V x m l w.heap.size w := by
  refine ⟨?_, fun i hi => facs_at V (h.2 i hi)⟩
  rcases h.1 with h | ⟨ad, hx, hs, c, t, f, hk, hc⟩
  · exact .inl h
  · exact .inr ⟨ad, hx, hs, c, t, f, hk, .inl (Array.getElem?_eq_some_iff.1 hk).1, hc⟩
theorem prfs_of {x : Option Addr} {m : Nat} {l : Nat → Pf} {w : World} {V : Evo} {B : Nat} (h : prfAt V x m l B w) : prfs x m l w := by
  refine ⟨?_, fun i hi => facs_of (h.2 i hi)⟩
  rcases h.1 with h | ⟨ad, hx, hs, c, t, f, hk, _, hc⟩
  · exact .inl h
  · exact .inr ⟨ad, hx, hs, c, t, f, hk, hc⟩
theorem prfs_kn {P0 : Program} {w : World} {x : Option Addr} {m : Nat} {l : Nat → Pf} (h : prfs x m l w) : Kn (ctx0 P0 w) (prfAt Evo.none x m l) := kn0_law (prfAt_stays Evo.none x m l) (prfs_at _ h)
theorem Kn.prfs0 {Γ : Ctx} {V : Evo} {x : Option Addr} {m : Nat} {l : Nat → Pf} (h : Kn Γ (prfAt V x m l)) : Kn Γ fun _ w => Ab.prfs x m l w := fun w hw => prfs_of (h w hw)
/-- The least prime, where it lies. -/
def least (w : World) : Prop := ∃ c t f, w.heap[0]? = some (.cells c t f) ∧ ∀ i, i < 4 → c[i]? = some (natsG (fun _ => 2) i)
theorem least_at {w : World} (V : Evo) (h : least w) : natsAt V (some ⟨0, 0, none⟩) 1 (fun _ => 2) w.heap.size w := by
  obtain ⟨c, t, f, hk, hc⟩ := h
  exact .inr ⟨_, rfl, rfl, c, t, f, hk, .inl (Array.getElem?_eq_some_iff.1 hk).1, fun i hi => by rw [Nat.zero_add]; exact hc i hi⟩
theorem least_of {w : World} {V : Evo} {B : Nat} (h : natsAt V (some ⟨0, 0, none⟩) 1 (fun _ => 2) B w) : least w := by
  rcases h with h | ⟨ad, hx, _, c, t, f, hk, _, hc⟩
  · cases h
  · injection hx with hx
    subst hx
    exact ⟨c, t, f, hk, fun i hi => by have := hc i hi; rwa [Nat.zero_add] at this⟩
theorem least_kn {P0 : Program} {w : World} (h : least w) : Kn (ctx0 P0 w) (natsAt Evo.none (some ⟨0, 0, none⟩) 1 fun _ => 2) := kn0_law (natsAt_stays Evo.none _ _ _) (least_at _ h)
theorem Kn.least0 {Γ : Ctx} {V : Evo} (h : Kn Γ (natsAt V (some ⟨0, 0, none⟩) 1 fun _ => 2)) : Kn Γ fun _ w => Ab.least w := fun w hw => least_of (h w hw)
theorem Kn.least {Γ : Ctx} {V : Evo} (h : Kn Γ (natsAt V (some ⟨0, 0, none⟩) 1 fun _ => 2)) {K : TV → HE → Prop} : xext Γ (some true) 4 ⟨0, 0, none⟩ K = K (.agg (nat4 2)) .none := h.nat (i := 0) (by decide)
section
variable {Γ : Ctx} {V : Evo} {ad : Addr} {n i : Nat} {l : Nat → Pf}
theorem Kn.prfs (h : Kn Γ (prfAt V (some ad) n l)) (hi : i < n) : Kn Γ (cellsAt V ad (9 * n) (prfG l)) := fun w hw => by
  rcases (h w hw).1 with h1 | ⟨ad', hx, h1⟩
  · omega
  · injection hx with hx
    subst hx
    exact h1
theorem Kn.prfF {x : Option Addr} (h : Kn Γ (prfAt V x n l)) (hi : i < n) : Kn Γ (facsAt V (l i).y (l i).n (l i).P (l i).E) := fun w hw => (h w hw).2 i hi
theorem prfG_n {k : Nat} (hk : k < 4) : prfG l (i * 9 + k) = .int .u64 (wd (l i).N k : Int) := by
  unfold prfG
  rw [show (i * 9 + k) % 9 = k by omega, show (i * 9 + k) / 9 = i by omega, if_pos hk]
theorem prfG_g {k : Nat} (hk : k < 4) : prfG l (i * 9 + 4 + k) = .int .u64 (wd (l i).G k : Int) := by
  unfold prfG
  rw [show (i * 9 + 4 + k) % 9 = 4 + k by omega, show (i * 9 + 4 + k) / 9 = i by omega, if_neg (by omega), if_pos (by omega), Nat.add_sub_cancel_left]
theorem prfG_s : prfG l (i * 9 + 8) = .slice (l i).y (l i).n (l i).c := by
  unfold prfG
  rw [show (i * 9 + 8) % 9 = 8 by omega, show (i * 9 + 8) / 9 = i by omega, if_neg (by decide), if_neg (by decide)]
theorem map_prfG_n : ((List.range 4).map fun k => SV.v (prfG l (i * 9 + k))) = nat4 (l i).N := by
  unfold nat4 arr
  refine List.map_congr_left fun k hk => ?_
  rw [List.mem_range] at hk
  rw [prfG_n hk]
theorem map_prfG_g : ((List.range 4).map fun k => SV.v (prfG l (i * 9 + 4 + k))) = nat4 (l i).G := by
  unfold nat4 arr
  refine List.map_congr_left fun k hk => ?_
  rw [List.mem_range] at hk
  rw [prfG_g hk]
theorem map_prfG : ((List.range 9).map fun k => SV.v (prfG l (i * 9 + k))) = prf (l i).N (l i).G (.v (.slice (l i).y (l i).n (l i).c)) := by
  have h : (List.range 9).map (fun k => SV.v (prfG l (i * 9 + k))) = (List.range 4).map (fun k => SV.v (prfG l (i * 9 + k))) ++ ((List.range 4).map (fun k => SV.v (prfG l (i * 9 + 4 + k))) ++ [SV.v (prfG l (i * 9 + 8))]) := rfl
  rw [h, map_prfG_n, map_prfG_g, prfG_s]
  rfl
/-- A proof out of a row that is known; its number; what tells it; its factors. -/
theorem Kn.prf (h : Kn Γ (prfAt V (some ad) n l)) (hi : i < n) {K : TV → HE → Prop} : xext Γ (some true) 9 (ad.add (i * 9)) K = K (.agg (Ab.prf (l i).N (l i).G (.v (.slice (l i).y (l i).n (l i).c)))) .none := by
  rw [xext_cells (h.prfs hi) (by omega), map_prfG]
theorem Kn.prfN (h : Kn Γ (prfAt V (some ad) n l)) (hi : i < n) {K : TV → HE → Prop} : xext Γ (some true) 4 (ad.add (i * 9)) K = K (.agg (nat4 (l i).N)) .none := by
  rw [xext_cells (h.prfs hi) (by omega), map_prfG_n]
theorem Kn.prfS (h : Kn Γ (prfAt V (some ad) n l)) (hi : i < n) {q : Nat} {K : TV → HE → Prop} : xext Γ (some false) q ((ad.add (i * 9)).add 8) K = K (.s (.v (.slice (l i).y (l i).n (l i).c))) .none := by
  have h2 := h.prfs hi
  rw [add_add h2.spot, xext_eq (h2.cell (by omega)), prfG_s]
end
end Go.Ab
