/-
  Loops, cuts, functions.
-/
import Derived.Test.YtmipfmjeppodmaaAb5
import Derived.Deep.LoopGhost
namespace Go.Ab
open Go Go.RowKit
set_option linter.unusedSimpArgs false
set_option linter.unusedVariables false

/-! Try# What is said speaks of our blocks alone -/
theorem SV.ok_of {n : Nat} {β : Nat → Nat} {x : SV} (h : ∀ β', Agrees n β β' → x.conc β' = x.conc β) : x.ok n := by
  cases x with
  | v x => trivial
  | p j off =>
    rcases Nat.lt_or_ge j n with hj | hj
    · exact hj
    · have := h (upd β j (β j + 1)) (fun k hk => by simp [upd, show k ≠ j by omega])
      simp [SV.conc, upd_same] at this
  | sl j off len cap =>
    rcases Nat.lt_or_ge j n with hj | hj
    · exact hj
    · have := h (upd β j (β j + 1)) (fun k hk => by simp [upd, show k ≠ j by omega])
      simp [SV.conc, upd_same] at this

theorem toArr_inj {α : Type} {a b : List α} (h : a.toArray = b.toArray) : a = b := by simpa using congrArg Array.toList h

theorem SV.oks_of {n : Nat} {β : Nat → Nat} {l : List SV} (h : ∀ β', Agrees n β β' → l.map (SV.conc β') = l.map (SV.conc β)) : ∀ x ∈ l, x.ok n := by
  intro x hx
  refine SV.ok_of (β := β) fun β' h' => ?_
  have := h β' h'
  rw [List.map_inj_left] at this
  exact this x hx

theorem AV.ok_of {n : Nat} {β : Nat → Nat} {x : AV} (h : ∀ β', Agrees n β β' → x.conc β' = x.conc β) : x.ok n := by
  cases x with
  | s x => exact SV.ok_of h
  | agg l => exact SV.oks_of (β := β) fun β' h' => by have := h β' h'; simpa [AV.conc] using this

theorem TV.ok_of {n : Nat} {β : Nat → Nat} {x : TV} (h : ∀ β', Agrees n β β' → x.conc β' = x.conc β) : x.ok n := by
  cases x with
  | s x => exact SV.ok_of h
  | agg l => exact SV.oks_of (β := β) fun β' h' => by have := h β' h'; simpa [TV.conc] using this
  | tup l =>
    intro x hx
    refine AV.ok_of (β := β) fun β' h' => ?_
    have := h β' h'
    simp only [TV.conc, Value.tuple.injEq] at this
    have := toArr_inj this
    rw [List.map_inj_left] at this
    exact this x hx

theorem Holds.ok {n : Nat} {β : Nat → Nat} {T : List TV} {tmps : Array Value} (h : Holds n β T tmps) : ∀ x ∈ T, x.ok n := by
  intro x hx
  refine TV.ok_of (β := β) fun β' h' => ?_
  have h1 := h β' h'
  rw [h β (.refl _ _)] at h1
  have h1 := toArr_inj h1
  rw [List.map_inj_left] at h1
  exact (h1 x hx).symm

theorem Holds.of_ok {n : Nat} {β : Nat → Nat} {T : List TV} {tmps : Array Value} (h : tmps = (T.map (TV.conc β)).toArray) (ho : ∀ x ∈ T, x.ok n) : Holds n β T tmps := fun β' h' => by
  rw [h]
  congr 1
  exact (List.map_congr_left fun x hx => TV.conc_ok (ho x hx) h').symm

theorem Rep.ok {Γ : Ctx} {H : Heap} {β : Nat → Nat} {w : World} (h : Rep Γ H β w) {j : Nat} {b : AB} (hb : H[j]? = some b) : ∀ x ∈ b.cs, x.ok H.length := by
  refine SV.oks_of (β := β) fun β' h' => ?_
  have h1 := h.blk β' h' j b hb
  rw [h.blk β (.refl _ _) j b hb] at h1
  injection h1 with h1
  simp only [AB.conc, Obj.cells.injEq, and_true] at h1
  exact (toArr_inj h1).symm

/-- Fewer blocks. -/
theorem Rep.drop {Γ : Ctx} {H G : Heap} {β : Nat → Nat} {w : World} (h : Rep Γ (H ++ G) β w) (hn : Γ.n0 ≤ H.length) (ho : ∀ (j : Nat) (b : AB), H[j]? = some b → ∀ x ∈ b.cs, x.ok H.length) : Rep Γ H β w := by
  have hg : ∀ {j : Nat} {b : AB}, H[j]? = some b → (H ++ G)[j]? = some b := fun {j b} hb => by
    rw [List.getElem?_append_left (List.getElem?_eq_some_iff.1 hb).1]; exact hb
  refine ⟨⟨hn, h.anc.2⟩, h.fr, fun i j hi hj => h.inj i j (by simp; omega) (by simp; omega), fun j hj => h.lie j (by simp; omega), fun j b hb => h.typ j b (hg hb), fun β' h' j b hb => ?_⟩
  rw [h.blk β (.refl _ _) j b (hg hb)]
  simp only [AB.conc]
  rw [SV.concs_ok (ho j b hb) h']

/-! Try# States that come again -/
def setMany (T : List TV) : List (Nat × TV) → List TV
  | [] => T
  | (d, v) :: r => setMany (T.set d v) r
def setCells (H : Heap) : List (Nat × List SV) → Heap
  | [] => H
  | (j, cs) :: r => setCells (putH H j cs) r
def junk (us : Nat → Value) (js : List Nat) : List (Nat × TV) := js.map fun d => (d, .s (.v (us d)))
def agreeS (v : Option TV) (j : Bool) (x y : TV) : Prop :=
  match v, j with
  | some v, _ => y = v
  | none, true => True
  | none, false => y = x
/-- T' is T but for the slots in js, of which nothing is said, and those that sv lists. -/
def agreeT (js : List Nat) (sv : List (Nat × TV)) : Nat → List TV → List TV → Prop
  | _, [], [] => True
  | i, x :: T, y :: T' => agreeS (sv.lookup i) (js.contains i) x y ∧ agreeT js sv (i + 1) T T'
  | _, _, _ => False

theorem setMany_length (sv : List (Nat × TV)) : ∀ T : List TV, (setMany T sv).length = T.length := by
  induction sv with
  | nil => intro T; rfl
  | cons p r ih => intro T; obtain ⟨d, v⟩ := p; simp [setMany, ih]

theorem setMany_get (sv : List (Nat × TV)) (hnd : (sv.map (·.1)).Nodup) : ∀ (T : List TV) (i : Nat), i < T.length → (setMany T sv)[i]? = match sv.lookup i with | some v => some v | none => T[i]? := by
  induction sv with
  | nil => intro T i _; rfl
  | cons p r ih =>
    obtain ⟨d, v⟩ := p
    intro T i hi
    simp only [List.map_cons, List.nodup_cons] at hnd
    simp only [setMany, List.lookup_cons]
    rw [ih hnd.2 _ i (by simpa using hi)]
    by_cases hid : i = d
    · subst hid
      have : r.lookup i = none := by
        rw [List.lookup_eq_none_iff]
        intro p hp
        simp only [bne_iff_ne, ne_eq]
        rintro rfl
        exact hnd.1 (List.mem_map_of_mem hp)
      simp [this, hi]
    · have h1 : (i == d) = false := by simpa using hid
      simp only [h1]
      cases r.lookup i with
      | some u => rfl
      | none => simp [List.getElem?_set_ne (Ne.symm hid)]

theorem junk_lookup (us : Nat → Value) (js : List Nat) (i : Nat) : (junk us js).lookup i = if js.contains i then some (.s (.v (us i))) else none := by
  induction js with
  | nil => rfl
  | cons d r ih =>
    simp only [junk, List.map_cons, List.lookup_cons, List.contains_cons]
    by_cases h : i = d
    · subst h; simp
    · have h1 : (i == d) = false := by simpa using h
      simp only [h1, Bool.false_or]
      exact ih

theorem agreeT_spec (js : List Nat) (sv : List (Nat × TV)) : ∀ (i : Nat) (T T' : List TV), agreeT js sv i T T' →
    T.length = T'.length ∧ ∀ k x y, T[k]? = some x → T'[k]? = some y → (match sv.lookup (i + k) with | some v => y = v | none => js.contains (i + k) = true ∨ y = x)
  | _, [], [], _ => ⟨rfl, fun k x y h => by simp at h⟩
  | i, x :: T, y :: T', h => by
    obtain ⟨h1, h2⟩ := h
    obtain ⟨hl, hk⟩ := agreeT_spec js sv (i + 1) T T' h2
    refine ⟨by simp [hl], fun k a b ha hb => ?_⟩
    cases k with
    | zero =>
      simp only [List.getElem?_cons_zero, Option.some.injEq] at ha hb
      subst ha; subst hb
      simp only [Nat.add_zero]
      cases hv : sv.lookup i with
      | some v => rw [hv] at h1; exact h1
      | none =>
        rw [hv] at h1
        cases hc : js.contains i with
        | true => exact .inl rfl
        | false => rw [hc] at h1; exact .inr h1
    | succ k =>
      have := hk k a b (by simpa using ha) (by simpa using hb)
      rw [show i + (k + 1) = i + 1 + k by omega]
      exact this
  | _, [], _ :: _, h => h.elim
  | _, _ :: _, [], h => h.elim

theorem setCells_length (hv : List (Nat × List SV)) : ∀ H : Heap, (setCells H hv).length = H.length := by
  induction hv with
  | nil => intro H; rfl
  | cons p r ih => intro H; obtain ⟨j, cs⟩ := p; simp [setCells, ih, putH_length]

theorem setCells_cells (hv : List (Nat × List SV)) (n : Nat) (ho : ∀ p ∈ hv, ∀ x ∈ p.2, x.ok n) : ∀ H : Heap, (∀ (j : Nat) (b : AB), H[j]? = some b → ∀ x ∈ b.cs, x.ok n) → ∀ (j : Nat) (b : AB), (setCells H hv)[j]? = some b → ∀ x ∈ b.cs, x.ok n := by
  induction hv with
  | nil => intro H h; exact h
  | cons p r ih =>
    obtain ⟨j, cs⟩ := p
    intro H h
    refine ih (fun p hp => ho p (by simp [hp])) _ fun k b hb => ?_
    rw [putH_get] at hb
    by_cases h1 : j = k
    · subst h1
      simp only [if_true, Option.map_eq_some_iff] at hb
      obtain ⟨c, hc, rfl⟩ := hb
      exact ho (j, cs) (by simp)
    · simp only [h1, if_false] at hb
      exact h k b hb

/-- What must be shown where a state comes again. -/
def Again {ι : Type} (T : List TV) (H : Heap) (V : ι → Prop) (js : List Nat) (sv : ι → List (Nat × TV)) (hv : ι → List (Nat × List SV)) (T' : List TV) (H' : Heap) (i : ι) : Prop :=
  V i ∧ agreeT js (sv i) 0 T T' ∧ ∃ G, H' = setCells H (hv i) ++ G

/-- The side conditions, once for all. -/
structure Shape {ι : Type} (V : ι → Prop) (n : Nat) (sv : ι → List (Nat × TV)) (hv : ι → List (Nat × List SV)) : Prop where
  nd : ∀ i, V i → ((sv i).map (·.1)).Nodup
  oks : ∀ i, V i → ∀ p ∈ sv i, p.2.ok n
  okh : ∀ i, V i → ∀ p ∈ hv i, ∀ x ∈ p.2, x.ok n

theorem St.again {Γ : Ctx} {ι : Type} {T : List TV} {H : Heap} {V : ι → Prop} {js : List Nat} {sv : ι → List (Nat × TV)} {hv : ι → List (Nat × List SV)}
    (hsh : Shape V H.length sv hv) (hnj : js.Nodup) (hT : ∀ x ∈ T, x.ok H.length) (hH : ∀ (j : Nat) (b : AB), H[j]? = some b → ∀ x ∈ b.cs, x.ok H.length) (hn : Γ.n0 ≤ H.length)
    {T' : List TV} {H' : Heap} {a : Act} {w : World} {i : ι} (h : Again T H V js sv hv T' H' i) (hs : St Γ T' H' a w) :
    ∃ us, St Γ (setMany (setMany T (junk us js)) (sv i)) (setCells H (hv i)) a w := by
  obtain ⟨hV, hag, G, rfl⟩ := h
  obtain ⟨β, hT', hR, hd⟩ := hs
  obtain ⟨hl, hk⟩ := agreeT_spec js (sv i) 0 T T' hag
  have hlen := setCells_length (hv i) H
  let us : Nat → Value := fun d => (T'.getD d undefT).conc β
  have hjn : ((junk us js).map (·.1)).Nodup := by simpa [junk, Function.comp_def] using hnj
  have hslot : ∀ (k : Nat) (y : TV), T'[k]? = some y → ∃ z : TV, (setMany (setMany T (junk us js)) (sv i))[k]? = some z ∧ z.conc β = y.conc β ∧ z.ok H.length := by
    intro k y hy
    have hkl : k < T.length := by rw [hl]; exact (List.getElem?_eq_some_iff.1 hy).1
    have hx : T[k]? = some T[k] := List.getElem?_eq_getElem hkl
    have h1 := hk k T[k] y hx hy
    rw [Nat.zero_add] at h1
    rw [setMany_get _ (hsh.nd i hV) _ k (by rw [setMany_length]; exact hkl)]
    cases hlk : (sv i).lookup k with
    | some v =>
      simp only [hlk] at h1
      subst h1
      refine ⟨y, rfl, rfl, ?_⟩
      obtain ⟨l1, l2, he, _⟩ := List.lookup_eq_some_iff.1 hlk
      exact hsh.oks i hV (k, y) (by rw [he]; simp)
    | none =>
      simp only [hlk] at h1
      simp only
      rw [setMany_get _ hjn _ k hkl, junk_lookup]
      by_cases hc : js.contains k = true
      · simp only [hc, if_true]
        refine ⟨_, rfl, ?_, trivial⟩
        simp only [TV.conc, SV.conc, us, List.getD_eq_getElem?_getD, hy, Option.getD_some]
      · rcases h1 with h1 | h1
        · exact absurd h1 hc
        · simp only [hc, hx]
          subst h1
          exact ⟨_, rfl, rfl, hT _ (List.getElem_mem hkl)⟩
  refine ⟨us, β, Holds.of_ok ?_ ?_, hR.drop (by rw [hlen]; exact hn) ?_, hd⟩
  · rw [hT' β (.refl _ _)]
    congr 1
    apply List.ext_getElem?
    intro k
    simp only [List.getElem?_map]
    cases hy : T'[k]? with
    | none =>
      have : T'.length ≤ k := List.getElem?_eq_none_iff.1 hy
      rw [List.getElem?_eq_none (by rw [setMany_length, setMany_length, hl]; exact this)]
    | some y =>
      obtain ⟨z, hz, hc, _⟩ := hslot k y hy
      rw [hz]
      simp [hc]
  · intro z hz
    obtain ⟨k, hk'⟩ := List.mem_iff_getElem?.1 hz
    have hkl : k < T'.length := by
      have := (List.getElem?_eq_some_iff.1 hk').1
      rw [setMany_length, setMany_length, hl] at this
      exact this
    obtain ⟨z', hz', _, ho⟩ := hslot k T'[k] (List.getElem?_eq_getElem hkl)
    rw [hk'] at hz'
    injection hz' with hz'
    subst hz'
    rw [hlen]
    exact ho
  · rw [hlen]
    exact setCells_cells (hv i) H.length (hsh.okh i hV) H hH

theorem St.oks {Γ : Ctx} {T : List TV} {H : Heap} {a : Act} {w : World} (hs : St Γ T H a w) : (∀ x ∈ T, x.ok H.length) ∧ (∀ (j : Nat) (b : AB), H[j]? = some b → ∀ x ∈ b.cs, x.ok H.length) ∧ Γ.n0 ≤ H.length := by
  obtain ⟨β, hT, hR, _⟩ := hs
  exact ⟨hT.ok, fun j b hb => hR.ok hb, hR.anc.1⟩

def loopQ {ι : Type} (T : List TV) (H : Heap) (V : ι → Prop) (μ : ι → Nat) (js : List Nat) (sv : ι → List (Nat × TV)) (hv : ι → List (Nat × List SV)) (i : ι) (Q : QX) : QX :=
  seqQ (fun T' H' => ∃ i', μ i' < μ i ∧ Again T H V js sv hv T' H' i') Q

/-- A loop: a place where simp stops. -/
@[irreducible] def XL (Γ : Ctx) (c : Code) (T : List TV) (H : Heap) (Q : QX) : Prop := X Γ c T H Q
theorem XL_eq {Γ : Ctx} {c : Code} {T : List TV} {H : Heap} {Q : QX} : XL Γ c T H Q = X Γ c T H Q := by unfold XL; rfl

/-- A LOOP. -/
theorem X_loop {Γ : Ctx} {c : Code} {T : List TV} {H : Heap} {Q : QX} {ι : Type} (V : ι → Prop) (μ : ι → Nat) (js : List Nat) (sv : ι → List (Nat × TV)) (hv : ι → List (Nat × List SV)) (i0 : ι)
    (hsh : Shape V H.length sv hv) (hnj : js.Nodup) (h0 : Again T H V js sv hv T H i0)
    (hr : ∀ i us, V i → X Γ c (setMany (setMany T (junk us js)) (sv i)) (setCells H (hv i)) (loopQ T H V μ js sv hv i Q)) : XL Γ (.loop c) T H Q := by
  rw [XL_eq]
  intro a w hs
  obtain ⟨oT, oH, on⟩ := hs.oks
  refine wp_loop_ghost (fun n a w => ∃ i us, V i ∧ μ i = n ∧ St Γ (setMany (setMany T (junk us js)) (sv i)) (setCells H (hv i)) a w) (μ i0) ?_ ?_
  · obtain ⟨us, h⟩ := hs.again hsh hnj oT oH on h0
    exact ⟨i0, us, h0.1, rfl, h⟩
  · rintro n a w ⟨i, us, hV, rfl, hs'⟩
    refine wp_mono (hr i us hV a w hs') fun e a' w' ⟨T', H', hq, hs''⟩ => ?_
    cases e with
    | normal =>
      obtain ⟨i', hlt, hag⟩ := hq
      obtain ⟨us', h⟩ := hs''.again hsh hnj oT oH on hag
      exact ⟨μ i', hlt, i', us', hag.1, rfl, h⟩
    | _ => exact ⟨T', H', hq, hs''⟩

def cutQ {ι : Type} (T : List TV) (H : Heap) (V : ι → Prop) (js : List Nat) (sv : ι → List (Nat × TV)) (hv : ι → List (Nat × List SV)) (Q : QX) : QX :=
  seqQ (fun T' H' => ∃ i', Again T H V js sv hv T' H' i') Q

/-- Ways that meet again. -/
theorem X_cut {Γ : Ctx} {c d : Code} {T : List TV} {H : Heap} {Q : QX} {ι : Type} (V : ι → Prop) (js : List Nat) (sv : ι → List (Nat × TV)) (hv : ι → List (Nat × List SV))
    (hsh : Shape V H.length sv hv) (hnj : js.Nodup) (h1 : X Γ c T H (cutQ T H V js sv hv Q))
    (h2 : ∀ i us, V i → X Γ d (setMany (setMany T (junk us js)) (sv i)) (setCells H (hv i)) Q) : X Γ (.seq c d) T H Q := by
  intro a w hs
  obtain ⟨oT, oH, on⟩ := hs.oks
  refine wp_seq (wp_mono (h1 a w hs) fun e a' w' ⟨T', H', hq, hs'⟩ => ?_)
  cases e with
  | normal =>
    obtain ⟨i, hag⟩ := hq
    obtain ⟨us, h⟩ := hs'.again hsh hnj oT oH on hag
    exact h2 i us hag.1 a' w' h
  | _ => exact ⟨T', H', hq, hs'⟩

/-! Try# Functions -/
def toAV : TV → Option AV
  | .s x => some (.s x)
  | .agg l => some (.agg l)
  | .tup _ => none
theorem toAV_spec {x : TV} {a : AV} (h : toAV x = some a) (β : Nat → Nat) : a.conc β = x.conc β := by
  cases x <;> simp only [toAV, Option.some.injEq, reduceCtorEq] at h <;> subst h <;> rfl
def resCell (row : Option Bool) (n off : Nat) (cs : Option (List SV)) : Option AV :=
  match row, cs with
  | some true, some cs => if off + n ≤ cs.length then some (.agg (part cs off n)) else none
  | some false, some cs => (cs[off]?).map .s
  | _, _ => none
def resOne (P : Program) (T : List TV) (H : Heap) : ResultVar → Option AV
  | .tmp t => toAV (T.getD t undefT)
  | .cell a ty => match T.getD a undefT with
    | .s (.p j off) => resCell (rowOf P ty) (P.cellsOf ty) off (H[j]?.map AB.cs)
    | _ => none
def consO (a : Option AV) (l : Option (List AV)) : Option (List AV) := match a, l with | some a, some l => some (a :: l) | _, _ => none
def resAll (P : Program) (T : List TV) (H : Heap) : List ResultVar → Option (List AV)
  | [] => some []
  | r :: rs => consO (resOne P T H r) (resAll P T H rs)
def retV (l : Option (List AV)) (K : TV → Prop) : Prop :=
  match l with
  | some [a] => K a.tv
  | some l => K (.tup l)
  | none => False
def retQ (P : Program) (rs : List ResultVar) (R : KH) : QX := fun e T H =>
  match e with
  | .normal => retV (resAll P T H rs) fun v => R v H
  | .ret => retV (resAll P T H rs) fun v => R v H
  | _ => False

def runRes (tmps : Array Value) : ResultVar → Sem Value
  | .tmp t => pure (tmps.getD t undef)
  | .cell a t => do loadVar t (← asAddr (tmps.getD a undef))

theorem resOne_run {Γ : Ctx} {H : Heap} {β : Nat → Nat} {T : List TV} {a : Act} {w : World} (hT : a.tmps = (T.map (TV.conc β)).toArray) (hR : Rep Γ H β w) {r : ResultVar} {v : AV} (h : resOne Γ.P T H r = some v) :
    (runRes a.tmps r).run Γ.P w = .ok (v.conc β) w := by
  have hget : ∀ t, a.tmps.getD t undef = (T.getD t undefT).conc β := fun t => eval_ev hT (.tmp t)
  cases r with
  | tmp t =>
    simp only [resOne] at h
    simp [runRes, hget, toAV_spec h β]
  | cell p ty =>
    simp only [resOne] at h
    split at h
    · rename_i j off hp
      unfold resCell at h
      have hadr : (T.getD p undefT).conc β = .pointer (some ⟨β j, off, none⟩) := by rw [hp]; rfl
      split at h
      · rename_i cs hrow hcs
        simp only [Option.map_eq_some_iff] at hcs
        obtain ⟨b, hb, rfl⟩ := hcs
        split at h
        · rename_i hlen
          simp only [Option.some.injEq] at h
          subst h
          have hpl : (part b.cs off (Γ.P.cellsOf ty)).length = Γ.P.cellsOf ty := by rw [part_eq]; simp; omega
          have hr := run_loadAt_row (P := Γ.P) (w := w) (b := β j) (off := off) (cs := (part b.cs off (Γ.P.cellsOf ty)).map (SV.conc β)) hrow (by simpa using hpl) (fun i v hv => by
            rw [cellOf hR hb, part_eq] at *
            simp only [List.getElem?_map, List.getElem?_take, List.getElem?_drop] at hv
            split at hv
            · exact hv
            · simp at hv)
          simp only [Instr.loadAt, Instr.sureAddr, Sem.run_bind, Sem.run_pure, Result.andThen_ok] at hr
          simp only [runRes, hget, hadr, asAddr, Sem.run_bind, Sem.run_pure, Result.andThen_ok, hr, AV.conc]
        · cases h
      · rename_i cs hrow hcs
        simp only [Option.map_eq_some_iff] at hcs
        obtain ⟨b, hb, rfl⟩ := hcs
        simp only [Option.map_eq_some_iff] at h
        obtain ⟨y, hy, rfl⟩ := h
        have hr := run_loadAt_one (P := Γ.P) (w := w) (ad := ⟨β j, off, none⟩) (u := y.conc β) hrow (by rw [cellOf hR hb, hy]; rfl)
        simp only [Instr.loadAt, Instr.sureAddr, Sem.run_bind, Sem.run_pure, Result.andThen_ok] at hr
        simp only [runRes, hget, hadr, asAddr, Sem.run_bind, Sem.run_pure, Result.andThen_ok, hr, AV.conc]
      · cases h
    · cases h

theorem resAll_run {Γ : Ctx} {H : Heap} {β : Nat → Nat} {T : List TV} {a : Act} {w : World} (hT : a.tmps = (T.map (TV.conc β)).toArray) (hR : Rep Γ H β w) : ∀ {rs : List ResultVar} {l : List AV}, resAll Γ.P T H rs = some l →
    (rs.mapM (runRes a.tmps)).run Γ.P w = .ok (l.map (AV.conc β)) w
  | [], l, h => by simp only [resAll, Option.some.injEq] at h; subst h; simp
  | r :: rs, l, h => by
    simp only [resAll, consO] at h
    split at h
    · rename_i v l' hv hl
      simp only [Option.some.injEq] at h
      subst h
      simp [List.mapM_cons, resOne_run hT hR hv, resAll_run hT hR hl]
    · cases h

theorem results_eq (fn : Func) (tmps : Array Value) : results fn tmps = (fn.results.mapM (runRes tmps) >>= fun vs => pure (if h : vs.size = 1 then vs[0] else .tuple vs)) := by
  unfold results
  congr 1

def lv : List AV → TV
  | [a] => a.tv
  | l => .tup l
theorem retV_lv (l : List AV) (K : TV → Prop) : retV (some l) K ↔ K (lv l) := by
  match l with
  | [] => exact Iff.rfl
  | [a] => exact Iff.rfl
  | a :: b :: l => exact Iff.rfl
theorem lv_conc (l : List AV) (β : Nat → Nat) : (if h : (l.map (AV.conc β)).toArray.size = 1 then (l.map (AV.conc β)).toArray[0] else .tuple (l.map (AV.conc β)).toArray) = (lv l).conc β := by
  match l with
  | [] => simp [lv, conc_tup]
  | [a] => simp [lv]
  | a :: b :: l => simp [lv, conc_tup]

theorem ret_post {Γ : Ctx} {fn : Func} {T : List TV} {H : Heap} {R : KH} {R' : Ending → World → Prop} {a : Act} {w : World} (h : retV (resAll Γ.P T H fn.results.toList) fun v => R v H) (hs : St Γ T H a w)
    (hR' : ∀ v β e, R v H → Rep Γ H β w → (∀ β', Agrees H.length β β' → e = .returned (v.conc β')) → R' e w) :
    a.defers = [] ∧ ∃ v, (results fn a.tmps).run Γ.P w = .ok v w ∧ R' (.returned v) w := by
  obtain ⟨β, hT, hR, hd⟩ := hs
  refine ⟨hd, ?_⟩
  cases hl : resAll Γ.P T H fn.results.toList with
  | none => simp [retV, hl] at h
  | some l =>
    rw [hl, retV_lv] at h
    have hres : ∀ β', Agrees H.length β β' → (results fn a.tmps).run Γ.P w = .ok ((lv l).conc β') w := by
      intro β' h'
      rw [← lv_conc, results_eq, Array.mapM_eq_mapM_toList]
      simp [resAll_run (hT β' h') (hR.agree h') hl]
    refine ⟨_, hres β (.refl _ _), hR' (lv l) β _ h hR fun β' h' => ?_⟩
    have h1 := hres β (.refl _ _)
    rw [hres β' h'] at h1
    injection h1 with h1
    rw [h1]

/-- A FUNCTION, called in a world in which our first blocks lie. -/
theorem calls_of_X {Γ : Ctx} {f : FuncId} {fn : Func} {c : Code} {args : List TV} {H : Heap} {β : Nat → Nat} {R : KH} (hf : Γ.P.funcs[f]? = some fn) (hb : fn.body = some c)
    (hR : Rep Γ H β Γ.W) (ha : ∀ x ∈ args, x.ok H.length) (h : X Γ c (args ++ List.replicate (fn.ntmps - args.length) undefT) H (retQ Γ.P fn.results.toList R)) :
    Calls Γ.P f (args.map (TV.conc β)).toArray Γ.W fun e w' => ∃ v H' β', R v H' ∧ Rep Γ H' β' w' ∧ ∀ β'', Agrees H'.length β' β'' → e = .returned (v.conc β'') := by
  refine calls_of_wp hf hb (wp_mono (h _ _ ⟨β, Holds.of_ok ?_ ?_, hR, rfl⟩) ?_)
  · apply Array.ext'
    simp
  · intro x hx
    rw [List.mem_append] at hx
    rcases hx with hx | hx
    · exact ha x hx
    · rw [List.mem_replicate] at hx
      rw [hx.2]
      intro y hy
      simp at hy
  · rintro e a w' ⟨T', H', hq, hs⟩
    cases e with
    | normal => exact ret_post (fn := fn) (R' := fun e w' => ∃ v H' β', R v H' ∧ Rep Γ H' β' w' ∧ ∀ β'', Agrees H'.length β' β'' → e = .returned (v.conc β'')) hq hs fun v β' e hv hR' he => ⟨v, H', β', hv, hR', he⟩
    | ret => exact ret_post (fn := fn) (R' := fun e w' => ∃ v H' β', R v H' ∧ Rep Γ H' β' w' ∧ ∀ β'', Agrees H'.length β' β'' → e = .returned (v.conc β'')) hq hs fun v β' e hv hR' he => ⟨v, H', β', hv, hR', he⟩
    | _ => exact hq.elim

/-- A function of values alone. -/
def PureC (P : Program) (f : FuncId) (args : List TV) (r : TV) : Prop :=
  ∀ (β : Nat → Nat) (w : World), Calls P f (args.map (TV.conc β)).toArray w fun e w' => (∀ β', e = .returned (r.conc β')) ∧ Below w.heap.size w w'

def ctx0 (P : Program) (w : World) : Ctx := { P := P, W := w, B := w.heap.size, own := fun _ => False, ev := Evo.none, n0 := 0, β0 := fun _ => 0 }

theorem rep0 (P : Program) (w : World) (β : Nat → Nat) : Rep (ctx0 P w) [] β w :=
  ⟨⟨Nat.le_refl _, fun j hj => absurd hj (Nat.not_lt_zero j)⟩, ⟨rfl, rfl, rfl, Nat.le_refl _, fun _ _ => .inr (.inl rfl)⟩, fun i j hi => absurd hi (Nat.not_lt_zero i), fun j hj => absurd hj (Nat.not_lt_zero j), fun j b hb => by simp at hb, fun _ _ j b hb => by simp at hb⟩

theorem pureC_of {P : Program} {f : FuncId} {fn : Func} {c : Code} {args : List TV} {r : TV} (hf : P.funcs[f]? = some fn) (hb : fn.body = some c) (ha : ∀ x ∈ args, x.ok 0) (hr : r.ok 0)
    (h : ∀ w, X (ctx0 P w) c (args ++ List.replicate (fn.ntmps - args.length) undefT) [] (retQ P fn.results.toList fun v _ => v = r)) : PureC P f args r := by
  intro β w
  refine (calls_of_X (Γ := ctx0 P w) hf hb (rep0 P w β) ha (h w)).mono ?_
  rintro e w' ⟨v, H', β', rfl, hR, he⟩
  refine ⟨fun β'' => ?_, hR.fr.os, hR.fr.tape, hR.fr.output, hR.fr.size, fun k hk => ?_⟩
  · rw [he β' (.refl _ _)]
    rw [TV.conc_ok hr (β := β'') (β' := β') (fun j hj => absurd hj (Nat.not_lt_zero j))]
  · rcases hR.fr.blk k hk with h1 | h1 | ⟨_, _, _, _, _, h1⟩
    · exact h1.elim
    · exact h1
    · exact h1.elim

/-- A contract of the kit's shelf. -/
theorem pureC_lib {P : Program} {f : FuncId} {args : List TV} {vs : Array Value} {r : TV} {v : Value} (ha : ∀ β, (args.map (TV.conc β)).toArray = vs) (hr : ∀ β, r.conc β = v)
    (h : ∀ w, Calls P f vs w fun e w' => e = .returned v ∧ w' = w) : PureC P f args r := by
  intro β w
  rw [ha β]
  refine (h w).mono ?_
  rintro e w' ⟨rfl, rfl⟩
  exact ⟨fun β' => by rw [hr], Below.refl _ _⟩

theorem PureC.cal {Γ : Ctx} {H : Heap} {f : FuncId} {args : List TV} {r : TV} (h : PureC Γ.P f args r) : CalP Γ H f args r :=
  fun β w _ => (h β w).mono fun _ _ ⟨he, hb⟩ => ⟨fun β' _ => he β', Ext.of_below hb⟩

end Go.Ab
