/-
  A small logic over the model: abstract states in which the blocks that a call makes are counted, not addressed.
  This text: abstract values, blocks, the relation to a world, and how it is kept.
-/
import Derived.WalkKit
import Derived.StillTail
namespace Go.Ab
open Go Go.RowKit
set_option linter.unusedSimpArgs false
set_option linter.unusedVariables false

/-- What one cell holds: a value without an address of ours, an address in our block number j, a slice of it. -/
inductive SV where
  | v (x : Value)
  | p (j off : Nat)
  | sl (j off len cap : Nat)

/-- A value: of one cell, or of many. -/
inductive AV where
  | s (x : SV)
  | agg (l : List SV)

/-- What a slot holds. -/
inductive TV where
  | s (x : SV)
  | agg (l : List SV)
  | tup (l : List AV)

/-- A block of ours. -/
structure AB where
  t : TypeId
  cs : List SV

abbrev Heap := List AB

def SV.conc (β : Nat → Nat) : SV → Value
  | .v x => x
  | .p j off => .pointer (some ⟨β j, off, none⟩)
  | .sl j off len cap => .slice (some ⟨β j, off, none⟩) len cap

def AV.conc (β : Nat → Nat) : AV → Value
  | .s x => x.conc β
  | .agg l => .agg (l.map (SV.conc β)).toArray

def TV.conc (β : Nat → Nat) : TV → Value
  | .s x => x.conc β
  | .agg l => .agg (l.map (SV.conc β)).toArray
  | .tup l => .tuple (l.map (AV.conc β)).toArray

def AV.tv : AV → TV
  | .s x => .s x
  | .agg l => .agg l

theorem conc_v (β : Nat → Nat) (x : Value) : (TV.s (.v x)).conc β = x := rfl
theorem conc_p (β : Nat → Nat) (j off : Nat) : (TV.s (.p j off)).conc β = .pointer (some ⟨β j, off, none⟩) := rfl
theorem conc_sl (β : Nat → Nat) (j off n c : Nat) : (TV.s (.sl j off n c)).conc β = .slice (some ⟨β j, off, none⟩) n c := rfl
theorem conc_s (β : Nat → Nat) (x : SV) : (TV.s x).conc β = x.conc β := rfl
theorem conc_agg (β : Nat → Nat) (l : List SV) : (TV.agg l).conc β = .agg (l.map (SV.conc β)).toArray := rfl
theorem conc_tup (β : Nat → Nat) (l : List AV) : (TV.tup l).conc β = .tuple (l.map (AV.conc β)).toArray := rfl
@[simp] theorem AV.conc_tv (β : Nat → Nat) (a : AV) : a.tv.conc β = a.conc β := by cases a <;> rfl

def AB.conc (β : Nat → Nat) (b : AB) : Obj := .cells (b.cs.map (SV.conc β)).toArray b.t (0, 0)

def undefT : TV := .tup []
@[simp] theorem undefT_conc (β : Nat → Nat) : undefT.conc β = undef := rfl

/-- How worlds may go on beside us: some blocks of some types may turn, by E. -/
structure Evo where
  E : Obj → Obj → Prop
  TM : TypeId → Prop
  ofE : ∀ o o', E o o' → ∃ c t f, o = .cells c t f ∧ TM t
  trans : ∀ a b c, E a b → E b c → E a c

/-- No block turns. -/
def Evo.none : Evo := ⟨fun _ _ => False, fun _ => False, fun _ _ h => h.elim, fun _ _ _ h => h.elim⟩

structure Ctx where
  P : Program
  W : World
  B : Nat
  own : Nat → Prop
  ev : Evo
  n0 : Nat
  β0 : Nat → Nat

/-- Block k of w and of w': alike, or gone on by E. -/
def sameBlk (V : Evo) (B : Nat) (w w' : World) (k : Nat) : Prop :=
  w'.heap[k]? = w.heap[k]? ∨ (B ≤ k ∧ ∃ o o', w.heap[k]? = some o ∧ w'.heap[k]? = some o' ∧ V.E o o')

/-- w' is w gone on: new blocks, and what E lets turn from B on. -/
structure Ext (V : Evo) (B : Nat) (w w' : World) : Prop where
  os : w'.os = w.os
  tape : w'.tape = w.tape
  output : w'.output = w.output
  size : w.heap.size ≤ w'.heap.size
  blk : ∀ k, k < w.heap.size → sameBlk V B w w' k

theorem sameBlk.refl (V : Evo) (B : Nat) (w : World) (k : Nat) : sameBlk V B w w k := .inl rfl

theorem sameBlk.trans {V : Evo} {B k : Nat} {a b c : World} (h : sameBlk V B a b k) (h' : sameBlk V B b c k) : sameBlk V B a c k := by
  rcases h with h | ⟨hB, o, o', h1, h2, hE⟩
  · rcases h' with h' | ⟨hB, o, o', h1, h2, hE⟩
    · exact .inl (h'.trans h)
    · exact .inr ⟨hB, o, o', h ▸ h1, h2, hE⟩
  · rcases h' with h' | ⟨_, p, p', h3, h4, hE'⟩
    · exact .inr ⟨hB, o, o', h1, h'.trans h2, hE⟩
    · rw [h2] at h3
      injection h3 with h3
      subst h3
      exact .inr ⟨hB, o, p', h1, h4, V.trans _ _ _ hE hE'⟩

theorem Ext.refl (V : Evo) (B : Nat) (w : World) : Ext V B w w := ⟨rfl, rfl, rfl, Nat.le_refl _, fun _ _ => .inl rfl⟩

theorem Ext.trans {V : Evo} {B : Nat} {a b c : World} (h : Ext V B a b) (h' : Ext V B b c) : Ext V B a c :=
  ⟨h'.os.trans h.os, h'.tape.trans h.tape, h'.output.trans h.output, Nat.le_trans h.size h'.size, fun k hk =>
    (h.blk k hk).trans (h'.blk k (Nat.lt_of_lt_of_le hk h.size))⟩

theorem Ext.of_below {V : Evo} {B : Nat} {w w' : World} (h : Below w.heap.size w w') : Ext V B w w' :=
  ⟨h.os, h.tape, h.output, h.size, fun k hk => .inl (h.block k hk)⟩

theorem Ext.mono {V : Evo} {B B' : Nat} {w w' : World} (h : Ext V B' w w') (hB : B ≤ B') : Ext V B w w' :=
  ⟨h.os, h.tape, h.output, h.size, fun k hk => (h.blk k hk).imp id fun ⟨h1, h2⟩ => ⟨Nat.le_trans hB h1, h2⟩⟩

theorem Ext.drew (V : Evo) (B : Nat) (w : World) : Ext V B w w.drew := ⟨rfl, rfl, rfl, Nat.le_refl _, fun _ _ => .inl rfl⟩

theorem Ext.alloc (V : Evo) (B : Nat) (w : World) (o : Obj) : Ext V B w (w.alloc o) :=
  ⟨rfl, rfl, rfl, by simp, fun k hk => .inl (Below.heap_alloc w o k hk)⟩

/-- Where nothing may turn, Ext is Below. -/
theorem Ext.below {V : Evo} {B : Nat} {w w' : World} (h : Ext V B w w') (hB : w.heap.size ≤ B) : Below w.heap.size w w' :=
  ⟨h.os, h.tape, h.output, h.size, fun k hk => by
    rcases h.blk k hk with h | ⟨h1, _⟩
    · exact h
    · omega⟩

/-- A block whose type may not turn is as it was. -/
theorem Ext.fixed {V : Evo} {B : Nat} {w w' : World} (h : Ext V B w w') {k : Nat} {c : Array Value} {t : TypeId} {f : Nat × Nat} (hk : w.heap[k]? = some (.cells c t f)) (ht : ¬ V.TM t) : w'.heap[k]? = some (.cells c t f) := by
  have hlt : k < w.heap.size := (Array.getElem?_eq_some_iff.1 hk).1
  rcases h.blk k hlt with h | ⟨_, o, o', h1, h2, hE⟩
  · rw [h, hk]
  · rw [hk] at h1
    injection h1 with h1
    subst h1
    obtain ⟨c', t', f', he, hT⟩ := V.ofE _ _ hE
    injection he with _ he _
    subst he
    exact absurd hT ht

/-- The world against the one in which we began. -/
structure Fr (Γ : Ctx) (w : World) : Prop where
  os : w.os = Γ.W.os
  tape : w.tape = Γ.W.tape
  output : w.output = Γ.W.output
  size : Γ.W.heap.size ≤ w.heap.size
  blk : ∀ k, k < Γ.W.heap.size → Γ.own k ∨ sameBlk Γ.ev Γ.B Γ.W w k

theorem Fr.ext {Γ : Ctx} {w w' : World} (h : Fr Γ w) (h' : Ext Γ.ev Γ.B w w') : Fr Γ w' :=
  ⟨h'.os.trans h.os, h'.tape.trans h.tape, h'.output.trans h.output, Nat.le_trans h.size h'.size, fun k hk =>
    (h.blk k hk).imp id fun h1 => h1.trans (h'.blk k (Nat.lt_of_lt_of_le hk h.size))⟩

/-- Two ways to lie agree on our first n blocks. -/
def Agrees (n : Nat) (β β' : Nat → Nat) : Prop := ∀ j, j < n → β' j = β j

theorem Agrees.refl (n : Nat) (β : Nat → Nat) : Agrees n β β := fun _ _ => rfl
theorem Agrees.trans {n : Nat} {a b c : Nat → Nat} (h : Agrees n a b) (h' : Agrees n b c) : Agrees n a c := fun j hj => (h' j hj).trans (h j hj)
theorem Agrees.symm {n : Nat} {a b : Nat → Nat} (h : Agrees n a b) : Agrees n b a := fun j hj => (h j hj).symm
theorem Agrees.mono {n m : Nat} {a b : Nat → Nat} (h : Agrees n a b) (hm : m ≤ n) : Agrees m a b := fun j hj => h j (Nat.lt_of_lt_of_le hj hm)

/-- Our blocks, as they lie; whatever is said is said of our blocks alone. -/
structure Rep (Γ : Ctx) (H : Heap) (β : Nat → Nat) (w : World) : Prop where
  anc : Γ.n0 ≤ H.length ∧ Agrees Γ.n0 Γ.β0 β
  fr : Fr Γ w
  inj : ∀ i j, i < H.length → j < H.length → β i = β j → i = j
  lie : ∀ j, j < H.length → Γ.W.heap.size ≤ β j ∨ Γ.own (β j)
  typ : ∀ (j : Nat) (b : AB), H[j]? = some b → ¬ Γ.ev.TM b.t
  blk : ∀ β', Agrees H.length β β' → ∀ (j : Nat) (b : AB), H[j]? = some b → w.heap[β j]? = some (b.conc β')

theorem Rep.ext {Γ : Ctx} {H : Heap} {β : Nat → Nat} {w w' : World} (h : Rep Γ H β w) (h' : Ext Γ.ev Γ.B w w') : Rep Γ H β w' :=
  ⟨h.anc, h.fr.ext h', h.inj, h.lie, h.typ, fun β' hβ j b hb => h'.fixed (h.blk β' hβ j b hb) (h.typ j b hb)⟩

theorem Rep.lt {Γ : Ctx} {H : Heap} {β : Nat → Nat} {w : World} (h : Rep Γ H β w) {j : Nat} (hj : j < H.length) : β j < w.heap.size :=
  (Array.getElem?_eq_some_iff.1 (h.blk β (.refl _ _) j H[j] (List.getElem?_eq_getElem hj))).1

theorem Rep.agree {Γ : Ctx} {H : Heap} {β β' : Nat → Nat} {w : World} (h : Rep Γ H β w) (hβ : Agrees H.length β β') : Rep Γ H β' w :=
  ⟨⟨h.anc.1, h.anc.2.trans (hβ.mono h.anc.1)⟩, h.fr, fun i j hi hj e => h.inj i j hi hj (by rw [← hβ i hi, ← hβ j hj, e]), fun j hj => by rw [hβ j hj]; exact h.lie j hj, h.typ, fun β'' h'' j b hb => by
    rw [hβ j (List.getElem?_eq_some_iff.1 hb).1]
    exact h.blk β'' (hβ.trans h'') j b hb⟩

/-- The slots hold what T says. -/
def Holds (n : Nat) (β : Nat → Nat) (T : List TV) (tmps : Array Value) : Prop := ∀ β', Agrees n β β' → tmps = (T.map (TV.conc β')).toArray

theorem Holds.agree {n : Nat} {β β' : Nat → Nat} {T : List TV} {tmps : Array Value} (h : Holds n β T tmps) (hβ : Agrees n β β') : Holds n β' T tmps :=
  fun β'' h'' => h β'' (hβ.trans h'')
theorem Holds.mono {n m : Nat} {β : Nat → Nat} {T : List TV} {tmps : Array Value} (h : Holds n β T tmps) (hm : n ≤ m) : Holds m β T tmps :=
  fun β' h' => h β' (h'.mono hm)

def SV.ok (n : Nat) : SV → Prop
  | .v _ => True
  | .p j _ => j < n
  | .sl j _ _ _ => j < n

def AV.ok (n : Nat) : AV → Prop
  | .s x => x.ok n
  | .agg l => ∀ x ∈ l, x.ok n
def TV.ok (n : Nat) : TV → Prop
  | .s x => x.ok n
  | .agg l => ∀ x ∈ l, x.ok n
  | .tup l => ∀ x ∈ l, x.ok n

theorem SV.conc_ok {n : Nat} {x : SV} (h : x.ok n) {β β' : Nat → Nat} (hβ : Agrees n β β') : x.conc β' = x.conc β := by
  cases x with
  | v x => rfl
  | p j off => simp only [SV.conc]; rw [hβ j h]
  | sl j off len cap => simp only [SV.conc]; rw [hβ j h]

theorem SV.concs_ok {n : Nat} {l : List SV} (h : ∀ x ∈ l, x.ok n) {β β' : Nat → Nat} (hβ : Agrees n β β') : l.map (SV.conc β') = l.map (SV.conc β) :=
  List.map_congr_left fun x hx => SV.conc_ok (h x hx) hβ

theorem AV.conc_ok {n : Nat} {x : AV} (h : x.ok n) {β β' : Nat → Nat} (hβ : Agrees n β β') : x.conc β' = x.conc β := by
  cases x with
  | s x => exact SV.conc_ok h hβ
  | agg l => simp only [AV.conc]; rw [SV.concs_ok h hβ]

theorem TV.conc_ok {n : Nat} {x : TV} (h : x.ok n) {β β' : Nat → Nat} (hβ : Agrees n β β') : x.conc β' = x.conc β := by
  cases x with
  | s x => exact SV.conc_ok h hβ
  | agg l => simp only [TV.conc]; rw [SV.concs_ok h hβ]
  | tup l => simp only [TV.conc]; rw [List.map_congr_left fun x hx => AV.conc_ok (h x hx) hβ]

end Go.Ab
