/-
  Texts laid together: Ab1, Ab2, Ab3, Ab4, Ab5, Ab6, Ab7, Ab8.
-/
import Derived.WalkKit
import Derived.StillTail
import Derived.Deep.MidRow
import Derived.DeepKeys
import Derived.Deep.LoopGhost
import Derived.Deep.Quiet
/-
  A small logic over the model: abstract states in which the blocks that a call makes are counted, not addressed.
  This text: abstract values, blocks, the relation to a world, and how it is kept.
-/
namespace Go.Ab
open Go Go.RowKit
set_option linter.unusedSimpArgs false
set_option linter.unusedVariables false
inductive SV where
  | v (x : Value)
  | p (j off : Nat)
  | sl (j off len cap : Nat)
inductive AV where
  | s (x : SV)
  | agg (l : List SV)
inductive TV where
  | s (x : SV)
  | agg (l : List SV)
  | tup (l : List AV)
structure AB where
  t : TypeId
  cs : List SV
abbrev Heap := List AB
def SV.conc (β : Nat → Nat) : SV → Value
  | .v x => x
  | .p j off => .pointer (some ⟨β j, off, none⟩)
  | .sl j off len cap => .slice (some ⟨β j, off, none⟩) len cap
def AV.conc (β : Nat → Nat) : AV → Value
  | .s x => x.conc β
  | .agg l => .agg (l.map (SV.conc β)).toArray
def TV.conc (β : Nat → Nat) : TV → Value
  | .s x => x.conc β
  | .agg l => .agg (l.map (SV.conc β)).toArray
  | .tup l => .tuple (l.map (AV.conc β)).toArray
def AV.tv : AV → TV
  | .s x => .s x
  | .agg l => .agg l
theorem conc_v (β : Nat → Nat) (x : Value) : (TV.s (.v x)).conc β = x := rfl
theorem conc_p (β : Nat → Nat) (j off : Nat) : (TV.s (.p j off)).conc β = .pointer (some ⟨β j, off, none⟩) := rfl
theorem conc_sl (β : Nat → Nat) (j off n c : Nat) : (TV.s (.sl j off n c)).conc β = .slice (some ⟨β j, off, none⟩) n c := rfl
theorem conc_s (β : Nat → Nat) (x : SV) : (TV.s x).conc β = x.conc β := rfl
theorem conc_agg (β : Nat → Nat) (l : List SV) : (TV.agg l).conc β = .agg (l.map (SV.conc β)).toArray := rfl
theorem conc_tup (β : Nat → Nat) (l : List AV) : (TV.tup l).conc β = .tuple (l.map (AV.conc β)).toArray := rfl
@[simp] theorem AV.conc_tv (β : Nat → Nat) (a : AV) : a.tv.conc β = a.conc β := by cases a <;> rfl
def AB.conc (β : Nat → Nat) (b : AB) : Obj := .cells (b.cs.map (SV.conc β)).toArray b.t (0, 0)
def undefT : TV := .tup []
@[simp] theorem undefT_conc (β : Nat → Nat) : undefT.conc β = undef := rfl
structure Evo where
  E : Obj → Obj → Prop
  TM : TypeId → Prop
  ofE : ∀ o o', E o o' → ∃ c t f, o = .cells c t f ∧ TM t
  trans : ∀ a b c, E a b → E b c → E a c
def Evo.none : Evo := ⟨fun _ _ => False, fun _ => False, fun _ _ h => h.elim, fun _ _ _ h => h.elim⟩
structure Ctx where
  P : Program
  W : World
  B : Nat
  own : Nat → Prop
  ev : Evo
  n0 : Nat
  β0 : Nat → Nat
def sameBlk (V : Evo) (B : Nat) (w w' : World) (k : Nat) : Prop :=
  w'.heap[k]? = w.heap[k]? ∨ (B ≤ k ∧ ∃ o o', w.heap[k]? = some o ∧ w'.heap[k]? = some o' ∧ V.E o o')
structure Ext (V : Evo) (B : Nat) (w w' : World) : Prop where
  os : w'.os = w.os
  tape : w'.tape = w.tape
  output : w'.output = w.output
  size : w.heap.size ≤ w'.heap.size
  blk : ∀ k, k < w.heap.size → sameBlk V B w w' k
theorem sameBlk.refl (V : Evo) (B : Nat) (w : World) (k : Nat) : sameBlk V B w w k := .inl rfl
theorem sameBlk.trans {V : Evo} {B k : Nat} {a b c : World} (h : sameBlk V B a b k) (h' : sameBlk V B b c k) : sameBlk V B a c k := by
  rcases h with h | ⟨hB, o, o', h1, h2, hE⟩
  · rcases h' with h' | ⟨hB, o, o', h1, h2, hE⟩
    · exact .inl (h'.trans h)
    · exact .inr ⟨hB, o, o', h ▸ h1, h2, hE⟩
  · rcases h' with h' | ⟨_, p, p', h3, h4, hE'⟩
    · exact .inr ⟨hB, o, o', h1, h'.trans h2, hE⟩
    · rw [h2] at h3
      injection h3 with h3
      subst h3
      exact .inr ⟨hB, o, p', h1, h4, V.trans _ _ _ hE hE'⟩
theorem Ext.refl (V : Evo) (B : Nat) (w : World) : Ext V B w w := ⟨rfl, rfl, rfl, Nat.le_refl _, fun _ _ => .inl rfl⟩
theorem Ext.trans {V : Evo} {B : Nat} {a b c : World} (h : Ext V B a b) (h' : Ext V B b c) : Ext V B a c :=
  ⟨h'.os.trans h.os, h'.tape.trans h.tape, h'.output.trans h.output, Nat.le_trans h.size h'.size, fun k hk =>
    (h.blk k hk).trans (h'.blk k (Nat.lt_of_lt_of_le hk h.size))⟩
theorem Ext.of_below {V : Evo} {B : Nat} {w w' : World} (h : Below w.heap.size w w') : Ext V B w w' :=
  ⟨h.os, h.tape, h.output, h.size, fun k hk => .inl (h.block k hk)⟩
theorem Ext.mono {V : Evo} {B B' : Nat} {w w' : World} (h : Ext V B' w w') (hB : B ≤ B') : Ext V B w w' :=
  ⟨h.os, h.tape, h.output, h.size, fun k hk => (h.blk k hk).imp id fun ⟨h1, h2⟩ => ⟨Nat.le_trans hB h1, h2⟩⟩
theorem Ext.drew (V : Evo) (B : Nat) (w : World) : Ext V B w w.drew := ⟨rfl, rfl, rfl, Nat.le_refl _, fun _ _ => .inl rfl⟩
theorem Ext.alloc (V : Evo) (B : Nat) (w : World) (o : Obj) : Ext V B w (w.alloc o) :=
  ⟨rfl, rfl, rfl, by simp, fun k hk => .inl (Below.heap_alloc w o k hk)⟩
theorem Ext.below {V : Evo} {B : Nat} {w w' : World} (h : Ext V B w w') (hB : w.heap.size ≤ B) : Below w.heap.size w w' :=
  ⟨h.os, h.tape, h.output, h.size, fun k hk => by
    rcases h.blk k hk with h | ⟨h1, _⟩
    · exact h
    · omega⟩
theorem Ext.fixed {V : Evo} {B : Nat} {w w' : World} (h : Ext V B w w') {k : Nat} {c : Array Value} {t : TypeId} {f : Nat × Nat} (hk : w.heap[k]? = some (.cells c t f)) (ht : ¬ V.TM t) : w'.heap[k]? = some (.cells c t f) := by
  have hlt : k < w.heap.size := (Array.getElem?_eq_some_iff.1 hk).1
  rcases h.blk k hlt with h | ⟨_, o, o', h1, h2, hE⟩
  · rw [h, hk]
  · rw [hk] at h1
    injection h1 with h1
    subst h1
    obtain ⟨c', t', f', he, hT⟩ := V.ofE _ _ hE
    injection he with _ he _
    subst he
    exact absurd hT ht
structure Fr (Γ : Ctx) (w : World) : Prop where
  os : w.os = Γ.W.os
  tape : w.tape = Γ.W.tape
  output : w.output = Γ.W.output
  size : Γ.W.heap.size ≤ w.heap.size
  blk : ∀ k, k < Γ.W.heap.size → Γ.own k ∨ sameBlk Γ.ev Γ.B Γ.W w k
theorem Fr.ext {Γ : Ctx} {w w' : World} (h : Fr Γ w) (h' : Ext Γ.ev Γ.B w w') : Fr Γ w' :=
  ⟨h'.os.trans h.os, h'.tape.trans h.tape, h'.output.trans h.output, Nat.le_trans h.size h'.size, fun k hk =>
    (h.blk k hk).imp id fun h1 => h1.trans (h'.blk k (Nat.lt_of_lt_of_le hk h.size))⟩
def Agrees (n : Nat) (β β' : Nat → Nat) : Prop := ∀ j, j < n → β' j = β j
theorem Agrees.refl (n : Nat) (β : Nat → Nat) : Agrees n β β := fun _ _ => rfl
theorem Agrees.trans {n : Nat} {a b c : Nat → Nat} (h : Agrees n a b) (h' : Agrees n b c) : Agrees n a c := fun j hj => (h' j hj).trans (h j hj)
theorem Agrees.symm {n : Nat} {a b : Nat → Nat} (h : Agrees n a b) : Agrees n b a := fun j hj => (h j hj).symm
theorem Agrees.mono {n m : Nat} {a b : Nat → Nat} (h : Agrees n a b) (hm : m ≤ n) : Agrees m a b := fun j hj => h j (Nat.lt_of_lt_of_le hj hm)
structure Rep (Γ : Ctx) (H : Heap) (β : Nat → Nat) (w : World) : Prop where
  anc : Γ.n0 ≤ H.length ∧ Agrees Γ.n0 Γ.β0 β
  fr : Fr Γ w
  inj : ∀ i j, i < H.length → j < H.length → β i = β j → i = j
  lie : ∀ j, j < H.length → Γ.W.heap.size ≤ β j ∨ Γ.own (β j)
  typ : ∀ (j : Nat) (b : AB), H[j]? = some b → ¬ Γ.ev.TM b.t
  blk : ∀ β', Agrees H.length β β' → ∀ (j : Nat) (b : AB), H[j]? = some b → w.heap[β j]? = some (b.conc β')
theorem Rep.ext {Γ : Ctx} {H : Heap} {β : Nat → Nat} {w w' : World} (h : Rep Γ H β w) (h' : Ext Γ.ev Γ.B w w') : Rep Γ H β w' :=
  ⟨h.anc, h.fr.ext h', h.inj, h.lie, h.typ, fun β' hβ j b hb => h'.fixed (h.blk β' hβ j b hb) (h.typ j b hb)⟩
theorem Rep.lt {Γ : Ctx} {H : Heap} {β : Nat → Nat} {w : World} (h : Rep Γ H β w) {j : Nat} (hj : j < H.length) : β j < w.heap.size :=
  (Array.getElem?_eq_some_iff.1 (h.blk β (.refl _ _) j H[j] (List.getElem?_eq_getElem hj))).1
theorem Rep.agree {Γ : Ctx} {H : Heap} {β β' : Nat → Nat} {w : World} (h : Rep Γ H β w) (hβ : Agrees H.length β β') : Rep Γ H β' w :=
  ⟨⟨h.anc.1, h.anc.2.trans (hβ.mono h.anc.1)⟩, h.fr, fun i j hi hj e => h.inj i j hi hj (by rw [← hβ i hi, ← hβ j hj, e]), fun j hj => by rw [hβ j hj]; exact h.lie j hj, h.typ, fun β'' h'' j b hb => by
    rw [hβ j (List.getElem?_eq_some_iff.1 hb).1]
    exact h.blk β'' (hβ.trans h'') j b hb⟩
def Holds (n : Nat) (β : Nat → Nat) (T : List TV) (tmps : Array Value) : Prop := ∀ β', Agrees n β β' → tmps = (T.map (TV.conc β')).toArray
theorem Holds.agree {n : Nat} {β β' : Nat → Nat} {T : List TV} {tmps : Array Value} (h : Holds n β T tmps) (hβ : Agrees n β β') : Holds n β' T tmps :=
  fun β'' h'' => h β'' (hβ.trans h'')
theorem Holds.mono {n m : Nat} {β : Nat → Nat} {T : List TV} {tmps : Array Value} (h : Holds n β T tmps) (hm : n ≤ m) : Holds m β T tmps :=
  fun β' h' => h β' (h'.mono hm)
def SV.ok (n : Nat) : SV → Prop
  | .v _ => True
  | .p j _ => j < n
  | .sl j _ _ _ => j < n
def AV.ok (n : Nat) : AV → Prop
  | .s x => x.ok n
  | .agg l => ∀ x ∈ l, x.ok n
def TV.ok (n : Nat) : TV → Prop
  | .s x => x.ok n
  | .agg l => ∀ x ∈ l, x.ok n
  | .tup l => ∀ x ∈ l, x.ok n
theorem SV.conc_ok {n : Nat} {x : SV} (h : x.ok n) {β β' : Nat → Nat} (hβ : Agrees n β β') : x.conc β' = x.conc β := by
  cases x with
  | v x => rfl
  | p j off => simp only [SV.conc]; rw [hβ j h]
  | sl j off len cap => simp only [SV.conc]; rw [hβ j h]
theorem SV.concs_ok {n : Nat} {l : List SV} (h : ∀ x ∈ l, x.ok n) {β β' : Nat → Nat} (hβ : Agrees n β β') : l.map (SV.conc β') = l.map (SV.conc β) :=
  List.map_congr_left fun x hx => SV.conc_ok (h x hx) hβ
theorem AV.conc_ok {n : Nat} {x : AV} (h : x.ok n) {β β' : Nat → Nat} (hβ : Agrees n β β') : x.conc β' = x.conc β := by
  cases x with
  | s x => exact SV.conc_ok h hβ
  | agg l => simp only [AV.conc]; rw [SV.concs_ok h hβ]
theorem TV.conc_ok {n : Nat} {x : TV} (h : x.ok n) {β β' : Nat → Nat} (hβ : Agrees n β β') : x.conc β' = x.conc β := by
  cases x with
  | s x => exact SV.conc_ok h hβ
  | agg l => simp only [TV.conc]; rw [SV.concs_ok h hβ]
  | tup l => simp only [TV.conc]; rw [List.map_congr_left fun x hx => AV.conc_ok (h x hx) hβ]
end Go.Ab
/-
  What one operation does to an abstract state; continuation-passing, so that simp walks it.
-/
namespace Go.Ab
open Go Go.RowKit
set_option linter.unusedSimpArgs false
set_option linter.unusedVariables false
def ev (T : List TV) : Operand → TV
  | .tmp t => T.getD t undefT
  | .const v => .s (.v v)
  | .global g => .s (.v (.pointer (some ⟨g, 0, none⟩)))
  | .func f => .s (.v (.func (.func f) #[] #[]))
theorem eval_ev {β : Nat → Nat} {T : List TV} {a : Act} (h : a.tmps = (T.map (TV.conc β)).toArray) (x : Operand) : a.eval x = (ev T x).conc β := by
  cases x with
  | tmp t =>
    simp only [Act.eval, ev, h]
    simp only [Array.getD_eq_getD_getElem?, List.getElem?_toArray, List.getElem?_map, List.getD_eq_getElem?_getD]
    cases T[t]? <;> simp
  | const v => rfl
  | global g => rfl
  | func f => rfl
def cellsOf : TV → Option (List SV)
  | .s (.v (.agg cs)) => some (cs.toList.map .v)
  | .s (.v (.tuple _)) => none
  | .s x => some [x]
  | .agg l => some l
  | .tup _ => none
theorem cellsOf_conc {t : TV} {l : List SV} (h : cellsOf t = some l) (β : Nat → Nat) : (t.conc β).cells = (l.map (SV.conc β)).toArray := by
  cases t with
  | s x =>
    cases x with
    | v x =>
      cases x <;> simp only [cellsOf, Option.some.injEq, reduceCtorEq] at h <;> subst h <;> simp [TV.conc, SV.conc, Value.cells, Function.comp_def]
    | p j off => simp only [cellsOf, Option.some.injEq] at h; subst h; rfl
    | sl j off len cap => simp only [cellsOf, Option.some.injEq] at h; subst h; rfl
  | agg l => simp only [cellsOf, Option.some.injEq] at h; subst h; rfl
  | tup l => simp [cellsOf] at h
abbrev sz (P : Program) (t : TypeId) : Nat := P.cellsOf t
def isRow (P : Program) (t : TypeId) : Bool := match P.underlying t with | some (.struct _) => true | some (.array _ _) => true | _ => false
def zeroV (P : Program) (t : TypeId) : Option Value := (P.info? t).bind (·.zero)
def zeroA (P : Program) (t : TypeId) : Option (List SV) := (zeroV P t).bind fun v => cellsOf (.s (.v v))
inductive HE where
  | none
  | new (b : AB)
  | put (j : Nat) (cs : List SV)
def putH (H : Heap) (j : Nat) (cs : List SV) : Heap := H.modify j fun b => { b with cs }
def HE.app : HE → Heap → Heap
  | .none, H => H
  | .new b, H => H ++ [b]
  | .put j cs, H => putH H j cs
def part (cs : List SV) (off n : Nat) : List SV := if off = 0 ∧ n = cs.length then cs else (cs.drop off).take n
theorem part_eq (cs : List SV) (off n : Nat) : part cs off n = (cs.drop off).take n := by
  unfold part
  split
  · rename_i h; obtain ⟨rfl, rfl⟩ := h; simp
  · rfl
def splice (bs : List SV) (off : Nat) (cs : List SV) : List SV :=
  match cs with
  | [x] => bs.set off x
  | cs => if off = 0 ∧ cs.length = bs.length then cs else bs.take off ++ (cs ++ bs.drop (off + cs.length))
theorem splice_eq (bs : List SV) (off : Nat) (cs : List SV) (h : off + cs.length ≤ bs.length) : splice bs off cs = bs.take off ++ (cs ++ bs.drop (off + cs.length)) := by
  unfold splice
  split
  · rename_i x
    simp only [List.length_cons, List.length_nil, Nat.zero_add, List.singleton_append] at h ⊢
    rw [List.set_eq_take_append_cons_drop, if_pos (by omega)]
  · split
    · rename_i h2; obtain ⟨rfl, h2⟩ := h2
      simp [h2]
    · rfl
def SV.one : SV → Bool
  | .v x => x.oneCell'
  | _ => true
def oneAll (cs : List SV) : Prop := ∀ c ∈ cs, c.one = true
abbrev KT := TV → HE → Prop
def pickT (t : Bool) (a b : TV) : TV :=
  match a, b with
  | .s (.v (.bool x)), .s (.v (.bool y)) => .s (.v (.bool (if t then x else y)))
  | a, b => if t then a else b
def xpick (c a b : TV) (K : KT) : Prop := match c with | .s (.v (.bool t)) => K (pickT t a b) .none | _ => False
def xnew (Γ : Ctx) (e : TypeId) (cs : Option (List SV)) (n : Nat) (K : KT) : Prop := match cs with | some cs => ¬ Γ.ev.TM e ∧ K (.s (.p n 0)) (.new ⟨e, cs⟩) | none => False
def FrP (Γ : Ctx) (w : World) : Prop := w.os = Γ.W.os ∧ w.tape = Γ.W.tape ∧ w.output = Γ.W.output ∧ Γ.W.heap.size ≤ w.heap.size ∧ ∀ k, k < Γ.W.heap.size → Γ.own k ∨ sameBlk Γ.ev Γ.B Γ.W w k
theorem Fr.to {Γ : Ctx} {w : World} (h : Fr Γ w) : FrP Γ w := ⟨h.os, h.tape, h.output, h.size, h.blk⟩
theorem FrP.now (Γ : Ctx) : FrP Γ Γ.W := ⟨rfl, rfl, rfl, Nat.le_refl _, fun _ _ => .inr (.inl rfl)⟩
def extCell (Γ : Ctx) (ad : Addr) (x : Value) : Prop := ∀ w, FrP Γ w → w.cell? ad = some x
def xcell (x : Option SV) (K : KT) : Prop := match x with | some x => K (.s x) .none | none => False
def xrow (cs : List SV) (off n : Nat) (K : KT) : Prop := off + n ≤ cs.length ∧ K (.agg (part cs off n)) .none
def rowOf (P : Program) (t : TypeId) : Option Bool := match P.underlying t with | some (.struct _) => some true | some (.array _ _) => some true | some _ => some false | none => none
def xpart (row : Option Bool) (n off : Nat) (cs : Option (List SV)) (K : KT) : Prop :=
  match row, cs with
  | some true, some cs => xrow cs off n K
  | some false, some cs => xcell cs[off]? K
  | _, _ => False
def xext (Γ : Ctx) (row : Option Bool) (n : Nat) (ad : Addr) (K : KT) : Prop :=
  match row with
  | some true => ∃ l : List Value, l.length = n ∧ ad.spot = none ∧ (∀ i x, l[i]? = some x → extCell Γ ⟨ad.block, ad.off + i, none⟩ x) ∧ K (.agg (l.map .v)) .none
  | some false => ∃ x, extCell Γ ad x ∧ K (.s (.v x)) .none
  | none => False
def xload (Γ : Ctx) (t : TypeId) (a : TV) (H : Heap) (K : KT) : Prop :=
  match a with
  | .s (.p j off) => xpart (rowOf Γ.P t) (sz Γ.P t) off (H[j]?.map AB.cs) K
  | .s (.v (.pointer (some ad))) => xext Γ (rowOf Γ.P t) (sz Γ.P t) ad K
  | _ => False
def szO (P : Program) (t : TypeId) : Option Nat := (P.info? t).map (·.size)
def xput (n : Option Nat) (off j : Nat) (b : Option AB) (cs : Option (List SV)) (K : KT) : Prop :=
  match b, cs with
  | some b, some cs => n = some cs.length ∧ off + cs.length ≤ b.cs.length ∧ oneAll cs ∧ K undefT (.put j (splice b.cs off cs))
  | _, _ => False
def xstore (Γ : Ctx) (t : TypeId) (a x : TV) (H : Heap) (K : KT) : Prop :=
  match a with
  | .s (.p j off) => xput (szO Γ.P t) off j H[j]? (cellsOf x) K
  | _ => False
def xnil (x : TV) (K : KT) : Prop :=
  match x with
  | .s (.p _ _) => K x .none
  | .s (.v (.pointer (some _))) => K x .none
  | .s (.v (.func (.func _) _ _)) => K x .none
  | _ => False
def intOp (op : BinOp) (k : IntKind) (m n : Int) (K : KT) : Prop :=
  match op with
  | .add => K (.s (.v (.int k (k.wrap (m + n))))) .none
  | .sub => K (.s (.v (.int k (k.wrap (m - n))))) .none
  | .mul => K (.s (.v (.int k (k.wrap (m * n))))) .none
  | .quo => n ≠ 0 ∧ K (.s (.v (.int k (k.wrap (m.tdiv n))))) .none
  | .rem => n ≠ 0 ∧ K (.s (.v (.int k (m.tmod n)))) .none
  | .and => K (.s (.v (.int k (bits .and k m n)))) .none
  | .or => K (.s (.v (.int k (bits .or k m n)))) .none
  | .xor => K (.s (.v (.int k (bits .xor k m n)))) .none
  | .andNot => K (.s (.v (.int k (bits .andNot k m n)))) .none
  | .eql => K (.s (.v (.bool (m == n)))) .none
  | .neq => K (.s (.v (.bool (m != n)))) .none
  | .lss => K (.s (.v (.bool (decide (m < n))))) .none
  | .leq => K (.s (.v (.bool (decide (m ≤ n))))) .none
  | .gtr => K (.s (.v (.bool (decide (m > n))))) .none
  | .geq => K (.s (.v (.bool (decide (m ≥ n))))) .none
  | _ => False
def shiftOp (op : BinOp) (k : IntKind) (m n : Int) (K : KT) : Prop :=
  match op with
  | .shl => 0 ≤ n ∧ K (.s (.v (.int k (k.wrap (m * 2 ^ (min n.toNat k.bits)))))) .none
  | .shr => 0 ≤ n ∧ K (.s (.v (.int k (m.fdiv (2 ^ (min n.toNat k.bits)))))) .none
  | _ => False
def isShift : BinOp → Bool
  | .shl | .shr => true
  | _ => false
def valsOf : List SV → Option (List Value)
  | [] => some []
  | .v x :: l => (valsOf l).map (x :: ·)
  | _ :: _ => none
def litEq : Lit → Lit → Bool
  | .bool a, .bool b => a == b
  | .int j a, .int k b => decide (j = k) && a == b
  | .float j a, .float k b => decide (j = k) && a == b
  | .string a, .string b => a == b
  | .nil, .nil => true
  | _, _ => false
theorem litEq_iff (x y : Lit) : litEq x y = true ↔ x = y := by
  cases x <;> cases y <;> simp [litEq]
def litsEq : List Lit → List Lit → Bool
  | [], [] => true
  | a :: l, b :: m => litEq a b && litsEq l m
  | _, _ => false
theorem litsEq_iff : ∀ (x y : List Lit), litsEq x y = true ↔ x = y
  | [], [] => by simp [litsEq]
  | [], _ :: _ => by simp [litsEq]
  | _ :: _, [] => by simp [litsEq]
  | a :: l, b :: m => by simp [litsEq, litEq_iff, litsEq_iff l m]
def litsA (P : Program) (t : TypeId) (x : Option (List SV)) : Option (List Lit) := (x.bind valsOf).bind (P.keyLits 9 t)
def eqTy (P : Program) (t : TypeId) : Bool := isRow P t && P.keyTypeAt 9 t && !P.eqGuardType P.depth t
def xeqA (ok neg : Bool) (x y : Option (List Lit)) (K : KT) : Prop :=
  match x, y with
  | some x, some y => ok = true ∧ K (.s (.v (.bool (if neg then !litsEq x y else litsEq x y)))) .none
  | _, _ => False
def isPtr (P : Program) (t : TypeId) : Bool := match P.underlying t with | some (.pointer _) => true | _ => false
def isSlc (P : Program) (t : TypeId) : Bool := match P.underlying t with | some (.slice _) => true | _ => false
def isBoolT (P : Program) (t : TypeId) : Bool := match P.underlying t with | some .bool => true | _ => false
def eqNeg : BinOp → Option Bool
  | .eql => some false
  | .neq => some true
  | _ => none
def xeqB (ok : Bool) (neg : Option Bool) (r : Bool) (K : KT) : Prop :=
  match neg with
  | some neg => ok = true ∧ K (.s (.v (.bool (if neg then !r else r)))) .none
  | none => False
def xeqR (P : Program) (t : TypeId) (neg : Option Bool) (a b : TV) (K : KT) : Prop :=
  match neg with
  | some neg => xeqA (eqTy P t) neg (litsA P t (cellsOf a)) (litsA P t (cellsOf b)) K
  | none => False
def strOp (op : BinOp) (x y : ByteArray) (K : KT) : Prop :=
  match op with
  | .eql => K (.s (.v (.bool (x == y)))) .none
  | .neq => K (.s (.v (.bool (x != y)))) .none
  | _ => False
def xint (op : BinOp) (k : IntKind) (m : Int) (k' : IntKind) (n : Int) (K : KT) : Prop :=
  if isShift op then shiftOp op k m n K else k = k' ∧ intOp op k m n K
def xbin (P : Program) (op : BinOp) (t : TypeId) (a b : TV) (K : KT) : Prop :=
  match a, b with
  | .s (.v (.int k m)), .s (.v (.int k' n)) => xint op k m k' n K
  | .s (.v (.bool x)), .s (.v (.bool y)) => xeqB (isBoolT P t) (eqNeg op) (x == y) K
  | .s (.v (.string x)), .s (.v (.string y)) => strOp op x y K
  | .s (.p _ _), .s (.v (.pointer none)) => xeqB (isPtr P t) (eqNeg op) false K
  | .s (.v (.pointer x)), .s (.v (.pointer none)) => xeqB (isPtr P t) (eqNeg op) x.isNone K
  | .s (.sl _ _ _ _), .s (.v (.slice none 0 0)) => xeqB (isSlc P t) (eqNeg op) false K
  | .s (.v (.slice x _ _)), .s (.v (.slice none 0 0)) => xeqB (isSlc P t) (eqNeg op) x.isNone K
  | .agg a, .agg b => xeqR P t (eqNeg op) (.agg a) (.agg b) K
  | .agg a, .s (.v (.agg b)) => xeqR P t (eqNeg op) (.agg a) (.s (.v (.agg b))) K
  | .s (.v (.agg a)), .agg b => xeqR P t (eqNeg op) (.s (.v (.agg a))) (.agg b) K
  | .s (.v (.agg a)), .s (.v (.agg b)) => xeqR P t (eqNeg op) (.s (.v (.agg a))) (.s (.v (.agg b))) K
  | _, _ => False
def xun (op : UnOp) (a : TV) (K : KT) : Prop :=
  match op, a with
  | .neg, .s (.v (.int k n)) => K (.s (.v (.int k (k.wrap (0 - n))))) .none
  | .xor, .s (.v (.int k n)) => K (.s (.v (.int k (bits .xor k (if k.signed then -1 else k.max) n)))) .none
  | .not, .s (.v (.bool b)) => K (.s (.v (.bool (!b)))) .none
  | _, _ => False
def intKindOf (P : Program) (t : TypeId) : Option IntKind := match P.underlying t with | some (.int k) => some k | _ => none
def xconv (src dst : Option IntKind) (a : TV) (K : KT) : Prop :=
  match src, dst, a with
  | some _, some d, .s (.v (.int _ n)) => K (.s (.v (.int d (d.wrap n)))) .none
  | _, _, _ => False
def fieldOff (P : Program) (s : TypeId) (f : Nat) : Option (Nat × TypeId) :=
  match P.underlying s with
  | some (.struct fs) => match fs[f]? with | some fd => if P.cellsOf fd.type = 0 then none else some (fd.offset, fd.type) | none => none
  | _ => none
def xfieldAddr (f : Option (Nat × TypeId)) (a : TV) (K : KT) : Prop :=
  match f, a with
  | some (o, _), .s (.p j off) => K (.s (.p j (off + o))) .none
  | some (o, _), .s (.v (.pointer (some ad))) => K (.s (.v (.pointer (some (ad.add o))))) .none
  | _, _ => False
def isAgg : TV → Bool
  | .agg _ => true
  | .s (.v (.agg _)) => true
  | _ => false
def xfield (P : Program) (f : Option (Nat × TypeId)) (a : TV) (K : KT) : Prop :=
  match f with
  | some (o, t) => isAgg a = true ∧ xpart (rowOf P t) (P.cellsOf t) o (cellsOf a) K
  | none => False
def arrOf (P : Program) (t : TypeId) : Option (Nat × TypeId) := match P.underlying t with | some (.array n e) => if (P.info? e).isSome then some (n, e) else none | _ => none
def slcOf (P : Program) (t : TypeId) : Option TypeId := match P.underlying t with | some (.slice e) => if (P.info? e).isSome then some e else none | _ => none
def inRange (i : Int) (n : Nat) : Prop := 0 ≤ i ∧ i < (n : Int)
def xindexAddr (P : Program) (arr : Option (Nat × TypeId)) (slc : Option TypeId) (a i : TV) (K : KT) : Prop :=
  match i with
  | .s (.v (.int _ i)) =>
    match arr with
    | some (n, e) =>
      match a with
      | .s (.p j off) => inRange i n ∧ K (.s (.p j (off + i.toNat * P.cellsOf e))) .none
      | .s (.v (.pointer (some ad))) => inRange i n ∧ K (.s (.v (.pointer (some (ad.add (i.toNat * P.cellsOf e)))))) .none
      | _ => False
    | none =>
      match slc with
      | some e =>
        match a with
        | .s (.sl j off n _) => inRange i n ∧ K (.s (.p j (off + i.toNat * P.cellsOf e))) .none
        | .s (.v (.slice (some ad) n _)) => inRange i n ∧ K (.s (.v (.pointer (some (ad.add (i.toNat * P.cellsOf e)))))) .none
        | _ => False
      | none => False
  | _ => False
def xindex (P : Program) (arr : Option (Nat × TypeId)) (a i : TV) (K : KT) : Prop :=
  match i with
  | .s (.v (.int _ i)) =>
    match arr, a with
    | some (n, e), _ => isAgg a = true ∧ inRange i n ∧ xpart (rowOf P e) (P.cellsOf e) (i.toNat * P.cellsOf e) (cellsOf a) K
    | none, _ => False
  | _ => False
def xextract (x : TV) (i : Nat) (K : KT) : Prop :=
  match x with
  | .tup l => match l[i]? with | some a => K a.tv .none | none => False
  | _ => False
def setAt (cells : List SV) (off : Nat) (vs : List SV) : List SV := vs.zipIdx.foldl (fun cs (c, j) => cs.set (off + j) c) cells
def fillA (place : Nat → Option (Nat × Nat)) (cells : List SV) : List (Nat × Option (List SV)) → Option (List SV)
  | [] => some cells
  | (i, v) :: rest =>
    match place i, v with
    | some (off, size), some v => if v.length ≠ size || off + v.length > cells.length then none else fillA place (setAt cells off v) rest
    | _, _ => none
def placeOf (P : Program) (t : TypeId) (i : Nat) : Option (Nat × Nat) :=
  match P.underlying t with
  | some (.array _ e) => some (i * P.cellsOf e, P.cellsOf e)
  | some (.struct fs) => (fs[i]?).map fun f => (f.offset, P.cellsOf f.type)
  | _ => none
def xbuild (cs : Option (List SV)) (K : KT) : Prop := match cs with | some cs => K (.agg cs) .none | none => False
def known (P : Program) (t : TypeId) : Bool :=
  match P.underlying t with
  | some (.array _ e) => (P.info? e).isSome
  | some (.struct fs) => fs.all fun f => (P.info? f.type).isSome
  | _ => false
def slice0 (P : Program) (e : TypeId) (len : Nat) : Option (List SV) :=
  (zeroA P e).bind fun z => if len * P.cellsOf e > 16777216 ∨ z.length ≠ P.cellsOf e then none else some ((List.range (len * P.cellsOf e)).map fun i => z.getD (i % z.length) (.v undef))
def xnewS (Γ : Ctx) (e : TypeId) (cs : Option (List SV)) (n len : Nat) (K : KT) : Prop :=
  match cs with | some cs => ¬ Γ.ev.TM e ∧ K (.s (.sl n 0 len len)) (.new ⟨e, cs⟩) | none => False
def plainsOf : List TV → Option (List Value)
  | [] => some []
  | .s (.v x) :: l => (plainsOf l).map (x :: ·)
  | _ :: _ => none
def xmakeFunc (g : FuncId) (a b : Option (List Value)) (K : KT) : Prop :=
  match a, b with | some a, some b => K (.s (.v (.func (.func g) a.toArray b.toArray))) .none | _, _ => False
def xmakeFn (f : Fn) (a b : Option (List Value)) (K : KT) : Prop := match f with | .func g => xmakeFunc g a b K | _ => False
def xop (Γ : Ctx) (op : Op) (E : Operand → TV) (H : Heap) (K : KT) : Prop :=
  match op with
  | .move x => K (E x) .none
  | .assign x => K (E x) .none
  | .pick c a b => xpick (E c) (E a) (E b) K
  | .alloc e => xnew Γ e (zeroA Γ.P e) H.length K
  | .box e x => xnew Γ e (cellsOf (E x)) H.length K
  | .build t ps => known Γ.P t = true ∧ xbuild ((zeroA Γ.P t).bind fun z => fillA (placeOf Γ.P t) z (ps.toList.map fun p => (p.1, cellsOf (E p.2)))) K
  | .buildSlice t len ps => match slcOf Γ.P t with
    | some e => xnewS Γ e ((slice0 Γ.P e len).bind fun z => fillA (fun i => some (i * Γ.P.cellsOf e, Γ.P.cellsOf e)) z (ps.toList.map fun p => (p.1, cellsOf (E p.2)))) H.length len K
    | none => False
  | .load t a => xload Γ t (E a) H K
  | .store t a x => xstore Γ t (E a) (E x) H K
  | .nilCheck x => xnil (E x) K
  | .binOp op t x y _ => xbin Γ.P op t (E x) (E y) K
  | .unOp op _ x => xun op (E x) K
  | .convert s d x => xconv (intKindOf Γ.P s) (intKindOf Γ.P d) (E x) K
  | .fieldAddr s x f => xfieldAddr (fieldOff Γ.P s f) (E x) K
  | .field t x f => xfield Γ.P (fieldOff Γ.P t f) (E x) K
  | .indexAddr t x i => xindexAddr Γ.P (arrOf Γ.P t) (slcOf Γ.P t) (E x) (E i) K
  | .index t x i => xindex Γ.P (arrOf Γ.P t) (E x) (E i) K
  | .extract x i => xextract (E x) i K
  | .makeFunc f a c => xmakeFn f (plainsOf (a.toList.map E)) (plainsOf (c.toList.map E)) K
  | _ => False
end Go.Ab
/-
  One operation's abstract step is what the model does.
-/
namespace Go.Ab
open Go Go.RowKit
set_option linter.unusedSimpArgs false
set_option linter.unusedVariables false
def upd (β : Nat → Nat) (n g : Nat) : Nat → Nat := fun j => if j = n then g else β j
theorem upd_agrees (β : Nat → Nat) (n g : Nat) : Agrees n β (upd β n g) := fun j hj => by simp [upd, Nat.ne_of_lt hj]
theorem upd_same (β : Nat → Nat) (n g : Nat) : upd β n g n = g := by simp [upd]
def Does (Γ : Ctx) (H : Heap) (β : Nat → Nat) (w : World) (v : TV) (e : HE) (r : Result Next) : Prop :=
  match e with
  | .none => r = .ok (.value (v.conc β)) w
  | .new b => ¬ Γ.ev.TM b.t ∧ (v = .s (.p H.length 0) ∨ ∃ k, v = .s (.sl H.length 0 k k)) ∧ r = .ok (.value (v.conc (upd β H.length w.heap.size))) (w.alloc (b.conc β))
  | .put j cs => v = undefT ∧ (∃ b, H[j]? = some b ∧ cs.length = b.cs.length) ∧ r = .ok .skip (w.setRow (β j) (cs.map (SV.conc β)).toArray)
def Sound (Γ : Ctx) (op : Op) (E : Operand → TV) (H : Heap) (v : TV) (e : HE) : Prop :=
  ∀ (o : Oper) (β : Nat → Nat) (ρ : Operand → Value) (w : World), o.op = op → (∀ x, ρ x = (E x).conc β) → Rep Γ H β w → Does Γ H β w v e ((execOp ρ o).run Γ.P w)
theorem pickT_conc (t : Bool) (a b : TV) (β : Nat → Nat) : (pickT t a b).conc β = if t then a.conc β else b.conc β := by
  unfold pickT
  split
  · cases t <;> simp [conc_v, conc_p, conc_sl, conc_agg, conc_tup]
  · cases t <;> rfl
theorem sound_pick {Γ : Ctx} {c a b : Operand} {E : Operand → TV} {H : Heap} {K : KT} (h : xpick (E c) (E a) (E b) K) :
    ∃ v e, K v e ∧ Sound Γ (.pick c a b) E H v e := by
  unfold xpick at h
  split at h
  · rename_i t hc
    refine ⟨_, _, h, fun o β ρ w ho hρ _ => ?_⟩
    simp [Does, execOp, ho, hρ, hc, conc_v, conc_p, conc_sl, conc_agg, conc_tup, asBool, pickT_conc]
  · exact h.elim
theorem sound_move {Γ : Ctx} {x : Operand} {E : Operand → TV} {H : Heap} {K : KT} (h : K (E x) .none) :
    ∃ v e, K v e ∧ Sound Γ (.move x) E H v e :=
  ⟨_, _, h, fun o β ρ w ho hρ _ => by simp [Does, execOp, ho, hρ]⟩
theorem sound_assign {Γ : Ctx} {x : Operand} {E : Operand → TV} {H : Heap} {K : KT} (h : K (E x) .none) :
    ∃ v e, K v e ∧ Sound Γ (.assign x) E H v e :=
  ⟨_, _, h, fun o β ρ w ho hρ _ => by simp [Does, execOp, ho, hρ]⟩
theorem zeroA_spec {P : Program} {t : TypeId} {l : List SV} (h : zeroA P t = some l) : ∃ i z, P.info? t = some i ∧ i.zero = some z ∧ ∀ β, z.cells = (l.map (SV.conc β)).toArray := by
  unfold zeroA zeroV at h
  cases hi : P.info? t with
  | none => simp [hi] at h
  | some i =>
    cases hz : i.zero with
    | none => simp [hi, hz] at h
    | some z =>
      simp only [hi, Option.bind_some, hz] at h
      exact ⟨i, z, rfl, hz, fun β => by have := cellsOf_conc h β; simpa [conc_v, conc_p, conc_sl, conc_agg, conc_tup] using this⟩
theorem sound_alloc {Γ : Ctx} {t : TypeId} {E : Operand → TV} {H : Heap} {K : KT} (h : xnew Γ t (zeroA Γ.P t) H.length K) :
    ∃ v e, K v e ∧ Sound Γ (.alloc t) E H v e := by
  unfold xnew at h
  split at h
  · rename_i cs hcs
    obtain ⟨i, z, hi, hz, hc⟩ := zeroA_spec hcs
    refine ⟨_, _, h.2, fun o β ρ w ho hρ _ => ⟨h.1, .inl rfl, ?_⟩⟩
    simp [execOp, ho, Instr.alloc, zeroValue, typeInfo, hi, hz, newVar, newRow, hc β, conc_v, conc_p, conc_sl, conc_agg, conc_tup, upd_same, AB.conc]
  · exact h.elim
theorem sound_box {Γ : Ctx} {t : TypeId} {x : Operand} {E : Operand → TV} {H : Heap} {K : KT} (h : xnew Γ t (cellsOf (E x)) H.length K) :
    ∃ v e, K v e ∧ Sound Γ (.box t x) E H v e := by
  unfold xnew at h
  split at h
  · rename_i cs hcs
    refine ⟨_, _, h.2, fun o β ρ w ho hρ _ => ⟨h.1, .inl rfl, ?_⟩⟩
    have hc := cellsOf_conc hcs β
    simp [execOp, ho, hρ, Instr.box, newVar, newRow, hc, conc_v, conc_p, conc_sl, conc_agg, conc_tup, upd_same, AB.conc]
  · exact h.elim
theorem setAt_conc (f : SV → Value) (off : Nat) : ∀ (vs : List SV) (k : Nat) (cells : List SV),
    ((vs.map f).zipIdx k).foldl (fun cs (c, j) => cs.setIfInBounds (off + j) c) (cells.map f).toArray = (((vs.zipIdx k).foldl (fun cs (c, j) => cs.set (off + j) c) cells).map f).toArray
  | [], _, _ => rfl
  | v :: vs, k, cells => by
    simp only [List.map_cons, List.zipIdx_cons, List.foldl_cons]
    have : (cells.map f).toArray.setIfInBounds (off + k) (f v) = ((cells.set (off + k) v).map f).toArray := by simp
    rw [this]
    exact setAt_conc f off vs (k + 1) _
theorem fill_parts {E : Operand → TV} {ρ : Operand → Value} {β : Nat → Nat} (hρ : ∀ x, ρ x = (E x).conc β) {place place' : Nat → Option (Nat × Nat)} (hp : ∀ i q, place i = some q → place' i = some q) :
    ∀ (parts : List (Nat × Operand)) (cells out : List SV), fillA place cells (parts.map fun p => (p.1, cellsOf (E p.2))) = some out →
      Instr.fill place' (cells.map (SV.conc β)).toArray (parts.map fun p => (p.1, ρ p.2)) = some (out.map (SV.conc β)).toArray
  | [], cells, out, h => by
    simp only [List.map_nil, fillA, Option.some.injEq] at h
    subst h
    rfl
  | p :: ps, cells, out, h => by
    simp only [List.map_cons, fillA] at h
    split at h
    · rename_i off size v h1 h2
      split at h
      · cases h
      · rename_i hc
        have hv := cellsOf_conc h2 β
        have ih := fill_parts hρ hp ps _ _ h
        simp only [List.map_cons, Instr.fill, hp _ _ h1, hρ, hv]
        have hsz : ((v.map (SV.conc β)).toArray.size ≠ size || decide (off + (v.map (SV.conc β)).toArray.size > (cells.map (SV.conc β)).toArray.size)) = false := by
          simpa using hc
        rw [hsz]
        simp only [Bool.false_eq_true, if_false]
        have := setAt_conc (SV.conc β) off v 0 cells
        rw [← ih]
        unfold setAt
        rw [← this]
        simp [hρ]
    · cases h
theorem mapM_known {P : Program} : ∀ (fs : List Field), (∀ f ∈ fs, (P.info? f.type).isSome = true) →
    fs.mapM (fun f => (P.info? f.type).map fun i => (f.offset, i.size)) = some (fs.map fun f => (f.offset, P.cellsOf f.type))
  | [], _ => rfl
  | f :: fs, h => by
    have h1 := h f (by simp)
    obtain ⟨i, hi⟩ := Option.isSome_iff_exists.1 h1
    have ih := mapM_known fs (fun g hg => h g (by simp [hg]))
    simp [List.mapM_cons, hi, ih, Program.cellsOf]
theorem sound_build {Γ : Ctx} {t : TypeId} {ps : Array (Nat × Operand)} {E : Operand → TV} {H : Heap} {K : KT}
    (h : known Γ.P t = true ∧ xbuild ((zeroA Γ.P t).bind fun z => fillA (placeOf Γ.P t) z (ps.toList.map fun p => (p.1, cellsOf (E p.2)))) K) :
    ∃ v e, K v e ∧ Sound Γ (.build t ps) E H v e := by
  obtain ⟨hk, h⟩ := h
  unfold xbuild at h
  split at h
  · rename_i cs hcs
    simp only [Option.bind_eq_some_iff] at hcs
    obtain ⟨zc, hz, hf⟩ := hcs
    obtain ⟨i, z, hi, hz0, hzc⟩ := zeroA_spec hz
    refine ⟨_, _, h, fun o β ρ w ho hρ _ => ?_⟩
    have hb : Γ.P.built t ((ps.map fun p => (p.1, ρ p.2)).toList) = some (cs.map (SV.conc β)).toArray := by
      rw [Array.toList_map]
      unfold Program.built
      unfold known at hk
      cases hu : Γ.P.underlying t with
      | none => simp [hu] at hk
      | some d =>
        cases d <;> simp only [hu, Bool.false_eq_true] at hk
        case array n e =>
          obtain ⟨ie, hie⟩ := Option.isSome_iff_exists.1 hk
          have hce : Γ.P.cellsOf e = ie.size := by simp [Program.cellsOf, hie]
          simp only [hi, hz0, hie, hzc β]
          exact fill_parts hρ (fun j q hq => by simp only [placeOf, hu, hce] at hq; exact hq) _ _ _ hf
        case struct fs =>
          have hm := mapM_known (P := Γ.P) fs.toList (fun f hfm => by
            have := Array.all_eq_true_iff_forall_mem.1 hk f (by simpa using hfm)
            exact this)
          simp only [hi, hz0, hm, hzc β]
          refine fill_parts hρ (fun j q hq => ?_) _ _ _ hf
          simp only [placeOf, hu] at hq
          simpa using hq
    have hrun := run_build (P := Γ.P) w t (ps.map fun p => (p.1, ρ p.2)) _ hb
    simp only [Does, execOp, ho, Sem.run_bind]
    rw [hrun]
    simp [TV.conc]
  · exact h.elim
theorem arrOf_spec {P : Program} {t : TypeId} {n : Nat} {e : TypeId} (h : arrOf P t = some (n, e)) : P.underlying t = some (.array n e) ∧ ∃ i, P.info? e = some i := by
  unfold arrOf at h
  split at h
  · split at h
    · rename_i hi
      simp only [Option.some.injEq, Prod.mk.injEq] at h
      obtain ⟨rfl, rfl⟩ := h
      exact ⟨by assumption, Option.isSome_iff_exists.1 hi⟩
    · cases h
  · cases h
theorem slcOf_spec {P : Program} {t e : TypeId} (h : slcOf P t = some e) : P.underlying t = some (.slice e) ∧ ∃ i, P.info? e = some i := by
  unfold slcOf at h
  split at h
  · split at h
    · rename_i hi
      simp only [Option.some.injEq] at h
      subst h
      exact ⟨by assumption, Option.isSome_iff_exists.1 hi⟩
    · cases h
  · cases h
theorem sound_buildSlice {Γ : Ctx} {t : TypeId} {len : Nat} {ps : Array (Nat × Operand)} {E : Operand → TV} {H : Heap} {K : KT}
    (h : match slcOf Γ.P t with
      | some e => xnewS Γ e ((slice0 Γ.P e len).bind fun z => fillA (fun i => some (i * Γ.P.cellsOf e, Γ.P.cellsOf e)) z (ps.toList.map fun p => (p.1, cellsOf (E p.2)))) H.length len K
      | none => False) :
    ∃ v e, K v e ∧ Sound Γ (.buildSlice t len ps) E H v e := by
  split at h
  · rename_i e he
    obtain ⟨hu, _⟩ := slcOf_spec he
    unfold xnewS at h
    split at h
    · rename_i cs hcs
      simp only [Option.bind_eq_some_iff] at hcs
      obtain ⟨z0, hz, hf⟩ := hcs
      unfold slice0 at hz
      simp only [Option.bind_eq_some_iff] at hz
      obtain ⟨zc, hzA, hz⟩ := hz
      split at hz
      · cases hz
      · rename_i hlen
        simp only [not_or, Nat.not_lt, gt_iff_lt, ne_eq, Decidable.not_not] at hlen
        simp only [Option.some.injEq] at hz
        obtain ⟨i, z, hi, hz0, hzc⟩ := zeroA_spec hzA
        refine ⟨_, _, h.2, fun o β ρ w ho hρ _ => ⟨h.1, .inr ⟨_, rfl⟩, ?_⟩⟩
        have hsz : Γ.P.cellsOf e = i.size := by simp [Program.cellsOf, hi]
        have hfill := fill_parts hρ (β := β) (place := fun i => some (i * Γ.P.cellsOf e, Γ.P.cellsOf e)) (place' := fun j => some (j * i.size, i.size)) (fun j q hq => by rw [hsz] at hq; exact hq) _ _ _ hf
        have hzz : (z0.map (SV.conc β)).toArray = (Array.range (len * i.size)).map (fun j => (if len * i.size = 0 then #[] else z.cells)[j % (if len * i.size = 0 then #[] else z.cells).size]!) := by
          rw [← hz, hsz]
          apply Array.ext
          · simp
          · intro j h1 h2
            have hj : j < len * i.size := by simpa using h2
            have hne : len * i.size ≠ 0 := by omega
            have hzs : zc.length = i.size := by rw [← hsz]; exact hlen.2
            have hpos : 0 < i.size := Nat.pos_of_ne_zero (fun h0 => hne (by rw [h0, Nat.mul_zero]))
            have hm : j % i.size < i.size := Nat.mod_lt _ hpos
            simp [hne, hzc β, hzs, hm]
        have hlen1 : ¬ len * i.size > 2 ^ 24 := by rw [← hsz]; omega
        simp only [execOp, ho]
        simp only [Instr.buildSlice, Sem.run_bind, run_underlying hu, Result.andThen_ok, sizeOf, typeInfo, Sem.run_pure, run_program, hi, hlen1, if_false]
        have hzrun : ∀ (k : Array Value → Sem Next) , True := fun _ => trivial
        by_cases h0 : len * i.size = 0
        · simp only [h0, if_true] at hzz
          simp [h0, newRow, conc_v, conc_p, conc_sl, conc_agg, conc_tup, upd_same, AB.conc]
          have : Instr.fill (fun j => some (j * i.size, i.size)) (Array.map (fun j => (#[] : Array Value)[j % (#[] : Array Value).size]!) (Array.range 0)) (List.map (fun p => (p.1, ρ p.2)) ps.toList) = some (cs.map (SV.conc β)).toArray := by
            rw [← hfill]; congr 1; rw [hzz]
          simp at this
          simp [this]
        · simp only [h0, if_false] at hzz
          simp [h0, zeroValue, typeInfo, hi, hz0, newRow, conc_v, conc_p, conc_sl, conc_agg, conc_tup, upd_same, AB.conc]
          have : Instr.fill (fun j => some (j * i.size, i.size)) (Array.map (fun j => z.cells[j % z.cells.size]!) (Array.range (len * i.size))) (List.map (fun p => (p.1, ρ p.2)) ps.toList) = some (cs.map (SV.conc β)).toArray := by
            rw [← hfill]; congr 1; rw [hzz]
          simp [this]
    · exact h.elim
  · exact h.elim
/-! Tryz# Loads -/
theorem cellOf {Γ : Ctx} {H : Heap} {β : Nat → Nat} {w : World} (hR : Rep Γ H β w) {j : Nat} {b : AB} (hb : H[j]? = some b) (i : Nat) : w.cell? ⟨β j, i, none⟩ = (b.cs[i]?).map (SV.conc β) := by
  have := hR.blk β (.refl _ _) j b hb
  simp [World.cell?, this, AB.conc]
theorem rowOf_true {P : Program} {t : TypeId} (h : rowOf P t = some true) : ∃ d, P.underlying t = some d ∧ d.isRow = true := by
  unfold rowOf at h
  split at h
  · exact ⟨_, ‹_›, rfl⟩
  · exact ⟨_, ‹_›, rfl⟩
  · cases h
  · cases h
theorem rowOf_false {P : Program} {t : TypeId} (h : rowOf P t = some false) : ∃ d, P.underlying t = some d ∧ d.isRow = false := by
  unfold rowOf at h
  split at h
  · cases h
  · cases h
  · rename_i d h1 h2 hd
    refine ⟨d, hd, ?_⟩
    cases d <;> first | rfl | (exfalso; simp_all; done)
  · cases h
theorem run_isAgg {P : Program} {t : TypeId} {d : TypeDesc} (hu : P.underlying t = some d) (w : World) : (Go.isAgg t).run P w = .ok d.isRow w := by
  unfold Go.isAgg
  rw [Sem.run_bind, run_underlying hu w]
  cases d <;> rfl
theorem run_loadAt_one {P : Program} {t : TypeId} (ht : rowOf P t = some false) {w : World} {ad : Addr} {u : Value} (hc : w.cell? ad = some u) :
    (Instr.loadAt t (.pointer (some ad))).run P w = .ok u w := by
  obtain ⟨d, hu, hd⟩ := rowOf_false ht
  simp [Instr.loadAt, Instr.sureAddr, loadVar, run_isAgg hu, hd, run_load, hc]
theorem info_of_row {P : Program} {t : TypeId} {d : TypeDesc} (hu : P.underlying t = some d) : (P.info? t).map (·.size) = some (P.cellsOf t) := by
  obtain ⟨i, hi⟩ := info_of_underlying hu
  simp [hi, Program.cellsOf]
theorem run_loadAt_row {P : Program} {t : TypeId} (ht : rowOf P t = some true) {w : World} {b off : Nat} {cs : List Value} (hl : cs.length = P.cellsOf t) (hc : w.rangeAt b off cs) :
    (Instr.loadAt t (.pointer (some ⟨b, off, none⟩))).run P w = .ok (.agg cs.toArray) w := by
  obtain ⟨d, hu, hd⟩ := rowOf_true ht
  exact run_loadAt_mid w b off t cs d hc hu hd (by rw [hl]; exact info_of_row hu)
theorem extCell_at {Γ : Ctx} {H : Heap} {β : Nat → Nat} {w : World} (hR : Rep Γ H β w) {ad : Addr} {x : Value} (h : extCell Γ ad x) : w.cell? ad = some x := h w hR.fr.to
theorem sound_load {Γ : Ctx} {t : TypeId} {x : Operand} {E : Operand → TV} {H : Heap} {K : KT} (h : xload Γ t (E x) H K) :
    ∃ v e, K v e ∧ Sound Γ (.load t x) E H v e := by
  unfold xload at h
  split at h
  · rename_i j off hx
    unfold xpart at h
    split at h
    · rename_i cs hrow hcs
      simp only [Option.map_eq_some_iff] at hcs
      obtain ⟨b, hb, rfl⟩ := hcs
      obtain ⟨hlen, hK⟩ := h
      refine ⟨_, _, hK, fun o β ρ w ho hρ hR => ?_⟩
      have hpl : (part b.cs off (sz Γ.P t)).length = Γ.P.cellsOf t := by rw [part_eq, List.length_take, List.length_drop]; simp only [sz] at hlen ⊢; omega
      have hr := run_loadAt_row (P := Γ.P) (w := w) (b := β j) (off := off) (cs := (part b.cs off (sz Γ.P t)).map (SV.conc β)) hrow (by simpa using hpl) (fun i v hv => by
        rw [cellOf hR hb, part_eq] at *
        simp only [List.getElem?_map, List.getElem?_take, List.getElem?_drop] at hv
        split at hv
        · exact hv
        · simp at hv)
      have hx' : (E x).conc β = .pointer (some ⟨β j, off, none⟩) := by rw [hx]; rfl
      simp only [Does, execOp, ho, hρ, hx', Sem.run_bind, hr, Result.andThen_ok, Sem.run_pure, conc_agg]
    · rename_i cs hrow hcs
      simp only [Option.map_eq_some_iff] at hcs
      obtain ⟨b, hb, rfl⟩ := hcs
      unfold xcell at h
      split at h
      · rename_i y hy
        refine ⟨_, _, h, fun o β ρ w ho hρ hR => ?_⟩
        have hr := run_loadAt_one (P := Γ.P) (w := w) (ad := ⟨β j, off, none⟩) (u := y.conc β) hrow (by rw [cellOf hR hb, hy]; rfl)
        have hx' : (E x).conc β = .pointer (some ⟨β j, off, none⟩) := by rw [hx]; rfl
        simp only [Does, execOp, ho, hρ, hx', Sem.run_bind, hr, Result.andThen_ok, Sem.run_pure, conc_s]
      · exact h.elim
    · exact h.elim
  · rename_i ad hx
    unfold xext at h
    split at h
    · rename_i hrow
      obtain ⟨l, hl, hs, hc, hK⟩ := h
      refine ⟨_, _, hK, fun o β ρ w ho hρ hR => ?_⟩
      obtain ⟨bl, of, sp⟩ := ad
      simp only at hs
      subst hs
      have hr := run_loadAt_row (P := Γ.P) (w := w) (b := bl) (off := of) (cs := l) hrow hl (fun i v hv => extCell_at hR (hc i v hv))
      have hx' : (E x).conc β = .pointer (some ⟨bl, of, none⟩) := by rw [hx]; rfl
      have hl' : (TV.agg (l.map .v)).conc β = .agg l.toArray := by simp [conc_agg, Function.comp_def, SV.conc]
      simp only [Does, execOp, ho, hρ, hx', Sem.run_bind, hr, Result.andThen_ok, Sem.run_pure, hl']
    · rename_i hrow
      obtain ⟨y, hy, hK⟩ := h
      refine ⟨_, _, hK, fun o β ρ w ho hρ hR => ?_⟩
      have hr := run_loadAt_one (P := Γ.P) (w := w) (ad := ad) (u := y) hrow (extCell_at hR hy)
      have hx' : (E x).conc β = .pointer (some ad) := by rw [hx]; rfl
      simp only [Does, execOp, ho, hρ, hx', Sem.run_bind, hr, Result.andThen_ok, Sem.run_pure, conc_v]
    · exact h.elim
  · exact h.elim
/-! Tryz# Stores -/
theorem run_storeCells_at {P : Program} (g off : Nat) (t : TypeId) : ∀ (vs : List Value) (i : Nat) (cur : Array Value) (w : World), w.heap[g]? = some (.cells cur t (0, 0)) → off + i + vs.length ≤ cur.size → (∀ v ∈ vs, v.oneCell' = true) →
    (storeCells ⟨g, off, none⟩ vs i).run P w = .ok () (w.setRow g (cur.toList.take (off + i) ++ (vs ++ cur.toList.drop (off + i + vs.length))).toArray)
  | [], i, cur, w, hg, _, _ => by
    have hlt : g < w.heap.size := (Array.getElem?_eq_some_iff.1 hg).1
    have hv : w.heap[g] = .cells cur t (0, 0) := (Array.getElem?_eq_some_iff.1 hg).2
    simp only [storeCells, List.nil_append, List.length_nil, Nat.add_zero, List.take_append_drop, Array.toArray_toList]
    show Result.ok () w = _
    congr 1
    unfold World.setRow
    cases w with
    | mk heap tape drawn os output =>
      congr 1
      apply Array.ext
      · simp
      · intro k h1 h2
        simp only [Array.getElem_modify]
        split
        · rename_i hk; subst hk; simp at hv; simp [hv]
        · rfl
  | v :: rest, i, cur, w, hg, hl, h1 => by
    have hi : off + i < cur.size := by simp at hl; omega
    have hadd : (⟨g, off, none⟩ : Addr).add i = ⟨g, off + i, none⟩ := Addr.add_mid g off i
    have hcell : w.cell? ⟨g, off + i, none⟩ = some cur[off + i] := by simp [World.cell?, hg, hi]
    have hfro : w.frozen? ⟨g, off + i, none⟩ = false := by simp [World.frozen?, hg]
    have hst : (store ((⟨g, off, none⟩ : Addr).add i) v).run P w = .ok () (w.setRow g (cur.setIfInBounds (off + i) v)) := by
      rw [hadd, run_store P w _ v _ (h1 v (by simp)), hcell]
      simp [hfro, setCell_eq_setRow w g (off + i) cur t (0, 0) v hg]
    have ih := run_storeCells_at (P := P) g off t rest (i + 1) (cur.setIfInBounds (off + i) v) (w.setRow g (cur.setIfInBounds (off + i) v)) (setRow_heap w g cur _ t _ hg) (by simp at hl ⊢; omega) (fun x hx => h1 x (by simp [hx]))
    simp only [storeCells, Sem.run_bind, hst, Result.andThen_ok, ih, setRow_setRow]
    congr 3
    apply List.ext_getElem?
    intro k
    simp only [Array.toList_setIfInBounds, List.getElem?_append, List.length_take, List.length_set, Array.length_toList, List.getElem?_take, List.getElem?_set, List.getElem?_drop, List.length_cons, List.getElem?_cons]
    by_cases hk : k < off + i
    · simp [hk, show k < off + (i + 1) by omega, show min (off + (i + 1)) cur.size = off + (i + 1) by omega, show min (off + i) cur.size = off + i by omega, show off + i ≠ k by omega]
    · by_cases hk2 : k = off + i
      · subst hk2
        simp [show min (off + (i + 1)) cur.size = off + (i + 1) by omega, show min (off + i) cur.size = off + i by omega, show off + i < off + (i + 1) by omega, hi]
      · simp only [hk, if_false, show ¬ k < off + (i + 1) by omega, show min (off + (i + 1)) cur.size = off + (i + 1) by omega, show min (off + i) cur.size = off + i by omega, show k - (off + i) = (k - (off + (i + 1))) + 1 by omega, Nat.add_sub_cancel]
        by_cases hk3 : k - (off + (i + 1)) < rest.length
        · simp [hk3]
        · simp only [hk3, if_false, Nat.add_lt_add_iff_right]
          rw [if_neg (by omega)]
          simp
          congr 1
          omega
theorem sound_store {Γ : Ctx} {t : TypeId} {x y : Operand} {E : Operand → TV} {H : Heap} {K : KT} (h : xstore Γ t (E x) (E y) H K) :
    ∃ v e, K v e ∧ Sound Γ (.store t x y) E H v e := by
  unfold xstore at h
  split at h
  · rename_i j off hx
    unfold xput at h
    split at h
    · rename_i b cs hb hcs
      obtain ⟨hn, hlen, hone, hK⟩ := h
      have hsl : (splice b.cs off cs).length = b.cs.length := by rw [splice_eq _ _ _ hlen]; simp; omega
      refine ⟨_, _, hK, fun o β ρ w ho hρ hR => ⟨rfl, ⟨b, hb, hsl⟩, ?_⟩⟩
      have hy := cellsOf_conc hcs β
      have hblk := hR.blk β (.refl _ _) j b hb
      have hst := run_storeCells_at (P := Γ.P) (β j) off b.t (cs.map (SV.conc β)) 0 (b.cs.map (SV.conc β)).toArray w hblk (by simpa using hlen) (fun v hv => by
        simp only [List.mem_map] at hv
        obtain ⟨c, hc, rfl⟩ := hv
        have := hone c hc
        cases c with
        | v x => exact this
        | p j off => rfl
        | sl j off len cap => rfl)
      have hi : ∃ i, Γ.P.info? t = some i ∧ i.size = cs.length := by
        unfold szO at hn
        simpa [Option.map_eq_some_iff] using hn
      obtain ⟨i, hi, his⟩ := hi
      have hcsz : (((E y).conc β).cells).size = i.size := by rw [hy]; simp [his]
      simp only [execOp, ho, hρ, hx, conc_v, conc_p, conc_sl, conc_agg, conc_tup, Instr.storeAt, Instr.sureAddr, storeVar, sizeOf, typeInfo, Sem.run_bind, Sem.run_pure, Result.andThen_ok, run_program, hi, hcsz, ne_eq, not_true_eq_false, if_false, hy]
      have hcs2 : (cs.map (SV.conc β)).toArray.size = i.size := by simp [his]
      simp only [hcs2, not_true_eq_false, if_false, hst, Result.andThen_ok, Sem.run_pure]
      congr 3
      rw [splice_eq _ _ _ hlen]
      simp [List.map_take, List.map_drop]
    · exact h.elim
  · exact h.elim
end Go.Ab
/-
  The rest of the operations; the assembly: every abstract step is sound.
-/
namespace Go.Ab
open Go Go.RowKit
set_option linter.unusedSimpArgs false
set_option linter.unusedVariables false
theorem sound_nil {Γ : Ctx} {x : Operand} {E : Operand → TV} {H : Heap} {K : KT} (h : xnil (E x) K) :
    ∃ v e, K v e ∧ Sound Γ (.nilCheck x) E H v e := by
  unfold xnil at h
  split at h
  · rename_i j off hx
    exact ⟨_, _, h, fun o β ρ w ho hρ _ => by simp [Does, execOp, ho, hρ, hx, conc_v, conc_p, conc_sl, conc_agg, conc_tup]⟩
  · rename_i ad hx
    exact ⟨_, _, h, fun o β ρ w ho hρ _ => by simp [Does, execOp, ho, hρ, hx, conc_v, conc_p, conc_sl, conc_agg, conc_tup]⟩
  · rename_i f a c hx
    exact ⟨_, _, h, fun o β ρ w ho hρ _ => by simp [Does, execOp, ho, hρ, hx, conc_v, conc_p, conc_sl, conc_agg, conc_tup]⟩
  · exact h.elim
theorem run_shift {P : Program} {k yk : IntKind} {t : TypeId} {m n : Int} {op : BinOp} {K : KT} (h : shiftOp op k m n K) :
    ∃ v : Value, K (.s (.v v)) .none ∧ ∀ w, (binOp op t (.int k m) (.int yk n)).run P w = .ok v w := by
  unfold shiftOp at h
  split at h
  · exact ⟨_, h.2, fun w => by simp [binOp, Op.shift, Int.not_lt.2 h.1]⟩
  · exact ⟨_, h.2, fun w => by simp [binOp, Op.shift, Int.not_lt.2 h.1]⟩
  · exact h.elim
theorem run_int {P : Program} {k : IntKind} {t : TypeId} {m n : Int} {op : BinOp} {K : KT} (h : intOp op k m n K) :
    ∃ v : Value, K (.s (.v v)) .none ∧ ∀ w, (binOp op t (.int k m) (.int k n)).run P w = .ok v w := by
  unfold intOp at h
  split at h
  · exact ⟨_, h, fun w => by simp [binOp, Op.intArith]⟩
  · exact ⟨_, h, fun w => by simp [binOp, Op.intArith]⟩
  · exact ⟨_, h, fun w => by simp [binOp, Op.intArith]⟩
  · exact ⟨_, h.2, fun w => by simp [binOp, Op.intDiv, h.1]⟩
  · exact ⟨_, h.2, fun w => by simp [binOp, Op.intDiv, h.1]⟩
  · exact ⟨_, h, fun w => by simp [binOp, intBits_and]⟩
  · exact ⟨_, h, fun w => by simp [binOp, intBits_or]⟩
  · exact ⟨_, h, fun w => by simp [binOp, intBits_xor]⟩
  · exact ⟨_, h, fun w => by simp [binOp, intBits_andNot]⟩
  · exact ⟨_, h, fun w => by simp [binOp, Op.intCmp]⟩
  · exact ⟨_, h, fun w => by simp [binOp, Op.intCmp]⟩
  · exact ⟨_, h, fun w => by simp [binOp, Op.intCmp]⟩
  · exact ⟨_, h, fun w => by simp [binOp, Op.intCmp]⟩
  · exact ⟨_, h, fun w => by simp [binOp, Op.intCmp]⟩
  · exact ⟨_, h, fun w => by simp [binOp, Op.intCmp]⟩
  · exact h.elim
theorem eqNeg_cases {op : BinOp} {neg : Bool} (h : eqNeg op = some neg) : (op = .eql ∧ neg = false) ∨ (op = .neq ∧ neg = true) := by
  cases op <;> simp [eqNeg] at h <;> simp [← h]
theorem run_eqB {P : Program} {op : BinOp} {t : TypeId} {x y : Value} {r : Bool} {ok : Bool} {K : KT} (h : xeqB ok (eqNeg op) r K)
    (hb : ∀ w, ok = true → (binOp .eql t x y).run P w = .ok (.bool r) w ∧ (binOp .neq t x y).run P w = .ok (.bool !r) w) :
    ∃ v : Value, K (.s (.v v)) .none ∧ ∀ w, (binOp op t x y).run P w = .ok v w := by
  unfold xeqB at h
  split at h
  · rename_i neg hneg
    rcases eqNeg_cases hneg with ⟨rfl, rfl⟩ | ⟨rfl, rfl⟩
    · exact ⟨_, h.2, fun w => by simpa using (hb w h.1).1⟩
    · exact ⟨_, h.2, fun w => by simpa using (hb w h.1).2⟩
  · exact h.elim
theorem run_equal_of {P : Program} {t : TypeId} {x y : Value} {r : Bool} (hm : ∀ w, (Op.equal t x y).run P w = .ok r w)
    (he : ∀ w, (binOp .eql t x y).run P w = ((Op.equal t x y).run P w).andThen fun b w' => .ok (.bool b) w')
    (hn : ∀ w, (binOp .neq t x y).run P w = ((Op.equal t x y).run P w).andThen fun b w' => .ok (.bool !b) w') (w : World) :
    (binOp .eql t x y).run P w = .ok (.bool r) w ∧ (binOp .neq t x y).run P w = .ok (.bool !r) w := by
  rw [he, hn, hm]
  exact ⟨rfl, rfl⟩
theorem ptr_eq {P : Program} {t : TypeId} (h : isPtr P t = true) (x : Option Addr) (w : World) :
    (binOp .eql t (.pointer x) (.pointer none)).run P w = .ok (.bool x.isNone) w ∧ (binOp .neq t (.pointer x) (.pointer none)).run P w = .ok (.bool !x.isNone) w := by
  unfold isPtr at h
  split at h
  · rename_i e hu
    refine run_equal_of (fun w => ?_) (fun w => by simp [binOp]) (fun w => by simp [binOp]) w
    have : ∀ d, (Op.equalIn (d + 1) t (.pointer x) (.pointer none)).run P w = .ok x.isNone w := fun d => by cases x <;> simp [Op.equalIn, run_underlying hu]
    exact this 9999
  · cases h
theorem slc_eq {P : Program} {t : TypeId} (h : isSlc P t = true) (x : Option Addr) (n c : Nat) (w : World) :
    (binOp .eql t (.slice x n c) (.slice none 0 0)).run P w = .ok (.bool x.isNone) w ∧ (binOp .neq t (.slice x n c) (.slice none 0 0)).run P w = .ok (.bool !x.isNone) w := by
  unfold isSlc at h
  split at h
  · rename_i e hu
    refine run_equal_of (fun w => ?_) (fun w => by simp [binOp]) (fun w => by simp [binOp]) w
    have : ∀ d, (Op.equalIn (d + 1) t (.slice x n c) (.slice none 0 0)).run P w = .ok x.isNone w := fun d => by cases x <;> simp [Op.equalIn, run_underlying hu]
    exact this 9999
  · cases h
theorem bool_eq {P : Program} {t : TypeId} (h : isBoolT P t = true) (x y : Bool) (w : World) :
    (binOp .eql t (.bool x) (.bool y)).run P w = .ok (.bool (x == y)) w ∧ (binOp .neq t (.bool x) (.bool y)).run P w = .ok (.bool !(x == y)) w := by
  unfold isBoolT at h
  split at h
  · rename_i hu
    refine run_equal_of (fun w => ?_) (fun w => by simp [binOp]) (fun w => by simp [binOp]) w
    exact run_equalIn_bool w 9999 t x y hu
  · cases h
theorem valsOf_conc (β : Nat → Nat) : ∀ {l : List SV} {vs : List Value}, valsOf l = some vs → l.map (SV.conc β) = vs
  | [], vs, h => by simp only [valsOf, Option.some.injEq] at h; subst h; rfl
  | .v x :: l, vs, h => by
    simp only [valsOf, Option.map_eq_some_iff] at h
    obtain ⟨ws, h1, rfl⟩ := h
    simp [SV.conc, valsOf_conc β h1]
  | .p _ _ :: _, _, h => by simp [valsOf] at h
  | .sl _ _ _ _ :: _, _, h => by simp [valsOf] at h
theorem agg_eq {P : Program} {t : TypeId} {a b : TV} {la lb : List Lit} (hok : eqTy P t = true) (ha : litsA P t (cellsOf a) = some la) (hb : litsA P t (cellsOf b) = some lb)
    (β : Nat → Nat) {xs ys : Array Value} (hx : a.conc β = .agg xs) (hy : b.conc β = .agg ys) (w : World) :
    (binOp .eql t (.agg xs) (.agg ys)).run P w = .ok (.bool (litsEq la lb)) w ∧ (binOp .neq t (.agg xs) (.agg ys)).run P w = .ok (.bool !(litsEq la lb)) w := by
  unfold eqTy at hok
  simp only [Bool.and_eq_true, Bool.not_eq_true'] at hok
  obtain ⟨⟨hrow, hkey⟩, hguard⟩ := hok
  have key : ∀ {c : TV} {lc : List Lit} {zs : Array Value}, litsA P t (cellsOf c) = some lc → c.conc β = .agg zs → P.keyLits 9 t zs.toList = some lc := by
    intro c lc zs hc hz
    unfold litsA at hc
    simp only [Option.bind_eq_some_iff] at hc
    obtain ⟨vs, ⟨l, hl, hv⟩, hk⟩ := hc
    have h1 := cellsOf_conc hl β
    rw [hz, valsOf_conc β hv] at h1
    simp only [Value.cells] at h1
    rw [h1]
    exact hk
  have kx := key ha hx
  have ky := key hb hy
  have formed : ∀ {zs : Array Value} {lc : List Lit}, P.keyLits 9 t zs.toList = some lc → (Value.agg zs).formed P t = true := by
    intro zs lc hz
    unfold isRow at hrow
    simp only [Value.formed]
    split at hrow
    · rename_i fs hu
      simp only [hu]
      unfold Program.keyLits at hz
      simp only [hu] at hz
      split at hz
      · rename_i hc; simpa using hc.1
      · cases hz
    · rename_i n e hu
      simp only [hu]
      unfold Program.keyLits at hz
      simp only [hu] at hz
      split at hz
      · rename_i hc; simpa using hc
      · cases hz
    · cases hrow
  have hdeep := run_equalIn_deep (P := P) 9991 9 t hkey
  have hE : ∀ w, (Op.equal t (.agg xs) (.agg ys)).run P w = .ok (litsEq la lb) w := by
    intro w
    obtain ⟨r, hr, hiff⟩ := hdeep w 9 9 (.agg xs) (.agg ys) la lb (formed kx) (formed ky) (by simpa [Value.cells] using kx) (by simpa [Value.cells] using ky)
    have : r = litsEq la lb := by rw [Bool.eq_iff_iff, hiff, litsEq_iff]
    rw [← this]
    exact hr
  exact run_equal_of hE (fun w => by simp [binOp]) (fun w => by simp [binOp]) w
theorem eqGuard_agg {P : Program} {t : TypeId} (hok : eqTy P t = true) (op : BinOp) (x y : Operand) (xs ys : Array Value) (w : World) : (eqGuard op t x y (.agg xs) (.agg ys)).run P w = .ok () w := by
  unfold eqTy at hok
  simp only [Bool.and_eq_true, Bool.not_eq_true'] at hok
  exact run_eqGuard_agg w op t x y xs ys hok.2
theorem run_eqR {P : Program} {op : BinOp} {t : TypeId} {a b : TV} {K : KT} (h : xeqR P t (eqNeg op) a b K) (ha : isAgg a = true) (hb : isAgg b = true) :
    ∃ v : Value, K (.s (.v v)) .none ∧ eqTy P t = true ∧ ∀ β w, (∃ xs, a.conc β = .agg xs) ∧ (∃ ys, b.conc β = .agg ys) ∧ (binOp op t (a.conc β) (b.conc β)).run P w = .ok v w := by
  have agg : ∀ {c : TV}, isAgg c = true → ∀ β, ∃ zs, c.conc β = .agg zs := by
    intro c hc β
    unfold isAgg at hc
    split at hc
    · exact ⟨_, rfl⟩
    · exact ⟨_, rfl⟩
    · cases hc
  unfold xeqR at h
  split at h
  · rename_i neg hneg
    unfold xeqA at h
    split at h
    · rename_i la lb hla hlb
      obtain ⟨hok, hK⟩ := h
      refine ⟨_, hK, hok, fun β w => ⟨agg ha β, agg hb β, ?_⟩⟩
      obtain ⟨xs, hx⟩ := agg ha β
      obtain ⟨ys, hy⟩ := agg hb β
      have := agg_eq hok hla hlb β hx hy w
      rw [hx, hy]
      rcases eqNeg_cases hneg with ⟨rfl, rfl⟩ | ⟨rfl, rfl⟩
      · simpa using this.1
      · simpa using this.2
    · exact h.elim
  · exact h.elim
theorem sound_bin {Γ : Ctx} {op : BinOp} {t ty : TypeId} {x y : Operand} {E : Operand → TV} {H : Heap} {K : KT} (h : xbin Γ.P op t (E x) (E y) K) :
    ∃ v e, K v e ∧ Sound Γ (.binOp op t x y ty) E H v e := by
  have fin : ∀ {v : Value}, K (.s (.v v)) .none → (∀ β w, (eqGuard op t x y ((E x).conc β) ((E y).conc β)).run Γ.P w = .ok () w ∧ (binOp op t ((E x).conc β) ((E y).conc β)).run Γ.P w = .ok v w) → ∃ v e, K v e ∧ Sound Γ (.binOp op t x y ty) E H v e :=
    fun {v} hK hr => ⟨_, _, hK, fun o β ρ w ho hρ _ => by
      obtain ⟨h1, h2⟩ := hr β w
      simp only [Does, execOp, ho, hρ, Sem.run_bind, h1, Result.andThen_ok, h2, Sem.run_pure, conc_v, conc_p, conc_sl, conc_agg, conc_tup]⟩
  unfold xbin at h
  split at h
  · rename_i k m k' n hx hy
    unfold xint at h
    split at h
    · obtain ⟨v, hK, hr⟩ := run_shift (P := Γ.P) (yk := k') (t := t) h
      exact fin hK fun β w => ⟨by simp [hx, hy, conc_v, conc_p, conc_sl, conc_agg, conc_tup, eqGuard_at_int], by rw [hx, hy]; exact hr w⟩
    · obtain ⟨rfl, h⟩ := h
      obtain ⟨v, hK, hr⟩ := run_int (P := Γ.P) (t := t) h
      exact fin hK fun β w => ⟨by simp [hx, hy, conc_v, conc_p, conc_sl, conc_agg, conc_tup, eqGuard_at_int], by rw [hx, hy]; exact hr w⟩
  · rename_i p q hx hy
    obtain ⟨v, hK, hr⟩ := run_eqB (P := Γ.P) (t := t) (x := .bool p) (y := .bool q) h (fun w hok => bool_eq hok p q w)
    exact fin hK fun β w => ⟨by simp [hx, hy, conc_v, conc_p, conc_sl, conc_agg, conc_tup, eqGuard_at_bool], by rw [hx, hy]; exact hr w⟩
  · rename_i p q hx hy
    unfold strOp at h
    split at h
    · exact fin h fun β w => ⟨by simp [hx, hy, conc_v, conc_p, conc_sl, conc_agg, conc_tup, eqGuard_at_string], by rw [hx, hy]; simp [conc_v, conc_p, conc_sl, conc_agg, conc_tup, binOp, Op.stringOp, beq_toListBytes, bne]⟩
    · exact fin h fun β w => ⟨by simp [hx, hy, conc_v, conc_p, conc_sl, conc_agg, conc_tup, eqGuard_at_string], by rw [hx, hy]; simp [conc_v, conc_p, conc_sl, conc_agg, conc_tup, binOp, Op.stringOp, beq_toListBytes, bne]⟩
    · exact h.elim
  · rename_i j off hx hy
    unfold xeqB at h
    split at h
    · rename_i neg hneg
      refine fin h.2 fun β w => ⟨by simp [hx, hy, conc_v, conc_p, conc_sl, conc_agg, conc_tup, eqGuard_at_pointer], ?_⟩
      have := ptr_eq h.1 (some ⟨β j, off, none⟩) w
      rw [hx, hy]
      simp only [conc_p, conc_sl, conc_v]
      rcases eqNeg_cases hneg with ⟨rfl, rfl⟩ | ⟨rfl, rfl⟩
      · simpa using this.1
      · simpa using this.2
    · exact h.elim
  · rename_i p hx hy
    obtain ⟨v, hK, hr⟩ := run_eqB (P := Γ.P) (t := t) (x := .pointer p) (y := .pointer none) h (fun w hok => ptr_eq hok p w)
    exact fin hK fun β w => ⟨by simp [hx, hy, conc_v, conc_p, conc_sl, conc_agg, conc_tup, eqGuard_at_pointer], by rw [hx, hy]; exact hr w⟩
  · rename_i j off len cap hx hy
    unfold xeqB at h
    split at h
    · rename_i neg hneg
      refine fin h.2 fun β w => ⟨by simp [hx, hy, conc_v, conc_p, conc_sl, conc_agg, conc_tup, eqGuard_at_slice], ?_⟩
      have := slc_eq h.1 (some ⟨β j, off, none⟩) len cap w
      rw [hx, hy]
      simp only [conc_p, conc_sl, conc_v]
      rcases eqNeg_cases hneg with ⟨rfl, rfl⟩ | ⟨rfl, rfl⟩
      · simpa using this.1
      · simpa using this.2
    · exact h.elim
  · rename_i p n c hx hy
    obtain ⟨v, hK, hr⟩ := run_eqB (P := Γ.P) (t := t) (x := .slice p n c) (y := .slice none 0 0) h (fun w hok => slc_eq hok p n c w)
    exact fin hK fun β w => ⟨by simp [hx, hy, conc_v, conc_p, conc_sl, conc_agg, conc_tup, eqGuard_at_slice], by rw [hx, hy]; exact hr w⟩
  all_goals first
    | exact h.elim
    | (rename_i a b hx hy
       obtain ⟨v, hK, hok, hr⟩ := run_eqR (P := Γ.P) h rfl rfl
       refine fin hK fun β w => ?_
       obtain ⟨⟨xs, hxs⟩, ⟨ys, hys⟩, hrun⟩ := hr β w
       rw [hx, hy]
       refine ⟨?_, hrun⟩
       rw [hxs, hys]
       exact eqGuard_agg hok op x y xs ys w)
theorem sound_un {Γ : Ctx} {op : UnOp} {t : TypeId} {x : Operand} {E : Operand → TV} {H : Heap} {K : KT} (h : xun op (E x) K) :
    ∃ v e, K v e ∧ Sound Γ (.unOp op t x) E H v e := by
  unfold xun at h
  split at h
  · rename_i k n hx
    exact ⟨_, _, h, fun o β ρ w ho hρ _ => by simp [Does, execOp, ho, hρ, hx, conc_v, conc_p, conc_sl, conc_agg, conc_tup, Op.unary, Op.intArith]⟩
  · rename_i k n hx
    exact ⟨_, _, h, fun o β ρ w ho hρ _ => by simp [Does, execOp, ho, hρ, hx, conc_v, conc_p, conc_sl, conc_agg, conc_tup, Op.unary, intBits_xor]⟩
  · rename_i b hx
    exact ⟨_, _, h, fun o β ρ w ho hρ _ => by simp [Does, execOp, ho, hρ, hx, conc_v, conc_p, conc_sl, conc_agg, conc_tup, Op.unary]⟩
  · exact h.elim
theorem intKindOf_spec {P : Program} {t : TypeId} {k : IntKind} (h : intKindOf P t = some k) : P.underlying t = some (.int k) := by
  unfold intKindOf at h
  split at h
  · simp only [Option.some.injEq] at h; subst h; assumption
  · cases h
theorem sound_conv {Γ : Ctx} {s d : TypeId} {x : Operand} {E : Operand → TV} {H : Heap} {K : KT} (h : xconv (intKindOf Γ.P s) (intKindOf Γ.P d) (E x) K) :
    ∃ v e, K v e ∧ Sound Γ (.convert s d x) E H v e := by
  unfold xconv at h
  split at h
  · rename_i _ _ _ ks kd k n hs hd hx
    have us := intKindOf_spec hs
    have ud := intKindOf_spec hd
    exact ⟨_, _, h, fun o β ρ w ho hρ _ => by simp [Does, execOp, ho, hρ, hx, conc_v, conc_p, conc_sl, conc_agg, conc_tup, convert, run_underlying us, run_underlying ud, Conv.intToInt]⟩
  · exact h.elim
theorem fieldOff_spec {P : Program} {s : TypeId} {f o : Nat} {t : TypeId} (h : fieldOff P s f = some (o, t)) :
    ∃ fs fd, P.underlying s = some (.struct fs) ∧ fs[f]? = some fd ∧ fd.offset = o ∧ fd.type = t ∧ P.cellsOf fd.type ≠ 0 := by
  unfold fieldOff at h
  split at h
  · rename_i fs hu
    split at h
    · rename_i fd hf
      split at h
      · cases h
      · rename_i hc
        simp only [Option.some.injEq, Prod.mk.injEq] at h
        exact ⟨fs, fd, hu, hf, h.1, h.2, hc⟩
    · cases h
  · cases h
theorem cellsOf_pos {P : Program} {t : TypeId} (h : P.cellsOf t ≠ 0) : ∃ i, P.info? t = some i ∧ i.size = P.cellsOf t := by
  unfold Program.cellsOf at *
  cases hi : P.info? t with
  | none => simp [hi] at h
  | some i => exact ⟨i, rfl, by simp⟩
theorem run_fieldAt {P : Program} {s : TypeId} {f o : Nat} {t : TypeId} (h : fieldOff P s f = some (o, t)) (a : Addr) (w : World) :
    (Instr.fieldAt s (.pointer (some a)) f).run P w = .ok (.pointer (some (a.add o))) w := by
  obtain ⟨fs, fd, hu, hf, rfl, rfl, hc⟩ := fieldOff_spec h
  obtain ⟨i, hi, hs⟩ := cellsOf_pos hc
  have h0 : i.size ≠ 0 := by rw [hs]; exact hc
  simp [Instr.fieldAt, run_underlying hu, hf, Instr.sureAddr, fieldPlace, sizeOf, typeInfo, hi, h0]
theorem sound_fieldAddr {Γ : Ctx} {s : TypeId} {x : Operand} {f : Nat} {E : Operand → TV} {H : Heap} {K : KT} (h : xfieldAddr (fieldOff Γ.P s f) (E x) K) :
    ∃ v e, K v e ∧ Sound Γ (.fieldAddr s x f) E H v e := by
  unfold xfieldAddr at h
  split at h
  · rename_i _ _ o t j off hf hx
    refine ⟨_, _, h, fun op β ρ w ho hρ _ => ?_⟩
    have := run_fieldAt hf ⟨β j, off, none⟩ w
    simp [Does, execOp, ho, hρ, hx, conc_v, conc_p, conc_sl, conc_agg, conc_tup, this, Addr.add_mid]
  · rename_i _ _ o t ad hf hx
    refine ⟨_, _, h, fun op β ρ w ho hρ _ => ?_⟩
    have := run_fieldAt hf ad w
    simp [Does, execOp, ho, hρ, hx, conc_v, conc_p, conc_sl, conc_agg, conc_tup, this]
  · exact h.elim
theorem isAgg_conc {a : TV} (h : Ab.isAgg a = true) (β : Nat → Nat) : ∃ cs, a.conc β = .agg cs ∧ ∀ l, cellsOf a = some l → cs = (l.map (SV.conc β)).toArray := by
  unfold Ab.isAgg at h
  split at h
  · exact ⟨_, rfl, fun l hl => by simp only [cellsOf, Option.some.injEq] at hl; subst hl; rfl⟩
  · rename_i cs
    refine ⟨cs, rfl, fun l hl => ?_⟩
    simp only [cellsOf, Option.some.injEq] at hl
    subst hl
    simp [Function.comp_def, SV.conc]
  · cases h
theorem run_part {P : Program} {t : TypeId} {cs : Option (List SV)} {off : Nat} {K : KT} (h : xpart (rowOf P t) (P.cellsOf t) off cs K) :
    ∃ l v, cs = some l ∧ K v .none ∧ ∀ β w, (Go.part t (l.map (SV.conc β)).toArray off).run P w = .ok (v.conc β) w := by
  unfold xpart at h
  split at h
  · rename_i l hrow
    obtain ⟨hl, hK⟩ := h
    refine ⟨l, _, rfl, hK, fun β w => ?_⟩
    obtain ⟨d, hu, hd⟩ := rowOf_true hrow
    obtain ⟨i, hi⟩ := info_of_underlying hu
    have hs : P.cellsOf t = i.size := by simp [Program.cellsOf, hi]
    simp only [Go.part, Sem.run_bind, run_isAgg hu, hd, Result.andThen_ok, if_true, sizeOf, typeInfo, run_program, hi, Sem.run_pure, TV.conc, part_eq, hs]
    congr 2
    rw [List.extract_toArray]
    simp [List.map_take, List.map_drop, List.extract_eq_take_drop]
  · rename_i l hrow
    unfold xcell at h
    split at h
    · rename_i y hy
      refine ⟨l, _, rfl, h, fun β w => ?_⟩
      obtain ⟨d, hu, hd⟩ := rowOf_false hrow
      simp [Go.part, run_isAgg hu, hd, hy, TV.conc]
    · exact h.elim
  · exact h.elim
theorem sound_field {Γ : Ctx} {t : TypeId} {x : Operand} {f : Nat} {E : Operand → TV} {H : Heap} {K : KT} (h : xfield Γ.P (fieldOff Γ.P t f) (E x) K) :
    ∃ v e, K v e ∧ Sound Γ (.field t x f) E H v e := by
  unfold xfield at h
  split at h
  · rename_i _ o ft hf
    obtain ⟨hagg, h⟩ := h
    obtain ⟨l, v, hl, hK, hr⟩ := run_part h
    refine ⟨_, _, hK, fun op β ρ w ho hρ _ => ?_⟩
    obtain ⟨fs, fd, hu, hfd, rfl, rfl, _⟩ := fieldOff_spec hf
    obtain ⟨cs, hc, hcs⟩ := isAgg_conc hagg β
    have := hr β w
    rw [← hcs l hl] at this
    simp [Does, execOp, ho, hρ, hc, Instr.field, run_underlying hu, hfd, asAgg, this]
  · exact h.elim
theorem run_indexAt_arr {P : Program} {t : TypeId} {n : Nat} {e : TypeId} (h : arrOf P t = some (n, e)) (a : Addr) (k : IntKind) (i : Int) (hi : inRange i n) (w : World) :
    (Instr.indexAt t (.pointer (some a)) (.int k i)).run P w = .ok (.pointer (some (a.add (i.toNat * P.cellsOf e)))) w := by
  obtain ⟨hu, ie, hie⟩ := arrOf_spec h
  have hs : P.cellsOf e = ie.size := by simp [Program.cellsOf, hie]
  unfold inRange at hi
  simp [Instr.indexAt, asIntOf, run_underlying hu, Instr.sureAddr, hi, sizeOf, typeInfo, hie, hs]
theorem run_indexAt_slc {P : Program} {t e : TypeId} (h : slcOf P t = some e) (a : Addr) (n c : Nat) (k : IntKind) (i : Int) (hi : inRange i n) (w : World) :
    (Instr.indexAt t (.slice (some a) n c) (.int k i)).run P w = .ok (.pointer (some (a.add (i.toNat * P.cellsOf e)))) w := by
  obtain ⟨hu, ie, hie⟩ := slcOf_spec h
  have hs : P.cellsOf e = ie.size := by simp [Program.cellsOf, hie]
  unfold inRange at hi
  simp [Instr.indexAt, asIntOf, run_underlying hu, hi, sizeOf, typeInfo, hie, hs]
theorem sound_indexAddr {Γ : Ctx} {t : TypeId} {x y : Operand} {E : Operand → TV} {H : Heap} {K : KT} (h : xindexAddr Γ.P (arrOf Γ.P t) (slcOf Γ.P t) (E x) (E y) K) :
    ∃ v e, K v e ∧ Sound Γ (.indexAddr t x y) E H v e := by
  unfold xindexAddr at h
  split at h
  · rename_i k i hy
    split at h
    · rename_i n e harr
      split at h
      · rename_i j off hx
        obtain ⟨hi, hK⟩ := h
        refine ⟨_, _, hK, fun o β ρ w ho hρ _ => ?_⟩
        have := run_indexAt_arr harr ⟨β j, off, none⟩ k i hi w
        simp only [Does, execOp, ho, hρ, hx, hy, conc_p, conc_v, Sem.run_bind, this, Result.andThen_ok, Sem.run_pure, Addr.add_mid]
      · rename_i ad hx
        obtain ⟨hi, hK⟩ := h
        refine ⟨_, _, hK, fun o β ρ w ho hρ _ => ?_⟩
        have := run_indexAt_arr harr ad k i hi w
        simp only [Does, execOp, ho, hρ, hx, hy, conc_p, conc_v, Sem.run_bind, this, Result.andThen_ok, Sem.run_pure]
      · exact h.elim
    · split at h
      · rename_i e hslc
        split at h
        · rename_i j off n c hx
          obtain ⟨hi, hK⟩ := h
          refine ⟨_, _, hK, fun o β ρ w ho hρ _ => ?_⟩
          have := run_indexAt_slc hslc ⟨β j, off, none⟩ n c k i hi w
          simp only [Does, execOp, ho, hρ, hx, hy, conc_p, conc_sl, conc_v, Sem.run_bind, this, Result.andThen_ok, Sem.run_pure, Addr.add_mid]
        · rename_i ad n c hx
          obtain ⟨hi, hK⟩ := h
          refine ⟨_, _, hK, fun o β ρ w ho hρ _ => ?_⟩
          have := run_indexAt_slc hslc ad n c k i hi w
          simp only [Does, execOp, ho, hρ, hx, hy, conc_p, conc_v, Sem.run_bind, this, Result.andThen_ok, Sem.run_pure]
        · exact h.elim
      · exact h.elim
  · exact h.elim
theorem sound_index {Γ : Ctx} {t : TypeId} {x y : Operand} {E : Operand → TV} {H : Heap} {K : KT} (h : xindex Γ.P (arrOf Γ.P t) (E x) (E y) K) :
    ∃ v e, K v e ∧ Sound Γ (.index t x y) E H v e := by
  unfold xindex at h
  split at h
  · rename_i k i hy
    split at h
    · rename_i _ n e harr
      obtain ⟨hagg, hi, h⟩ := h
      obtain ⟨l, v, hl, hK, hr⟩ := run_part h
      refine ⟨_, _, hK, fun o β ρ w ho hρ _ => ?_⟩
      obtain ⟨hu, ie, hie⟩ := arrOf_spec harr
      have hs : Γ.P.cellsOf e = ie.size := by simp [Program.cellsOf, hie]
      obtain ⟨cs, hc, hcs⟩ := isAgg_conc hagg β
      have hrun := hr β w
      rw [← hcs l hl, hs] at hrun
      unfold inRange at hi
      have hyc : (TV.s (.v (.int k i))).conc β = .int k i := rfl
      simp [Does, execOp, ho, hρ, hc, hy, hyc, Instr.index, asIntOf, run_underlying hu, hi, sizeOf, typeInfo, hie, hrun]
    · exact h.elim
  · exact h.elim
theorem sound_extract {Γ : Ctx} {x : Operand} {i : Nat} {E : Operand → TV} {H : Heap} {K : KT} (h : xextract (E x) i K) :
    ∃ v e, K v e ∧ Sound Γ (.extract x i) E H v e := by
  unfold xextract at h
  split at h
  · rename_i l hx
    split at h
    · rename_i a ha
      exact ⟨_, _, h, fun o β ρ w ho hρ _ => by simp [Does, execOp, ho, hρ, hx, conc_tup, Instr.extract, ha]⟩
    · exact h.elim
  · exact h.elim
theorem plainsOf_conc {E : Operand → TV} {ρ : Operand → Value} {β : Nat → Nat} (hρ : ∀ x, ρ x = (E x).conc β) : ∀ (l : List Operand) {r : List Value}, plainsOf (l.map E) = some r → l.map ρ = r
  | [], r, h => by simp [plainsOf] at h; subst h; rfl
  | x :: l, r, h => by
    simp only [List.map_cons] at h
    have hx := hρ x
    generalize E x = e at h hx
    unfold plainsOf at h
    split at h
    · rename_i h1; cases h1
    · rename_i y l' h1
      simp only [List.cons.injEq] at h1
      obtain ⟨rfl, rfl⟩ := h1
      cases h2 : plainsOf (l.map E) with
      | none => rw [h2] at h; cases h
      | some r' =>
        rw [h2] at h
        simp only [Option.map_some, Option.some.injEq] at h
        subst h
        rw [List.map_cons, hx, plainsOf_conc hρ l h2]
        rfl
    · cases h
theorem sound_makeFunc {Γ : Ctx} {f : Fn} {a c : Array Operand} {E : Operand → TV} {H : Heap} {K : KT} (h : xmakeFn f (plainsOf (a.toList.map E)) (plainsOf (c.toList.map E)) K) :
    ∃ v e, K v e ∧ Sound Γ (.makeFunc f a c) E H v e := by
  unfold xmakeFn at h
  split at h
  · unfold xmakeFunc at h
    split at h
    · rename_i g a' b' ha hb
      refine ⟨_, _, h, fun o β ρ w ho hρ _ => ?_⟩
      have h1 := plainsOf_conc hρ _ ha
      have h2 := plainsOf_conc hρ _ hb
      have h3 : a.map ρ = a'.toArray := Array.ext' (by simpa using h1)
      have h4 : c.map ρ = b'.toArray := Array.ext' (by simpa using h2)
      simp [Does, execOp, ho, conc_v, Instr.makeFunc, h3, h4]
    · exact h.elim
  · exact h.elim
theorem xop_sound {Γ : Ctx} {op : Op} {E : Operand → TV} {H : Heap} {K : KT} (h : xop Γ op E H K) : ∃ v e, K v e ∧ Sound Γ op E H v e := by
  cases op <;> simp only [xop] at h
  case move x => exact sound_move h
  case assign x => exact sound_assign h
  case pick c a b => exact sound_pick h
  case alloc e => exact sound_alloc h
  case box e x => exact sound_box h
  case build t ps => exact sound_build h
  case buildSlice t len ps => exact sound_buildSlice h
  case load t a => exact sound_load h
  case store t a x => exact sound_store h
  case nilCheck x => exact sound_nil h
  case binOp op t x y ty => exact sound_bin h
  case unOp op t x => exact sound_un h
  case convert s d x => exact sound_conv h
  case fieldAddr s x f => exact sound_fieldAddr h
  case field t x f => exact sound_field h
  case indexAddr t x i => exact sound_indexAddr h
  case index t x i => exact sound_index h
  case extract x i => exact sound_extract h
  case makeFunc f a c => exact sound_makeFunc h
end Go.Ab
/-
  Operations in a row; code; loops; calls.
-/
namespace Go.Ab
open Go Go.RowKit
set_option linter.unusedSimpArgs false
set_option linter.unusedVariables false
abbrev KH := TV → Heap → Prop
def callable (P : Program) (f : FuncId) : Bool := match P.funcs[f]? with | some fn => fn.body.isSome && fn.name != "runtime.NumGoroutine" | none => false
def CalP (Γ : Ctx) (H : Heap) (f : FuncId) (args : List TV) (r : TV) : Prop :=
  ∀ β w, Rep Γ H β w → Calls Γ.P f (args.map (TV.conc β)).toArray w fun e w' => (∀ β', Agrees H.length β β' → e = .returned (r.conc β')) ∧ Ext Γ.ev Γ.B w w'
def CalG (Γ : Ctx) (H : Heap) (f : FuncId) (args : List TV) (R : KH) : Prop :=
  ∀ β w, Rep Γ H β w → Calls Γ.P f (args.map (TV.conc β)).toArray w fun e w' =>
    ∃ r H' β', R r H' ∧ Agrees H.length β β' ∧ H.length ≤ H'.length ∧ Rep Γ H' β' w' ∧ ∀ β'', Agrees H'.length β' β'' → e = .returned (r.conc β'')
theorem CalP.gen {Γ : Ctx} {H : Heap} {f : FuncId} {args : List TV} {r : TV} (h : CalP Γ H f args r) : CalG Γ H f args fun r' H' => r' = r ∧ H' = H :=
  fun β w hR => (h β w hR).mono fun _ _ ⟨he, hx⟩ => ⟨r, H, β, ⟨rfl, rfl⟩, .refl _ _, Nat.le_refl _, hR.ext hx, he⟩
def ExtC (P : Program) (f : FuncId) (args : List TV) (r : TV) : Prop :=
  ∀ (β : Nat → Nat) (w : World), (callFunc f (args.map (TV.conc β)).toArray).run P w = .ok (.value (r.conc β)) w
def xcallF (Γ : Ctx) (H : Heap) (f : FuncId) (args : List TV) (K : KH) : Prop :=
  (callable Γ.P f = true ∧ ∃ R, CalG Γ H f args R ∧ ∀ r H', R r H' → K r H') ∨ ∃ r, ExtC Γ.P f args r ∧ r.ok 0 ∧ K r H
theorem xcall_gen {Γ : Ctx} {H : Heap} {f : FuncId} {args : List TV} {K : KH} (R : KH) (hc : callable Γ.P f = true) (h : CalG Γ H f args R) (hK : ∀ r H', R r H' → K r H') : xcallF Γ H f args K := .inl ⟨hc, R, h, hK⟩
theorem xcall_ext {Γ : Ctx} {H : Heap} {f : FuncId} {args : List TV} {K : KH} {r : TV} (h : ExtC Γ.P f args r) (ho : r.ok 0) (hK : K r H) : xcallF Γ H f args K := .inr ⟨r, h, ho, hK⟩
theorem xcall_pure {Γ : Ctx} {H : Heap} {f : FuncId} {args : List TV} {K : KH} {r : TV} (hc : callable Γ.P f = true) (h : CalP Γ H f args r) (hK : K r H) : xcallF Γ H f args K :=
  .inl ⟨hc, _, h.gen, fun _ _ ⟨h1, h2⟩ => by rw [h1, h2]; exact hK⟩
def xcallV (Γ : Ctx) (H : Heap) (f : FuncId) (args : List TV) (K : TV → Prop) : Prop :=
  (callable Γ.P f = true ∧ ∃ r, CalP Γ H f args r ∧ K r) ∨ ∃ r, ExtC Γ.P f args r ∧ r.ok 0 ∧ K r
theorem xcallV_pure {Γ : Ctx} {H : Heap} {f : FuncId} {args : List TV} {K : TV → Prop} {r : TV} (hc : callable Γ.P f = true) (h : CalP Γ H f args r) (hK : K r) : xcallV Γ H f args K := .inl ⟨hc, r, h, hK⟩
theorem xcallV_ext {Γ : Ctx} {H : Heap} {f : FuncId} {args : List TV} {K : TV → Prop} {r : TV} (h : ExtC Γ.P f args r) (ho : r.ok 0) (hK : K r) : xcallV Γ H f args K := .inr ⟨r, h, ho, hK⟩
def xlen (ok : Bool) (x : TV) (K : TV → Prop) : Prop :=
  match x with
  | .s (.v (.slice _ n _)) => ok = true ∧ K (.s (.v (.int .i64 (n : Int))))
  | .s (.sl _ _ n _) => ok = true ∧ K (.s (.v (.int .i64 (n : Int))))
  | _ => False
def xfun (x : TV) : Option (FuncId × List TV × List TV) :=
  match x with
  | .s (.v (.func (.func f) a c)) => some (f, a.toList.map (fun v => .s (.v v)), c.toList.map (fun v => .s (.v v)))
  | _ => none
def xcalled (Γ : Ctx) (H : Heap) (g : Option (FuncId × List TV × List TV)) (args : List TV) (K : KH) : Prop :=
  match g with
  | some (f, a, c) => xcallF Γ H f (a ++ args ++ c) K
  | none => False
def xcall (Γ : Ctx) (c : Call) (E : Operand → TV) (H : Heap) (K : KH) : Prop :=
  match c.callee with
  | .value g => xcalled Γ H (xfun (E g)) (c.args.toList.map E) K
  | .builtin .len => match c.args.toList, c.argTypes.toList with
    | [x], [t] => xlen (isSlc Γ.P t) (E x) fun v => K v H
    | _, _ => False
  | _ => False
def xstep (Γ : Ctx) (op : Op) (E : Operand → TV) (H : Heap) (K : KH) : Prop :=
  match op with
  | .call c => xcall Γ c E H K
  | op => xop Γ op E H fun v e => K v (e.app H)
def putT (T : List TV) (dst : Option Tmp) (v : TV) : List TV := match dst with | some d => T.set d v | none => T
def xguardV (x : TV) (T : List TV) (d : Tmp) (want : Bool) (run skip : List TV → Prop) : Prop :=
  match x with
  | .s (.v (.bool t)) => (t = want → run (T.set d (.s (.v (.bool want))))) ∧ (t = !want → skip (T.set d (.s (.v (.bool !want)))))
  | .tup _ => skip T
  | _ => False
def xguard (T : List TV) (g : Option (Option Tmp × Bool)) (run skip : List TV → Prop) : Prop :=
  match g with
  | none => run T
  | some (none, _) => skip T
  | some (some d, want) => xguardV (T.getD d undefT) T d want run skip
def xOps (Γ : Ctx) (ops : Array Oper) : List Oper → List TV → Heap → (List TV → Heap → Prop) → Prop
  | [], T, H, K => K T H
  | o :: r, T, H, K => xguard T (o.guard.map fun g => ((ops[g.1]?).bind (·.dst), g.2))
      (fun T => xstep Γ o.op (ev T) H fun v H' => xOps Γ ops r (putT T o.dst v) H' K)
      (fun T => xOps Γ ops r (putT T o.dst undefT) H K)
def St (Γ : Ctx) (T : List TV) (H : Heap) (a : Act) (w : World) : Prop :=
  ∃ β, Holds H.length β T a.tmps ∧ Rep Γ H β w ∧ a.defers = []
theorem Holds.put {n m : Nat} {β β' : Nat → Nat} {T : List TV} {a : Act} {dst : Option Tmp} {v : TV} {u : Value} (h : Holds n β T a.tmps) (hn : n ≤ m) (hβ : Agrees n β β') (hv : ∀ β'', Agrees m β' β'' → v.conc β'' = u) :
    Holds m β' (putT T dst v) (a.put dst u).tmps := by
  intro β'' h''
  have h1 := h β'' (hβ.trans (h''.mono hn))
  cases dst with
  | none => exact h1
  | some d =>
    simp only [Act.put, putT, h1]
    rw [← hv β'' h'']
    simp [List.map_set]
theorem putH_get (H : Heap) (j : Nat) (cs : List SV) (k : Nat) : (putH H j cs)[k]? = if j = k then (H[k]?).map (fun b => ⟨b.t, cs⟩) else H[k]? := by
  unfold putH
  rw [List.getElem?_modify]
  by_cases h : j = k
  · simp [h]
  · simp [h]
theorem putH_length (H : Heap) (j : Nat) (cs : List SV) : (putH H j cs).length = H.length := by simp [putH]
theorem Does.leaves {Γ : Ctx} {H : Heap} {β : Nat → Nat} {w : World} {v : TV} {e : HE} {r : Result Next}
    (hd : ∀ β', Agrees H.length β β' → Does Γ H β' w v e r) (hR : Rep Γ H β w) :
    ∃ u w' β', (r = .ok (.value u) w' ∨ (r = .ok .skip w' ∧ u = undef)) ∧ Agrees H.length β β' ∧ H.length ≤ (e.app H).length ∧ Rep Γ (e.app H) β' w' ∧ ∀ β'', Agrees (e.app H).length β' β'' → v.conc β'' = u := by
  have h0 := hd β (.refl _ _)
  cases e with
  | none =>
    refine ⟨v.conc β, w, β, .inl h0, .refl _ _, Nat.le_refl _, hR, fun β'' h'' => ?_⟩
    have h1 := hd β'' h''
    simp only [Does] at h0 h1
    rw [h0] at h1
    injection h1 with h1 _
    injection h1 with h1
    exact h1.symm
  | new b =>
    obtain ⟨hTM, hv, hr⟩ := h0
    have hlen : (HE.app (.new b) H).length = H.length + 1 := by simp [HE.app]
    have hconc : ∀ β', Agrees H.length β β' → b.conc β' = b.conc β := fun β' h' => by
      have h1 := (hd β' h').2.2
      rw [hr] at h1
      injection h1 with _ h1
      have h2 := congrArg (fun w' : World => w'.heap[w.heap.size]?) h1
      simp only [heap_alloc_new, Option.some.injEq] at h2
      exact h2.symm
    refine ⟨_, _, upd β H.length w.heap.size, .inl hr, upd_agrees _ _ _, by rw [hlen]; omega, ?_, fun β'' h'' => ?_⟩
    · refine ⟨⟨by rw [hlen]; exact Nat.le_succ_of_le hR.anc.1, hR.anc.2.trans ((upd_agrees _ _ _).mono hR.anc.1)⟩, hR.fr.ext (Ext.alloc _ _ _ _), fun i j hi hj he => ?_, fun j hj => ?_, fun j c hc => ?_, fun β' h' j c hc => ?_⟩
      · rw [hlen] at hi hj
        by_cases h1 : i = H.length
        · by_cases h2 : j = H.length
          · omega
          · have := hR.lt (j := j) (by omega)
            rw [h1, upd_same] at he
            rw [upd_agrees β H.length w.heap.size j (by omega)] at he
            omega
        · by_cases h2 : j = H.length
          · have := hR.lt (j := i) (by omega)
            rw [h2, upd_same] at he
            rw [upd_agrees β H.length w.heap.size i (by omega)] at he
            omega
          · rw [upd_agrees β H.length w.heap.size i (by omega), upd_agrees β H.length w.heap.size j (by omega)] at he
            exact hR.inj i j (by omega) (by omega) he
      · rw [hlen] at hj
        by_cases h1 : j = H.length
        · rw [h1, upd_same]; exact .inl hR.fr.size
        · rw [upd_agrees β H.length w.heap.size j (by omega)]; exact hR.lie j (by omega)
      · simp only [HE.app] at hc
        by_cases h1 : j < H.length
        · rw [List.getElem?_append_left h1] at hc; exact hR.typ j c hc
        · rw [List.getElem?_append_right (by omega)] at hc
          by_cases h2 : j - H.length = 0
          · simp only [h2, List.getElem?_cons_zero, Option.some.injEq] at hc; subst hc; exact hTM
          · rw [List.getElem?_eq_none (by simp; omega)] at hc; cases hc
      · rw [hlen] at h'
        have hag : Agrees H.length β β' := (upd_agrees β H.length w.heap.size).trans (h'.mono (by omega))
        simp only [HE.app] at hc
        by_cases h1 : j < H.length
        · rw [List.getElem?_append_left h1] at hc
          rw [upd_agrees β H.length w.heap.size j h1, Below.heap_alloc _ _ _ (hR.lt h1)]
          exact hR.blk β' hag j c hc
        · rw [List.getElem?_append_right (by omega)] at hc
          by_cases h2 : j - H.length = 0
          · have h3 : j = H.length := by omega
            simp only [h2, List.getElem?_cons_zero, Option.some.injEq] at hc
            subst hc
            rw [h3, upd_same, heap_alloc_new, hconc β' hag]
          · rw [List.getElem?_eq_none (by simp; omega)] at hc; cases hc
    · have h2 : β'' H.length = w.heap.size := by rw [h'' H.length (by rw [hlen]; omega), upd_same]
      rcases hv with rfl | ⟨k, rfl⟩
      · simp [conc_v, conc_p, conc_sl, conc_agg, conc_tup, h2, upd_same]
      · simp [conc_v, conc_p, conc_sl, conc_agg, conc_tup, h2, upd_same]
  | put j cs =>
    obtain ⟨rfl, ⟨b, hb, hl⟩, hr⟩ := h0
    have hjl : j < H.length := (List.getElem?_eq_some_iff.1 hb).1
    have hblk := hR.blk β (.refl _ _) j b hb
    have hlen : (HE.app (.put j cs) H).length = H.length := putH_length _ _ _
    have hconc : ∀ β', Agrees H.length β β' → cs.map (SV.conc β') = cs.map (SV.conc β) := fun β' h' => by
      have h1 := (hd β' h').2.2
      rw [hr, h' j hjl] at h1
      injection h1 with _ h1
      have h2 := congrArg (fun w : World => w.heap[β j]?) h1
      simp only [setRow_heap w (β j) _ _ _ _ hblk] at h2
      injection h2 with h2
      injection h2 with h2 _ _
      simpa using h2.symm
    refine ⟨undef, _, β, .inr ⟨hr, rfl⟩, .refl _ _, by rw [hlen]; omega, ?_, fun _ _ => rfl⟩
    refine ⟨⟨by rw [hlen]; exact hR.anc.1, hR.anc.2⟩, ⟨hR.fr.os, hR.fr.tape, hR.fr.output, by rw [setRow_size]; exact hR.fr.size, fun k hk => ?_⟩, fun i k hi hk => hR.inj i k (by rw [hlen] at hi; exact hi) (by rw [hlen] at hk; exact hk), fun k hk => hR.lie k (by rw [hlen] at hk; exact hk), fun k c hc => ?_, fun β' h' k c hc => ?_⟩
    · by_cases hkj : k = β j
      · left
        rcases hR.lie j hjl with h | h
        · omega
        · rw [hkj]; exact h
      · rcases hR.fr.blk k hk with h | h
        · exact .inl h
        · right
          unfold sameBlk at *
          rw [setRow_other _ _ _ _ hkj]
          exact h
    · simp only [HE.app] at hc
      rw [putH_get] at hc
      by_cases h1 : j = k
      · subst h1
        simp only [if_true, hb, Option.map_some, Option.some.injEq] at hc
        subst hc
        exact hR.typ j b hb
      · simp only [h1, if_false] at hc
        exact hR.typ k c hc
    · rw [hlen] at h'
      simp only [HE.app] at hc
      rw [putH_get] at hc
      by_cases h1 : j = k
      · subst h1
        simp only [if_true, hb, Option.map_some, Option.some.injEq] at hc
        subst hc
        rw [setRow_heap w (β j) _ _ _ _ hblk]
        simp only [AB.conc, hconc β' h']
      · simp only [h1, if_false] at hc
        have hkl : k < H.length := (List.getElem?_eq_some_iff.1 hc).1
        rw [setRow_other _ _ _ _ (fun he => h1 (hR.inj j k hjl hkl he.symm))]
        exact hR.blk β' h' k c hc
theorem run_callV {P : Program} {ρ : Operand → Value} {o : Oper} {c : Call} {g : Operand} {f : FuncId} {a cap : Array Value} (ho : o.op = .call c) (hc : c.callee = .value g) (hg : ρ g = .func (.func f) a cap)
    (w : World) : (execOp ρ o).run P w = (callFunc f (a ++ c.args.map ρ ++ cap)).run P w := by
  simp only [execOp, ho, resolve, hc, hg, Deferred.ofValue, invoke, Sem.run_bind, Sem.run_pure, Result.andThen_ok]
theorem run_callF {P : Program} {ρ : Operand → Value} {o : Oper} {c : Call} {g : Operand} {f : FuncId} {a cap : Array Value} (ho : o.op = .call c) (hc : c.callee = .value g) (hg : ρ g = .func (.func f) a cap)
    (hf : callable P f = true) (w : World) : (execOp ρ o).run P w = .ok (.enter f (a ++ c.args.map ρ ++ cap)) w := by
  rw [run_callV ho hc hg]
  unfold callable at hf
  split at hf
  · rename_i fn hfn
    simp only [Bool.and_eq_true, bne_iff_ne, ne_eq] at hf
    have hb : fn.body ≠ none := by intro h; simp [h] at hf
    simp [callFunc, hfn, hb, hf.2]
  · cases hf
theorem xcallF_wp {Γ : Ctx} {o : Oper} {c : Call} {T : List TV} {H : Heap} {K : KH} {a : Act} {w : World} {next : Act → World → Prop} {Q : Exit → Act → World → Prop}
    (ho : o.op = .call c) (h : xcall Γ c (ev T) H K) (hs : St Γ T H a w)
    (hn : ∀ v H' u w', K v H' → St Γ (putT T o.dst v) H' (a.put o.dst u) w' → next (a.put o.dst u) w') : o.wp Γ.P a w next Q := by
  obtain ⟨β, hT, hR, hd⟩ := hs
  have hev := eval_ev (a := a) (hT β (.refl _ _))
  have hput : ∀ u, (a.put o.dst u).defers = [] := fun u => by cases o.dst <;> exact hd
  unfold xcall at h
  split at h
  · rename_i g hc
    unfold xcalled at h
    split at h
    · rename_i f fa fc hg
      unfold xfun at hg
      split at hg
      · rename_i f' av cv hgv
        simp only [Option.some.injEq, Prod.mk.injEq] at hg
        obtain ⟨rfl, rfl, rfl⟩ := hg
        have hgc : a.eval g = .func (.func f') av cv := by rw [hev, hgv]; rfl
        have hargs : (((av.toList.map (fun v => TV.s (.v v))) ++ c.args.toList.map (ev T) ++ (cv.toList.map (fun v => TV.s (.v v)))).map (TV.conc β)).toArray = av ++ c.args.map a.eval ++ cv := by
          apply Array.ext'
          simp [conc_v, conc_p, conc_sl, conc_agg, conc_tup, Function.comp_def, hev]
        rcases h with ⟨hcall, R, hG, hK⟩ | ⟨r, hX, hok, hK⟩
        case inr =>
          have hrun := run_callV (P := Γ.P) ho hc hgc w
          have hX' := hX β w
          rw [hargs] at hX'
          unfold Oper.wp
          rw [hrun, hX']
          exact hn _ H _ w hK ⟨β, hT.put (Nat.le_refl _) (.refl _ _) (fun β'' h'' => TV.conc_ok hok (fun j hj => absurd hj (Nat.not_lt_zero j))), hR, hput _⟩
        have hrun := run_callF (P := Γ.P) ho hc hgc hcall w
        unfold Oper.wp
        rw [hrun]
        simp only [Oper.upon]
        have hG' := hG β w hR
        rw [hargs] at hG'
        refine hG'.mono fun e w' hh => ?_
        obtain ⟨r, H', β', hr, hag, hlen, hR', he⟩ := hh
        have he0 := he β' (.refl _ _)
        subst he0
        simp only
        refine hn r H' _ w' (hK r H' hr) ⟨β', ?_, hR', hput _⟩
        refine hT.put hlen hag (fun β'' h'' => ?_)
        have h1 := he β'' h''
        injection h1 with h1
        exact h1.symm
      · cases hg
    · exact h.elim
  · rename_i hc
    split at h
    · rename_i x t hx ht
      have hargs : c.args = #[x] := Array.ext' (by simpa using hx)
      have hts : c.argTypes = #[t] := Array.ext' (by simpa using ht)
      have fin : ∀ (n : Nat) (y : TV), ev T x = y → isSlc Γ.P t = true → (∃ ad cap, y.conc β = .slice ad n cap) → K (.s (.v (.int .i64 (n : Int)))) H → o.wp Γ.P a w next Q := by
        intro n y hy hsl ⟨ad, cap, hconc⟩ hK
        unfold isSlc at hsl
        split at hsl
        · rename_i e hu
          have hrun : (execOp a.eval o).run Γ.P w = .ok (.value (.int .i64 (n : Int))) w := by
            simp [execOp, ho, resolve, hc, hargs, hts, invoke, builtin, Builtin.len_, run_underlying hu, hev, hy, hconc, goInt]
          unfold Oper.wp
          rw [hrun]
          simp only [Oper.upon]
          refine hn _ H _ w hK ⟨β, ?_, hR, hput _⟩
          exact hT.put (Nat.le_refl _) (.refl _ _) (fun _ _ => rfl)
        · cases hsl
      unfold xlen at h
      split at h
      · rename_i ad n cap hy
        exact fin n _ hy h.1 ⟨ad, cap, rfl⟩ h.2
      · rename_i j off n cap hy
        exact fin n _ hy h.1 ⟨_, cap, rfl⟩ h.2
      · exact h.elim
    · exact h.elim
  · exact h.elim
theorem xstep_wp {Γ : Ctx} {o : Oper} {T : List TV} {H : Heap} {K : KH} {a : Act} {w : World} {next : Act → World → Prop} {Q : Exit → Act → World → Prop}
    (h : xstep Γ o.op (ev T) H K) (hs : St Γ T H a w)
    (hn : ∀ v H' u w', K v H' → St Γ (putT T o.dst v) H' (a.put o.dst u) w' → next (a.put o.dst u) w') : o.wp Γ.P a w next Q := by
  unfold xstep at h
  split at h
  · rename_i c ho
    exact xcallF_wp ho h hs hn
  · obtain ⟨β, hT, hR, hd⟩ := hs
    obtain ⟨v, e, hK, hsd⟩ := xop_sound h
    have hput : ∀ u, (a.put o.dst u).defers = [] := fun u => by cases o.dst <;> exact hd
    obtain ⟨u, w', β', hr, hag, hlen, hR', hv⟩ := Does.leaves (fun β' h' => hsd o β' a.eval w rfl (eval_ev (hT β' h')) (hR.agree h')) hR
    have hfin := hn v _ u w' hK ⟨β', hT.put hlen hag hv, hR', hput _⟩
    unfold Oper.wp
    rcases hr with hr | ⟨hr, rfl⟩
    · rw [hr]; exact hfin
    · rw [hr]; exact hfin
theorem St.set_same {Γ : Ctx} {T : List TV} {H : Heap} {a : Act} {w : World} {d : Nat} {x y : TV} (hs : St Γ T H a w) (hx : T.getD d undefT = x) (hne : d < T.length) (hy : ∀ β, y.conc β = x.conc β) : St Γ (T.set d y) H a w := by
  obtain ⟨β, hT, hR, hd⟩ := hs
  refine ⟨β, fun β' h' => ?_, hR, hd⟩
  rw [hT β' h', List.map_set, hy]
  congr 1
  apply List.ext_getElem?
  intro i
  rw [List.getElem?_set]
  split
  · rename_i h1
    subst h1
    simp [hne] at hx ⊢
    rw [hx]
  · rfl
theorem St.slot {Γ : Ctx} {T : List TV} {H : Heap} {a : Act} {w : World} (hs : St Γ T H a w) (d : Nat) : ∃ β, a.tmps[d]? = (T[d]?).map (TV.conc β) := by
  obtain ⟨β, hT, _, _⟩ := hs
  refine ⟨β, ?_⟩
  rw [hT β (.refl _ _)]
  simp
theorem xguard_wp {Γ : Ctx} {ops : Array Oper} {o : Oper} {T : List TV} {H : Heap} {a : Act} {w : World} {run skip : List TV → Prop} {G : Prop}
    (h : xguard T (o.guard.map fun g => ((ops[g.1]?).bind (·.dst), g.2)) run skip) (hs : St Γ T H a w)
    (hrun : ∀ T', Region.wanted o (yielded ops a.tmps) = true → run T' → St Γ T' H a w → G) (hskip : ∀ T', Region.wanted o (yielded ops a.tmps) = false → skip T' → St Γ T' H a w → G) : G := by
  unfold xguard at h
  cases hg : o.guard with
  | none =>
    simp only [hg, Option.map_none] at h
    exact hrun T (by simp [Region.wanted, hg]) h hs
  | some g =>
    obtain ⟨j, want⟩ := g
    simp only [hg, Option.map_some] at h
    cases hd : (ops[j]?).bind (·.dst) with
    | none =>
      simp only [hd] at h
      refine hskip T ?_ h hs
      simp [Region.wanted, hg, yielded, hd]
    | some d =>
      simp only [hd] at h
      obtain ⟨β, hsl⟩ := hs.slot d
      unfold xguardV at h
      split at h
      · rename_i t ht
        have hlt : d < T.length := by
          rcases Nat.lt_or_ge d T.length with h1 | h1
          · exact h1
          · simp [List.getD_eq_getElem?_getD, List.getElem?_eq_none h1, undefT] at ht
        have hT : T[d]? = some (.s (.v (.bool t))) := by
          simp [hlt] at ht ⊢; exact ht
        have hw : Region.wanted o (yielded ops a.tmps) = (t == want) := by
          simp [Region.wanted, hg, yielded, hd, hsl, hT, conc_v, conc_p, conc_sl, conc_agg, conc_tup]
        by_cases htw : t = want
        · subst htw
          exact hrun _ (by rw [hw]; simp) (h.1 rfl) (hs.set_same ht hlt (fun _ => rfl))
        · have htn : t = !want := by cases t <;> cases want <;> simp_all
          subst htn
          exact hskip _ (by rw [hw]; cases want <;> rfl) (h.2 rfl) (hs.set_same ht hlt (fun _ => rfl))
      · rename_i l hl
        refine hskip T ?_ h hs
        have : (T[d]?).map (TV.conc β) = none ∨ (T[d]?).map (TV.conc β) = some (.tuple (l.map (AV.conc β)).toArray) := by
          rcases Nat.lt_or_ge d T.length with h1 | h1
          · right; simp [h1] at hl ⊢; rw [hl]; rfl
          · left; simp [List.getElem?_eq_none h1]
        rw [← hsl] at this
        rcases this with h1 | h1 <;> simp [Region.wanted, hg, yielded, hd, h1]
      · exact h.elim
theorem xOps_wp {Γ : Ctx} {ops : Array Oper} {Q : Exit → Act → World → Prop} : ∀ (l : List Oper) {T : List TV} {H : Heap} {K : List TV → Heap → Prop} {a : Act} {w : World},
    xOps Γ ops l T H K → St Γ T H a w → (∀ T' H' a' w', K T' H' → St Γ T' H' a' w' → Q .normal a' w') → wpList Γ.P ops Q l a w
  | [], _, _, _, _, _, h, hs, hK => hK _ _ _ _ h hs
  | o :: l, T, H, K, a, w, h, hs, hK => by
    simp only [xOps] at h
    refine xguard_wp (ops := ops) (o := o) h hs (fun T' hw hr hs' => ?_) (fun T' hw hr hs' => ?_)
    · simp only [wpList, hw, if_true]
      exact .inl (xstep_wp hr hs' fun v H' u w' hv hs'' => xOps_wp l hv hs'' hK)
    · simp only [wpList, hw, Bool.false_eq_true, if_false]
      refine xOps_wp l hr ?_ hK
      obtain ⟨β, hT, hR, hd⟩ := hs'
      exact ⟨β, hT.put (Nat.le_refl _) (.refl _ _) (fun _ _ => rfl), hR, by cases o.dst <;> exact hd⟩
abbrev QX := Exit → List TV → Heap → Prop
def lift (Γ : Ctx) (Q : QX) : Exit → Act → World → Prop := fun e a w => ∃ T H, Q e T H ∧ St Γ T H a w
def X (Γ : Ctx) (c : Code) (T : List TV) (H : Heap) (Q : QX) : Prop := ∀ a w, St Γ T H a w → c.wp Γ.P (lift Γ Q) a w
def seqQ (K : List TV → Heap → Prop) (Q : QX) : QX := fun e T H => match e with | .normal => K T H | e => Q e T H
def blockQ (id : Nat) (Q : QX) : QX := fun e T H => match e with | .exit i => if i = id then Q .normal T H else Q (.exit i) T H | e => Q e T H
def scopeQ (Q : QX) : QX := fun e T H => match e with | .goto _ => False | e => Q e T H
def xcond (c : TV) (x y : Prop) : Prop := match c with | .s (.v (.bool b)) => (b = true → x) ∧ (b = false → y) | _ => False
def xCode (Γ : Ctx) : Code → List TV → Heap → QX → Prop
  | .skip, T, H, Q => Q .normal T H
  | .region id ops draw, T, H, Q => if draw then X Γ (.region id ops true) T H Q else xOps Γ ops ops.toList T H (fun T H => Q .normal T H)
  | .seq a b, T, H, Q => xCode Γ a T H (seqQ (fun T H => X Γ b T H Q) Q)
  | .cond c a b, T, H, Q => xcond (ev T c) (xCode Γ a T H Q) (xCode Γ b T H Q)
  | .block id b, T, H, Q => xCode Γ b T H (blockQ id Q)
  | .loop b, T, H, Q => X Γ (.loop b) T H Q
  | .exit i, T, H, Q => Q (.exit i) T H
  | .ret, T, H, Q => Q .ret T H
  | .label _, T, H, Q => Q .normal T H
  | .scope b, T, H, Q => xCode Γ b T H (scopeQ Q)
  | c, T, H, Q => X Γ c T H Q
theorem X.mono {Γ : Ctx} {c : Code} {T : List TV} {H : Heap} {Q Q' : QX} (h : X Γ c T H Q) (hq : ∀ e T H, Q e T H → Q' e T H) : X Γ c T H Q' :=
  fun a w hs => wp_mono (h a w hs) fun _ _ _ ⟨T, H, h1, h2⟩ => ⟨T, H, hq _ _ _ h1, h2⟩
theorem X_of {Γ : Ctx} : ∀ (c : Code) {T : List TV} {H : Heap} {Q : QX}, xCode Γ c T H Q → X Γ c T H Q
  | .skip, _, _, _, h => fun _ _ hs => wp_skip ⟨_, _, h, hs⟩
  | .region id ops draw, T, H, Q, h => by
    cases draw
    · intro a w hs
      refine wp_region_list ?_
      simp only [xCode, Bool.false_eq_true, if_false] at h
      exact xOps_wp _ h hs fun T' H' a' w' hK hs' => ⟨T', H', hK, hs'⟩
    · simpa only [xCode, if_true] using h
  | .seq x y, T, H, Q, h => by
    intro a w hs
    refine wp_seq (wp_mono (X_of x h a w hs) fun e a' w' ⟨T', H', hq, hs'⟩ => ?_)
    cases e with
    | normal => exact hq a' w' hs'
    | _ => exact ⟨T', H', hq, hs'⟩
  | .cond c x y, T, H, Q, h => by
    intro a w hs
    simp only [xCode, xcond] at h
    split at h
    · rename_i b hb
      have hev : a.eval c = .bool b := by
        obtain ⟨β, hT, _, _⟩ := hs
        rw [eval_ev (hT β (.refl _ _)) c, hb]; rfl
      exact wp_cond_split hev (fun ht => X_of x (h.1 ht) a w hs) (fun ht => X_of y (h.2 ht) a w hs)
    · exact h.elim
  | .block id b, T, H, Q, h => by
    intro a w hs
    refine wp_block (wp_mono (X_of b h a w hs) fun e a' w' ⟨T', H', hq, hs'⟩ => ?_)
    cases e with
    | exit i =>
      simp only [Exit.inBlock]
      simp only [blockQ] at hq
      split
      · rename_i hi; simp only [hi, if_true] at hq; exact ⟨T', H', hq, hs'⟩
      · rename_i hi; simp only [hi, if_false] at hq; exact ⟨T', H', hq, hs'⟩
    | _ => exact ⟨T', H', hq, hs'⟩
  | .loop b, T, H, Q, h => h
  | .exit i, T, H, Q, h => fun _ _ hs => wp_exit ⟨_, _, h, hs⟩
  | .ret, T, H, Q, h => fun _ _ hs => wp_ret ⟨_, _, h, hs⟩
  | .scope b, T, H, Q, h => by
    intro a w hs
    refine wp_scope_straight (wp_mono (X_of b h a w hs) fun e a' w' ⟨T', H', hq, hs'⟩ => ?_)
    cases e with
    | goto l => exact hq.elim
    | _ => exact ⟨T', H', hq, hs'⟩
  | .rangeFunc .., _, _, _, h => h
  | .label _, _, _, _, h => fun _ _ hs => wp_label ⟨_, _, h, hs⟩
  | .goto _, _, _, _, h => h
  | .refuse _, _, _, _, h => h
end Go.Ab
/-
  Loops, cuts, functions.
-/
namespace Go.Ab
open Go Go.RowKit
set_option linter.unusedSimpArgs false
set_option linter.unusedVariables false
/-! Tryz# What is said speaks of our blocks alone -/
theorem SV.ok_of {n : Nat} {β : Nat → Nat} {x : SV} (h : ∀ β', Agrees n β β' → x.conc β' = x.conc β) : x.ok n := by
  cases x with
  | v x => trivial
  | p j off =>
    rcases Nat.lt_or_ge j n with hj | hj
    · exact hj
    · have := h (upd β j (β j + 1)) (fun k hk => by simp [upd, show k ≠ j by omega])
      simp [SV.conc, upd_same] at this
  | sl j off len cap =>
    rcases Nat.lt_or_ge j n with hj | hj
    · exact hj
    · have := h (upd β j (β j + 1)) (fun k hk => by simp [upd, show k ≠ j by omega])
      simp [SV.conc, upd_same] at this
theorem toArr_inj {α : Type} {a b : List α} (h : a.toArray = b.toArray) : a = b := by simpa using congrArg Array.toList h
theorem SV.oks_of {n : Nat} {β : Nat → Nat} {l : List SV} (h : ∀ β', Agrees n β β' → l.map (SV.conc β') = l.map (SV.conc β)) : ∀ x ∈ l, x.ok n := by
  intro x hx
  refine SV.ok_of (β := β) fun β' h' => ?_
  have := h β' h'
  rw [List.map_inj_left] at this
  exact this x hx
theorem AV.ok_of {n : Nat} {β : Nat → Nat} {x : AV} (h : ∀ β', Agrees n β β' → x.conc β' = x.conc β) : x.ok n := by
  cases x with
  | s x => exact SV.ok_of h
  | agg l => exact SV.oks_of (β := β) fun β' h' => by have := h β' h'; simpa [AV.conc] using this
theorem TV.ok_of {n : Nat} {β : Nat → Nat} {x : TV} (h : ∀ β', Agrees n β β' → x.conc β' = x.conc β) : x.ok n := by
  cases x with
  | s x => exact SV.ok_of h
  | agg l => exact SV.oks_of (β := β) fun β' h' => by have := h β' h'; simpa [TV.conc] using this
  | tup l =>
    intro x hx
    refine AV.ok_of (β := β) fun β' h' => ?_
    have := h β' h'
    simp only [TV.conc, Value.tuple.injEq] at this
    have := toArr_inj this
    rw [List.map_inj_left] at this
    exact this x hx
theorem Holds.ok {n : Nat} {β : Nat → Nat} {T : List TV} {tmps : Array Value} (h : Holds n β T tmps) : ∀ x ∈ T, x.ok n := by
  intro x hx
  refine TV.ok_of (β := β) fun β' h' => ?_
  have h1 := h β' h'
  rw [h β (.refl _ _)] at h1
  have h1 := toArr_inj h1
  rw [List.map_inj_left] at h1
  exact (h1 x hx).symm
theorem Holds.of_ok {n : Nat} {β : Nat → Nat} {T : List TV} {tmps : Array Value} (h : tmps = (T.map (TV.conc β)).toArray) (ho : ∀ x ∈ T, x.ok n) : Holds n β T tmps := fun β' h' => by
  rw [h]
  congr 1
  exact (List.map_congr_left fun x hx => TV.conc_ok (ho x hx) h').symm
theorem Rep.ok {Γ : Ctx} {H : Heap} {β : Nat → Nat} {w : World} (h : Rep Γ H β w) {j : Nat} {b : AB} (hb : H[j]? = some b) : ∀ x ∈ b.cs, x.ok H.length := by
  refine SV.oks_of (β := β) fun β' h' => ?_
  have h1 := h.blk β' h' j b hb
  rw [h.blk β (.refl _ _) j b hb] at h1
  injection h1 with h1
  simp only [AB.conc, Obj.cells.injEq, and_true] at h1
  exact (toArr_inj h1).symm
theorem Rep.drop {Γ : Ctx} {H G : Heap} {β : Nat → Nat} {w : World} (h : Rep Γ (H ++ G) β w) (hn : Γ.n0 ≤ H.length) (ho : ∀ (j : Nat) (b : AB), H[j]? = some b → ∀ x ∈ b.cs, x.ok H.length) : Rep Γ H β w := by
  have hg : ∀ {j : Nat} {b : AB}, H[j]? = some b → (H ++ G)[j]? = some b := fun {j b} hb => by
    rw [List.getElem?_append_left (List.getElem?_eq_some_iff.1 hb).1]; exact hb
  refine ⟨⟨hn, h.anc.2⟩, h.fr, fun i j hi hj => h.inj i j (by simp; omega) (by simp; omega), fun j hj => h.lie j (by simp; omega), fun j b hb => h.typ j b (hg hb), fun β' h' j b hb => ?_⟩
  rw [h.blk β (.refl _ _) j b (hg hb)]
  simp only [AB.conc]
  rw [SV.concs_ok (ho j b hb) h']
/-! Tryz# States that come again -/
def setMany (T : List TV) : List (Nat × TV) → List TV
  | [] => T
  | (d, v) :: r => setMany (T.set d v) r
def setCells (H : Heap) : List (Nat × List SV) → Heap
  | [] => H
  | (j, cs) :: r => setCells (putH H j cs) r
def junk (us : Nat → Value) (js : List Nat) : List (Nat × TV) := js.map fun d => (d, .s (.v (us d)))
def agreeS (v : Option TV) (j : Bool) (x y : TV) : Prop :=
  match v, j with
  | some v, _ => y = v
  | none, true => True
  | none, false => y = x
def agreeT (js : List Nat) (sv : List (Nat × TV)) : Nat → List TV → List TV → Prop
  | _, [], [] => True
  | i, x :: T, y :: T' => agreeS (sv.lookup i) (js.contains i) x y ∧ agreeT js sv (i + 1) T T'
  | _, _, _ => False
theorem setMany_length (sv : List (Nat × TV)) : ∀ T : List TV, (setMany T sv).length = T.length := by
  induction sv with
  | nil => intro T; rfl
  | cons p r ih => intro T; obtain ⟨d, v⟩ := p; simp [setMany, ih]
theorem setMany_get (sv : List (Nat × TV)) (hnd : (sv.map (·.1)).Nodup) : ∀ (T : List TV) (i : Nat), i < T.length → (setMany T sv)[i]? = match sv.lookup i with | some v => some v | none => T[i]? := by
  induction sv with
  | nil => intro T i _; rfl
  | cons p r ih =>
    obtain ⟨d, v⟩ := p
    intro T i hi
    simp only [List.map_cons, List.nodup_cons] at hnd
    simp only [setMany, List.lookup_cons]
    rw [ih hnd.2 _ i (by simpa using hi)]
    by_cases hid : i = d
    · subst hid
      have : r.lookup i = none := by
        rw [List.lookup_eq_none_iff]
        intro p hp
        simp only [bne_iff_ne, ne_eq]
        rintro rfl
        exact hnd.1 (List.mem_map_of_mem hp)
      simp [this, hi]
    · have h1 : (i == d) = false := by simpa using hid
      simp only [h1]
      cases r.lookup i with
      | some u => rfl
      | none => simp [List.getElem?_set_ne (Ne.symm hid)]
theorem junk_lookup (us : Nat → Value) (js : List Nat) (i : Nat) : (junk us js).lookup i = if js.contains i then some (.s (.v (us i))) else none := by
  induction js with
  | nil => rfl
  | cons d r ih =>
    simp only [junk, List.map_cons, List.lookup_cons, List.contains_cons]
    by_cases h : i = d
    · subst h; simp
    · have h1 : (i == d) = false := by simpa using h
      simp only [h1, Bool.false_or]
      exact ih
theorem agreeT_spec (js : List Nat) (sv : List (Nat × TV)) : ∀ (i : Nat) (T T' : List TV), agreeT js sv i T T' →
    T.length = T'.length ∧ ∀ k x y, T[k]? = some x → T'[k]? = some y → (match sv.lookup (i + k) with | some v => y = v | none => js.contains (i + k) = true ∨ y = x)
  | _, [], [], _ => ⟨rfl, fun k x y h => by simp at h⟩
  | i, x :: T, y :: T', h => by
    obtain ⟨h1, h2⟩ := h
    obtain ⟨hl, hk⟩ := agreeT_spec js sv (i + 1) T T' h2
    refine ⟨by simp [hl], fun k a b ha hb => ?_⟩
    cases k with
    | zero =>
      simp only [List.getElem?_cons_zero, Option.some.injEq] at ha hb
      subst ha; subst hb
      simp only [Nat.add_zero]
      cases hv : sv.lookup i with
      | some v => rw [hv] at h1; exact h1
      | none =>
        rw [hv] at h1
        cases hc : js.contains i with
        | true => exact .inl rfl
        | false => rw [hc] at h1; exact .inr h1
    | succ k =>
      have := hk k a b (by simpa using ha) (by simpa using hb)
      rw [show i + (k + 1) = i + 1 + k by omega]
      exact this
  | _, [], _ :: _, h => h.elim
  | _, _ :: _, [], h => h.elim
theorem setCells_length (hv : List (Nat × List SV)) : ∀ H : Heap, (setCells H hv).length = H.length := by
  induction hv with
  | nil => intro H; rfl
  | cons p r ih => intro H; obtain ⟨j, cs⟩ := p; simp [setCells, ih, putH_length]
theorem setCells_cells (hv : List (Nat × List SV)) (n : Nat) (ho : ∀ p ∈ hv, ∀ x ∈ p.2, x.ok n) : ∀ H : Heap, (∀ (j : Nat) (b : AB), H[j]? = some b → ∀ x ∈ b.cs, x.ok n) → ∀ (j : Nat) (b : AB), (setCells H hv)[j]? = some b → ∀ x ∈ b.cs, x.ok n := by
  induction hv with
  | nil => intro H h; exact h
  | cons p r ih =>
    obtain ⟨j, cs⟩ := p
    intro H h
    refine ih (fun p hp => ho p (by simp [hp])) _ fun k b hb => ?_
    rw [putH_get] at hb
    by_cases h1 : j = k
    · subst h1
      simp only [if_true, Option.map_eq_some_iff] at hb
      obtain ⟨c, hc, rfl⟩ := hb
      exact ho (j, cs) (by simp)
    · simp only [h1, if_false] at hb
      exact h k b hb
def Again {ι : Type} (T : List TV) (H : Heap) (V : ι → Prop) (js : List Nat) (sv : ι → List (Nat × TV)) (hv : ι → List (Nat × List SV)) (T' : List TV) (H' : Heap) (i : ι) : Prop :=
  V i ∧ agreeT js (sv i) 0 T T' ∧ ∃ G, H' = setCells H (hv i) ++ G
structure Shape {ι : Type} (V : ι → Prop) (n : Nat) (sv : ι → List (Nat × TV)) (hv : ι → List (Nat × List SV)) : Prop where
  nd : ∀ i, V i → ((sv i).map (·.1)).Nodup
  oks : ∀ i, V i → ∀ p ∈ sv i, p.2.ok n
  okh : ∀ i, V i → ∀ p ∈ hv i, ∀ x ∈ p.2, x.ok n
theorem St.again {Γ : Ctx} {ι : Type} {T : List TV} {H : Heap} {V : ι → Prop} {js : List Nat} {sv : ι → List (Nat × TV)} {hv : ι → List (Nat × List SV)}
    (hsh : Shape V H.length sv hv) (hnj : js.Nodup) (hT : ∀ x ∈ T, x.ok H.length) (hH : ∀ (j : Nat) (b : AB), H[j]? = some b → ∀ x ∈ b.cs, x.ok H.length) (hn : Γ.n0 ≤ H.length)
    {T' : List TV} {H' : Heap} {a : Act} {w : World} {i : ι} (h : Again T H V js sv hv T' H' i) (hs : St Γ T' H' a w) :
    ∃ us, St Γ (setMany (setMany T (junk us js)) (sv i)) (setCells H (hv i)) a w := by
  obtain ⟨hV, hag, G, rfl⟩ := h
  obtain ⟨β, hT', hR, hd⟩ := hs
  obtain ⟨hl, hk⟩ := agreeT_spec js (sv i) 0 T T' hag
  have hlen := setCells_length (hv i) H
  let us : Nat → Value := fun d => (T'.getD d undefT).conc β
  have hjn : ((junk us js).map (·.1)).Nodup := by simpa [junk, Function.comp_def] using hnj
  have hslot : ∀ (k : Nat) (y : TV), T'[k]? = some y → ∃ z : TV, (setMany (setMany T (junk us js)) (sv i))[k]? = some z ∧ z.conc β = y.conc β ∧ z.ok H.length := by
    intro k y hy
    have hkl : k < T.length := by rw [hl]; exact (List.getElem?_eq_some_iff.1 hy).1
    have hx : T[k]? = some T[k] := List.getElem?_eq_getElem hkl
    have h1 := hk k T[k] y hx hy
    rw [Nat.zero_add] at h1
    rw [setMany_get _ (hsh.nd i hV) _ k (by rw [setMany_length]; exact hkl)]
    cases hlk : (sv i).lookup k with
    | some v =>
      simp only [hlk] at h1
      subst h1
      refine ⟨y, rfl, rfl, ?_⟩
      obtain ⟨l1, l2, he, _⟩ := List.lookup_eq_some_iff.1 hlk
      exact hsh.oks i hV (k, y) (by rw [he]; simp)
    | none =>
      simp only [hlk] at h1
      simp only
      rw [setMany_get _ hjn _ k hkl, junk_lookup]
      by_cases hc : js.contains k = true
      · simp only [hc, if_true]
        refine ⟨_, rfl, ?_, trivial⟩
        simp only [TV.conc, SV.conc, us, List.getD_eq_getElem?_getD, hy, Option.getD_some]
      · rcases h1 with h1 | h1
        · exact absurd h1 hc
        · simp only [hc, hx]
          subst h1
          exact ⟨_, rfl, rfl, hT _ (List.getElem_mem hkl)⟩
  refine ⟨us, β, Holds.of_ok ?_ ?_, hR.drop (by rw [hlen]; exact hn) ?_, hd⟩
  · rw [hT' β (.refl _ _)]
    congr 1
    apply List.ext_getElem?
    intro k
    simp only [List.getElem?_map]
    cases hy : T'[k]? with
    | none =>
      have : T'.length ≤ k := List.getElem?_eq_none_iff.1 hy
      rw [List.getElem?_eq_none (by rw [setMany_length, setMany_length, hl]; exact this)]
    | some y =>
      obtain ⟨z, hz, hc, _⟩ := hslot k y hy
      rw [hz]
      simp [hc]
  · intro z hz
    obtain ⟨k, hk'⟩ := List.mem_iff_getElem?.1 hz
    have hkl : k < T'.length := by
      have := (List.getElem?_eq_some_iff.1 hk').1
      rw [setMany_length, setMany_length, hl] at this
      exact this
    obtain ⟨z', hz', _, ho⟩ := hslot k T'[k] (List.getElem?_eq_getElem hkl)
    rw [hk'] at hz'
    injection hz' with hz'
    subst hz'
    rw [hlen]
    exact ho
  · rw [hlen]
    exact setCells_cells (hv i) H.length (hsh.okh i hV) H hH
theorem St.oks {Γ : Ctx} {T : List TV} {H : Heap} {a : Act} {w : World} (hs : St Γ T H a w) : (∀ x ∈ T, x.ok H.length) ∧ (∀ (j : Nat) (b : AB), H[j]? = some b → ∀ x ∈ b.cs, x.ok H.length) ∧ Γ.n0 ≤ H.length := by
  obtain ⟨β, hT, hR, _⟩ := hs
  exact ⟨hT.ok, fun j b hb => hR.ok hb, hR.anc.1⟩
def loopQ {ι : Type} (T : List TV) (H : Heap) (V : ι → Prop) (μ : ι → Nat) (js : List Nat) (sv : ι → List (Nat × TV)) (hv : ι → List (Nat × List SV)) (i : ι) (Q : QX) : QX :=
  seqQ (fun T' H' => ∃ i', μ i' < μ i ∧ Again T H V js sv hv T' H' i') Q
@[irreducible] def XL (Γ : Ctx) (c : Code) (T : List TV) (H : Heap) (Q : QX) : Prop := X Γ c T H Q
theorem XL_eq {Γ : Ctx} {c : Code} {T : List TV} {H : Heap} {Q : QX} : XL Γ c T H Q = X Γ c T H Q := by unfold XL; rfl
theorem X_loop {Γ : Ctx} {c : Code} {T : List TV} {H : Heap} {Q : QX} {ι : Type} (V : ι → Prop) (μ : ι → Nat) (js : List Nat) (sv : ι → List (Nat × TV)) (hv : ι → List (Nat × List SV)) (i0 : ι)
    (hsh : Shape V H.length sv hv) (hnj : js.Nodup) (h0 : Again T H V js sv hv T H i0)
    (hr : ∀ i us, V i → X Γ c (setMany (setMany T (junk us js)) (sv i)) (setCells H (hv i)) (loopQ T H V μ js sv hv i Q)) : XL Γ (.loop c) T H Q := by
  rw [XL_eq]
  intro a w hs
  obtain ⟨oT, oH, on⟩ := hs.oks
  refine wp_loop_ghost (fun n a w => ∃ i us, V i ∧ μ i = n ∧ St Γ (setMany (setMany T (junk us js)) (sv i)) (setCells H (hv i)) a w) (μ i0) ?_ ?_
  · obtain ⟨us, h⟩ := hs.again hsh hnj oT oH on h0
    exact ⟨i0, us, h0.1, rfl, h⟩
  · rintro n a w ⟨i, us, hV, rfl, hs'⟩
    refine wp_mono (hr i us hV a w hs') fun e a' w' ⟨T', H', hq, hs''⟩ => ?_
    cases e with
    | normal =>
      obtain ⟨i', hlt, hag⟩ := hq
      obtain ⟨us', h⟩ := hs''.again hsh hnj oT oH on hag
      exact ⟨μ i', hlt, i', us', hag.1, rfl, h⟩
    | _ => exact ⟨T', H', hq, hs''⟩
def cutQ {ι : Type} (T : List TV) (H : Heap) (V : ι → Prop) (js : List Nat) (sv : ι → List (Nat × TV)) (hv : ι → List (Nat × List SV)) (Q : QX) : QX :=
  seqQ (fun T' H' => ∃ i', Again T H V js sv hv T' H' i') Q
/-! Tryz# Functions -/
def toAV : TV → Option AV
  | .s x => some (.s x)
  | .agg l => some (.agg l)
  | .tup _ => none
theorem toAV_spec {x : TV} {a : AV} (h : toAV x = some a) (β : Nat → Nat) : a.conc β = x.conc β := by
  cases x <;> simp only [toAV, Option.some.injEq, reduceCtorEq] at h <;> subst h <;> rfl
def resCell (row : Option Bool) (n off : Nat) (cs : Option (List SV)) : Option AV :=
  match row, cs with
  | some true, some cs => if off + n ≤ cs.length then some (.agg (part cs off n)) else none
  | some false, some cs => (cs[off]?).map .s
  | _, _ => none
def resOne (P : Program) (T : List TV) (H : Heap) : ResultVar → Option AV
  | .tmp t => toAV (T.getD t undefT)
  | .cell a ty => match T.getD a undefT with
    | .s (.p j off) => resCell (rowOf P ty) (P.cellsOf ty) off (H[j]?.map AB.cs)
    | _ => none
def consO (a : Option AV) (l : Option (List AV)) : Option (List AV) := match a, l with | some a, some l => some (a :: l) | _, _ => none
def resAll (P : Program) (T : List TV) (H : Heap) : List ResultVar → Option (List AV)
  | [] => some []
  | r :: rs => consO (resOne P T H r) (resAll P T H rs)
def retV (l : Option (List AV)) (K : TV → Prop) : Prop :=
  match l with
  | some [a] => K a.tv
  | some l => K (.tup l)
  | none => False
def retQ (P : Program) (rs : List ResultVar) (R : KH) : QX := fun e T H =>
  match e with
  | .normal => retV (resAll P T H rs) fun v => R v H
  | .ret => retV (resAll P T H rs) fun v => R v H
  | _ => False
def runRes (tmps : Array Value) : ResultVar → Sem Value
  | .tmp t => pure (tmps.getD t undef)
  | .cell a t => do loadVar t (← asAddr (tmps.getD a undef))
theorem resOne_run {Γ : Ctx} {H : Heap} {β : Nat → Nat} {T : List TV} {a : Act} {w : World} (hT : a.tmps = (T.map (TV.conc β)).toArray) (hR : Rep Γ H β w) {r : ResultVar} {v : AV} (h : resOne Γ.P T H r = some v) :
    (runRes a.tmps r).run Γ.P w = .ok (v.conc β) w := by
  have hget : ∀ t, a.tmps.getD t undef = (T.getD t undefT).conc β := fun t => eval_ev hT (.tmp t)
  cases r with
  | tmp t =>
    simp only [resOne] at h
    simp [runRes, hget, toAV_spec h β]
  | cell p ty =>
    simp only [resOne] at h
    split at h
    · rename_i j off hp
      unfold resCell at h
      have hadr : (T.getD p undefT).conc β = .pointer (some ⟨β j, off, none⟩) := by rw [hp]; rfl
      split at h
      · rename_i cs hrow hcs
        simp only [Option.map_eq_some_iff] at hcs
        obtain ⟨b, hb, rfl⟩ := hcs
        split at h
        · rename_i hlen
          simp only [Option.some.injEq] at h
          subst h
          have hpl : (part b.cs off (Γ.P.cellsOf ty)).length = Γ.P.cellsOf ty := by rw [part_eq]; simp; omega
          have hr := run_loadAt_row (P := Γ.P) (w := w) (b := β j) (off := off) (cs := (part b.cs off (Γ.P.cellsOf ty)).map (SV.conc β)) hrow (by simpa using hpl) (fun i v hv => by
            rw [cellOf hR hb, part_eq] at *
            simp only [List.getElem?_map, List.getElem?_take, List.getElem?_drop] at hv
            split at hv
            · exact hv
            · simp at hv)
          simp only [Instr.loadAt, Instr.sureAddr, Sem.run_bind, Sem.run_pure, Result.andThen_ok] at hr
          simp only [runRes, hget, hadr, asAddr, Sem.run_bind, Sem.run_pure, Result.andThen_ok, hr, AV.conc]
        · cases h
      · rename_i cs hrow hcs
        simp only [Option.map_eq_some_iff] at hcs
        obtain ⟨b, hb, rfl⟩ := hcs
        simp only [Option.map_eq_some_iff] at h
        obtain ⟨y, hy, rfl⟩ := h
        have hr := run_loadAt_one (P := Γ.P) (w := w) (ad := ⟨β j, off, none⟩) (u := y.conc β) hrow (by rw [cellOf hR hb, hy]; rfl)
        simp only [Instr.loadAt, Instr.sureAddr, Sem.run_bind, Sem.run_pure, Result.andThen_ok] at hr
        simp only [runRes, hget, hadr, asAddr, Sem.run_bind, Sem.run_pure, Result.andThen_ok, hr, AV.conc]
      · cases h
    · cases h
theorem resAll_run {Γ : Ctx} {H : Heap} {β : Nat → Nat} {T : List TV} {a : Act} {w : World} (hT : a.tmps = (T.map (TV.conc β)).toArray) (hR : Rep Γ H β w) : ∀ {rs : List ResultVar} {l : List AV}, resAll Γ.P T H rs = some l →
    (rs.mapM (runRes a.tmps)).run Γ.P w = .ok (l.map (AV.conc β)) w
  | [], l, h => by simp only [resAll, Option.some.injEq] at h; subst h; simp
  | r :: rs, l, h => by
    simp only [resAll, consO] at h
    split at h
    · rename_i v l' hv hl
      simp only [Option.some.injEq] at h
      subst h
      simp [List.mapM_cons, resOne_run hT hR hv, resAll_run hT hR hl]
    · cases h
theorem results_eq (fn : Func) (tmps : Array Value) : results fn tmps = (fn.results.mapM (runRes tmps) >>= fun vs => pure (if h : vs.size = 1 then vs[0] else .tuple vs)) := by
  unfold results
  congr 1
def lv : List AV → TV
  | [a] => a.tv
  | l => .tup l
theorem retV_lv (l : List AV) (K : TV → Prop) : retV (some l) K ↔ K (lv l) := by
  match l with
  | [] => exact Iff.rfl
  | [a] => exact Iff.rfl
  | a :: b :: l => exact Iff.rfl
theorem lv_conc (l : List AV) (β : Nat → Nat) : (if h : (l.map (AV.conc β)).toArray.size = 1 then (l.map (AV.conc β)).toArray[0] else .tuple (l.map (AV.conc β)).toArray) = (lv l).conc β := by
  match l with
  | [] => simp [lv, conc_tup]
  | [a] => simp [lv]
  | a :: b :: l => simp [lv, conc_tup]
theorem ret_post {Γ : Ctx} {fn : Func} {T : List TV} {H : Heap} {R : KH} {R' : Ending → World → Prop} {a : Act} {w : World} (h : retV (resAll Γ.P T H fn.results.toList) fun v => R v H) (hs : St Γ T H a w)
    (hR' : ∀ v β e, R v H → Rep Γ H β w → (∀ β', Agrees H.length β β' → e = .returned (v.conc β')) → R' e w) :
    a.defers = [] ∧ ∃ v, (results fn a.tmps).run Γ.P w = .ok v w ∧ R' (.returned v) w := by
  obtain ⟨β, hT, hR, hd⟩ := hs
  refine ⟨hd, ?_⟩
  cases hl : resAll Γ.P T H fn.results.toList with
  | none => simp [retV, hl] at h
  | some l =>
    rw [hl, retV_lv] at h
    have hres : ∀ β', Agrees H.length β β' → (results fn a.tmps).run Γ.P w = .ok ((lv l).conc β') w := by
      intro β' h'
      rw [← lv_conc, results_eq, Array.mapM_eq_mapM_toList]
      simp [resAll_run (hT β' h') (hR.agree h') hl]
    refine ⟨_, hres β (.refl _ _), hR' (lv l) β _ h hR fun β' h' => ?_⟩
    have h1 := hres β (.refl _ _)
    rw [hres β' h'] at h1
    injection h1 with h1
    rw [h1]
theorem calls_of_X {Γ : Ctx} {f : FuncId} {fn : Func} {c : Code} {args : List TV} {H : Heap} {β : Nat → Nat} {R : KH} (hf : Γ.P.funcs[f]? = some fn) (hb : fn.body = some c)
    (hR : Rep Γ H β Γ.W) (ha : ∀ x ∈ args, x.ok H.length) (h : X Γ c (args ++ List.replicate (fn.ntmps - args.length) undefT) H (retQ Γ.P fn.results.toList R)) :
    Calls Γ.P f (args.map (TV.conc β)).toArray Γ.W fun e w' => ∃ v H' β', R v H' ∧ Rep Γ H' β' w' ∧ ∀ β'', Agrees H'.length β' β'' → e = .returned (v.conc β'') := by
  refine calls_of_wp hf hb (wp_mono (h _ _ ⟨β, Holds.of_ok ?_ ?_, hR, rfl⟩) ?_)
  · apply Array.ext'
    simp
  · intro x hx
    rw [List.mem_append] at hx
    rcases hx with hx | hx
    · exact ha x hx
    · rw [List.mem_replicate] at hx
      rw [hx.2]
      intro y hy
      simp at hy
  · rintro e a w' ⟨T', H', hq, hs⟩
    cases e with
    | normal => exact ret_post (fn := fn) (R' := fun e w' => ∃ v H' β', R v H' ∧ Rep Γ H' β' w' ∧ ∀ β'', Agrees H'.length β' β'' → e = .returned (v.conc β'')) hq hs fun v β' e hv hR' he => ⟨v, H', β', hv, hR', he⟩
    | ret => exact ret_post (fn := fn) (R' := fun e w' => ∃ v H' β', R v H' ∧ Rep Γ H' β' w' ∧ ∀ β'', Agrees H'.length β' β'' → e = .returned (v.conc β'')) hq hs fun v β' e hv hR' he => ⟨v, H', β', hv, hR', he⟩
    | _ => exact hq.elim
def PureC (P : Program) (f : FuncId) (args : List TV) (r : TV) : Prop :=
  ∀ (β : Nat → Nat) (w : World), Calls P f (args.map (TV.conc β)).toArray w fun e w' => (∀ β', e = .returned (r.conc β')) ∧ Below w.heap.size w w'
def ctx0 (P : Program) (w : World) : Ctx := { P := P, W := w, B := w.heap.size, own := fun _ => False, ev := Evo.none, n0 := 0, β0 := fun _ => 0 }
theorem rep0 (P : Program) (w : World) (β : Nat → Nat) : Rep (ctx0 P w) [] β w :=
  ⟨⟨Nat.le_refl _, fun j hj => absurd hj (Nat.not_lt_zero j)⟩, ⟨rfl, rfl, rfl, Nat.le_refl _, fun _ _ => .inr (.inl rfl)⟩, fun i j hi => absurd hi (Nat.not_lt_zero i), fun j hj => absurd hj (Nat.not_lt_zero j), fun j b hb => by simp at hb, fun _ _ j b hb => by simp at hb⟩
theorem pureC_of {P : Program} {f : FuncId} {fn : Func} {c : Code} {args : List TV} {r : TV} (hf : P.funcs[f]? = some fn) (hb : fn.body = some c) (ha : ∀ x ∈ args, x.ok 0) (hr : r.ok 0)
    (h : ∀ w, X (ctx0 P w) c (args ++ List.replicate (fn.ntmps - args.length) undefT) [] (retQ P fn.results.toList fun v _ => v = r)) : PureC P f args r := by
  intro β w
  refine (calls_of_X (Γ := ctx0 P w) hf hb (rep0 P w β) ha (h w)).mono ?_
  rintro e w' ⟨v, H', β', rfl, hR, he⟩
  refine ⟨fun β'' => ?_, hR.fr.os, hR.fr.tape, hR.fr.output, hR.fr.size, fun k hk => ?_⟩
  · rw [he β' (.refl _ _)]
    rw [TV.conc_ok hr (β := β'') (β' := β') (fun j hj => absurd hj (Nat.not_lt_zero j))]
  · rcases hR.fr.blk k hk with h1 | h1 | ⟨_, _, _, _, _, h1⟩
    · exact h1.elim
    · exact h1
    · exact h1.elim
theorem pureC_lib {P : Program} {f : FuncId} {args : List TV} {vs : Array Value} {r : TV} {v : Value} (ha : ∀ β, (args.map (TV.conc β)).toArray = vs) (hr : ∀ β, r.conc β = v)
    (h : ∀ w, Calls P f vs w fun e w' => e = .returned v ∧ w' = w) : PureC P f args r := by
  intro β w
  rw [ha β]
  refine (h w).mono ?_
  rintro e w' ⟨rfl, rfl⟩
  exact ⟨fun β' => by rw [hr], Below.refl _ _⟩
theorem PureC.cal {Γ : Ctx} {H : Heap} {f : FuncId} {args : List TV} {r : TV} (h : PureC Γ.P f args r) : CalP Γ H f args r :=
  fun β w _ => (h β w).mono fun _ _ ⟨he, hb⟩ => ⟨fun β' _ => he β', Ext.of_below hb⟩
end Go.Ab
/-
  A statement whose order is open: what only reads and calls may come in whatever order; what stands at its end comes in its own.
  (After the kit's own texts on regions that leave the world as it was, and on such a region with a tail.)
-/
namespace Go.Ab
open Go Go.RowKit
set_option linter.unusedSimpArgs false
set_option linter.unusedVariables false
section
variable {P : Program} {ops : Array Oper} {md : Region.Mode} {C : World → Prop}
def wpAnyM (P : Program) (md : Region.Mode) (ops : Array Oper) (C : World → Prop) (n : Nat) (Q : Exit → Act → World → Prop) : Nat → Array Bool → Act → Prop
  | 0, listed, a => Region.ready md ops listed = [] ∧ ∀ w, C w → Q .normal a w
  | f + 1, listed, a =>
    (Region.ready md ops listed = [] → ∀ w, C w → Q .normal a w) ∧
    ∀ i ∈ Region.ready md ops listed, (i < n → qOp P ops C i (wpAnyM P md ops C n Q f (listed.setIfInBounds i true)) a) ∧
      (n ≤ i → ∀ w, C w → wpOp P ops Q i (wpAny P md ops Q f (listed.setIfInBounds i true)) a w)
theorem wpAny_of_M {n : Nat} {Q : Exit → Act → World → Prop} : ∀ (f : Nat) (listed : Array Bool) (a : Act) (w : World), C w → wpAnyM P md ops C n Q f listed a → wpAny P md ops Q f listed a w
  | 0, listed, a, w, hw, h => ⟨h.1, h.2 w hw⟩
  | f + 1, listed, a, w, hw, h => ⟨fun h0 => h.1 h0 w hw, fun i hi => by
      rcases Nat.lt_or_ge i n with hlt | hge
      · exact wpOp_of_qOp hw (fun a' w' hw' h' => wpAny_of_M f _ a' w' hw' h') ((h.2 i hi).1 hlt)
      · exact (h.2 i hi).2 hge w hw⟩
theorem wpAnyM_first {n i : Nat} {oi : Oper} {v : Value} {Q : Exit → Act → World → Prop} (hi : ops[i]? = some oi) (hsel : ∀ (j : Nat) (o : Oper) cs b, ops[j]? = some o → o.op ≠ .select cs b)
    (hQ : ∀ c a w, ¬ Q (.panic c) a w) (hin : i < n) :
    ∀ (f : Nat) (listed : Array Bool) (a : Act),
      (∀ j oj, ops[j]? = some oj → j ≠ i → listed.getD j true = false → (∀ e ∈ oj.after, Region.binds md e = true → e.on ≠ i) → oi.apart ops oj = true) →
      (Yields P ops oi v a ∨ ∀ j oj, ops[j]? = some oj → n ≤ j → listed.getD j true = false → ∃ e ∈ oj.after, Region.binds md e = true ∧ e.on = i) →
      i ∈ Region.ready md ops listed → YieldsIn P ops C oi v a →
      wpAnyM P md ops C n Q f (listed.setIfInBounds i true) (a.put oi.dst v) → wpAnyM P md ops C n Q (f + 1) listed a := by
  intro f
  induction f with
  | zero =>
    intro listed a _ _ hr hy H
    refine ⟨fun h => (by rw [h] at hr; cases hr), fun j hj => ?_⟩
    by_cases hji : j = i
    · subst hji; exact ⟨fun _ => hy.qOp hi H, fun h => absurd hin (Nat.not_lt.2 h)⟩
    · have := ready_mono hj hji
      rw [H.1] at this
      cases this
  | succ f ih =>
    intro listed a hfree hpw hr hy H
    have hun := (mem_ready.1 hr).1
    refine ⟨fun h => (by rw [h] at hr; cases hr), fun j hj => ?_⟩
    by_cases hji : j = i
    · subst hji; exact ⟨fun _ => hy.qOp hi H, fun h => absurd hin (Nat.not_lt.2 h)⟩
    · have h1 := H.2 j (ready_mono hj hji)
      obtain ⟨hjun, oj, hoj, hall⟩ := mem_ready.1 hj
      have hnot : ∀ e ∈ oj.after, Region.binds md e = true → e.on ≠ i := fun e he hb heq => by
        have h1 := hall e he hb
        rw [heq, getD_both hun] at h1
        cases h1
      have hap := hfree j oj hoj hji hjun hnot
      have hfree' : ∀ k ok, ops[k]? = some ok → k ≠ i → (listed.setIfInBounds j true).getD k true = false →
          (∀ e ∈ ok.after, Region.binds md e = true → e.on ≠ i) → oi.apart ops ok = true := fun k ok hk hki hun hno => by
        refine hfree k ok hk hki ?_ hno
        by_cases hjk : j = k
        · subst hjk; exact hjun
        · rw [getD_set_ne true hjk] at hun; exact hun
      refine ⟨fun hjn => ?_, fun hjn w hw => ?_⟩
      · rcases hpw with hpure | hwait
        · -- the value is one in every world: it stays so behind j
          have h2 := qOp_put hoj hap (fun cs b => hsel i oi cs b hi) (fun cs b => hsel j oj cs b hoj) hy (h1.1 hjn)
          obtain ⟨e1, e2, e3⟩ := Oper.apart_spec hap
          obtain ⟨u, hyj, hK⟩ := yieldsIn_of_qOp hoj h2
          have hpure' : Yields P ops oi v (a.put oj.dst u) := hpure.of_same (execOp_put oi (fun cs b => hsel i oi cs b hi) a oj.dst u e3) (wanted_put oi a oj.dst u e3)
          refine hyj.qOp hoj (ih (listed.setIfInBounds j true) _ hfree' (.inl hpure') (ready_mono hr (Ne.symm hji)) hK.1 ?_)
          rw [Array.setIfInBounds_comm _ _ hji]
          exact hK.2
        · have h2 := qOp_put hoj hap (fun cs b => hsel i oi cs b hi) (fun cs b => hsel j oj cs b hoj) hy (h1.1 hjn)
          refine qOp_mono (fun a' h3 => ih (listed.setIfInBounds j true) a' hfree' (.inr fun k ok hk hkn hun => ?_) (ready_mono hr (Ne.symm hji)) h3.1 ?_) h2
          · refine hwait k ok hk hkn ?_
            by_cases hjk : j = k
            · subst hjk; exact hjun
            · rw [getD_set_ne true hjk] at hun; exact hun
          · rw [Array.setIfInBounds_comm _ _ hji]
            exact h3.2
      · rcases hpw with hpure | hwait
        · have h2 := wpOp_put hoj hap (fun cs b => hsel i oi cs b hi) (fun cs b => hsel j oj cs b hoj) (fun c a w h => absurd h (hQ c _ w)) hpure (h1.2 hjn w hw)
          refine wpOp_mono (fun a' w' h3 => ?_) h2
          refine wpAny_first hi hsel (fun c a w h => absurd h (hQ c _ w)) f (listed.setIfInBounds j true) a' w' hfree' (ready_mono hr (Ne.symm hji)) h3.1 ?_
          rw [Array.setIfInBounds_comm _ _ hji]
          exact h3.2
        · obtain ⟨e, he, hb, hon⟩ := hwait j oj hoj hjn hjun
          exact absurd hon (hnot e he hb)
def isPop (ops : Array Oper) (k : Nat) : Bool := match ops[k]? with | some o => (match o.op with | .move _ => true | .assign _ => true | .extract _ _ => true | _ => false) | none => false
def mixHead (md : Region.Mode) (ops : Array Oper) (n : Nat) (fin : Array Bool → Bool) : Nat → Nat → Array Bool → Bool
  | 0, _, listed => fin listed
  | f + 1, k, listed => (Region.ready md ops listed).contains k && Region.free md ops listed k &&
      (isPop ops k || (List.range ops.size).all fun j => decide (j < n) || listed.getD j true || Region.waitsFor md ops j k) && mixHead md ops n fin f (k + 1) (listed.setIfInBounds k true)
def mixB (md : Region.Mode) (ops : Array Oper) (n : Nat) : Bool :=
  Region.noSelect ops && decide (n ≤ ops.size) && mixHead md ops n (Region.seqB md ops (ops.size - n) n) n 0 (Array.replicate ops.size false)
theorem pure_of_in {o : Oper} {v : Value} {a : Act} {w0 : World} (hw0 : C w0) (ho : (match o.op with | .move _ => true | .assign _ => true | .extract _ _ => true | _ => false) = true) (hy : YieldsIn P ops C o v a) : Yields P ops o v a := by
  rcases hy with ⟨hw, h⟩ | h
  · refine .inl ⟨hw, fun w => ?_⟩
    have h0 := h w0 hw0
    unfold Oper.quietAt at h0
    cases hop : o.op <;> simp only [hop, Bool.false_eq_true] at ho
    case move x =>
      simp only [execOp, hop, Sem.run_pure] at h0 ⊢
      rw [h0.2]
    case assign x =>
      simp only [execOp, hop, Sem.run_pure] at h0 ⊢
      rw [h0.2]
    case extract x i =>
      simp only [execOp, hop, Sem.run_bind, Instr.extract] at h0 ⊢
      cases hx : a.eval x <;> simp only [hx, run_stuck, Result.andThen_halt] at h0 ⊢ <;> try exact h0.elim
      rename_i vs
      cases hv : vs[i]? <;> simp only [hv, run_stuck, Result.andThen_halt, Sem.run_pure, Result.andThen_ok] at h0 ⊢
      · exact h0.elim
      · rw [h0.2]
  · exact .inr h
theorem wpAnyM_lex {n g : Nat} {fin : Array Bool → Bool} {Q : Exit → Act → World → Prop} {Lq : Act → Prop} {w0 : World} (hw0 : C w0) (hQ : ∀ c a w, ¬ Q (.panic c) a w) (hsel : Region.noSelect ops = true)
    (hL : ∀ listed a, fin listed = true → Lq a → wpAnyM P md ops C n Q g listed a) :
    ∀ (l : List Oper) (k : Nat) (listed : Array Bool) (a : Act), (∀ j, j < l.length → l[j]? = ops[k + j]?) → k + l.length = n →
    mixHead md ops n fin l.length k listed = true → wpQuiet P ops C Lq l a → wpAnyM P md ops C n Q (l.length + g) listed a
  | [], k, listed, a, _, hk, hB, h => by
    have : k = n := by simpa using hk
    rw [List.length_nil, Nat.zero_add]
    exact hL listed a (by simpa [mixHead] using hB) h
  | o :: l, k, listed, a, hl, hk, hB, h => by
    have h0 : ops[k]? = some o := by simpa using (hl 0 (by simp)).symm
    simp only [List.length_cons, mixHead, Bool.and_eq_true] at hB
    obtain ⟨⟨⟨hr, hf⟩, hp⟩, hB'⟩ := hB
    have hkn : k < n := by simp only [List.length_cons] at hk; omega
    have hr' : k ∈ Region.ready md ops listed := by simpa using hr
    have hst : qOp P ops C k (wpQuiet P ops C Lq l) a := by unfold qOp; simp only [h0]; exact h
    obtain ⟨v, hy, hK⟩ := yieldsIn_of_qOp h0 hst
    rw [List.length_cons, show l.length + 1 + g = (l.length + g) + 1 by omega]
    refine wpAnyM_first h0 (Region.noSelect_spec hsel) hQ hkn (l.length + g) listed a (Region.free_spec h0 hf) ?_ hr' hy
      (wpAnyM_lex hw0 hQ hsel hL l (k + 1) _ _ (fun j hj => by have := hl (j + 1) (by simp; omega); simpa [Nat.add_assoc, Nat.add_comm 1 j] using this) (by simp only [List.length_cons] at hk; omega) hB' hK)
    simp only [Bool.or_eq_true] at hp
    rcases hp with hp | hp
    · left
      unfold isPop at hp
      rw [h0] at hp
      exact pure_of_in hw0 hp hy
    · right
      intro j oj hoj hjn hun
      have h1 := List.all_eq_true.1 hp j (List.mem_range.2 (Array.getElem?_eq_some_iff.1 hoj).1)
      simp only [Bool.or_eq_true, decide_eq_true_eq, hun, Bool.false_eq_true, or_false] at h1
      rcases h1 with h1 | h1
      · omega
      · obtain ⟨oj', hoj', e, he, hb, hon⟩ := Region.waitsFor_spec h1
        rw [hoj] at hoj'
        injection hoj' with hoj'
        subst hoj'
        exact ⟨e, he, hb, hon⟩
theorem wp_region_mix {id : Nat} {Q : Exit → Act → World → Prop} {a : Act} {w : World} {l : List Oper} (n : Nat) (hm : P.follows .mixedOrders = true) (hB : mixB .any l.toArray n = true)
    (hQ : ∀ c a w, ¬ Q (.panic c) a w) (hC : C { w with drawn := w.drawn + 1 })
    (h : wpQuiet P l.toArray C (fun a' => ∀ w', C w' → wpList P l.toArray Q (l.drop n) a' w') (l.take n) a) : (Code.region id l.toArray true).wp P Q a w := by
  simp only [mixB, Bool.and_eq_true, decide_eq_true_eq] at hB
  obtain ⟨⟨hsel, hn⟩, hmix⟩ := hB
  have hn' : n ≤ l.length := by simpa using hn
  have htl : (l.take n).length = n := by simp; omega
  have hdl : (l.drop n).length = l.toArray.size - n := by simp
  have H := wpAnyM_lex (md := .any) (g := l.toArray.size - n) (fin := Region.seqB .any l.toArray (l.toArray.size - n) n) (P := P) (ops := l.toArray) (C := C) (n := n) (Q := Q) hC hQ hsel (fun listed a' hs hLq => by
    have hall : ∀ w', C w' → wpAny P .any l.toArray Q (l.toArray.size - n) listed a' w' := fun w' hw' => by
      have := wpAny_of_seq (md := .any) (Q' := Q) (l.drop n) n listed a' w' (fun j => by simp [List.getElem?_drop]) (by rw [hdl]; exact hs) (hLq w' hw')
      rwa [hdl] at this
    have hge := seqB_ready hs
    generalize l.toArray.size - n = g at *
    cases g with
    | zero => exact ⟨by simpa [Region.seqB] using hs, fun w' hw' => (hall w' hw').2⟩
    | succ g => exact ⟨fun h0 w' hw' => (hall w' hw').1 h0, fun i hi => ⟨fun hlt => absurd (hge i hi) (Nat.not_le.2 hlt), fun _ w' hw' => (hall w' hw').2 i hi⟩⟩)
    (l.take n) 0 _ a (fun j hj => by
      have hj' : j < n := by rw [htl] at hj; exact hj
      simp [hj']) (by simpa using htl) (by rw [htl]; exact hmix) h
  refine wp_region_any hm ?_
  have := wpAny_of_M _ _ _ _ hC H
  rw [htl, show n + (l.toArray.size - n) = l.toArray.size by simp; omega] at this
  exact this
end
inductive Tr where
  | nil
  | cons (i : Nat) (sub rest : Tr)
def Tr.kids : Tr → List Nat
  | .nil => []
  | .cons i _ rest => i :: rest.kids
def trB (md : Region.Mode) (ops : Array Oper) : Tr → Nat → Bool → Array Bool → Bool
  | .nil, _, true, listed => (Region.ready md ops listed).isEmpty
  | .nil, _, false, _ => true
  | .cons _ _ _, 0, _, _ => false
  | .cons i sub rest, f + 1, first, listed => (!first || (!(Region.ready md ops listed).isEmpty && (Region.ready md ops listed).all fun k => (i :: rest.kids).contains k)) && trB md ops sub f true (listed.setIfInBounds i true) && trB md ops rest (f + 1) false listed
def wpTr (P : Program) (ops : Array Oper) (Q : Exit → Act → World → Prop) : Tr → Bool → Act → World → Prop
  | .nil, true, a, w => Q .normal a w
  | .nil, false, _, _ => True
  | .cons i sub rest, _, a, w => wpOp P ops Q i (wpTr P ops Q sub true) a w ∧ wpTr P ops Q rest false a w
section
variable {P : Program} {ops : Array Oper} {md : Region.Mode} {C : World → Prop}
theorem wpAny_of_tr {Q : Exit → Act → World → Prop} : ∀ (t : Tr) (f : Nat) (first : Bool) (listed : Array Bool) (a : Act) (w : World), trB md ops t f first listed = true → wpTr P ops Q t first a w →
    (first = true → wpAny P md ops Q f listed a w) ∧ ∀ g, f = g + 1 → ∀ i ∈ t.kids, wpOp P ops Q i (wpAny P md ops Q g (listed.setIfInBounds i true)) a w
  | .nil, f, first, listed, a, w, hB, h => by
    refine ⟨fun hf => ?_, fun g _ i hi => by cases hi⟩
    subst hf
    have h0 : Region.ready md ops listed = [] := by simpa [trB] using hB
    cases f with
    | zero => exact ⟨h0, h⟩
    | succ f => exact ⟨fun _ => h, fun i hi => by rw [h0] at hi; cases hi⟩
  | .cons i sub rest, 0, first, listed, a, w, hB, h => by simp [trB] at hB
  | .cons i sub rest, f + 1, first, listed, a, w, hB, h => by
    simp only [trB, Bool.and_eq_true] at hB
    obtain ⟨⟨h1, h2⟩, h3⟩ := hB
    have hk : ∀ k ∈ (Tr.cons i sub rest).kids, wpOp P ops Q k (wpAny P md ops Q f (listed.setIfInBounds k true)) a w := by
      intro k hk
      rcases List.mem_cons.1 hk with hk | hk
      · subst hk
        exact wpOp_mono (fun a' w' h' => (wpAny_of_tr sub f true _ a' w' h2 h').1 rfl) h.1
      · exact (wpAny_of_tr rest (f + 1) false listed a w h3 h.2).2 f rfl k hk
    refine ⟨fun hf => ?_, fun g hg => by injection hg with hg; subst hg; exact hk⟩
    subst hf
    simp only [Bool.not_true, Bool.false_or, Bool.and_eq_true, List.all_eq_true] at h1
    refine ⟨fun h0 => ?_, fun k hk' => hk k (by have := h1.2 k hk'; simpa [Tr.kids] using this)⟩
    have := h1.1
    rw [h0] at this
    cases this
def mixT (md : Region.Mode) (ops : Array Oper) (n : Nat) (t : Tr) : Bool :=
  Region.noSelect ops && decide (n ≤ ops.size) && mixHead md ops n (fun listed => trB md ops t (ops.size - n) true listed && (List.range n).all fun k => listed.getD k true) n 0 (Array.replicate ops.size false)
theorem wp_region_tr {id : Nat} {Q : Exit → Act → World → Prop} {a : Act} {w : World} {l : List Oper} (n : Nat) (t : Tr) (hm : P.follows .mixedOrders = true) (hB : mixT .any l.toArray n t = true)
    (hQ : ∀ c a w, ¬ Q (.panic c) a w) (hC : C { w with drawn := w.drawn + 1 })
    (h : wpQuiet P l.toArray C (fun a' => ∀ w', C w' → wpTr P l.toArray Q t true a' w') (l.take n) a) : (Code.region id l.toArray true).wp P Q a w := by
  simp only [mixT, Bool.and_eq_true, decide_eq_true_eq] at hB
  obtain ⟨⟨hsel, hn⟩, hmix⟩ := hB
  have hn' : n ≤ l.length := by simpa using hn
  have htl : (l.take n).length = n := by simp; omega
  have H := wpAnyM_lex (md := .any) (g := l.toArray.size - n) (fin := fun listed => trB .any l.toArray t (l.toArray.size - n) true listed && (List.range n).all fun k => listed.getD k true) (P := P) (ops := l.toArray) (C := C) (n := n) (Q := Q) hC hQ hsel (fun listed a' hs hLq => by
    simp only [Bool.and_eq_true, List.all_eq_true, List.mem_range] at hs
    obtain ⟨hs, hlt⟩ := hs
    have hall : ∀ w', C w' → wpAny P .any l.toArray Q (l.toArray.size - n) listed a' w' := fun w' hw' => (wpAny_of_tr t _ true listed a' w' hs (hLq w' hw')).1 rfl
    have hge : ∀ i ∈ Region.ready .any l.toArray listed, n ≤ i := fun i hi => by
      rcases Nat.lt_or_ge i n with h1 | h1
      · have h2 := (mem_ready.1 hi).1
        have h3 := hlt i h1
        rw [h2] at h3
        cases h3
      · exact h1
    generalize l.toArray.size - n = g at *
    cases g with
    | zero => exact ⟨(hall _ hC).1, fun w' hw' => (hall w' hw').2⟩
    | succ g => exact ⟨fun h0 w' hw' => (hall w' hw').1 h0, fun i hi => ⟨fun hlt => absurd (hge i hi) (Nat.not_le.2 hlt), fun _ w' hw' => (hall w' hw').2 i hi⟩⟩)
    (l.take n) 0 _ a (fun j hj => by
      have hj' : j < n := by rw [htl] at hj; exact hj
      simp [hj']) (by simpa using htl) (by rw [htl]; exact hmix) h
  refine wp_region_any hm ?_
  have := wpAny_of_M _ _ _ _ hC H
  rw [htl, show n + (l.toArray.size - n) = l.toArray.size by simp; omega] at this
  exact this
end
/-! Tryz# Abstractly -/
def quietK (K : TV → Prop) : KT := fun v e => match e with | .none => K v | _ => False
def xcalledV (Γ : Ctx) (H : Heap) (g : Option (FuncId × List TV × List TV)) (args : List TV) (K : TV → Prop) : Prop :=
  match g with
  | some (f, a, c) => xcallV Γ H f (a ++ args ++ c) K
  | none => False
def xcallH (Γ : Ctx) (c : Call) (E : Operand → TV) (H : Heap) (K : TV → Prop) : Prop :=
  match c.callee with
  | .value g => xcalledV Γ H (xfun (E g)) (c.args.toList.map E) K
  | .builtin .len => match c.args.toList, c.argTypes.toList with
    | [x], [t] => xlen (isSlc Γ.P t) (E x) K
    | _, _ => False
  | _ => False
def xquiet (Γ : Ctx) (op : Op) (E : Operand → TV) (H : Heap) (K : TV → Prop) : Prop :=
  match op with
  | .call c => xcallH Γ c E H K
  | op => xop Γ op E H (quietK K)
def xHead (Γ : Ctx) (ops : Array Oper) (H : Heap) : List Oper → List TV → (List TV → Prop) → Prop
  | [], T, K => K T
  | o :: r, T, K => xguard T (o.guard.map fun g => ((ops[g.1]?).bind (·.dst), g.2))
      (fun T => xquiet Γ o.op (ev T) H fun v => xHead Γ ops H r (putT T o.dst v) K)
      (fun T => xHead Γ ops H r (putT T o.dst undefT) K)
theorem xguard_holds {n : Nat} {β : Nat → Nat} {ops : Array Oper} {o : Oper} {T : List TV} {a : Act} {run skip : List TV → Prop} {G : Prop}
    (h : xguard T (o.guard.map fun g => ((ops[g.1]?).bind (·.dst), g.2)) run skip) (hT : Holds n β T a.tmps)
    (hrun : ∀ T', Region.wanted o (yielded ops a.tmps) = true → run T' → Holds n β T' a.tmps → G) (hskip : ∀ T', Region.wanted o (yielded ops a.tmps) = false → skip T' → Holds n β T' a.tmps → G) : G := by
  unfold xguard at h
  have hset : ∀ {d : Nat} {x y : TV}, T.getD d undefT = x → d < T.length → (∀ β, y.conc β = x.conc β) → Holds n β (T.set d y) a.tmps := by
    intro d x y hx hne hy β' h'
    rw [hT β' h', List.map_set, hy]
    congr 1
    apply List.ext_getElem?
    intro i
    rw [List.getElem?_set]
    split
    · rename_i h1
      subst h1
      simp [hne] at hx ⊢
      rw [hx]
    · rfl
  cases hg : o.guard with
  | none =>
    simp only [hg, Option.map_none] at h
    exact hrun T (by simp [Region.wanted, hg]) h hT
  | some g =>
    obtain ⟨j, want⟩ := g
    simp only [hg, Option.map_some] at h
    cases hd : (ops[j]?).bind (·.dst) with
    | none =>
      simp only [hd] at h
      refine hskip T ?_ h hT
      simp [Region.wanted, hg, yielded, hd]
    | some d =>
      simp only [hd] at h
      have hsl : a.tmps[d]? = (T[d]?).map (TV.conc β) := by rw [hT β (.refl _ _)]; simp
      unfold xguardV at h
      split at h
      · rename_i t ht
        have hlt : d < T.length := by
          rcases Nat.lt_or_ge d T.length with h1 | h1
          · exact h1
          · simp [List.getD_eq_getElem?_getD, List.getElem?_eq_none h1, undefT] at ht
        have hTd : T[d]? = some (.s (.v (.bool t))) := by
          simp [hlt] at ht ⊢; exact ht
        have hw : Region.wanted o (yielded ops a.tmps) = (t == want) := by
          simp [Region.wanted, hg, yielded, hd, hsl, hTd, conc_v, conc_p, conc_sl, conc_agg, conc_tup]
        by_cases htw : t = want
        · subst htw
          exact hrun _ (by rw [hw]; simp) (h.1 rfl) (hset ht hlt (fun _ => rfl))
        · have htn : t = !want := by cases t <;> cases want <;> simp_all
          subst htn
          exact hskip _ (by rw [hw]; cases want <;> rfl) (h.2 rfl) (hset ht hlt (fun _ => rfl))
      · rename_i l hl
        refine hskip T ?_ h hT
        have : (T[d]?).map (TV.conc β) = none ∨ (T[d]?).map (TV.conc β) = some (.tuple (l.map (AV.conc β)).toArray) := by
          rcases Nat.lt_or_ge d T.length with h1 | h1
          · right; simp [h1] at hl ⊢; rw [hl]; rfl
          · left; simp [List.getElem?_eq_none h1]
        rw [← hsl] at this
        rcases this with h1 | h1 <;> simp [Region.wanted, hg, yielded, hd, h1]
      · exact h.elim
theorem xquiet_at {Γ : Ctx} {o : Oper} {T : List TV} {H : Heap} {β : Nat → Nat} {K : TV → Prop} {a : Act} {w0 : World} (h : xquiet Γ o.op (ev T) H K) (hT : Holds H.length β T a.tmps) (hR0 : Rep Γ H β w0) :
    ∃ v, K v ∧ (∀ β', Agrees H.length β β' → v.conc β' = v.conc β) ∧ ∀ w, Rep Γ H β w → o.quietAt Γ.P a (Rep Γ H β) w (v.conc β) := by
  have hev := eval_ev (a := a) (hT β (.refl _ _))
  unfold xquiet at h
  split at h
  · rename_i c ho
    unfold xcallH at h
    split at h
    · rename_i g hc
      unfold xcalledV at h
      split at h
      · rename_i f fa fc hg
        unfold xfun at hg
        split at hg
        · rename_i f' av cv hgv
          simp only [Option.some.injEq, Prod.mk.injEq] at hg
          obtain ⟨rfl, rfl, rfl⟩ := hg
          have hgc : a.eval g = .func (.func f') av cv := by rw [hev, hgv]; rfl
          have hargs : (((av.toList.map (fun v => TV.s (.v v))) ++ c.args.toList.map (ev T) ++ (cv.toList.map (fun v => TV.s (.v v)))).map (TV.conc β)).toArray = av ++ c.args.map a.eval ++ cv := by
            apply Array.ext'
            simp [conc_v, Function.comp_def, hev]
          rcases h with ⟨hcall, r, hP, hK⟩ | ⟨r, hX, hok, hK⟩
          case inr =>
            refine ⟨r, hK, fun β' _ => TV.conc_ok hok (fun j hj => absurd hj (Nat.not_lt_zero j)), fun w _ => ?_⟩
            have hX' := hX β w
            rw [hargs] at hX'
            unfold Oper.quietAt
            rw [run_callV (P := Γ.P) ho hc hgc w, hX']
            exact ⟨rfl, rfl⟩
          refine ⟨r, hK, ?_, fun w hR => ?_⟩
          · intro β' h'
            obtain ⟨e, w', fr, ⟨he, _⟩, _⟩ := hP β w0 hR0 []
            have h1 := he β (.refl _ _)
            rw [he β' h'] at h1
            injection h1
          · have hrun := run_callF (P := Γ.P) ho hc hgc hcall w
            have hP' := hP β w hR
            rw [hargs] at hP'
            unfold Oper.quietAt
            rw [hrun]
            exact ⟨rfl, hP'.mono fun e w' ⟨he, hx⟩ => ⟨he β (.refl _ _), hR.ext hx⟩⟩
        · cases hg
      · exact h.elim
    · rename_i hc
      split at h
      · rename_i x t hx ht
        have hargs : c.args = #[x] := Array.ext' (by simpa using hx)
        have hts : c.argTypes = #[t] := Array.ext' (by simpa using ht)
        have fin : ∀ (n : Nat) (y : TV), ev T x = y → isSlc Γ.P t = true → (∃ ad cap, y.conc β = .slice ad n cap) → K (.s (.v (.int .i64 (n : Int)))) →
            ∃ v, K v ∧ (∀ β', Agrees H.length β β' → v.conc β' = v.conc β) ∧ ∀ w, Rep Γ H β w → o.quietAt Γ.P a (Rep Γ H β) w (v.conc β) := by
          intro n y hy hsl ⟨ad, cap, hconc⟩ hK
          unfold isSlc at hsl
          split at hsl
          · rename_i e hu
            refine ⟨_, hK, fun _ _ => rfl, fun w _ => ?_⟩
            have hrun : (execOp a.eval o).run Γ.P w = .ok (.value (.int .i64 (n : Int))) w := by
              simp [execOp, ho, resolve, hc, hargs, hts, invoke, builtin, Builtin.len_, run_underlying hu, hev, hy, hconc, goInt]
            unfold Oper.quietAt
            rw [hrun]
            exact ⟨rfl, rfl⟩
          · cases hsl
        unfold xlen at h
        split at h
        · rename_i ad n cap hy
          exact fin n _ hy h.1 ⟨ad, cap, rfl⟩ h.2
        · rename_i j off n cap hy
          exact fin n _ hy h.1 ⟨_, cap, rfl⟩ h.2
        · exact h.elim
      · exact h.elim
    · exact h.elim
  · obtain ⟨v, e, hK, hsd⟩ := xop_sound h
    cases e with
    | none =>
      have hd : ∀ w, Rep Γ H β w → ∀ β', Agrees H.length β β' → (execOp a.eval o).run Γ.P w = .ok (.value (v.conc β')) w := fun w hR β' h' =>
        hsd o β' a.eval w rfl (eval_ev (hT β' h')) (hR.agree h')
      refine ⟨v, hK, fun β' h' => ?_, fun w hR => ?_⟩
      · have h1 := hd w0 hR0 β (.refl _ _)
        rw [hd w0 hR0 β' h'] at h1
        injection h1 with h1
        injection h1 with h1
      · unfold Oper.quietAt
        rw [hd w hR β (.refl _ _)]
        exact ⟨rfl, rfl⟩
    | new b => exact hK.elim
    | put j cs => exact hK.elim
theorem xHead_wp {Γ : Ctx} {ops : Array Oper} {H : Heap} {β : Nat → Nat} {w0 : World} {Q : Act → Prop} (hR0 : Rep Γ H β w0) : ∀ (l : List Oper) {T : List TV} {K : List TV → Prop} {a : Act},
    xHead Γ ops H l T K → Holds H.length β T a.tmps → a.defers = [] → (∀ T' a', K T' → Holds H.length β T' a'.tmps → a'.defers = [] → Q a') → wpQuiet Γ.P ops (Rep Γ H β) Q l a
  | [], _, _, _, h, hT, hd, hQ => hQ _ _ h hT hd
  | o :: l, T, K, a, h, hT, hd, hQ => by
    simp only [xHead] at h
    have hput : ∀ u, (a.put o.dst u).defers = [] := fun u => by cases o.dst <;> exact hd
    refine xguard_holds (ops := ops) (o := o) h hT (fun T' hw hr hT' => ?_) (fun T' hw hr hT' => ?_)
    · obtain ⟨v, hK, hv, hq⟩ := xquiet_at hr hT' hR0
      simp only [wpQuiet, hw, if_true]
      exact ⟨v.conc β, hq, xHead_wp hR0 l hK (hT'.put (Nat.le_refl _) (.refl _ _) hv) (hput _) hQ⟩
    · simp only [wpQuiet, hw, Bool.false_eq_true, if_false]
      exact xHead_wp hR0 l hr (hT'.put (Nat.le_refl _) (.refl _ _) (fun _ _ => rfl)) (hput _) hQ
theorem Rep.drewQ {Γ : Ctx} {H : Heap} {β : Nat → Nat} {w : World} (h : Rep Γ H β w) : Rep Γ H β { w with drawn := w.drawn + 1 } := h.ext (Ext.drew _ _ _)
theorem X_draw {Γ : Ctx} {id : Nat} {l : List Oper} {T : List TV} {H : Heap} {Q : QX} (n : Nat) (hm : Γ.P.follows .mixedOrders = true) (hB : mixB .any l.toArray n = true)
    (h : xHead Γ l.toArray H (l.take n) T fun T => xOps Γ l.toArray (l.drop n) T H fun T H => Q .normal T H) : XL Γ (.region id l.toArray true) T H Q := by
  rw [XL_eq]
  intro a w ⟨β, hT, hR, hd⟩
  refine wp_mono (wp_region_mix (C := Rep Γ H β) (Q := fun e a w => match e with | .normal => lift Γ Q .normal a w | _ => False) n hm hB (fun _ _ _ h => h) hR.drewQ ?_) fun e a w h => ?_
  · refine xHead_wp hR _ h hT hd fun T' a' hK hT' hd' w' hw' => ?_
    exact xOps_wp _ hK ⟨β, hT', hw', hd'⟩ fun T'' H'' a'' w'' hq hs => ⟨T'', H'', hq, hs⟩
  · cases e with
    | normal => exact h
    | _ => exact h.elim
def xTr (Γ : Ctx) (ops : Array Oper) (K : List TV → Heap → Prop) : Tr → Bool → List TV → Heap → Prop
  | .nil, true, T, H => K T H
  | .nil, false, _, _ => True
  | .cons i sub rest, _, T, H => (match ops[i]? with | some o => xOps Γ ops [o] T H (xTr Γ ops K sub true) | none => False) ∧ xTr Γ ops K rest false T H
theorem xTr_wp {Γ : Ctx} {ops : Array Oper} {Q : Exit → Act → World → Prop} {K : List TV → Heap → Prop} (hK : ∀ T' H' a' w', K T' H' → St Γ T' H' a' w' → Q .normal a' w') :
    ∀ (t : Tr) (first : Bool) {T : List TV} {H : Heap} {a : Act} {w : World}, xTr Γ ops K t first T H → St Γ T H a w → wpTr Γ.P ops Q t first a w
  | .nil, true, _, _, _, _, h, hs => hK _ _ _ _ h hs
  | .nil, false, _, _, _, _, _, _ => trivial
  | .cons i sub rest, first, T, H, a, w, h, hs => by
    simp only [xTr] at h
    refine ⟨?_, xTr_wp hK rest false h.2 hs⟩
    have h1 := h.1
    unfold wpOp
    split at h1
    · rename_i o ho
      simp only [ho]
      simp only [xOps] at h1
      refine xguard_wp (ops := ops) (o := o) h1 hs (fun T' hw hr hs' => ?_) (fun T' hw hr hs' => ?_)
      · simp only [hw, if_true]
        exact .inl (xstep_wp hr hs' fun v H' u w' hv hs'' => xTr_wp hK sub true hv hs'')
      · simp only [hw, Bool.false_eq_true, if_false]
        refine xTr_wp hK sub true hr ?_
        obtain ⟨β, hT, hR, hd⟩ := hs'
        exact ⟨β, hT.put (Nat.le_refl _) (.refl _ _) (fun _ _ => rfl), hR, by cases o.dst <;> exact hd⟩
    · exact h1.elim
theorem X_drawT {Γ : Ctx} {id : Nat} {l : List Oper} {T : List TV} {H : Heap} {Q : QX} (n : Nat) (t : Tr) (hm : Γ.P.follows .mixedOrders = true) (hB : mixT .any l.toArray n t = true)
    (h : xHead Γ l.toArray H (l.take n) T fun T => xTr Γ l.toArray (fun T H => Q .normal T H) t true T H) : XL Γ (.region id l.toArray true) T H Q := by
  rw [XL_eq]
  intro a w ⟨β, hT, hR, hd⟩
  refine wp_mono (wp_region_tr (C := Rep Γ H β) (Q := fun e a w => match e with | .normal => lift Γ Q .normal a w | _ => False) n t hm hB (fun _ _ _ h => h) hR.drewQ ?_) fun e a w h => ?_
  · refine xHead_wp hR _ h hT hd fun T' a' hK hT' hd' w' hw' => ?_
    exact xTr_wp (fun T'' H'' a'' w'' hq hs => ⟨T'', H'', hq, hs⟩) t true hK ⟨β, hT', hw', hd'⟩
  · cases e with
    | normal => exact h
    | _ => exact h.elim
end Go.Ab
/-
  The rules by which simp walks: each is true by definition; and which parts simp may look into.
-/
namespace Go.Ab
open Go Go.RowKit
set_option linter.unusedSimpArgs false
set_option linter.unusedVariables false
section
variable {Γ : Ctx} {T T' : List TV} {H H' : Heap} {Q : QX} {ops : Array Oper} {l : List Oper} {KL : List TV → Heap → Prop} {KT' : List TV → Prop} {K : KT} {KV : TV → Prop} {KK : KH} {E : Operand → TV}
def xAt (Γ : Ctx) (ops : Array Oper) (o : Option Oper) (T : List TV) (H : Heap) (K : List TV → Heap → Prop) : Prop :=
  match o with | some o => xOps Γ ops [o] T H K | none => False
/-! Tryz# Where simp may not look -/
@[congr] theorem xTr_congr {b : Bool} {t : Tr} (h1 : T = T') (h2 : H = H') : xTr Γ ops KL t b T H = xTr Γ ops KL t b T' H' := by rw [h1, h2]
@[congr] theorem xAt_congr {o o' : Option Oper} (h0 : o = o') (h1 : T = T') (h2 : H = H') : xAt Γ ops o T H KL = xAt Γ ops o' T' H' KL := by rw [h0, h1, h2]
@[congr] theorem xCode_congr {c : Code} (h1 : T = T') (h2 : H = H') : xCode Γ c T H Q = xCode Γ c T' H' Q := by rw [h1, h2]
@[congr] theorem X_congr {c : Code} (h1 : T = T') (h2 : H = H') : X Γ c T H Q = X Γ c T' H' Q := by rw [h1, h2]
@[congr] theorem XL_congr {c : Code} (h1 : T = T') (h2 : H = H') : XL Γ c T H Q = XL Γ c T' H' Q := by rw [h1, h2]
@[congr] theorem xOps_congr (h1 : T = T') (h2 : H = H') : xOps Γ ops l T H KL = xOps Γ ops l T' H' KL := by rw [h1, h2]
@[congr] theorem xHead_congr (h1 : T = T') : xHead Γ ops H l T KT' = xHead Γ ops H l T' KT' := by rw [h1]
@[congr] theorem xstep_congr {op : Op} : xstep Γ op E H KK = xstep Γ op E H KK := rfl
@[congr] theorem xquiet_congr {op : Op} : xquiet Γ op E H KV = xquiet Γ op E H KV := rfl
@[congr] theorem xop_congr {op : Op} : xop Γ op E H K = xop Γ op E H K := rfl
@[congr] theorem xguardV_congr {x y : TV} {d : Tmp} {b : Bool} {r s : List TV → Prop} (h : x = y) : xguardV x T d b r s = xguardV y T d b r s := by rw [h]
@[congr] theorem xguard_congr {g g' : Option (Option Tmp × Bool)} {r s : List TV → Prop} (h : g = g') : xguard T g r s = xguard T g' r s := by rw [h]
@[congr] theorem xcond_congr {x y : TV} {p q : Prop} (h : x = y) : xcond x p q = xcond y p q := by rw [h]
@[congr] theorem xpick_congr {a b c a' b' c' : TV} (h1 : c = c') (h2 : a = a') (h3 : b = b') : xpick c a b K = xpick c' a' b' K := by rw [h1, h2, h3]
@[congr] theorem xnew_congr {e : TypeId} {cs cs' : Option (List SV)} {n n' : Nat} (h1 : cs = cs') (h2 : n = n') : xnew Γ e cs n K = xnew Γ e cs' n' K := by rw [h1, h2]
@[congr] theorem xnewS_congr {e : TypeId} {cs cs' : Option (List SV)} {n n' m : Nat} (h1 : cs = cs') (h2 : n = n') : xnewS Γ e cs n m K = xnewS Γ e cs' n' m K := by rw [h1, h2]
@[congr] theorem xload_congr {t : TypeId} {a a' : TV} (h : a = a') : xload Γ t a H K = xload Γ t a' H K := by rw [h]
@[congr] theorem xpart_congr {r r' : Option Bool} {n n' o o' : Nat} {cs cs' : Option (List SV)} (h1 : r = r') (h2 : n = n') (h3 : o = o') (h4 : cs = cs') : xpart r n o cs K = xpart r' n' o' cs' K := by rw [h1, h2, h3, h4]
@[congr] theorem xext_congr {r r' : Option Bool} {n n' : Nat} {ad : Addr} (h1 : r = r') (h2 : n = n') : xext Γ r n ad K = xext Γ r' n' ad K := by rw [h1, h2]
@[congr] theorem xcell_congr {x x' : Option SV} (h : x = x') : xcell x K = xcell x' K := by rw [h]
@[congr] theorem xstore_congr {t : TypeId} {a a' x x' : TV} (h1 : a = a') (h2 : x = x') : xstore Γ t a x H K = xstore Γ t a' x' H K := by rw [h1, h2]
@[congr] theorem xput_congr {n n' : Option Nat} {o o' j : Nat} {b b' : Option AB} {cs cs' : Option (List SV)} (h1 : n = n') (h2 : o = o') (h3 : b = b') (h4 : cs = cs') : xput n o j b cs K = xput n' o' j b' cs' K := by rw [h1, h2, h3, h4]
@[congr] theorem xnil_congr {x x' : TV} (h : x = x') : xnil x K = xnil x' K := by rw [h]
@[congr] theorem xbin_congr {P : Program} {op : BinOp} {t : TypeId} {a a' b b' : TV} (h1 : a = a') (h2 : b = b') : xbin P op t a b K = xbin P op t a' b' K := by rw [h1, h2]
@[congr] theorem xeqA_congr {ok ok' neg : Bool} {x x' y y' : Option (List Lit)} (h0 : ok = ok') (h1 : x = x') (h2 : y = y') : xeqA ok neg x y K = xeqA ok' neg x' y' K := by rw [h0, h1, h2]
@[congr] theorem xun_congr {op : UnOp} {a a' : TV} (h : a = a') : xun op a K = xun op a' K := by rw [h]
@[congr] theorem xconv_congr {s s' d d' : Option IntKind} {a a' : TV} (h1 : s = s') (h2 : d = d') (h3 : a = a') : xconv s d a K = xconv s' d' a' K := by rw [h1, h2, h3]
@[congr] theorem xfieldAddr_congr {f f' : Option (Nat × TypeId)} {a a' : TV} (h1 : f = f') (h2 : a = a') : xfieldAddr f a K = xfieldAddr f' a' K := by rw [h1, h2]
@[congr] theorem xfield_congr {P : Program} {f f' : Option (Nat × TypeId)} {a a' : TV} (h1 : f = f') (h2 : a = a') : xfield P f a K = xfield P f' a' K := by rw [h1, h2]
@[congr] theorem xindexAddr_congr {P : Program} {r r' : Option (Nat × TypeId)} {s s' : Option TypeId} {a a' i i' : TV} (h1 : r = r') (h2 : s = s') (h3 : a = a') (h4 : i = i') : xindexAddr P r s a i K = xindexAddr P r' s' a' i' K := by rw [h1, h2, h3, h4]
@[congr] theorem xindex_congr {P : Program} {r r' : Option (Nat × TypeId)} {a a' i i' : TV} (h1 : r = r') (h3 : a = a') (h4 : i = i') : xindex P r a i K = xindex P r' a' i' K := by rw [h1, h3, h4]
@[congr] theorem xextract_congr {a a' : TV} {i : Nat} (h : a = a') : xextract a i K = xextract a' i K := by rw [h]
@[congr] theorem xbuild_congr {cs cs' : Option (List SV)} (h : cs = cs') : xbuild cs K = xbuild cs' K := by rw [h]
@[congr] theorem xcalled_congr {g g' : Option (FuncId × List TV × List TV)} {as as' : List TV} (h1 : g = g') (h2 : as = as') : xcalled Γ H g as KK = xcalled Γ H g' as' KK := by rw [h1, h2]
@[congr] theorem xcallF_congr {f : FuncId} {as as' : List TV} (h : as = as') : xcallF Γ H f as KK = xcallF Γ H f as' KK := by rw [h]
@[congr] theorem xcalledV_congr {g g' : Option (FuncId × List TV × List TV)} {as as' : List TV} (h1 : g = g') (h2 : as = as') : xcalledV Γ H g as KV = xcalledV Γ H g' as' KV := by rw [h1, h2]
@[congr] theorem xcallV_congr {f : FuncId} {as as' : List TV} (h : as = as') : xcallV Γ H f as KV = xcallV Γ H f as' KV := by rw [h]
@[congr] theorem xlen_congr {ok ok' : Bool} {x x' : TV} (h1 : ok = ok') (h2 : x = x') : xlen ok x KV = xlen ok' x' KV := by rw [h1, h2]
@[congr] theorem retV_congr {x x' : Option (List AV)} (h : x = x') : retV x KV = retV x' KV := by rw [h]
/-! Tryz# Code -/
section
variable {ι : Type} {T0 : List TV} {H0 : Heap} {V : ι → Prop} {μ : ι → Nat} {js : List Nat} {sv : ι → List (Nat × TV)} {hv : ι → List (Nat × List SV)} {i0 : ι}
theorem loopQ_normal : loopQ T0 H0 V μ js sv hv i0 Q .normal T H = (∃ i', μ i' < μ i0 ∧ Again T0 H0 V js sv hv T H i') := rfl
theorem loopQ_ret : loopQ T0 H0 V μ js sv hv i0 Q .ret T H = Q .ret T H := rfl
theorem loopQ_exit {i : Nat} : loopQ T0 H0 V μ js sv hv i0 Q (.exit i) T H = Q (.exit i) T H := rfl
theorem cutQ_normal : cutQ T0 H0 V js sv hv Q .normal T H = (∃ i', Again T0 H0 V js sv hv T H i') := rfl
theorem cutQ_ret : cutQ T0 H0 V js sv hv Q .ret T H = Q .ret T H := rfl
theorem cutQ_exit {i : Nat} : cutQ T0 H0 V js sv hv Q (.exit i) T H = Q (.exit i) T H := rfl
@[congr] theorem Again_congr (h1 : T = T') (h2 : H = H') : Again T0 H0 V js sv hv T H i0 = Again T0 H0 V js sv hv T' H' i0 := by rw [h1, h2]
theorem again_eq : Again T0 H0 V js sv hv T H i0 = (V i0 ∧ agreeT js (sv i0) 0 T0 T ∧ ∃ G, H = setCells H0 (hv i0) ++ G) := rfl
end
theorem xCode_skip : xCode Γ .skip T H Q = Q .normal T H := rfl
theorem xCode_region {id : Nat} : xCode Γ (.region id l.toArray false) T H Q = xOps Γ l.toArray l T H (fun T H => Q .normal T H) := by simp [xCode]
theorem xCode_draw {id : Nat} : xCode Γ (.region id ops true) T H Q = XL Γ (.region id ops true) T H Q := by simp [xCode, XL_eq]
theorem xCode_seq {a b : Code} : xCode Γ (.seq a b) T H Q = xCode Γ a T H (seqQ (fun T H => X Γ b T H Q) Q) := rfl
theorem xCode_cond {c : Operand} {a b : Code} : xCode Γ (.cond c a b) T H Q = xcond (ev T c) (xCode Γ a T H Q) (xCode Γ b T H Q) := rfl
theorem xCode_block {id : Nat} {b : Code} : xCode Γ (.block id b) T H Q = xCode Γ b T H (blockQ id Q) := rfl
theorem xCode_loop {b : Code} : xCode Γ (.loop b) T H Q = XL Γ (.loop b) T H Q := XL_eq.symm
theorem xCode_exit {i : Nat} : xCode Γ (.exit i) T H Q = Q (.exit i) T H := rfl
theorem xCode_label {i : Nat} : xCode Γ (.label i) T H Q = Q .normal T H := rfl
theorem xCode_ret : xCode Γ .ret T H Q = Q .ret T H := rfl
theorem xCode_scope {b : Code} : xCode Γ (.scope b) T H Q = xCode Γ b T H (scopeQ Q) := rfl
theorem seqQ_normal : seqQ KL Q .normal T H = KL T H := rfl
theorem seqQ_ret : seqQ KL Q .ret T H = Q .ret T H := rfl
theorem seqQ_exit {i : Nat} : seqQ KL Q (.exit i) T H = Q (.exit i) T H := rfl
theorem blockQ_normal {id : Nat} : blockQ id Q .normal T H = Q .normal T H := rfl
theorem blockQ_ret {id : Nat} : blockQ id Q .ret T H = Q .ret T H := rfl
theorem blockQ_exit {id i : Nat} : blockQ id Q (.exit i) T H = if i = id then Q .normal T H else Q (.exit i) T H := rfl
theorem scopeQ_normal : scopeQ Q .normal T H = Q .normal T H := rfl
theorem scopeQ_ret : scopeQ Q .ret T H = Q .ret T H := rfl
theorem scopeQ_exit {i : Nat} : scopeQ Q (.exit i) T H = Q (.exit i) T H := rfl
theorem xcond_bool {b : Bool} {x y : Prop} : xcond (.s (.v (.bool b))) x y = ((b = true → x) ∧ (b = false → y)) := rfl
/-! Tryz# Operations -/
theorem xOps_nil : xOps Γ ops [] T H KL = KL T H := rfl
theorem xOps_cons {dst : Option Tmp} {op : Op} {ty : TypeId} {pos : String} {af : Array Edge} {r : List Oper} :
    xOps Γ ops (⟨dst, op, ty, pos, af, none⟩ :: r) T H KL = xstep Γ op (ev T) H fun v H' => xOps Γ ops r (putT T dst v) H' KL := rfl
theorem xOps_consG {dst : Option Tmp} {op : Op} {ty : TypeId} {pos : String} {af : Array Edge} {j : Nat} {w : Bool} {r : List Oper} :
    xOps Γ ops (⟨dst, op, ty, pos, af, some (j, w)⟩ :: r) T H KL = xguard T (some ((ops[j]?).bind (·.dst), w)) (fun T => xstep Γ op (ev T) H fun v H' => xOps Γ ops r (putT T dst v) H' KL) (fun T => xOps Γ ops r (putT T dst undefT) H KL) := rfl
theorem xHead_nil : xHead Γ ops H [] T KT' = KT' T := rfl
theorem xHead_cons {dst : Option Tmp} {op : Op} {ty : TypeId} {pos : String} {af : Array Edge} {r : List Oper} :
    xHead Γ ops H (⟨dst, op, ty, pos, af, none⟩ :: r) T KT' = xquiet Γ op (ev T) H fun v => xHead Γ ops H r (putT T dst v) KT' := rfl
theorem xHead_consG {dst : Option Tmp} {op : Op} {ty : TypeId} {pos : String} {af : Array Edge} {j : Nat} {w : Bool} {r : List Oper} :
    xHead Γ ops H (⟨dst, op, ty, pos, af, some (j, w)⟩ :: r) T KT' = xguard T (some ((ops[j]?).bind (·.dst), w)) (fun T => xquiet Γ op (ev T) H fun v => xHead Γ ops H r (putT T dst v) KT') (fun T => xHead Γ ops H r (putT T dst undefT) KT') := rfl
theorem xguard_none {r s : List TV → Prop} : xguard T none r s = r T := rfl
theorem xguard_some {d : Tmp} {w : Bool} {r s : List TV → Prop} : xguard T (some (some d, w)) r s = xguardV (T.getD d undefT) T d w r s := rfl
theorem xguardV_bool {t w : Bool} {d : Tmp} {r s : List TV → Prop} : xguardV (.s (.v (.bool t))) T d w r s = if t = w then r (T.set d (.s (.v (.bool w)))) else s (T.set d (.s (.v (.bool !w)))) := by
  have e : xguardV (.s (.v (.bool t))) T d w r s = ((t = w → r (T.set d (.s (.v (.bool w))))) ∧ (t = !w → s (T.set d (.s (.v (.bool !w)))))) := rfl
  rw [e]
  cases t <;> cases w <;> simp
theorem xguardV_tup {l : List AV} {w : Bool} {d : Tmp} {r s : List TV → Prop} : xguardV (.tup l) T d w r s = s T := rfl
theorem xguardV_undef {w : Bool} {d : Tmp} {r s : List TV → Prop} : xguardV undefT T d w r s = s T := rfl
theorem putT_some {d : Tmp} {v : TV} : putT T (some d) v = T.set d v := rfl
theorem putT_none {v : TV} : putT T none v = T := rfl
theorem ev_tmp {t : Tmp} : ev T (.tmp t) = T.getD t undefT := rfl
theorem ev_const {v : Value} : ev T (.const v) = .s (.v v) := rfl
theorem ev_global {g : Nat} : ev T (.global g) = .s (.v (.pointer (some ⟨g, 0, none⟩))) := rfl
theorem ev_func {f : FuncId} : ev T (.func f) = .s (.v (.func (.func f) #[] #[])) := rfl
theorem app_none : HE.app .none H = H := rfl
theorem app_new {b : AB} : HE.app (.new b) H = H ++ [b] := rfl
theorem app_put {j : Nat} {cs : List SV} : HE.app (.put j cs) H = putH H j cs := rfl
theorem putH_zero {b : AB} {cs : List SV} : putH (b :: H) 0 cs = ⟨b.t, cs⟩ :: H := rfl
theorem putH_succ {b : AB} {j : Nat} {cs : List SV} : putH (b :: H) (j + 1) cs = b :: putH H j cs := rfl
theorem st_call {c : Call} : xstep Γ (.call c) E H KK = xcall Γ c E H KK := rfl
theorem st_move {x : Operand} : xstep Γ (.move x) E H KK = KK (E x) H := rfl
theorem st_assign {x : Operand} : xstep Γ (.assign x) E H KK = KK (E x) H := rfl
theorem st_pick {c a b : Operand} : xstep Γ (.pick c a b) E H KK = xpick (E c) (E a) (E b) fun v e => KK v (e.app H) := rfl
theorem st_alloc {e : TypeId} : xstep Γ (.alloc e) E H KK = xnew Γ e (zeroA Γ.P e) H.length fun v e => KK v (e.app H) := rfl
theorem st_box {e : TypeId} {x : Operand} : xstep Γ (.box e x) E H KK = xnew Γ e (cellsOf (E x)) H.length fun v e => KK v (e.app H) := rfl
theorem st_build {t : TypeId} {ps : List (Nat × Operand)} : xstep Γ (.build t ps.toArray) E H KK = (known Γ.P t = true ∧ xbuild ((zeroA Γ.P t).bind fun z => fillA (placeOf Γ.P t) z (ps.map fun p => (p.1, cellsOf (E p.2)))) fun v e => KK v (e.app H)) := rfl
theorem st_load {t : TypeId} {a : Operand} : xstep Γ (.load t a) E H KK = xload Γ t (E a) H fun v e => KK v (e.app H) := rfl
theorem st_store {t : TypeId} {a x : Operand} : xstep Γ (.store t a x) E H KK = xstore Γ t (E a) (E x) H fun v e => KK v (e.app H) := rfl
theorem st_nilCheck {x : Operand} : xstep Γ (.nilCheck x) E H KK = xnil (E x) fun v e => KK v (e.app H) := rfl
theorem st_binOp {op : BinOp} {t ty : TypeId} {x y : Operand} : xstep Γ (.binOp op t x y ty) E H KK = xbin Γ.P op t (E x) (E y) fun v e => KK v (e.app H) := rfl
theorem st_unOp {op : UnOp} {t : TypeId} {x : Operand} : xstep Γ (.unOp op t x) E H KK = xun op (E x) fun v e => KK v (e.app H) := rfl
theorem st_convert {s d : TypeId} {x : Operand} : xstep Γ (.convert s d x) E H KK = xconv (intKindOf Γ.P s) (intKindOf Γ.P d) (E x) fun v e => KK v (e.app H) := rfl
theorem st_fieldAddr {s : TypeId} {x : Operand} {f : Nat} : xstep Γ (.fieldAddr s x f) E H KK = xfieldAddr (fieldOff Γ.P s f) (E x) fun v e => KK v (e.app H) := rfl
theorem st_field {s : TypeId} {x : Operand} {f : Nat} : xstep Γ (.field s x f) E H KK = xfield Γ.P (fieldOff Γ.P s f) (E x) fun v e => KK v (e.app H) := rfl
theorem st_indexAddr {t : TypeId} {x i : Operand} : xstep Γ (.indexAddr t x i) E H KK = xindexAddr Γ.P (arrOf Γ.P t) (slcOf Γ.P t) (E x) (E i) fun v e => KK v (e.app H) := rfl
theorem st_index {t : TypeId} {x i : Operand} : xstep Γ (.index t x i) E H KK = xindex Γ.P (arrOf Γ.P t) (E x) (E i) fun v e => KK v (e.app H) := rfl
theorem st_extract {x : Operand} {i : Nat} : xstep Γ (.extract x i) E H KK = xextract (E x) i fun v e => KK v (e.app H) := rfl
theorem st_makeFunc {g : FuncId} {a c : List Operand} : xstep Γ (.makeFunc (.func g) a.toArray c.toArray) E H KK = xmakeFunc g (plainsOf (a.map E)) (plainsOf (c.map E)) fun v e => KK v (e.app H) := rfl
theorem qt_call {c : Call} : xquiet Γ (.call c) E H KV = xcallH Γ c E H KV := rfl
theorem qt_move {x : Operand} : xquiet Γ (.move x) E H KV = KV (E x) := rfl
theorem qt_assign {x : Operand} : xquiet Γ (.assign x) E H KV = KV (E x) := rfl
theorem qt_pick {c a b : Operand} : xquiet Γ (.pick c a b) E H KV = xpick (E c) (E a) (E b) (quietK KV) := rfl
theorem qt_build {t : TypeId} {ps : List (Nat × Operand)} : xquiet Γ (.build t ps.toArray) E H KV = (known Γ.P t = true ∧ xbuild ((zeroA Γ.P t).bind fun z => fillA (placeOf Γ.P t) z (ps.map fun p => (p.1, cellsOf (E p.2)))) (quietK KV)) := rfl
theorem qt_load {t : TypeId} {a : Operand} : xquiet Γ (.load t a) E H KV = xload Γ t (E a) H (quietK KV) := rfl
theorem qt_nilCheck {x : Operand} : xquiet Γ (.nilCheck x) E H KV = xnil (E x) (quietK KV) := rfl
theorem qt_binOp {op : BinOp} {t ty : TypeId} {x y : Operand} : xquiet Γ (.binOp op t x y ty) E H KV = xbin Γ.P op t (E x) (E y) (quietK KV) := rfl
theorem qt_unOp {op : UnOp} {t : TypeId} {x : Operand} : xquiet Γ (.unOp op t x) E H KV = xun op (E x) (quietK KV) := rfl
theorem qt_convert {s d : TypeId} {x : Operand} : xquiet Γ (.convert s d x) E H KV = xconv (intKindOf Γ.P s) (intKindOf Γ.P d) (E x) (quietK KV) := rfl
theorem qt_fieldAddr {s : TypeId} {x : Operand} {f : Nat} : xquiet Γ (.fieldAddr s x f) E H KV = xfieldAddr (fieldOff Γ.P s f) (E x) (quietK KV) := rfl
theorem qt_field {s : TypeId} {x : Operand} {f : Nat} : xquiet Γ (.field s x f) E H KV = xfield Γ.P (fieldOff Γ.P s f) (E x) (quietK KV) := rfl
theorem qt_indexAddr {t : TypeId} {x i : Operand} : xquiet Γ (.indexAddr t x i) E H KV = xindexAddr Γ.P (arrOf Γ.P t) (slcOf Γ.P t) (E x) (E i) (quietK KV) := rfl
theorem qt_index {t : TypeId} {x i : Operand} : xquiet Γ (.index t x i) E H KV = xindex Γ.P (arrOf Γ.P t) (E x) (E i) (quietK KV) := rfl
theorem qt_extract {x : Operand} {i : Nat} : xquiet Γ (.extract x i) E H KV = xextract (E x) i (quietK KV) := rfl
theorem qt_makeFunc {g : FuncId} {a c : List Operand} : xquiet Γ (.makeFunc (.func g) a.toArray c.toArray) E H KV = xmakeFunc g (plainsOf (a.map E)) (plainsOf (c.map E)) (quietK KV) := rfl
theorem plainsOf_nil : plainsOf [] = some [] := rfl
theorem plainsOf_cons {x : Value} {l : List TV} : plainsOf (.s (.v x) :: l) = (plainsOf l).map (x :: ·) := rfl
theorem xmakeFunc_some {g : FuncId} {a b : List Value} : xmakeFunc g (some a) (some b) K = K (.s (.v (.func (.func g) a.toArray b.toArray))) .none := rfl
theorem cellsOf_func {f : Fn} {a b : Array Value} : cellsOf (.s (.v (.func f a b))) = some [.v (.func f a b)] := rfl
theorem one_func {f : Fn} {a b : Array Value} : (SV.v (.func f a b)).one = true := rfl
@[congr] theorem xmakeFunc_congr {g : FuncId} {a a' b b' : Option (List Value)} (h : a = a') (h2 : b = b') : xmakeFunc g a b K = xmakeFunc g a' b' K := by rw [h, h2]
theorem quietK_none {v : TV} : quietK KV v .none = KV v := rfl
theorem xpick_bool {t : Bool} {a b : TV} : xpick (.s (.v (.bool t))) a b K = K (pickT t a b) .none := rfl
theorem pickT_true {a b : TV} : pickT true a b = a := by unfold pickT; split <;> simp
theorem pickT_false {a b : TV} : pickT false a b = b := by unfold pickT; split <;> simp
theorem pickT_bool {t x y : Bool} : pickT t (.s (.v (.bool x))) (.s (.v (.bool y))) = .s (.v (.bool (if t then x else y))) := rfl
theorem xnew_some {e : TypeId} {cs : List SV} {n : Nat} : xnew Γ e (some cs) n K = (¬ Γ.ev.TM e ∧ K (.s (.p n 0)) (.new ⟨e, cs⟩)) := rfl
theorem xnewS_some {e : TypeId} {cs : List SV} {n m : Nat} : xnewS Γ e (some cs) n m K = (¬ Γ.ev.TM e ∧ K (.s (.sl n 0 m m)) (.new ⟨e, cs⟩)) := rfl
theorem cellsOf_agg {l : List SV} : cellsOf (.agg l) = some l := rfl
theorem cellsOf_vagg {l : List Value} : cellsOf (.s (.v (.agg l.toArray))) = some (l.map .v) := rfl
theorem cellsOf_int {k : IntKind} {n : Int} : cellsOf (.s (.v (.int k n))) = some [.v (.int k n)] := rfl
theorem cellsOf_bool {b : Bool} : cellsOf (.s (.v (.bool b))) = some [.v (.bool b)] := rfl
theorem cellsOf_string {s : ByteArray} : cellsOf (.s (.v (.string s))) = some [.v (.string s)] := rfl
theorem cellsOf_slice {a : Option Addr} {n c : Nat} : cellsOf (.s (.v (.slice a n c))) = some [.v (.slice a n c)] := rfl
theorem cellsOf_pointer {a : Option Addr} : cellsOf (.s (.v (.pointer a))) = some [.v (.pointer a)] := rfl
theorem cellsOf_p {j o : Nat} : cellsOf (.s (.p j o)) = some [.p j o] := rfl
theorem cellsOf_sl {j o n c : Nat} : cellsOf (.s (.sl j o n c)) = some [.sl j o n c] := rfl
theorem xload_p {t : TypeId} {j off : Nat} : xload Γ t (.s (.p j off)) H K = xpart (rowOf Γ.P t) (sz Γ.P t) off (H[j]?.map AB.cs) K := rfl
theorem xload_v {t : TypeId} {ad : Addr} : xload Γ t (.s (.v (.pointer (some ad)))) H K = xext Γ (rowOf Γ.P t) (sz Γ.P t) ad K := rfl
theorem xpart_row {n o : Nat} {cs : List SV} : xpart (some true) n o (some cs) K = (o + n ≤ cs.length ∧ K (.agg (part cs o n)) .none) := rfl
theorem xpart_one {n o : Nat} {cs : List SV} : xpart (some false) n o (some cs) K = xcell cs[o]? K := rfl
theorem xcell_some {x : SV} : xcell (some x) K = K (.s x) .none := rfl
theorem xstore_p {t : TypeId} {j off : Nat} {x : TV} : xstore Γ t (.s (.p j off)) x H K = xput (szO Γ.P t) off j H[j]? (cellsOf x) K := rfl
theorem xput_some {n : Option Nat} {o j : Nat} {b : AB} {cs : List SV} : xput n o j (some b) (some cs) K = (n = some cs.length ∧ o + cs.length ≤ b.cs.length ∧ oneAll cs ∧ K undefT (.put j (splice b.cs o cs))) := rfl
theorem splice_whole {bs cs : List SV} (h : cs.length = bs.length) : splice bs 0 cs = cs := by rw [splice_eq _ _ _ (by omega)]; simp [← h]
theorem splice_one {bs : List SV} {o : Nat} {x : SV} : splice bs o [x] = bs.set o x := rfl
theorem splice_all {bs cs : List SV} (h : cs.length = bs.length) (h2 : cs.length ≠ 1) : splice bs 0 cs = cs := by
  unfold splice
  split
  · simp at h2
  · simp [h]
theorem oneAll_nil : oneAll [] = True := by simp [oneAll]
theorem oneAll_cons {x : SV} {l : List SV} : oneAll (x :: l) = (x.one = true ∧ oneAll l) := by simp [oneAll]
theorem one_int {k : IntKind} {n : Int} : (SV.v (.int k n)).one = true := rfl
theorem one_bool {b : Bool} : (SV.v (.bool b)).one = true := rfl
theorem one_slice {a : Option Addr} {n c : Nat} : (SV.v (.slice a n c)).one = true := rfl
theorem one_pointer {a : Option Addr} : (SV.v (.pointer a)).one = true := rfl
theorem one_p {j o : Nat} : (SV.p j o).one = true := rfl
theorem one_sl {j o n c : Nat} : (SV.sl j o n c).one = true := rfl
theorem xnil_p {j o : Nat} : xnil (.s (.p j o)) K = K (.s (.p j o)) .none := rfl
theorem xnil_v {ad : Addr} : xnil (.s (.v (.pointer (some ad)))) K = K (.s (.v (.pointer (some ad)))) .none := rfl
theorem xbin_int {P : Program} {op : BinOp} {t : TypeId} {k k' : IntKind} {m n : Int} : xbin P op t (.s (.v (.int k m))) (.s (.v (.int k' n))) K = xint op k m k' n K := rfl
theorem xbin_bool {P : Program} {op : BinOp} {t : TypeId} {x y : Bool} : xbin P op t (.s (.v (.bool x))) (.s (.v (.bool y))) K = xeqB (isBoolT P t) (eqNeg op) (x == y) K := rfl
theorem xbin_agg {P : Program} {op : BinOp} {t : TypeId} {a b : List SV} : xbin P op t (.agg a) (.agg b) K = xeqR P t (eqNeg op) (.agg a) (.agg b) K := rfl
theorem xbin_aggv {P : Program} {op : BinOp} {t : TypeId} {a : List SV} {b : Array Value} : xbin P op t (.agg a) (.s (.v (.agg b))) K = xeqR P t (eqNeg op) (.agg a) (.s (.v (.agg b))) K := rfl
theorem xbin_vagg {P : Program} {op : BinOp} {t : TypeId} {a : Array Value} {b : List SV} : xbin P op t (.s (.v (.agg a))) (.agg b) K = xeqR P t (eqNeg op) (.s (.v (.agg a))) (.agg b) K := rfl
theorem xbin_pnil {P : Program} {op : BinOp} {t : TypeId} {j o : Nat} : xbin P op t (.s (.p j o)) (.s (.v (.pointer none))) K = xeqB (isPtr P t) (eqNeg op) false K := rfl
theorem xbin_vnil {P : Program} {op : BinOp} {t : TypeId} {x : Option Addr} : xbin P op t (.s (.v (.pointer x))) (.s (.v (.pointer none))) K = xeqB (isPtr P t) (eqNeg op) x.isNone K := rfl
theorem xeqB_eql {ok r : Bool} : xeqB ok (eqNeg .eql) r K = (ok = true ∧ K (.s (.v (.bool r))) .none) := rfl
theorem xeqB_neq {ok r : Bool} : xeqB ok (eqNeg .neq) r K = (ok = true ∧ K (.s (.v (.bool !r))) .none) := rfl
theorem xeqR_eql {P : Program} {t : TypeId} {a b : TV} : xeqR P t (eqNeg .eql) a b K = xeqA (eqTy P t) false (litsA P t (cellsOf a)) (litsA P t (cellsOf b)) K := rfl
theorem xeqR_neq {P : Program} {t : TypeId} {a b : TV} : xeqR P t (eqNeg .neq) a b K = xeqA (eqTy P t) true (litsA P t (cellsOf a)) (litsA P t (cellsOf b)) K := rfl
theorem xeqA_false {ok : Bool} {x y : List Lit} : xeqA ok false (some x) (some y) K = (ok = true ∧ K (.s (.v (.bool (litsEq x y)))) .none) := rfl
theorem xeqA_true {ok : Bool} {x y : List Lit} : xeqA ok true (some x) (some y) K = (ok = true ∧ K (.s (.v (.bool !(litsEq x y)))) .none) := rfl
theorem xint_add {k k' : IntKind} {m n : Int} : xint .add k m k' n K = (k = k' ∧ K (.s (.v (.int k (k.wrap (m + n))))) .none) := rfl
theorem xint_sub {k k' : IntKind} {m n : Int} : xint .sub k m k' n K = (k = k' ∧ K (.s (.v (.int k (k.wrap (m - n))))) .none) := rfl
theorem xint_mul {k k' : IntKind} {m n : Int} : xint .mul k m k' n K = (k = k' ∧ K (.s (.v (.int k (k.wrap (m * n))))) .none) := rfl
theorem xint_quo {k k' : IntKind} {m n : Int} : xint .quo k m k' n K = (k = k' ∧ n ≠ 0 ∧ K (.s (.v (.int k (k.wrap (m.tdiv n))))) .none) := rfl
theorem xint_rem {k k' : IntKind} {m n : Int} : xint .rem k m k' n K = (k = k' ∧ n ≠ 0 ∧ K (.s (.v (.int k (m.tmod n)))) .none) := rfl
theorem xint_and {k k' : IntKind} {m n : Int} : xint .and k m k' n K = (k = k' ∧ K (.s (.v (.int k (bits .and k m n)))) .none) := rfl
theorem xint_or {k k' : IntKind} {m n : Int} : xint .or k m k' n K = (k = k' ∧ K (.s (.v (.int k (bits .or k m n)))) .none) := rfl
theorem xint_xor {k k' : IntKind} {m n : Int} : xint .xor k m k' n K = (k = k' ∧ K (.s (.v (.int k (bits .xor k m n)))) .none) := rfl
theorem xint_eql {k k' : IntKind} {m n : Int} : xint .eql k m k' n K = (k = k' ∧ K (.s (.v (.bool (m == n)))) .none) := rfl
theorem xint_neq {k k' : IntKind} {m n : Int} : xint .neq k m k' n K = (k = k' ∧ K (.s (.v (.bool (m != n)))) .none) := rfl
theorem xint_lss {k k' : IntKind} {m n : Int} : xint .lss k m k' n K = (k = k' ∧ K (.s (.v (.bool (decide (m < n))))) .none) := rfl
theorem xint_leq {k k' : IntKind} {m n : Int} : xint .leq k m k' n K = (k = k' ∧ K (.s (.v (.bool (decide (m ≤ n))))) .none) := rfl
theorem xint_gtr {k k' : IntKind} {m n : Int} : xint .gtr k m k' n K = (k = k' ∧ K (.s (.v (.bool (decide (n < m))))) .none) := rfl
theorem xint_geq {k k' : IntKind} {m n : Int} : xint .geq k m k' n K = (k = k' ∧ K (.s (.v (.bool (decide (n ≤ m))))) .none) := rfl
theorem xint_shl {k k' : IntKind} {m n : Int} : xint .shl k m k' n K = (0 ≤ n ∧ K (.s (.v (.int k (k.wrap (m * 2 ^ (min n.toNat k.bits)))))) .none) := rfl
theorem xint_shr {k k' : IntKind} {m n : Int} : xint .shr k m k' n K = (0 ≤ n ∧ K (.s (.v (.int k (m.fdiv (2 ^ (min n.toNat k.bits)))))) .none) := rfl
theorem bits_u64 : IntKind.bits .u64 = 64 := rfl
theorem bits_u32 : IntKind.bits .u32 = 32 := rfl
theorem bits_i64 : IntKind.bits .i64 = 64 := rfl
theorem bits_u8 : IntKind.bits .u8 = 8 := rfl
theorem xun_neg {k : IntKind} {n : Int} : xun .neg (.s (.v (.int k n))) K = K (.s (.v (.int k (k.wrap (0 - n))))) .none := rfl
theorem xun_not {b : Bool} : xun .not (.s (.v (.bool b))) K = K (.s (.v (.bool (!b)))) .none := rfl
theorem xconv_int {s d k : IntKind} {n : Int} : xconv (some s) (some d) (.s (.v (.int k n))) K = K (.s (.v (.int d (d.wrap n)))) .none := rfl
theorem xfieldAddr_p {o : Nat} {t : TypeId} {j off : Nat} : xfieldAddr (some (o, t)) (.s (.p j off)) K = K (.s (.p j (off + o))) .none := rfl
theorem xfieldAddr_v {o : Nat} {t : TypeId} {ad : Addr} : xfieldAddr (some (o, t)) (.s (.v (.pointer (some ad)))) K = K (.s (.v (.pointer (some (ad.add o))))) .none := rfl
theorem xfield_some {P : Program} {o : Nat} {t : TypeId} {a : TV} : xfield P (some (o, t)) a K = (Ab.isAgg a = true ∧ xpart (rowOf P t) (P.cellsOf t) o (cellsOf a) K) := rfl
theorem isAgg_agg {l : List SV} : Ab.isAgg (.agg l) = true := rfl
theorem isAgg_vagg {l : Array Value} : Ab.isAgg (.s (.v (.agg l))) = true := rfl
theorem xindexAddr_arr {P : Program} {n : Nat} {e : TypeId} {s : Option TypeId} {j off : Nat} {k : IntKind} {i : Int} : xindexAddr P (some (n, e)) s (.s (.p j off)) (.s (.v (.int k i))) K = ((0 ≤ i ∧ i < (n : Int)) ∧ K (.s (.p j (off + i.toNat * P.cellsOf e))) .none) := rfl
theorem xindexAddr_sl {P : Program} {e : TypeId} {j off n c : Nat} {k : IntKind} {i : Int} : xindexAddr P none (some e) (.s (.sl j off n c)) (.s (.v (.int k i))) K = ((0 ≤ i ∧ i < (n : Int)) ∧ K (.s (.p j (off + i.toNat * P.cellsOf e))) .none) := rfl
theorem xindexAddr_vsl {P : Program} {e : TypeId} {ad : Addr} {n c : Nat} {k : IntKind} {i : Int} : xindexAddr P none (some e) (.s (.v (.slice (some ad) n c))) (.s (.v (.int k i))) K = ((0 ≤ i ∧ i < (n : Int)) ∧ K (.s (.v (.pointer (some (ad.add (i.toNat * P.cellsOf e)))))) .none) := rfl
theorem xindex_arr {P : Program} {n : Nat} {e : TypeId} {a : TV} {k : IntKind} {i : Int} : xindex P (some (n, e)) a (.s (.v (.int k i))) K = (Ab.isAgg a = true ∧ (0 ≤ i ∧ i < (n : Int)) ∧ xpart (rowOf P e) (P.cellsOf e) (i.toNat * P.cellsOf e) (cellsOf a) K) := rfl
theorem xextract_zero {a : AV} {l : List AV} : xextract (.tup (a :: l)) 0 K = K a.tv .none := rfl
theorem xextract_succ {a : AV} {l : List AV} {i : Nat} : xextract (.tup (a :: l)) (i + 1) K = xextract (.tup l) i K := rfl
theorem tv_s {x : SV} : (AV.s x).tv = .s x := rfl
theorem tv_agg {l : List SV} : (AV.agg l).tv = .agg l := rfl
theorem xbuild_some {cs : List SV} : xbuild (some cs) K = K (.agg cs) .none := rfl
theorem xcall_value {g : Operand} {as : List Operand} {ts : Array TypeId} : xcall Γ ⟨.value g, as.toArray, ts⟩ E H KK = xcalled Γ H (xfun (E g)) (as.map E) KK := rfl
theorem xcall_len {x : Operand} {t : TypeId} : xcall Γ ⟨.builtin .len, #[x], #[t]⟩ E H KK = xlen (isSlc Γ.P t) (E x) fun v => KK v H := rfl
theorem xcallH_value {g : Operand} {as : List Operand} {ts : Array TypeId} : xcallH Γ ⟨.value g, as.toArray, ts⟩ E H KV = xcalledV Γ H (xfun (E g)) (as.map E) KV := rfl
theorem xcallH_len {x : Operand} {t : TypeId} : xcallH Γ ⟨.builtin .len, #[x], #[t]⟩ E H KV = xlen (isSlc Γ.P t) (E x) KV := rfl
theorem xfun_func {f : FuncId} : xfun (.s (.v (.func (.func f) #[] #[]))) = some (f, [], []) := rfl
theorem xfun_funcs {f : FuncId} {a c : List Value} : xfun (.s (.v (.func (.func f) a.toArray c.toArray))) = some (f, a.map (fun v => .s (.v v)), c.map (fun v => .s (.v v))) := rfl
theorem xcalled_first {f : FuncId} {x : TV} {a as : List TV} : xcalled Γ H (some (f, x :: a, [])) as KK = xcallF Γ H f (x :: (a ++ as)) KK := by simp [xcalled]
theorem xcalled_cap {f : FuncId} {x : TV} {c as : List TV} : xcalled Γ H (some (f, [], x :: c)) as KK = xcallF Γ H f (as ++ x :: c) KK := by simp [xcalled]
theorem xcalledV_first {f : FuncId} {x : TV} {a as : List TV} : xcalledV Γ H (some (f, x :: a, [])) as KV = xcallV Γ H f (x :: (a ++ as)) KV := by simp [xcalledV]
theorem xcalledV_cap {f : FuncId} {x : TV} {c as : List TV} : xcalledV Γ H (some (f, [], x :: c)) as KV = xcallV Γ H f (as ++ x :: c) KV := by simp [xcalledV]
theorem xcalled_some {f : FuncId} {as : List TV} : xcalled Γ H (some (f, [], [])) as KK = xcallF Γ H f as KK := by simp [xcalled]
theorem xcalledV_some {f : FuncId} {as : List TV} : xcalledV Γ H (some (f, [], [])) as KV = xcallV Γ H f as KV := by simp [xcalledV]
theorem xlen_v {ok : Bool} {a : Option Addr} {n c : Nat} : xlen ok (.s (.v (.slice a n c))) KV = (ok = true ∧ KV (.s (.v (.int .i64 (n : Int))))) := rfl
theorem xlen_sl {ok : Bool} {j o n c : Nat} : xlen ok (.s (.sl j o n c)) KV = (ok = true ∧ KV (.s (.v (.int .i64 (n : Int))))) := rfl
def fillB (pl : Nat → Option (Nat × Nat)) (cells v : List SV) (r : List (Nat × Option (List SV))) : Option (Nat × Nat) → Option (List SV)
  | some (off, n) => if v.length = n ∧ off + v.length ≤ cells.length then fillA pl (setAt cells off v) r else none
  | none => none
theorem fillA_nil {pl : Nat → Option (Nat × Nat)} {cells : List SV} : fillA pl cells [] = some cells := rfl
theorem fillA_cons {pl : Nat → Option (Nat × Nat)} {cells v : List SV} {i : Nat} {r : List (Nat × Option (List SV))} : fillA pl cells ((i, some v) :: r) = fillB pl cells v r (pl i) := by
  simp only [fillA]
  cases h : pl i with
  | none => rfl
  | some p =>
    obtain ⟨off, n⟩ := p
    simp only [fillB]
    by_cases h1 : v.length = n ∧ off + v.length ≤ cells.length
    · rw [if_pos h1, if_neg (by simpa using h1)]
    · rw [if_neg h1, if_pos (by simp; omega)]
theorem fillB_some {pl : Nat → Option (Nat × Nat)} {cells v : List SV} {r : List (Nat × Option (List SV))} {off n : Nat} : fillB pl cells v r (some (off, n)) = if v.length = n ∧ off + v.length ≤ cells.length then fillA pl (setAt cells off v) r else none := rfl
theorem setAt_one {cells : List SV} {off : Nat} {x : SV} : setAt cells off [x] = cells.set off x := rfl
theorem xTr_nil : xTr Γ ops KL .nil true T H = KL T H := rfl
theorem xTr_false : xTr Γ ops KL .nil false T H = True := rfl
theorem xTr_cons {i : Nat} {sub rest : Tr} {b : Bool} : xTr Γ ops KL (.cons i sub rest) b T H = (xAt Γ ops ops[i]? T H (fun T H => xTr Γ ops KL sub true T H) ∧ xTr Γ ops KL rest false T H) := by
  simp only [xTr, xAt]
  all_goals (cases ops[i]? <;> rfl)
theorem xAt_some {o : Oper} : xAt Γ ops (some o) T H KL = xOps Γ ops [o] T H KL := rfl
/-! Tryz# Results, states that come again -/
theorem retQ_normal {P : Program} {rs : List ResultVar} : retQ P rs KK .normal T H = retV (resAll P T H rs) fun v => KK v H := rfl
theorem retQ_ret {P : Program} {rs : List ResultVar} : retQ P rs KK .ret T H = retV (resAll P T H rs) fun v => KK v H := rfl
theorem retV_one {a : AV} : retV (some [a]) KV = KV a.tv := rfl
theorem retV_nil : retV (some []) KV = KV (.tup []) := rfl
theorem retV_more {a b : AV} {l : List AV} : retV (some (a :: b :: l)) KV = KV (.tup (a :: b :: l)) := rfl
theorem resAll_nil {P : Program} : resAll P T H [] = some [] := rfl
theorem resAll_cons {P : Program} {r : ResultVar} {rs : List ResultVar} : resAll P T H (r :: rs) = consO (resOne P T H r) (resAll P T H rs) := rfl
theorem consO_some {a : AV} {l : List AV} : consO (some a) (some l) = some (a :: l) := rfl
theorem resOne_tmp {P : Program} {t : Tmp} : resOne P T H (.tmp t) = toAV (T.getD t undefT) := rfl
def resAt (P : Program) (x : TV) (H : Heap) (ty : TypeId) : Option AV := match x with | .s (.p j off) => resCell (rowOf P ty) (P.cellsOf ty) off (H[j]?.map AB.cs) | _ => none
theorem resOne_cell {P : Program} {a : Tmp} {ty : TypeId} : resOne P T H (.cell a ty) = resAt P (T.getD a undefT) H ty := rfl
theorem resAt_p {P : Program} {j off : Nat} {ty : TypeId} : resAt P (.s (.p j off)) H ty = resCell (rowOf P ty) (P.cellsOf ty) off (H[j]?.map AB.cs) := rfl
theorem resCell_row {n off : Nat} {cs : List SV} : resCell (some true) n off (some cs) = if off + n ≤ cs.length then some (.agg (part cs off n)) else none := rfl
theorem resCell_one {n off : Nat} {cs : List SV} : resCell (some false) n off (some cs) = (cs[off]?).map .s := rfl
theorem toAV_s {x : SV} : toAV (.s x) = some (.s x) := rfl
theorem toAV_agg {l : List SV} : toAV (.agg l) = some (.agg l) := rfl
theorem setMany_nil : setMany T [] = T := rfl
theorem setMany_cons {d : Nat} {v : TV} {r : List (Nat × TV)} : setMany T ((d, v) :: r) = setMany (T.set d v) r := rfl
theorem junk_nil {us : Nat → Value} : junk us [] = [] := rfl
theorem junk_cons {us : Nat → Value} {d : Nat} {r : List Nat} : junk us (d :: r) = (d, .s (.v (us d))) :: junk us r := rfl
theorem setCells_nil : setCells H [] = H := rfl
theorem setCells_cons {j : Nat} {cs : List SV} {r : List (Nat × List SV)} : setCells H ((j, cs) :: r) = setCells (putH H j cs) r := rfl
theorem agreeT_nil {js : List Nat} {sv : List (Nat × TV)} {i : Nat} : agreeT js sv i [] [] = True := rfl
theorem agreeT_cons {js : List Nat} {sv : List (Nat × TV)} {i : Nat} {x y : TV} : agreeT js sv i (x :: T) (y :: T') = (agreeS (sv.lookup i) (js.contains i) x y ∧ agreeT js sv (i + 1) T T') := rfl
theorem agreeS_some {v x y : TV} {j : Bool} : agreeS (some v) j x y = (y = v) := rfl
theorem agreeS_true {x y : TV} : agreeS none true x y = True := rfl
theorem agreeS_false {x y : TV} : agreeS none false x y = (y = x) := rfl
theorem lookup_cons {d i : Nat} {v : TV} {r : List (Nat × TV)} : List.lookup i ((d, v) :: r) = if i = d then some v else List.lookup i r := by
  simp only [List.lookup_cons]
  by_cases h : i = d
  · simp [h]
  · have : (i == d) = false := by simpa using h
    simp [h, this]
theorem prefix_ex {G : Heap} : (∃ G', H ++ G = H ++ G') = True := by simp
theorem prefix_ex0 : (∃ G', H = H ++ G') = True := by simp
theorem ctx0_P {P : Program} {w : World} : (ctx0 P w).P = P := rfl
theorem ctx0_TM {P : Program} {w : World} {e : TypeId} : (ctx0 P w).ev.TM e = False := rfl
/-! Tryz# Numbers -/
theorem wrap_i64_id {x : Int} (h : -9223372036854775808 ≤ x ∧ x < 9223372036854775808) : IntKind.i64.wrap x = x := by
  rw [IntKind.wrap_i64]
  omega
theorem wrap_u64 (x : Int) : IntKind.u64.wrap x = x % 18446744073709551616 := by rfl
theorem tdiv_nn {m n : Int} (h : 0 ≤ m) : m.tdiv n = m / n := Int.tdiv_eq_ediv_of_nonneg h
theorem tmod_nn {m n : Int} (h : 0 ≤ m) : m.tmod n = m % n := Int.tmod_eq_emod_of_nonneg h
theorem fdiv_pow (m : Int) (n : Nat) : m.fdiv (2 ^ n) = m / 2 ^ n := Int.fdiv_eq_ediv_of_nonneg m (Int.pow_nonneg (by omega))
end
end Go.Ab
