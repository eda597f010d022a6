/-
  What one operation does to an abstract state; continuation-passing, so that simp walks it.
-/
import Derived.Test.YtmipfmjeppodmaaAb1
namespace Go.Ab
open Go Go.RowKit
set_option linter.unusedSimpArgs false
set_option linter.unusedVariables false

/-- An operand's value. -/
def ev (T : List TV) : Operand → TV
  | .tmp t => T.getD t undefT
  | .const v => .s (.v v)
  | .global g => .s (.v (.pointer (some ⟨g, 0, none⟩)))
  | .func f => .s (.v (.func (.func f) #[] #[]))

theorem eval_ev {β : Nat → Nat} {T : List TV} {a : Act} (h : a.tmps = (T.map (TV.conc β)).toArray) (x : Operand) : a.eval x = (ev T x).conc β := by
  cases x with
  | tmp t =>
    simp only [Act.eval, ev, h]
    simp only [Array.getD_eq_getD_getElem?, List.getElem?_toArray, List.getElem?_map, List.getD_eq_getElem?_getD]
    cases T[t]? <;> simp
  | const v => rfl
  | global g => rfl
  | func f => rfl

/-- The cells of a value. -/
def cellsOf : TV → Option (List SV)
  | .s (.v (.agg cs)) => some (cs.toList.map .v)
  | .s (.v (.tuple _)) => none
  | .s x => some [x]
  | .agg l => some l
  | .tup _ => none

theorem cellsOf_conc {t : TV} {l : List SV} (h : cellsOf t = some l) (β : Nat → Nat) : (t.conc β).cells = (l.map (SV.conc β)).toArray := by
  cases t with
  | s x =>
    cases x with
    | v x =>
      cases x <;> simp only [cellsOf, Option.some.injEq, reduceCtorEq] at h <;> subst h <;> simp [TV.conc, SV.conc, Value.cells, Function.comp_def]
    | p j off => simp only [cellsOf, Option.some.injEq] at h; subst h; rfl
    | sl j off len cap => simp only [cellsOf, Option.some.injEq] at h; subst h; rfl
  | agg l => simp only [cellsOf, Option.some.injEq] at h; subst h; rfl
  | tup l => simp [cellsOf] at h

/-- How many cells. -/
abbrev sz (P : Program) (t : TypeId) : Nat := P.cellsOf t
/-- A type of rows: an array, a struct. -/
def isRow (P : Program) (t : TypeId) : Bool := match P.underlying t with | some (.struct _) => true | some (.array _ _) => true | _ => false
def zeroV (P : Program) (t : TypeId) : Option Value := (P.info? t).bind (·.zero)
def zeroA (P : Program) (t : TypeId) : Option (List SV) := (zeroV P t).bind fun v => cellsOf (.s (.v v))

/-- What becomes of our blocks. -/
inductive HE where
  | none
  | new (b : AB)
  | put (j : Nat) (cs : List SV)

def putH (H : Heap) (j : Nat) (cs : List SV) : Heap := H.modify j fun b => { b with cs }
def HE.app : HE → Heap → Heap
  | .none, H => H
  | .new b, H => H ++ [b]
  | .put j cs, H => putH H j cs

/-- Cells out of the middle. -/
def part (cs : List SV) (off n : Nat) : List SV := if off = 0 ∧ n = cs.length then cs else (cs.drop off).take n
theorem part_eq (cs : List SV) (off n : Nat) : part cs off n = (cs.drop off).take n := by
  unfold part
  split
  · rename_i h; obtain ⟨rfl, rfl⟩ := h; simp
  · rfl
/-- Cells into the middle. -/
def splice (bs : List SV) (off : Nat) (cs : List SV) : List SV :=
  match cs with
  | [x] => bs.set off x
  | cs => if off = 0 ∧ cs.length = bs.length then cs else bs.take off ++ (cs ++ bs.drop (off + cs.length))
theorem splice_eq (bs : List SV) (off : Nat) (cs : List SV) (h : off + cs.length ≤ bs.length) : splice bs off cs = bs.take off ++ (cs ++ bs.drop (off + cs.length)) := by
  unfold splice
  split
  · rename_i x
    simp only [List.length_cons, List.length_nil, Nat.zero_add, List.singleton_append] at h ⊢
    rw [List.set_eq_take_append_cons_drop, if_pos (by omega)]
  · split
    · rename_i h2; obtain ⟨rfl, h2⟩ := h2
      simp [h2]
    · rfl

def SV.one : SV → Bool
  | .v x => x.oneCell'
  | _ => true
def oneAll (cs : List SV) : Prop := ∀ c ∈ cs, c.one = true

abbrev KT := TV → HE → Prop

def pickT (t : Bool) (a b : TV) : TV :=
  match a, b with
  | .s (.v (.bool x)), .s (.v (.bool y)) => .s (.v (.bool (if t then x else y)))
  | a, b => if t then a else b
def xpick (c a b : TV) (K : KT) : Prop := match c with | .s (.v (.bool t)) => K (pickT t a b) .none | _ => False
def xnew (Γ : Ctx) (e : TypeId) (cs : Option (List SV)) (n : Nat) (K : KT) : Prop := match cs with | some cs => ¬ Γ.ev.TM e ∧ K (.s (.p n 0)) (.new ⟨e, cs⟩) | none => False
def xval (v : Option TV) (K : KT) : Prop := match v with | some v => K v .none | none => False

/-- A cell outside: as it was when we began; it may not turn. -/
def extCell (Γ : Ctx) (ad : Addr) (x : Value) : Prop :=
  ∃ c t f, ad.spot = none ∧ Γ.W.heap[ad.block]? = some (.cells c t f) ∧ c[ad.off]? = some x ∧ ¬ Γ.own ad.block ∧ ¬ Γ.ev.TM t

def xcell (x : Option SV) (K : KT) : Prop := match x with | some x => K (.s x) .none | none => False
def xrow (cs : List SV) (off n : Nat) (K : KT) : Prop := off + n ≤ cs.length ∧ K (.agg (part cs off n)) .none
/-- A row, one cell, or not known. -/
def rowOf (P : Program) (t : TypeId) : Option Bool := match P.underlying t with | some (.struct _) => some true | some (.array _ _) => some true | some _ => some false | none => none
def xpart (row : Option Bool) (n off : Nat) (cs : Option (List SV)) (K : KT) : Prop :=
  match row, cs with
  | some true, some cs => xrow cs off n K
  | some false, some cs => xcell cs[off]? K
  | _, _ => False
def xext (Γ : Ctx) (row : Option Bool) (n : Nat) (ad : Addr) (K : KT) : Prop :=
  match row with
  | some true => ∃ l : List Value, l.length = n ∧ ad.spot = none ∧ (∀ i x, l[i]? = some x → extCell Γ ⟨ad.block, ad.off + i, none⟩ x) ∧ K (.agg (l.map .v)) .none
  | some false => ∃ x, extCell Γ ad x ∧ K (.s (.v x)) .none
  | none => False
def xload (Γ : Ctx) (t : TypeId) (a : TV) (H : Heap) (K : KT) : Prop :=
  match a with
  | .s (.p j off) => xpart (rowOf Γ.P t) (sz Γ.P t) off (H[j]?.map AB.cs) K
  | .s (.v (.pointer (some ad))) => xext Γ (rowOf Γ.P t) (sz Γ.P t) ad K
  | _ => False
def szO (P : Program) (t : TypeId) : Option Nat := (P.info? t).map (·.size)
def xput (n : Option Nat) (off j : Nat) (b : Option AB) (cs : Option (List SV)) (K : KT) : Prop :=
  match b, cs with
  | some b, some cs => n = some cs.length ∧ off + cs.length ≤ b.cs.length ∧ oneAll cs ∧ K undefT (.put j (splice b.cs off cs))
  | _, _ => False
def xstore (Γ : Ctx) (t : TypeId) (a x : TV) (H : Heap) (K : KT) : Prop :=
  match a with
  | .s (.p j off) => xput (szO Γ.P t) off j H[j]? (cellsOf x) K
  | _ => False
def xnil (x : TV) (K : KT) : Prop :=
  match x with
  | .s (.p _ _) => K x .none
  | .s (.v (.pointer (some _))) => K x .none
  | .s (.v (.func (.func _) _ _)) => K x .none
  | _ => False

def intOp (op : BinOp) (k : IntKind) (m n : Int) (K : KT) : Prop :=
  match op with
  | .add => K (.s (.v (.int k (k.wrap (m + n))))) .none
  | .sub => K (.s (.v (.int k (k.wrap (m - n))))) .none
  | .mul => K (.s (.v (.int k (k.wrap (m * n))))) .none
  | .quo => n ≠ 0 ∧ K (.s (.v (.int k (k.wrap (m.tdiv n))))) .none
  | .rem => n ≠ 0 ∧ K (.s (.v (.int k (m.tmod n)))) .none
  | .and => K (.s (.v (.int k (bits .and k m n)))) .none
  | .or => K (.s (.v (.int k (bits .or k m n)))) .none
  | .xor => K (.s (.v (.int k (bits .xor k m n)))) .none
  | .andNot => K (.s (.v (.int k (bits .andNot k m n)))) .none
  | .eql => K (.s (.v (.bool (m == n)))) .none
  | .neq => K (.s (.v (.bool (m != n)))) .none
  | .lss => K (.s (.v (.bool (decide (m < n))))) .none
  | .leq => K (.s (.v (.bool (decide (m ≤ n))))) .none
  | .gtr => K (.s (.v (.bool (decide (m > n))))) .none
  | .geq => K (.s (.v (.bool (decide (m ≥ n))))) .none
  | _ => False
def shiftOp (op : BinOp) (k : IntKind) (m n : Int) (K : KT) : Prop :=
  match op with
  | .shl => 0 ≤ n ∧ K (.s (.v (.int k (k.wrap (m * 2 ^ (min n.toNat k.bits)))))) .none
  | .shr => 0 ≤ n ∧ K (.s (.v (.int k (m.fdiv (2 ^ (min n.toNat k.bits)))))) .none
  | _ => False
def isShift : BinOp → Bool
  | .shl | .shr => true
  | _ => false


/-- The values of cells, where none has an address of ours. -/
def valsOf : List SV → Option (List Value)
  | [] => some []
  | .v x :: l => (valsOf l).map (x :: ·)
  | _ :: _ => none
def litEq : Lit → Lit → Bool
  | .bool a, .bool b => a == b
  | .int j a, .int k b => decide (j = k) && a == b
  | .float j a, .float k b => decide (j = k) && a == b
  | .string a, .string b => a == b
  | .nil, .nil => true
  | _, _ => false
theorem litEq_iff (x y : Lit) : litEq x y = true ↔ x = y := by
  cases x <;> cases y <;> simp [litEq]
def litsEq : List Lit → List Lit → Bool
  | [], [] => true
  | a :: l, b :: m => litEq a b && litsEq l m
  | _, _ => false
theorem litsEq_iff : ∀ (x y : List Lit), litsEq x y = true ↔ x = y
  | [], [] => by simp [litsEq]
  | [], _ :: _ => by simp [litsEq]
  | _ :: _, [] => by simp [litsEq]
  | a :: l, b :: m => by simp [litsEq, litEq_iff, litsEq_iff l m]
/-- What '==' looks at: the letters of a value of the type. -/
def litsA (P : Program) (t : TypeId) (x : Option (List SV)) : Option (List Lit) := (x.bind valsOf).bind (P.keyLits 9 t)
def eqTy (P : Program) (t : TypeId) : Bool := isRow P t && P.keyTypeAt 9 t && !P.eqGuardType P.depth t
def xeqA (ok neg : Bool) (x y : Option (List Lit)) (K : KT) : Prop :=
  match x, y with
  | some x, some y => ok = true ∧ K (.s (.v (.bool (if neg then !litsEq x y else litsEq x y)))) .none
  | _, _ => False
def isPtr (P : Program) (t : TypeId) : Bool := match P.underlying t with | some (.pointer _) => true | _ => false
def isSlc (P : Program) (t : TypeId) : Bool := match P.underlying t with | some (.slice _) => true | _ => false
def isBoolT (P : Program) (t : TypeId) : Bool := match P.underlying t with | some .bool => true | _ => false
def eqNeg : BinOp → Option Bool
  | .eql => some false
  | .neq => some true
  | _ => none
def xeqB (ok : Bool) (neg : Option Bool) (r : Bool) (K : KT) : Prop :=
  match neg with
  | some neg => ok = true ∧ K (.s (.v (.bool (if neg then !r else r)))) .none
  | none => False
def xeqR (P : Program) (t : TypeId) (neg : Option Bool) (a b : TV) (K : KT) : Prop :=
  match neg with
  | some neg => xeqA (eqTy P t) neg (litsA P t (cellsOf a)) (litsA P t (cellsOf b)) K
  | none => False
def strOp (op : BinOp) (x y : ByteArray) (K : KT) : Prop :=
  match op with
  | .eql => K (.s (.v (.bool (x == y)))) .none
  | .neq => K (.s (.v (.bool (x != y)))) .none
  | _ => False
def xint (op : BinOp) (k : IntKind) (m : Int) (k' : IntKind) (n : Int) (K : KT) : Prop :=
  if isShift op then shiftOp op k m n K else k = k' ∧ intOp op k m n K
def xbin (P : Program) (op : BinOp) (t : TypeId) (a b : TV) (K : KT) : Prop :=
  match a, b with
  | .s (.v (.int k m)), .s (.v (.int k' n)) => xint op k m k' n K
  | .s (.v (.bool x)), .s (.v (.bool y)) => xeqB (isBoolT P t) (eqNeg op) (x == y) K
  | .s (.v (.string x)), .s (.v (.string y)) => strOp op x y K
  | .s (.p _ _), .s (.v (.pointer none)) => xeqB (isPtr P t) (eqNeg op) false K
  | .s (.v (.pointer x)), .s (.v (.pointer none)) => xeqB (isPtr P t) (eqNeg op) x.isNone K
  | .s (.sl _ _ _ _), .s (.v (.slice none 0 0)) => xeqB (isSlc P t) (eqNeg op) false K
  | .s (.v (.slice x _ _)), .s (.v (.slice none 0 0)) => xeqB (isSlc P t) (eqNeg op) x.isNone K
  | .agg a, .agg b => xeqR P t (eqNeg op) (.agg a) (.agg b) K
  | .agg a, .s (.v (.agg b)) => xeqR P t (eqNeg op) (.agg a) (.s (.v (.agg b))) K
  | .s (.v (.agg a)), .agg b => xeqR P t (eqNeg op) (.s (.v (.agg a))) (.agg b) K
  | .s (.v (.agg a)), .s (.v (.agg b)) => xeqR P t (eqNeg op) (.s (.v (.agg a))) (.s (.v (.agg b))) K
  | _, _ => False
def xun (op : UnOp) (a : TV) (K : KT) : Prop :=
  match op, a with
  | .neg, .s (.v (.int k n)) => K (.s (.v (.int k (k.wrap (0 - n))))) .none
  | .xor, .s (.v (.int k n)) => K (.s (.v (.int k (bits .xor k (if k.signed then -1 else k.max) n)))) .none
  | .not, .s (.v (.bool b)) => K (.s (.v (.bool (!b)))) .none
  | _, _ => False
def intKindOf (P : Program) (t : TypeId) : Option IntKind := match P.underlying t with | some (.int k) => some k | _ => none
def xconv (src dst : Option IntKind) (a : TV) (K : KT) : Prop :=
  match src, dst, a with
  | some _, some d, .s (.v (.int _ n)) => K (.s (.v (.int d (d.wrap n)))) .none
  | _, _, _ => False

/-- A struct's field: where its cells begin; nothing where the field has none. -/
def fieldOff (P : Program) (s : TypeId) (f : Nat) : Option (Nat × TypeId) :=
  match P.underlying s with
  | some (.struct fs) => match fs[f]? with | some fd => if P.cellsOf fd.type = 0 then none else some (fd.offset, fd.type) | none => none
  | _ => none
def xfieldAddr (f : Option (Nat × TypeId)) (a : TV) (K : KT) : Prop :=
  match f, a with
  | some (o, _), .s (.p j off) => K (.s (.p j (off + o))) .none
  | some (o, _), .s (.v (.pointer (some ad))) => K (.s (.v (.pointer (some (ad.add o))))) .none
  | _, _ => False
def isAgg : TV → Bool
  | .agg _ => true
  | .s (.v (.agg _)) => true
  | _ => false
def xfield (P : Program) (f : Option (Nat × TypeId)) (a : TV) (K : KT) : Prop :=
  match f with
  | some (o, t) => isAgg a = true ∧ xpart (rowOf P t) (P.cellsOf t) o (cellsOf a) K
  | none => False
/-- An array's or a slice's element: how many there are (an array), how many cells one has. -/
def arrOf (P : Program) (t : TypeId) : Option (Nat × TypeId) := match P.underlying t with | some (.array n e) => if (P.info? e).isSome then some (n, e) else none | _ => none
def slcOf (P : Program) (t : TypeId) : Option TypeId := match P.underlying t with | some (.slice e) => if (P.info? e).isSome then some e else none | _ => none
def inRange (i : Int) (n : Nat) : Prop := 0 ≤ i ∧ i < (n : Int)
def xindexAddr (P : Program) (arr : Option (Nat × TypeId)) (slc : Option TypeId) (a i : TV) (K : KT) : Prop :=
  match i with
  | .s (.v (.int _ i)) =>
    match arr with
    | some (n, e) =>
      match a with
      | .s (.p j off) => inRange i n ∧ K (.s (.p j (off + i.toNat * P.cellsOf e))) .none
      | .s (.v (.pointer (some ad))) => inRange i n ∧ K (.s (.v (.pointer (some (ad.add (i.toNat * P.cellsOf e)))))) .none
      | _ => False
    | none =>
      match slc with
      | some e =>
        match a with
        | .s (.sl j off n _) => inRange i n ∧ K (.s (.p j (off + i.toNat * P.cellsOf e))) .none
        | .s (.v (.slice (some ad) n _)) => inRange i n ∧ K (.s (.v (.pointer (some (ad.add (i.toNat * P.cellsOf e)))))) .none
        | _ => False
      | none => False
  | _ => False
def xindex (P : Program) (arr : Option (Nat × TypeId)) (a i : TV) (K : KT) : Prop :=
  match i with
  | .s (.v (.int _ i)) =>
    match arr, a with
    | some (n, e), _ => isAgg a = true ∧ inRange i n ∧ xpart (rowOf P e) (P.cellsOf e) (i.toNat * P.cellsOf e) (cellsOf a) K
    | none, _ => False
  | _ => False
def xextract (x : TV) (i : Nat) (K : KT) : Prop :=
  match x with
  | .tup l => match l[i]? with | some a => K a.tv .none | none => False
  | _ => False

/-- A composite's cells. -/
def setAt (cells : List SV) (off : Nat) (vs : List SV) : List SV := vs.zipIdx.foldl (fun cs (c, j) => cs.set (off + j) c) cells
def fillA (place : Nat → Option (Nat × Nat)) (cells : List SV) : List (Nat × Option (List SV)) → Option (List SV)
  | [] => some cells
  | (i, v) :: rest =>
    match place i, v with
    | some (off, size), some v => if v.length ≠ size || off + v.length > cells.length then none else fillA place (setAt cells off v) rest
    | _, _ => none
def placeOf (P : Program) (t : TypeId) (i : Nat) : Option (Nat × Nat) :=
  match P.underlying t with
  | some (.array _ e) => some (i * P.cellsOf e, P.cellsOf e)
  | some (.struct fs) => (fs[i]?).map fun f => (f.offset, P.cellsOf f.type)
  | _ => none
def xbuild (cs : Option (List SV)) (K : KT) : Prop := match cs with | some cs => K (.agg cs) .none | none => False
/-- All types of a struct's fields, of an array's elements, are known. -/
def known (P : Program) (t : TypeId) : Bool :=
  match P.underlying t with
  | some (.array _ e) => (P.info? e).isSome
  | some (.struct fs) => fs.all fun f => (P.info? f.type).isSome
  | _ => false
def slice0 (P : Program) (e : TypeId) (len : Nat) : Option (List SV) :=
  (zeroA P e).bind fun z => if len * P.cellsOf e > 16777216 ∨ z.length ≠ P.cellsOf e then none else some ((List.range (len * P.cellsOf e)).map fun i => z.getD (i % z.length) (.v undef))
def xnewS (Γ : Ctx) (e : TypeId) (cs : Option (List SV)) (n len : Nat) (K : KT) : Prop :=
  match cs with | some cs => ¬ Γ.ev.TM e ∧ K (.s (.sl n 0 len len)) (.new ⟨e, cs⟩) | none => False


/-- One operation that calls no function of the text's. -/
def xop (Γ : Ctx) (op : Op) (E : Operand → TV) (H : Heap) (K : KT) : Prop :=
  match op with
  | .move x => K (E x) .none
  | .assign x => K (E x) .none
  | .pick c a b => xpick (E c) (E a) (E b) K
  | .alloc e => xnew Γ e (zeroA Γ.P e) H.length K
  | .box e x => xnew Γ e (cellsOf (E x)) H.length K
  | .build t ps => known Γ.P t = true ∧ xbuild ((zeroA Γ.P t).bind fun z => fillA (placeOf Γ.P t) z (ps.toList.map fun p => (p.1, cellsOf (E p.2)))) K
  | .buildSlice t len ps => match slcOf Γ.P t with
    | some e => xnewS Γ e ((slice0 Γ.P e len).bind fun z => fillA (fun i => some (i * Γ.P.cellsOf e, Γ.P.cellsOf e)) z (ps.toList.map fun p => (p.1, cellsOf (E p.2)))) H.length len K
    | none => False
  | .load t a => xload Γ t (E a) H K
  | .store t a x => xstore Γ t (E a) (E x) H K
  | .nilCheck x => xnil (E x) K
  | .binOp op t x y _ => xbin Γ.P op t (E x) (E y) K
  | .unOp op _ x => xun op (E x) K
  | .convert s d x => xconv (intKindOf Γ.P s) (intKindOf Γ.P d) (E x) K
  | .fieldAddr s x f => xfieldAddr (fieldOff Γ.P s f) (E x) K
  | .field t x f => xfield Γ.P (fieldOff Γ.P t f) (E x) K
  | .indexAddr t x i => xindexAddr Γ.P (arrOf Γ.P t) (slcOf Γ.P t) (E x) (E i) K
  | .index t x i => xindex Γ.P (arrOf Γ.P t) (E x) (E i) K
  | .extract x i => xextract (E x) i K
  | _ => False

end Go.Ab
