/-
  Texts laid together: Ab9, Ab10, Ab11, Ab12, Ab13, Ab14, Ab15, Ab16, Ab17, Ab18, Ab19, Ab20, Ab21.
  Functions that read what is known and hand back new blocks; what is added to a row, in one law.
  What is added to a row that has something: both ways, each told outright.
  The laws of groups in plain numbers.
  Numbers in rows: what appends and slices need.
  A statement whose order is open: its quiet operations by their own laws (slices too), whatever new blocks come among them.
-/
import Derived.WalkKit
import Derived.StillTail
import Derived.Deep.MidRow
import Derived.DeepKeys
import Derived.Deep.LoopGhost
import Derived.Deep.Quiet
import Derived.Laws.AppendOwn
import Derived.Laws.MakeOwn
import Derived.Laws.Cover3
import Derived.Laws.IdiomCopy
import Derived.Laws.CopyRow
import Derived.Laws.BitsAllLaws
import Derived.Laws.Bits128
import Derived.Lib.BitFns
import Derived.DeepKeys3
import Derived.MapKept
import Derived.Test.YtdmcknmjdlghgaaDoorProg
import Derived.Shelf.Bits.Mul64
import Derived.Shelf.Strconv.Itoa0
import Derived.Shelf.Spec.BitsCarry
import Derived.Tactics
import Derived.Tactics2
import Derived.Defers
import Derived.Laws.Pointers
import Derived.Laws.LoneSync
import Derived.RegionTactic
import Derived.RegionCalls
import Derived.ChangeAlike
import Derived.KernelRfl
import Derived.Laws.NewBlocks
import Derived.Test.YtdmcknmjdlghgaaDoorZ01
import Derived.Test.YtdmcknmjdlghgaaDoorZ02
import Derived.Test.YtdmcknmjdlghgaaDoorZ03
import Derived.Test.YtdmcknmjdlghgaaDoorZ04
import Derived.Test.YtdmcknmjdlghgaaDoorZ07
import Derived.Test.YtdmcknmjdlghgaaDoorZ09
/-
  A drawn statement's head, an operation at a time.
-/
namespace Go.Ab
open Go Go.RowKit
set_option linter.unusedSimpArgs false
set_option linter.unusedVariables false

section
variable {Γ : Ctx} {ops : Array Oper} {H : Heap} {T T' : List TV} {K : List TV → Prop} {dst : Option Tmp} {op : Op} {ty : TypeId} {pos : String} {af : Array Edge} {j : Nat} {w : Bool} {r : List Oper}
end

section
variable {Γ : Ctx} {ops : Array Oper} {H H' : Heap} {T T' : List TV} {K : List TV → Heap → Prop} {dst : Option Tmp} {op : Op} {ty : TypeId} {pos : String} {af : Array Edge} {j : Nat} {w : Bool} {r : List Oper}
end
end Go.Ab

/-
  A statement whose order is open, where its last part (new blocks, stores) may come ahead of what only reads and calls:
  what is read and called is quiet in every world of a family: our blocks as they were, but for some that may hold whatever, and new ones.
-/
namespace Go.Ab
open Go Go.RowKit
set_option linter.unusedSimpArgs false
set_option linter.unusedVariables false

section
variable {P : Program} {ops : Array Oper} {md : Region.Mode} {σ : Type} {D : σ → World → Prop}

end

/-! Tryd# Abstractly -/
section
variable {Γ : Ctx} {ops : Array Oper} {H H' H0 : Heap} {M : List Nat} {T T' : List TV} {K : List TV → Prop} {KL : List TV → Heap → Prop} {KV : TV → Prop} {E : Operand → TV} {dst : Option Tmp} {op : Op} {ty : TypeId} {pos : String} {af : Array Edge} {j i : Nat} {w b : Bool} {r : List Oper}
end
end Go.Ab

/-
  Loops whose states hold new blocks: at each round's end our blocks are chosen anew, by their places.
-/
namespace Go.Ab
open Go Go.RowKit
set_option linter.unusedSimpArgs false
set_option linter.unusedVariables false

def renS (L : List Nat) (sv : List (Nat × TV)) : List (Nat × TV) := sv.map fun p => (p.1, p.2.ren (lk L))

theorem renS_lookup (L : List Nat) (k : Nat) : ∀ l : List (Nat × TV), (renS L l).lookup k = (l.lookup k).map (TV.ren (lk L))
  | [] => rfl
  | (d, v) :: r => by
    have ih := renS_lookup L k r
    simp only [renS, List.map_cons, List.lookup_cons] at ih ⊢
    cases hkp : (k == d) with
    | true => rfl
    | false => exact ih

def AgainT {ι : Type} (T : List TV) (n : Nat) (V : ι → Prop) (js : List Nat) (sv : ι → List (Nat × TV)) (Hs : ι → Heap) (T' : List TV) (H' : Heap) (i : ι) : Prop :=
  V i ∧ ∃ L : List Nat, (L.Nodup ∧ L.take n = List.range n) ∧ agreeT js (renS L (sv i)) 0 T T' ∧ selH L H' (Hs i)

/-- The side conditions, once for all. -/
def ShapeT {ι : Type} (V : ι → Prop) (n : Nat) (sv : ι → List (Nat × TV)) (Hs : ι → Heap) : Prop :=
  ∀ i, V i → ((sv i).map (·.1)).Nodup ∧ (∀ p ∈ sv i, p.2.ok (Hs i).length) ∧ n ≤ (Hs i).length ∧ ∀ b ∈ Hs i, ∀ x ∈ b.cs, x.ok n

theorem St.againT {Γ : Ctx} {ι : Type} {T : List TV} {n : Nat} {V : ι → Prop} {js : List Nat} {sv : ι → List (Nat × TV)} {Hs : ι → Heap}
    (hsh : ShapeT V n sv Hs) (hnj : js.Nodup) (hT : ∀ x ∈ T, x.ok n) (hn : Γ.n0 ≤ n)
    {T' : List TV} {H' : Heap} {a : Act} {w : World} {i : ι} (h : AgainT T n V js sv Hs T' H' i) (hs : St Γ T' H' a w) :
    ∃ us, St Γ (setMany (setMany T (junk us js)) (sv i)) (Hs i) a w := by
  obtain ⟨hV, L, ⟨hLn, hLt⟩, hag, hsel⟩ := h
  obtain ⟨hnd, hoks, hle, hcs⟩ := hsh i hV
  obtain ⟨β, hT', hR, hd⟩ := hs
  obtain ⟨hl, hk⟩ := agreeT_spec js (renS L (sv i)) 0 T T' hag
  obtain ⟨hlen, hblk⟩ := selH_spec hsel
  have hfix : ∀ k, k < n → lk L k = k := fun k hk => by
    have h1 : (L.take n)[k]? = (List.range n)[k]? := by rw [hLt]
    rw [List.getElem?_take, if_pos hk, List.getElem?_range hk] at h1
    simp [lk, h1]
  have hlt : ∀ k, k < (Hs i).length → ∃ b, (Hs i)[k]? = some b ∧ H'[lk L k]? = some b := fun k hk => by
    obtain ⟨l, h1, h2⟩ := hblk k _ (List.getElem?_eq_getElem hk)
    exact ⟨_, List.getElem?_eq_getElem hk, by simp only [lk, List.getD_eq_getElem?_getD, h1, Option.getD_some]; exact h2⟩
  have hagβ : Agrees n β (β ∘ lk L) := fun k hk => by simp [Function.comp, hfix k hk]
  let us : Nat → Value := fun d => (T'.getD d undefT).conc β
  have hjn : ((junk us js).map (·.1)).Nodup := by simpa [junk, Function.comp_def] using hnj
  have hslot : ∀ (k : Nat) (y : TV), T'[k]? = some y → ∃ z : TV, (setMany (setMany T (junk us js)) (sv i))[k]? = some z ∧ z.conc (β ∘ lk L) = y.conc β ∧ z.ok (Hs i).length := by
    intro k y hy
    have hkl : k < T.length := by rw [hl]; exact (List.getElem?_eq_some_iff.1 hy).1
    have hx : T[k]? = some T[k] := List.getElem?_eq_getElem hkl
    have h1 := hk k T[k] y hx hy
    rw [Nat.zero_add] at h1
    rw [setMany_get _ hnd _ k (by rw [setMany_length]; exact hkl)]
    have hlkr := renS_lookup L k (sv i)
    rw [hlkr] at h1
    cases hlk : (sv i).lookup k with
    | some v =>
      simp only [hlk, Option.map_some] at h1
      subst h1
      refine ⟨v, rfl, (TV.conc_ren _ _ _).symm, ?_⟩
      obtain ⟨l1, l2, he, _⟩ := List.lookup_eq_some_iff.1 hlk
      exact hoks (k, v) (by rw [he]; simp)
    | none =>
      simp only [hlk, Option.map_none] at h1
      simp only
      rw [setMany_get _ hjn _ k hkl, junk_lookup]
      by_cases hc : js.contains k = true
      · simp only [hc, if_true]
        refine ⟨_, rfl, ?_, trivial⟩
        simp only [TV.conc, SV.conc, us, List.getD_eq_getElem?_getD, hy, Option.getD_some]
      · rcases h1 with h1 | h1
        · exact absurd h1 hc
        · simp only [hc, hx]
          subst h1
          have ho := hT _ (List.getElem_mem hkl)
          refine ⟨_, rfl, TV.conc_ok ho hagβ, ?_⟩
          exact TV.ok_mono ho hle
  refine ⟨us, β ∘ lk L, Holds.of_ok ?_ ?_, ?_, hd⟩
  · rw [hT' β (.refl _ _)]
    congr 1
    apply List.ext_getElem?
    intro k
    simp only [List.getElem?_map]
    cases hy : T'[k]? with
    | none =>
      have : T'.length ≤ k := List.getElem?_eq_none_iff.1 hy
      rw [List.getElem?_eq_none (by rw [setMany_length, setMany_length, hl]; exact this)]
      rfl
    | some y =>
      obtain ⟨z, hz, hc, _⟩ := hslot k y hy
      rw [hz]
      simp [hc]
  · intro z hz
    obtain ⟨k, hk'⟩ := List.mem_iff_getElem?.1 hz
    have hkl : k < T'.length := by
      have := (List.getElem?_eq_some_iff.1 hk').1
      rw [setMany_length, setMany_length, hl] at this
      exact this
    obtain ⟨z', hz', _, ho⟩ := hslot k T'[k] (List.getElem?_eq_getElem hkl)
    rw [hk'] at hz'
    injection hz' with hz'
    subst hz'
    exact ho
  · have hlt' : ∀ k, k < (Hs i).length → lk L k < H'.length := fun k hk => by
      obtain ⟨b, _, h2⟩ := hlt k hk
      exact (List.getElem?_eq_some_iff.1 h2).1
    refine ⟨⟨Nat.le_trans hn hle, hR.anc.2.trans (hagβ.mono hn)⟩, hR.fr, fun p q hp hq he => ?_, fun k hk => hR.lie _ (hlt' k hk), fun k b hb => ?_, fun β' h' k b hb => ?_⟩
    · have h1 := hR.inj _ _ (hlt' p hp) (hlt' q hq) he
      have hpL : p < L.length := by rw [← hlen]; exact hp
      have hqL : q < L.length := by rw [← hlen]; exact hq
      simp only [lk, List.getD_eq_getElem?_getD, List.getElem?_eq_getElem hpL, List.getElem?_eq_getElem hqL, Option.getD_some] at h1
      exact nodup_inj hLn hpL hqL h1
    · obtain ⟨b', h1, h2⟩ := hlt k (List.getElem?_eq_some_iff.1 hb).1
      rw [hb] at h1
      injection h1 with h1
      subst h1
      exact hR.typ _ b h2
    · obtain ⟨b', h1, h2⟩ := hlt k (List.getElem?_eq_some_iff.1 hb).1
      rw [hb] at h1
      injection h1 with h1
      subst h1
      have h3 := hR.blk β (.refl _ _) _ b h2
      rw [Function.comp_apply, h3]
      have hc := hcs b (List.mem_of_getElem? hb)
      simp only [AB.conc]
      rw [SV.concs_ok hc (hagβ.trans (h'.mono hle))]

def loopT {ι : Type} (T : List TV) (n : Nat) (V : ι → Prop) (μ : ι → Nat) (js : List Nat) (sv : ι → List (Nat × TV)) (Hs : ι → Heap) (i : ι) (Q : QX) : QX :=
  seqQ (fun T' H' => ∃ i', μ i' < μ i ∧ AgainT T n V js sv Hs T' H' i') Q

/-- A LOOP, its blocks chosen anew. -/
theorem X_loopT {Γ : Ctx} {c : Code} {T : List TV} {H : Heap} {Q : QX} {ι : Type} (V : ι → Prop) (μ : ι → Nat) (js : List Nat) (sv : ι → List (Nat × TV)) (Hs : ι → Heap) (i0 : ι)
    (hsh : ShapeT V H.length sv Hs) (hnj : js.Nodup) (h0 : AgainT T H.length V js sv Hs T H i0)
    (hr : ∀ i us, V i → X Γ c (setMany (setMany T (junk us js)) (sv i)) (Hs i) (loopT T H.length V μ js sv Hs i Q)) : XL Γ (.loop c) T H Q := by
  rw [XL_eq]
  intro a w hs
  obtain ⟨oT, oH, on⟩ := hs.oks
  refine wp_loop_ghost (fun n a w => ∃ i us, V i ∧ μ i = n ∧ St Γ (setMany (setMany T (junk us js)) (sv i)) (Hs i) a w) (μ i0) ?_ ?_
  · obtain ⟨us, h⟩ := hs.againT hsh hnj oT on h0
    exact ⟨i0, us, h0.1, rfl, h⟩
  · rintro n a w ⟨i, us, hV, rfl, hs'⟩
    refine wp_mono (hr i us hV a w hs') fun e a' w' ⟨T', H', hq, hs''⟩ => ?_
    cases e with
    | normal =>
      obtain ⟨i', hlt, hag⟩ := hq
      obtain ⟨us', h⟩ := hs''.againT hsh hnj oT on hag
      exact ⟨μ i', hlt, i', us', hag.1, rfl, h⟩
    | _ => exact ⟨T', H', hq, hs''⟩
end Go.Ab

/-
  A statement's operations, more of them: new slices, and what is added to one; each step by its own law.
-/
namespace Go.Ab
open Go Go.RowKit
set_option linter.unusedSimpArgs false
set_option linter.unusedVariables false

section
variable {Γ : Ctx} {ops : Array Oper} {H H' : Heap} {T T' : List TV} {K : List TV → Heap → Prop} {dst : Option Tmp} {op : Op} {ty : TypeId} {pos : String} {af : Array Edge} {j : Nat} {w : Bool} {r : List Oper}
/-! Tryd# New slices -/
/-! Tryd# What is added to a slice -/
end
end Go.Ab

/-
  Functions that hand back new slices; functions that read what lies where an argument says.
-/
namespace Go.Ab
open Go Go.RowKit
set_option linter.unusedSimpArgs false
set_option linter.unusedVariables false

end Go.Ab

/-
  Pieces of code, one ahead of another; rules for loops with new blocks.
-/
namespace Go.Ab
open Go Go.RowKit
set_option linter.unusedSimpArgs false
set_option linter.unusedVariables false

theorem xappend_nil {Γ : Ctx} {e : TypeId} {nw : TypeId → Option (List SV × Nat)} {H : Heap} {K : TV → Heap → Prop} {news : List SV} {m : Nat} (hn : nw e = some (news, m)) :
    xappend Γ (some e) (.s (.v (.slice none 0 0))) nw H K = ((0 < m ∧ apOK Γ.P e m ∧ ¬ Γ.ev.TM e) ∧ ∀ (c : Nat) (sp : List Value), m ≤ c → sp.length = (c - m) * sz Γ.P e → K (.s (.sl H.length 0 m c)) (H ++ [⟨e, news ++ sp.map .v⟩])) := by
  unfold xappend
  simp only [hn]
theorem xappend_sl {Γ : Ctx} {e : TypeId} {nw : TypeId → Option (List SV × Nat)} {H : Heap} {K : TV → Heap → Prop} {news : List SV} {m j n cap : Nat} {b : AB} (hn : nw e = some (news, m)) (hb : H[j]? = some b) :
    xappend Γ (some e) (.s (.sl j 0 n cap)) nw H K = ((b.t = e ∧ cap * sz Γ.P e ≤ b.cs.length ∧ n ≤ cap ∧ apOK Γ.P e (n + m) ∧ oneAll news ∧ ¬ Γ.ev.TM e) ∧
        (n + m ≤ cap → K (.s (.sl j 0 (n + m) cap)) (putH H j (b.cs.take (n * sz Γ.P e) ++ news ++ b.cs.drop (n * sz Γ.P e + news.length)))) ∧
        (cap < n + m → ∀ (c : Nat) (sp : List Value), n + m ≤ c → sp.length = (c - (n + m)) * sz Γ.P e → K (.s (.sl H.length 0 (n + m) c)) (H ++ [⟨e, b.cs.take (n * sz Γ.P e) ++ news ++ sp.map .v⟩]))) := by
  unfold xappend
  simp only [hn, hb, Option.some.injEq, exists_eq_left']
theorem xappend_nil_i {Γ : Ctx} {e : TypeId} {nw : TypeId → Option (List SV × Nat)} {H : Heap} {K : TV → Heap → Prop} {news : List SV} {m : Nat} (hn : nw e = some (news, m)) (h1 : 0 < m) (h2 : apOK Γ.P e m) (h3 : ¬ Γ.ev.TM e)
    (h : ∀ (c : Nat) (sp : List Value), m ≤ c → sp.length = (c - m) * sz Γ.P e → K (.s (.sl H.length 0 m c)) (H ++ [⟨e, news ++ sp.map .v⟩])) : xappend Γ (some e) (.s (.v (.slice none 0 0))) nw H K := by
  rw [xappend_nil hn]
  exact ⟨⟨h1, h2, h3⟩, h⟩
theorem xappend_sl_i {Γ : Ctx} {e : TypeId} {nw : TypeId → Option (List SV × Nat)} {H : Heap} {K : TV → Heap → Prop} {news : List SV} {m j n cap : Nat} {b : AB} (hn : nw e = some (news, m)) (hb : H[j]? = some b) (ht : b.t = e)
    (hcap : cap * sz Γ.P e ≤ b.cs.length) (hnc : n ≤ cap) (hap : apOK Γ.P e (n + m)) (hone : oneAll news) (hTM : ¬ Γ.ev.TM e)
    (h1 : n + m ≤ cap → K (.s (.sl j 0 (n + m) cap)) (putH H j (b.cs.take (n * sz Γ.P e) ++ news ++ b.cs.drop (n * sz Γ.P e + news.length))))
    (h2 : cap < n + m → ∀ (c : Nat) (sp : List Value), n + m ≤ c → sp.length = (c - (n + m)) * sz Γ.P e → K (.s (.sl H.length 0 (n + m) c)) (H ++ [⟨e, b.cs.take (n * sz Γ.P e) ++ news ++ sp.map .v⟩])) : xappend Γ (some e) (.s (.sl j 0 n cap)) nw H K := by
  rw [xappend_sl hn hb]
  exact ⟨⟨ht, hcap, hnc, hap, hone, hTM⟩, h1, h2⟩
theorem renS_nil {L : List Nat} : renS L [] = [] := rfl
theorem renS_cons {L : List Nat} {d : Nat} {v : TV} {r : List (Nat × TV)} : renS L ((d, v) :: r) = (d, v.ren (lk L)) :: renS L r := rfl
end Go.Ab

/-
  Functions that change blocks of their caller's: which they need, what they leave.
-/
namespace Go.Ab
open Go Go.RowKit
set_option linter.unusedSimpArgs false
set_option linter.unusedVariables false

end Go.Ab

/-
  A statement whose order is open, once more: its last part waits for the head, also through others; the head and the last part go by laws of their own.
  Slices of arrays and of slices, arrays of slices, copy.
-/
namespace Go.Ab
open Go Go.RowKit
set_option linter.unusedSimpArgs false
set_option linter.unusedVariables false

section
variable {P : Program} {ops : Array Oper} {md : Region.Mode} {C : World → Prop}

end

/-! Tryd# The head by laws -/
section
variable {Γ : Ctx} {ops : Array Oper} {H : Heap} {T T' : List TV} {K : List TV → Prop} {dst : Option Tmp} {op : Op} {ty : TypeId} {pos : String} {af : Array Edge} {j : Nat} {w : Bool} {r : List Oper}
end
end Go.Ab

/-
  Laws of operations: slices of arrays and of slices, arrays of slices, copy.
-/
namespace Go.Ab
open Go Go.RowKit
set_option linter.unusedSimpArgs false
set_option linter.unusedVariables false

section
variable {Γ : Ctx} {ops : Array Oper} {H : Heap} {T : List TV} {dst : Option Tmp} {ty : TypeId} {pos : String} {af : Array Edge} {r : List Oper}
variable {K : TV → Prop} {KH : TV → Heap → Prop} {arr : Option (Nat × TypeId)} {slc : Option TypeId} {sz : TypeId → Nat} {lo hi : Option TV} {j off len cap n : Nat} {e : TypeId}
end
end Go.Ab

/-
  Calls that may change one block of ours, told of their arguments alone.
-/
namespace Go.Ab
open Go Go.RowKit
set_option linter.unusedSimpArgs false
set_option linter.unusedVariables false

section
variable {Γ : Ctx} {H : Heap} {M : List Nat} {f : FuncId} {args : List TV} {b b' : AB} {r : TV} {j o : Nat}
end
end Go.Ab

/-
  What is known of the world outside our blocks; functions that may let some blocks turn; blocks that are let go.
-/
namespace Go.Ab
open Go Go.RowKit
set_option linter.unusedSimpArgs false
set_option linter.unusedVariables false

section
variable {Γ : Ctx} {H : Heap} {M : List Nat} {f : FuncId} {args : List TV} {pre : Nat → World → Prop} {r : TV}
end
/-! Tryd# Blocks that are let go -/
section
variable {Γ : Ctx} {V : Evo} {B : Nat} {L : List Nat} {H : Heap} {β : Nat → Nat} {w : World}
end
end Go.Ab

/-
  The calls' laws once more, for a walk that goes by itself: the program, and what may turn, apart.
-/
namespace Go.Ab
open Go Go.RowKit
set_option linter.unusedSimpArgs false
set_option linter.unusedVariables false
section
variable {Γ : Ctx} {P : Program} {V : Evo} {H : Heap} {M : List Nat} {f : FuncId} {args : List TV} {b b' : AB} {r : TV} {j o : Nat} {pre : Nat → World → Prop} {K : TV → Heap → Prop} {KV : TV → Prop}
end
end Go.Ab

/-
  Our blocks in another order.
-/
namespace Go.Ab
open Go Go.RowKit
set_option linter.unusedSimpArgs false
set_option linter.unusedVariables false

section
variable {n : Nat} {a : TV} {l : List TV} {x : SV} {s : List SV} {y : AV} {v : List AV}
end
end Go.Ab
namespace Go.Ab
open Go Go.RowKit
set_option linter.unusedSimpArgs false
set_option linter.unusedVariables false

/-! Tryd# Rows that grow -/
/-- A row of n things, if it has any at block j. -/
def rowV (j n c : Nat) : SV := if n = 0 then .v (.slice none 0 0) else .sl j 0 n c
def rowS (j n c : Nat) : TV := .s (rowV j n c)
def rowH (e : TypeId) (n : Nat) (cs : List SV) (sp : List Value) : Heap := if n = 0 then [] else [⟨e, cs ++ sp.map .v⟩]
theorem rowS_0 {j c : Nat} : rowS j 0 c = .s (.v (.slice none 0 0)) := rfl
theorem rowV_s {j n c : Nat} (h : n ≠ 0) : rowV j n c = .sl j 0 n c := if_neg h
theorem rowS_s {j n c : Nat} (h : n ≠ 0) : rowS j n c = .s (.sl j 0 n c) := congrArg TV.s (rowV_s h)
theorem rowH_0 {e : TypeId} {cs : List SV} {sp : List Value} : rowH e 0 cs sp = [] := rfl
theorem rowH_s {e n : Nat} {cs : List SV} {sp : List Value} (h : n ≠ 0) : rowH e n cs sp = [⟨e, cs ++ sp.map .v⟩] := if_neg h
theorem rowV_ok {j n c m : Nat} (h : n ≠ 0 → j < m) : (rowV j n c).ok m := by
  unfold rowV
  split
  · trivial
  · rename_i h0; exact h h0
theorem rowS_ok {j n c m : Nat} (h : n ≠ 0 → j < m) : (rowS j n c).ok m := rowV_ok h
theorem ren_rowV {ρ : Nat → Nat} {j n c : Nat} : (rowV j n c).ren ρ = rowV (ρ j) n c := by
  unfold rowV
  split <;> rfl
theorem ren_rowS {ρ : Nat → Nat} {j n c : Nat} : (rowS j n c).ren ρ = rowS (ρ j) n c := congrArg TV.s ren_rowV
/-- What is added to a row: it lies where it lay, or anew behind all. -/
theorem xappend_row {Γ : Ctx} {e : TypeId} {nw : TypeId → Option (List SV × Nat)} {H : Heap} {K : TV → Heap → Prop} {news cs : List SV} {sp : List Value} {j n c : Nat} (hn : nw e = some (news, 1))
    (hb : n ≠ 0 → H[j]? = some ⟨e, cs ++ sp.map .v⟩ ∧ n ≤ c ∧ sp.length = (c - n) * sz Γ.P e) (hcs : cs.length = n * sz Γ.P e) (hnl : news.length = sz Γ.P e)
    (hap : apOK Γ.P e (n + 1)) (hone : oneAll news) (hTM : ¬ Γ.ev.TM e)
    (h : ∀ (j' c' : Nat) (sp' : List Value) (H' : Heap), n + 1 ≤ c' → sp'.length = (c' - (n + 1)) * sz Γ.P e → H'[j']? = some ⟨e, cs ++ news ++ sp'.map .v⟩ → (n ≠ 0 ∧ j' = j ∨ j' = H.length) → (∀ i, i < H.length → i ≠ j → H'[i]? = H[i]?) → (n = 0 → ∀ i, i < H.length → H'[i]? = H[i]?) →
      K (.s (.sl j' 0 (n + 1) c')) H') : xappend Γ (some e) (rowS j n c) nw H K := by
  by_cases h0 : n = 0
  · subst h0
    rw [rowS_0]
    have hc0 : cs = [] := List.eq_nil_of_length_eq_zero (by rw [hcs, Nat.zero_mul])
    subst hc0
    refine xappend_nil_i hn (by decide) hap hTM fun c' sp' hc hsp => ?_
    exact h H.length c' sp' _ hc hsp (by simp) (.inr rfl) (fun i hi _ => List.getElem?_append_left hi) fun _ i hi => List.getElem?_append_left hi
  · obtain ⟨hb, hnc, hsp⟩ := hb h0
    rw [rowS_s h0]
    have hlen : (cs ++ sp.map SV.v).length = c * sz Γ.P e := by
      rw [List.length_append, List.length_map, hcs, hsp, ← Nat.add_mul, Nat.add_sub_cancel' hnc]
    have htk : (cs ++ sp.map SV.v).take (n * sz Γ.P e) = cs := by rw [← hcs]; exact List.take_left' rfl
    refine xappend_sl_i hn hb rfl (by rw [hlen]; exact Nat.le_refl _) hnc hap hone hTM (fun hfit => ?_) fun hgr c' sp' hc hsp' => ?_
    · have hdr : (cs ++ sp.map SV.v).drop (n * sz Γ.P e + news.length) = (sp.drop (sz Γ.P e)).map SV.v := by
        rw [← hcs, hnl, List.drop_append, List.drop_of_length_le (by omega), List.nil_append, List.map_drop]
        congr 1
        omega
      simp only [htk, hdr]
      have hjl := (List.getElem?_eq_some_iff.1 hb).1
      refine h j c (sp.drop (sz Γ.P e)) _ hfit ?_ ?_ (.inl ⟨h0, rfl⟩) (fun i hi hne => ?_) fun h1 => absurd h1 h0
      · rw [List.length_drop, hsp, show c - n = c - (n + 1) + 1 by omega, Nat.add_mul, Nat.one_mul, Nat.add_sub_cancel]
      · rw [putH_get, if_pos rfl, hb]; rfl
      · rw [putH_get, if_neg fun h => hne h.symm]
    · simp only [htk]
      exact h H.length c' sp' _ hc hsp' (by simp) (.inr rfl) (fun i hi _ => List.getElem?_append_left hi) fun h1 => absurd h1 h0
end Go.Ab
namespace Go.Ab
open Go Go.RowKit
set_option linter.unusedSimpArgs false
set_option linter.unusedVariables false
theorem xappend_row2 {Γ : Ctx} {e : TypeId} {nw : TypeId → Option (List SV × Nat)} {H : Heap} {K : TV → Heap → Prop} {news cs : List SV} {sp : List Value} {j n c : Nat} (hn : nw e = some (news, 1)) (h0 : n ≠ 0)
    (hb : H[j]? = some ⟨e, cs ++ sp.map .v⟩) (hnc : n ≤ c) (hsp : sp.length = (c - n) * sz Γ.P e) (hcs : cs.length = n * sz Γ.P e) (hnl : news.length = sz Γ.P e)
    (hap : apOK Γ.P e (n + 1)) (hone : oneAll news) (hTM : ¬ Γ.ev.TM e)
    (h1 : ∀ sp' : List Value, n + 1 ≤ c → sp'.length = (c - (n + 1)) * sz Γ.P e → K (.s (.sl j 0 (n + 1) c)) (putH H j (cs ++ news ++ sp'.map .v)))
    (h2 : ∀ (c' : Nat) (sp' : List Value), n + 1 ≤ c' → sp'.length = (c' - (n + 1)) * sz Γ.P e → K (.s (.sl H.length 0 (n + 1) c')) (H ++ [⟨e, cs ++ news ++ sp'.map .v⟩])) : xappend Γ (some e) (rowS j n c) nw H K := by
  rw [rowS_s h0]
  have hlen : (cs ++ sp.map SV.v).length = c * sz Γ.P e := by
    rw [List.length_append, List.length_map, hcs, hsp, ← Nat.add_mul, Nat.add_sub_cancel' hnc]
  have htk : (cs ++ sp.map SV.v).take (n * sz Γ.P e) = cs := by rw [← hcs]; exact List.take_left' rfl
  refine xappend_sl_i hn hb rfl (by rw [hlen]; exact Nat.le_refl _) hnc hap hone hTM (fun hfit => ?_) fun hgr c' sp' hc hsp' => ?_
  · have hdr : (cs ++ sp.map SV.v).drop (n * sz Γ.P e + news.length) = (sp.drop (sz Γ.P e)).map SV.v := by
      rw [← hcs, hnl, List.drop_append, List.drop_of_length_le (by omega), List.nil_append, List.map_drop]
      congr 1
      omega
    simp only [htk, hdr]
    refine h1 (sp.drop (sz Γ.P e)) hfit ?_
    rw [List.length_drop, hsp, show c - n = c - (n + 1) + 1 by omega, Nat.add_mul, Nat.one_mul, Nat.add_sub_cancel]
  · simp only [htk]
    exact h2 c' sp' hc hsp'
end Go.Ab
namespace Go.Proofs.YtdmcknmjdlghgaaDoor
open Go Go.Ab
set_option linter.unusedSimpArgs false
set_option linter.unusedVariables false
set_option maxRecDepth 100000

theorem mulQ {P Q a b : Nat} (hP : 1 < P) (h : a ^ Q % P = 1) (h2 : b ^ Q % P = 1) : (a * b) ^ Q % P = 1 := by
  rw [Nat.mul_pow, Nat.mul_mod, h, h2, Nat.mul_one, Nat.mod_eq_of_lt hP]
/-! Tryd# One power, one product -/
/-! Tryd# GroupSums -/
/-! Tryd# GroupBack -/
/-! Tryd# GroupTurned -/
def prdN (a b : Nat → Nat) : Nat → Nat
  | 0 => 1
  | n + 1 => prdN a b n * a n ^ b n
theorem mulS_prd {P : Nat} (hP : 1 < P) (a b : Nat → Nat) : ∀ n, mulS P a b n = prdN a b n % P
  | 0 => (Nat.mod_eq_of_lt hP).symm
  | n + 1 => by
    show mulS P a b n * (a n ^ b n % P) % P = prdN a b n * a n ^ b n % P
    rw [mulS_prd hP a b n, ← Nat.mul_mod]
theorem prdN_cons {a b : Nat → Nat} : ∀ {n}, prdN a b (n + 1) = a 0 ^ b 0 * prdN (fun i => a (i + 1)) (fun i => b (i + 1)) n
  | 0 => by show 1 * a 0 ^ b 0 = a 0 ^ b 0 * 1; omega
  | n + 1 => by
    show prdN a b (n + 1) * a (n + 1) ^ b (n + 1) = a 0 ^ b 0 * (prdN (fun i => a (i + 1)) (fun i => b (i + 1)) n * a (n + 1) ^ b (n + 1))
    rw [prdN_cons, Nat.mul_assoc]
theorem prdN_congr {a b a' b' : Nat → Nat} : ∀ {n}, (∀ i, i < n → a i = a' i ∧ b i = b' i) → prdN a b n = prdN a' b' n
  | 0, _ => rfl
  | n + 1, h => by
    show prdN a b n * a n ^ b n = prdN a' b' n * a' n ^ b' n
    rw [prdN_congr fun i hi => h i (by omega), (h n (by omega)).1, (h n (by omega)).2]
theorem prdN_rev {a b : Nat → Nat} : ∀ {n}, prdN (fun i => a (n - 1 - i)) (fun i => b (n - 1 - i)) n = prdN a b n
  | 0 => rfl
  | n + 1 => by
    rw [prdN_cons]
    have h := prdN_rev (a := a) (b := b) (n := n)
    rw [prdN_congr (a' := fun i => a (n - 1 - i)) (b' := fun i => b (n - 1 - i)) fun i hi => ⟨by show a (n + 1 - 1 - (i + 1)) = a (n - 1 - i); congr 1; omega, by show b (n + 1 - 1 - (i + 1)) = b (n - 1 - i); congr 1; omega⟩, h, Nat.mul_comm]
    rfl
theorem prdN_cut {a b : Nat → Nat} {c : Nat} : ∀ {n}, prdN a b (c + n) = prdN a b c * prdN (fun i => a (c + i)) (fun i => b (c + i)) n
  | 0 => (Nat.mul_one _).symm
  | n + 1 => by
    show prdN a b (c + n) * a (c + n) ^ b (c + n) = prdN a b c * (prdN (fun i => a (c + i)) (fun i => b (c + i)) n * a (c + n) ^ b (c + n))
    rw [prdN_cut, Nat.mul_assoc]
theorem prdN_mem {P Q : Nat} (hP : 1 < P) {a b : Nat → Nat} : ∀ {n}, (∀ i, i < n → a i ^ Q % P = 1) → prdN a b n ^ Q % P = 1
  | 0, _ => one_pow_mod hP
  | n + 1, h => mulQ hP (prdN_mem hP fun i hi => h i (by omega)) (by
    have h1 := powQ (n := b n) hP (h n (by omega))
    rwa [← Nat.pow_mod] at h1)
theorem mulS_mem {P Q : Nat} (hP : 1 < P) (hQ : 0 < Q) {a b : Nat → Nat} {n : Nat} (h : allM P Q n a = true) : memB P Q (mulS P a b n) = true := by
  rw [mulS_prd hP]
  refine mem_of hQ (Nat.mod_lt _ (by omega)) ?_
  rw [← Nat.pow_mod]
  exact prdN_mem hP fun i hi => (mem_is (allM_iff.1 h i hi)).2.2
theorem mulS_rev {P n : Nat} (hP : 1 < P) {a b : Nat → Nat} : mulS P (fun i => a (n - 1 - i)) (fun i => b (n - 1 - i)) n = mulS P a b n := by rw [mulS_prd hP, mulS_prd hP, prdN_rev]
theorem mulS_cut {P c n : Nat} (hP : 1 < P) {a b : Nat → Nat} : mulS P a b c * mulS P (fun i => a (c + i)) (fun i => b (c + i)) n % P = mulS P a b (c + n) := by
  rw [mulS_prd hP, mulS_prd hP, mulS_prd hP, prdN_cut, ← Nat.mul_mod]
theorem allM_rev {P Q n : Nat} {a : Nat → Nat} : allM P Q n (fun i => a (n - 1 - i)) = allM P Q n a := by
  rw [Bool.eq_iff_iff, allM_iff, allM_iff]
  refine ⟨fun h i hi => ?_, fun h i hi => h _ (by omega)⟩
  have h1 := h (n - 1 - i) (by omega)
  rwa [show n - 1 - (n - 1 - i) = i by omega] at h1
theorem allM_cut {P Q c n : Nat} {a : Nat → Nat} : allM P Q (c + n) a = (allM P Q c a && allM P Q n fun i => a (c + i)) := by
  rw [Bool.eq_iff_iff, Bool.and_eq_true_iff, allM_iff, allM_iff, allM_iff]
  refine ⟨fun h => ⟨fun i hi => h i (by omega), fun i hi => h (c + i) (by omega)⟩, fun ⟨h1, h2⟩ i hi => ?_⟩
  by_cases h3 : i < c
  · exact h1 i h3
  · have h4 := h2 (i - c) (by omega)
    rwa [show c + (i - c) = i by omega] at h4
theorem muS_ok {P Q n : Nat} {a : Nat → Nat} (hn : n ≤ 40) (h : allM P Q n a = true) : muE P Q n n a = 0 := by rw [muE_ok (by omega), h]; rfl
theorem muS_no {P Q n : Nat} {a : Nat → Nat} (hn : n ≤ 40) (h : allM P Q n a = false) : muE P Q n n a = 22 := by rw [muE_ok (by omega), h]; rfl
theorem muV_ok {P Q n : Nat} {a b : Nat → Nat} (hn : n ≤ 40) (h : allM P Q n a = true) : muV P Q n n a b = mulS P a b n := by unfold muV; rw [muS_ok hn h]; rfl
theorem muV_no {P Q n : Nat} {a b : Nat → Nat} (hn : n ≤ 40) (h : allM P Q n a = false) : muV P Q n n a b = 0 := by unfold muV; rw [muS_no hn h]; rfl
/-! Tryd# GroupFew -/
/-! Tryd# The four -/
end Go.Proofs.YtdmcknmjdlghgaaDoor
namespace Go.Proofs.YtdmcknmjdlghgaaDoor
open Go Go.Ab
set_option linter.unusedSimpArgs false
set_option linter.unusedVariables false
set_option linter.defProp false
set_option maxHeartbeats 20000000
set_option maxRecDepth 100000

theorem gap_nat (n : Nat) (hn : n ≤ 1000000) : apOK Tryd.prog 24 n := by
  have h1 : (Tryd.prog.info? 24).map (fun i => (i.bytes, i.size, i.zero.map fun z => z.cells.size)) = some (32, 4, some 4) := by kernel_rfl
  cases hi : Tryd.prog.info? 24 with
  | none => rw [hi] at h1; cases h1
  | some i =>
    rw [hi] at h1
    simp only [Option.map_some, Option.some.injEq, Prod.mk.injEq] at h1
    obtain ⟨h2, h3, h4⟩ := h1
    obtain ⟨z, hz, hz4⟩ := Option.map_eq_some_iff.1 h4
    exact ⟨i, z, hi, hz, by rw [hz4, h3], by rw [h2]; omega, by omega⟩
theorem gsz_nat : sz Tryd.prog 24 = 4 := by kernel_rfl
theorem gnews_nat {H : Heap} {k t a n : Nat} (hn : n = 4) (hb : H[k]? = some ⟨t, nat4 a⟩) : newsOf H n (.s (.sl k 0 1 1)) = some (nat4 a, 1) := by
  subst hn
  have hl : (nat4 a).length = 4 := nat4_length
  have h4 : (nat4 a).take 4 = nat4 a := List.take_of_length_le (by omega)
  simp [newsOf, hb, hl, part_eq, h4]
theorem row_okG {e n n0 : Nat} {cs : List SV} {sp : List Value} (h : ∀ x ∈ cs, x.ok n0) : ∀ b ∈ rowH e n cs sp, ∀ x ∈ b.cs, x.ok n0 := by
  intro b hb x hx
  by_cases h0 : n = 0
  · subst h0; rw [rowH_0] at hb; simp at hb
  · rw [rowH_s h0] at hb
    simp only [List.mem_singleton] at hb
    subst hb
    rcases List.mem_append.1 hx with h1 | h1
    · exact h x h1
    · obtain ⟨v, _, rfl⟩ := List.mem_map.1 h1
      trivial
theorem gone_set (a : Nat) : setAt (nat4 0) 0 (nat4 a) = nat4 a := rfl
theorem ghz1 : slice0 Tryd.prog 24 1 = some (arr 4 fun _ => 0) := by kernel_rfl
/-- A slice's beginning. -/
theorem gslice_pre {arr : Option (Nat × TypeId)} {e : TypeId} {sz : TypeId → Nat} {x : Option Addr} {n c i : Nat} {k : IntKind} {K : TV → Prop} (h : i ≤ c) :
    xslice arr (some e) sz (.s (.v (.slice x n c))) none (some (.s (.v (.int k (i : Int))))) K = K (.s (.v (.slice x i c))) := by
  have hb : bnd n (some (.s (.v (.int k (i : Int))))) = some i := by rw [bnd_int (by omega)]; rfl
  rw [xslice_v, hb, bnd_none, xslB_some]
  have e1 : (if c = 0 then x else Option.map (fun x => x.add (0 * sz e)) x) = x := by
    split
    · rfl
    · rw [Nat.zero_mul]
      cases x with
      | none => rfl
      | some ad => rw [Option.map_some]; exact congrArg some (by cases ad; rfl)
  rw [e1, Nat.sub_zero, Nat.sub_zero]
  exact propext ⟨fun h => h.2, fun h' => ⟨⟨Nat.zero_le _, h⟩, h'⟩⟩
/-- A slice's end. -/
def sufA (x : Option Addr) (c i q : Nat) : Option Addr := if c = i then x else x.map (·.add (i * q))
theorem gslice_suf {arr : Option (Nat × TypeId)} {e : TypeId} {sz : TypeId → Nat} {x : Option Addr} {n c i : Nat} {k : IntKind} {K : TV → Prop} (h : i ≤ n) (hc : n ≤ c) :
    xslice arr (some e) sz (.s (.v (.slice x n c))) (some (.s (.v (.int k (i : Int))))) none K = K (.s (.v (.slice (sufA x c i (sz e)) (n - i) (c - i)))) := by
  have hb : bnd 0 (some (.s (.v (.int k (i : Int))))) = some i := by rw [bnd_int (by omega)]; rfl
  rw [xslice_v, hb, bnd_none, xslB_some]
  exact propext ⟨fun h => h.2, fun h' => ⟨⟨h, hc⟩, h'⟩⟩
theorem Kn.nats_pre {Γ : Ctx} {V : Evo} {x : Option Addr} {n i : Nat} {l : Nat → Nat} (h : Kn Γ (natsAt V x n l)) (hi : i ≤ n) : Kn Γ (natsAt V x i l) := by
  intro w hw
  rcases h w hw with h0 | ⟨ad, hx, hs, c, t, f, hb, ht, hc⟩
  · exact .inl (by omega)
  · exact .inr ⟨ad, hx, hs, c, t, f, hb, ht, fun j hj => hc j (by omega)⟩
theorem Kn.nats_suf {Γ : Ctx} {V : Evo} {x : Option Addr} {n i c : Nat} {l : Nat → Nat} (h : Kn Γ (natsAt V x n l)) (hi : i ≤ n) (hnc : n ≤ c) : Kn Γ (natsAt V (sufA x c i 4) (n - i) fun j => l (i + j)) := by
  intro w hw
  rcases h w hw with h0 | ⟨ad, hx, hs, cc, t, f, hb, ht, hc⟩
  · exact .inl (by omega)
  · by_cases hci : c = i
    · exact .inl (by omega)
    · obtain ⟨b, o, sp⟩ := ad
      have hs' : sp = none := hs
      subst hs'
      refine .inr ⟨⟨b, o + i * 4, none⟩, by unfold sufA; rw [if_neg hci, hx, Option.map_some, addr_add], rfl, cc, t, f, hb, ht, fun j hj => ?_⟩
      show cc[o + i * 4 + j]? = _
      have h1 := hc (i * 4 + j) (by omega)
      have h2 : cc[o + (i * 4 + j)]? = some (natsG l (i * 4 + j)) := h1
      rw [← Nat.add_assoc] at h2
      rw [h2]
      unfold natsG
      rw [show (i * 4 + j) / 4 = i + j / 4 by omega, show (i * 4 + j) % 4 = j % 4 by omega]
end Go.Proofs.YtdmcknmjdlghgaaDoor
namespace Go.Ab
open Go Go.RowKit
set_option linter.unusedSimpArgs false
set_option linter.unusedVariables false
@[irreducible] def XW (Γ : Ctx) (ops : Array Oper) (H : Heap) (M : List Nat) (l : List Oper) (T : List TV) (K : List TV → Prop) : Prop :=
  ∀ (β : Nat → Nat) (w0 : World) (Q : Act → Prop) (a : Act), Rep Γ H β w0 → Holds H.length β T a.tmps → a.defers = [] → (∀ T' a', K T' → Holds H.length β T' a'.tmps → a'.defers = [] → Q a') → wpQuietG Γ.P ops (famD Γ H β M) Q l a
section
variable {Γ : Ctx} {ops : Array Oper} {H : Heap} {M : List Nat} {T T' : List TV} {K : List TV → Prop} {dst : Option Tmp} {op : Op} {ty : TypeId} {pos : String} {af : Array Edge} {j : Nat} {w : Bool} {r : List Oper}
theorem XW_def {l : List Oper} : XW Γ ops H M l T K = ∀ (β : Nat → Nat) (w0 : World) (Q : Act → Prop) (a : Act), Rep Γ H β w0 → Holds H.length β T a.tmps → a.defers = [] → (∀ T' a', K T' → Holds H.length β T' a'.tmps → a'.defers = [] → Q a') → wpQuietG Γ.P ops (famD Γ H β M) Q l a := by unfold XW; rfl
@[congr] theorem XW_congr {l : List Oper} (h1 : T = T') : XW Γ ops H M l T K = XW Γ ops H M l T' K := by rw [h1]
theorem XW_nil (h : K T) : XW Γ ops H M [] T K := by
  rw [XW_def]
  exact fun β w0 Q a _ hT hd hQ => hQ _ _ h hT hd
theorem XW_cons (h : xquietM Γ op (ev T) H M fun v => XW Γ ops H M r (putT T dst v) K) : XW Γ ops H M (⟨dst, op, ty, pos, af, none⟩ :: r) T K := by
  rw [XW_def]
  intro β w0 Q a hR hT hd hQ
  obtain ⟨v, hK, hv, hq⟩ := xquietM_at (o := ⟨dst, op, ty, pos, af, none⟩) h hT hR
  rw [XW_def] at hK
  have hput : ∀ u, (a.put dst u).defers = [] := fun u => by cases dst <;> exact hd
  have hwant : Region.wanted (⟨dst, op, ty, pos, af, none⟩ : Oper) (yielded ops a.tmps) = true := by simp [Region.wanted]
  simp only [wpQuietG, hwant, if_true]
  exact ⟨v.conc β, hq, hK β w0 Q _ hR (hT.put (Nat.le_refl _) (.refl _ _) hv) (hput _) hQ⟩
theorem XW_law {v : TV} (hs : ∀ H', Sound Γ op (ev T) H' v .none) (h : XW Γ ops H M r (putT T dst v) K) : XW Γ ops H M (⟨dst, op, ty, pos, af, none⟩ :: r) T K := by
  rw [XW_def] at h ⊢
  intro β w0 Q a hR hT hd hQ
  have hput : ∀ u, (a.put dst u).defers = [] := fun u => by cases dst <;> exact hd
  have hwant : Region.wanted (⟨dst, op, ty, pos, af, none⟩ : Oper) (yielded ops a.tmps) = true := by simp [Region.wanted]
  have hdo : ∀ H' w β', Rep Γ H' β' w → Agrees H.length β β' → (execOp a.eval (⟨dst, op, ty, pos, af, none⟩ : Oper)).run Γ.P w = .ok (.value (v.conc β')) w := fun H' w β' hR h' =>
    hs H' _ β' a.eval w rfl (eval_ev (hT β' h')) hR
  have hv : ∀ β', Agrees H.length β β' → v.conc β' = v.conc β := fun β' h' => by
    have h1 := hdo H w0 β hR (.refl _ _)
    rw [hdo H w0 β' (hR.agree h') h'] at h1
    injection h1 with h1
    injection h1 with h1
  simp only [wpQuietG, hwant, if_true]
  refine ⟨v.conc β, fun s w hw => ?_, h β w0 Q _ hR (hT.put (Nat.le_refl _) (.refl _ _) hv) (hput _) hQ⟩
  unfold Oper.quietAt
  rw [hdo s.1 w s.2 hw.2.2 hw.2.1, hv s.2 hw.2.1]
  exact ⟨rfl, rfl⟩
theorem xslice_det {arr : Option (Nat × TypeId)} {slc : Option TypeId} {sz : TypeId → Nat} {x : TV} {lo hi : Option TV} {K : TV → Prop} (h : xslice arr slc sz x lo hi K) : ∃ v, K v ∧ xslice arr slc sz x lo hi fun v' => v' = v := by
  unfold xslice at h ⊢
  split at h
  · split at h
    · unfold xslB at h ⊢
      split at h
      · rename_i hl hh
        refine ⟨_, h.2, ?_⟩
        simp only [hl, hh]
        exact ⟨h.1, trivial⟩
      · exact h.elim
    · exact h.elim
  · split at h
    · unfold xslB at h ⊢
      split at h
      · rename_i hl hh
        refine ⟨_, h.2, ?_⟩
        simp only [hl, hh]
        exact ⟨h.1, trivial⟩
      · exact h.elim
    · exact h.elim
  · split at h
    · unfold xslB at h ⊢
      split at h
      · rename_i hl hh
        refine ⟨_, h.2, ?_⟩
        simp only [hl, hh]
        exact ⟨h.1, trivial⟩
      · exact h.elim
    · exact h.elim
  · exact h.elim
theorem XW_slice {t : TypeId} {x : Operand} {lo hi : Option Operand} (h : xslice (arrOf Γ.P t) (slcOf Γ.P t) (sz Γ.P) (ev T x) (lo.map (ev T)) (hi.map (ev T)) fun v => XW Γ ops H M r (putT T dst v) K) :
    XW Γ ops H M (⟨dst, .slice t x lo hi none, ty, pos, af, none⟩ :: r) T K := by
  obtain ⟨v, hK, hv⟩ := xslice_det h
  refine XW_law (v := v) (fun H' => ?_) hK
  obtain ⟨v', hv', hs⟩ := sound_slice (H := H') hv
  rw [hv'] at hs
  exact hs
/-- A STATEMENT WHOSE ORDER IS OPEN: as X_drawM, the quiet operations by their own laws. -/
theorem X_drawW {id : Nat} {l : List Oper} {Q : QX} (n : Nat) (M : List Nat) (t : Tr) (hm : Γ.P.follows .mixedOrders = true) (hB : mixG .any l.toArray n t = true)
    (h : XW Γ l.toArray H M (l.take n) T fun T => xTrM Γ l.toArray H M (fun T H => Q .normal T H) t true T H) : XL Γ (.region id l.toArray true) T H Q := by
  rw [XW_def] at h
  rw [XL_eq]
  intro a w ⟨β, hT, hR, hd⟩
  refine wp_mono (wp_region_G (D := famD Γ H β M) (Q := fun e a w => match e with | .normal => lift Γ Q .normal a w | _ => False) n t (H, β) hm hB (fun _ _ _ h => h) ⟨famL_refl, .refl _ _, hR.drewQ⟩ ?_) fun e a w h => ?_
  · refine h β w _ a hR hT hd fun T' a' hK hT' hd' => ?_
    exact xTrM_wp (fun T'' H'' a'' w'' hq hs => ⟨T'', H'', hq, hs⟩) t true hK (.refl _ _) (Nat.le_refl _) hT' hd'
  · cases e with
    | normal => exact h
    | _ => exact h.elim
end
end Go.Ab
