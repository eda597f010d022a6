/-
  Maps whose keys are numbers: what the model does with them.
-/
import Derived.Test.YthniflakjkbpiaaDoorAb27
import Derived.Test.YthniflakjkbpiaaDoorKN
import Derived.DeepKeys3
import Derived.MapKept
namespace Go.Ab
open Go Go.RowKit
set_option linter.unusedSimpArgs false
set_option linter.unusedVariables false

def natV (n : Nat) : Value := (TV.agg (nat4 n)).conc fun _ => 0
theorem natV_conc (β : Nat → Nat) (n : Nat) : (TV.agg (nat4 n)).conc β = natV n := by
  simp [natV, TV.conc, nat4, arr, SV.conc, Function.comp_def]
theorem natV_def (n : Nat) : natV n = .agg ((List.range 4).map fun i => Value.int .u64 (wd n i : Int)).toArray := by
  simp [natV, TV.conc, nat4, arr, SV.conc, Function.comp_def]
/-- A map from numbers to integers. -/
structure MapTy (P : Program) (mt kt et : TypeId) : Prop where
  m : P.underlying mt = some (.map kt et)
  row : isRow P kt = true
  kk : P.keyTypeAt 9 kt = true
  lit : ∀ n, n < 2 ^ 256 → litsA P kt (some (nat4 n)) = some (lits 4 (wd n))
  zero : zeroV P et = some (.int .i64 0)
section
variable {P : Program} {mt kt et : TypeId} {n : Nat} {w : World}
theorem MapTy.lits (M : MapTy P mt kt et) (hn : n < 2 ^ 256) : P.keyLits 9 kt (natV n).cells.toList = some (lits 4 (wd n)) := by
  have h := M.lit n hn
  unfold litsA at h
  rw [Option.bind_some] at h
  obtain ⟨vs, hv, hk⟩ := Option.bind_eq_some_iff.1 h
  have h1 := valsOf_conc (fun _ => 0) hv
  rw [natV, conc_agg, h1]
  exact hk
theorem MapTy.formed (M : MapTy P mt kt et) (hn : n < 2 ^ 256) : (natV n).formed P kt = true := by
  have hz := M.lits hn
  have hrow := M.row
  rw [natV, conc_agg] at hz ⊢
  unfold isRow at hrow
  simp only [Value.formed]
  split at hrow
  · rename_i fs hu
    simp only [hu]
    unfold Program.keyLits at hz
    simp only [hu] at hz
    split at hz
    · rename_i hc; simpa [Value.cells] using hc.1
    · cases hz
  · rename_i n e hu
    simp only [hu]
    unfold Program.keyLits at hz
    simp only [hu] at hz
    split at hz
    · rename_i hc; simpa [Value.cells] using hc
    · cases hz
  · cases hrow
theorem natV_inj (M : MapTy P mt kt et) {a b : Nat} (ha : a < 2 ^ 256) (hb : b < 2 ^ 256) (h : natV a = natV b) : a = b := by
  have h1 := M.lits ha
  rw [h, M.lits hb] at h1
  injection h1 with h1
  have h2 := (litsEq_iff _ _).2 h1.symm
  rw [litsEq_nat4 ha hb] at h2
  exact of_decide_eq_true h2
theorem run_equal_nat (M : MapTy P mt kt et) {a b : Nat} (ha : a < 2 ^ 256) (hb : b < 2 ^ 256) (w : World) : (Op.equal kt (natV a) (natV b)).run P w = .ok (decide (a = b)) w := by
  have hdeep := run_equalIn_deep (P := P) 9991 9 kt M.kk
  obtain ⟨r, hr, hiff⟩ := hdeep w 9 9 (natV a) (natV b) _ _ (M.formed ha) (M.formed hb) (M.lits ha) (M.lits hb)
  have : r = decide (a = b) := by rw [Bool.eq_iff_iff, hiff, ← litsEq_iff, litsEq_nat4 ha hb]
  rw [← this]
  exact hr
theorem run_find (M : MapTy P mt kt et) (hn : n < 2 ^ 256) : ∀ (l : List MapEntry) (i : Nat), (∀ e ∈ l, ∃ m, m < 2 ^ 256 ∧ e.key = natV m) →
    ((∀ w, (Instr.findAsking kt (natV n) l i).run P w = .ok none w) ∧ ∀ e ∈ l, e.key ≠ natV n) ∨ ∃ j e, (∀ w, (Instr.findAsking kt (natV n) l i).run P w = .ok (some (i + j, e.val)) w) ∧ l[j]? = some e ∧ e.key = natV n
  | [], i, _ => .inl ⟨fun w => by simp [Instr.findAsking], by simp⟩
  | e :: es, i, h => by
    obtain ⟨m, hm, hk⟩ := h e (.head _)
    have he := run_equal_nat M hn hm
    by_cases hnm : n = m
    · subst hnm
      exact .inr ⟨0, e, fun w => by simp [Instr.findAsking, hk, he, Result.andThen], rfl, hk⟩
    · have hne : e.key ≠ natV n := fun q => hnm (natV_inj M hn hm (q.symm.trans hk))
      rcases run_find M hn es (i + 1) (fun x hx => h x (.tail _ hx)) with ⟨h1, h2⟩ | ⟨j, e', h1, h2, h3⟩
      · exact .inl ⟨fun w => by simp [Instr.findAsking, hk, he, hnm, h1, Result.andThen], fun x hx => by
          cases hx with
          | head => exact hne
          | tail _ hx => exact h2 x hx⟩
      · exact .inr ⟨j + 1, e', fun w => by simp [Instr.findAsking, hk, he, hnm, h1, Result.andThen]; omega, by simpa using h2, h3⟩
theorem run_findKey_nat (M : MapTy P mt kt et) (l : List MapEntry) (x : Value) (w : World) : (Instr.findKey kt x l).run P w = (Instr.findAsking kt x l).run P w := by
  refine run_findKey_eq w ?_ x l
  have hrow := M.row
  unfold isRow at hrow
  cases hu : P.underlying kt with
  | none => simp [hu] at hrow
  | some d => cases d <;> simp [hu] at hrow ⊢
theorem run_checkKey_nat (M : MapTy P mt kt et) (hn : n < 2 ^ 256) (em : Bool) (w : World) : (Instr.checkKey em 10000 kt (natV n)).run P w = .ok () w :=
  run_checkKey_deep em 9991 9 kt M.kk w 9 (natV n) _ (M.formed hn) (M.lits hn)
theorem sameBits_nat (n : Nat) : Instr.sameBits 10000 (natV n) (natV n) = true := by
  rw [natV_def]
  show Instr.sameBits (9999 + 1) _ _ = true
  have h1 : ∀ q : Int, Instr.sameBits 9999 (.int .u64 q) (.int .u64 q) = true := fun q => by
    show (IntKind.u64 == IntKind.u64 && q == q) = true
    simp
  simp only [Instr.sameBits, List.range_succ, List.range_zero, List.nil_append, List.cons_append, List.map_cons, List.map_nil, List.zip_cons_cons, List.zip_nil_left, List.all_cons, List.all_nil, h1, Bool.and_true, beq_self_eq_true]
theorem run_keyStays_nat (n : Nat) (w : World) : (Instr.keyThatStays (natV n) (natV n)).run P w = .ok (natV n) w := by
  simp [Instr.keyThatStays, sameBits_nat]
theorem run_zero_of {t : TypeId} {v : Value} (h : zeroV P t = some v) (w : World) : (zeroValue t).run P w = .ok v w := by
  unfold zeroV at h
  obtain ⟨i, hi, hz⟩ := Option.bind_eq_some_iff.1 h
  simp [zeroValue, typeInfo, hi, hz, Result.andThen]

/-- What is in a map: its keys. -/
def MapIs (p : Nat → Bool) (es : Array MapEntry) : Prop :=
  (∀ e ∈ es.toList, ∃ m z, m < 2 ^ 256 ∧ e.key = natV m ∧ e.val = .int .i64 z ∧ p m = true) ∧ ∀ m, p m = true → ∃ e ∈ es.toList, e.key = natV m
def MapAt (b : Nat) (p : Nat → Bool) (w : World) : Prop := ∃ es c, w.heap[b]? = some (.map es c) ∧ MapIs p es
theorem MapIs.nil : MapIs (fun _ => false) #[] := ⟨fun e h => by simp at h, fun m h => by simp at h⟩
theorem MapIs.push {p : Nat → Bool} {es : Array MapEntry} (h : MapIs p es) (hn : n < 2 ^ 256) {e : MapEntry} {z : Int} (hk : e.key = natV n) (hv : e.val = .int .i64 z) : MapIs (fun m => p m || m == n) (es.push e) := by
  refine ⟨fun e' he => ?_, fun m hm => ?_⟩
  · simp only [Array.toList_push, List.mem_append, List.mem_singleton] at he
    rcases he with he | rfl
    · obtain ⟨m, z', h1, h2, h3, h4⟩ := h.1 e' he
      exact ⟨m, z', h1, h2, h3, by simp [h4]⟩
    · exact ⟨n, z, hn, hk, hv, by simp⟩
  · rcases (Bool.or_eq_true _ _).mp hm with hm | hm
    · obtain ⟨e', h1, h2⟩ := h.2 m hm
      exact ⟨e', by simp only [Array.toList_push, List.mem_append]; exact .inl h1, h2⟩
    · have hm : m = n := by simpa using hm
      subst hm
      exact ⟨e, by simp, hk⟩
theorem MapIs.modify {p : Nat → Bool} {es : Array MapEntry} (h : MapIs p es) (hn : n < 2 ^ 256) {j : Nat} {e : MapEntry} {z : Int} (hj : es[j]? = some e) (hk : e.key = natV n) :
    MapIs (fun m => p m || m == n) (es.modify j fun e => { e with key := natV n, val := .int .i64 z }) := by
  have hpn : ∀ m, m < 2 ^ 256 → e.key = natV m → True := fun _ _ _ => trivial
  refine ⟨fun e' he => ?_, fun m hm => ?_⟩
  · rw [Array.mem_toList_iff, Array.mem_iff_getElem?] at he
    obtain ⟨i, hi⟩ := he
    rw [Array.getElem?_modify] at hi
    split at hi
    · rename_i hij
      subst hij
      rw [hj] at hi
      simp only [Option.map_some, Option.some.injEq] at hi
      subst hi
      exact ⟨n, z, hn, rfl, rfl, by simp⟩
    · obtain ⟨m, z', h1, h2, h3, h4⟩ := h.1 e' (by rw [Array.mem_toList_iff, Array.mem_iff_getElem?]; exact ⟨i, hi⟩)
      exact ⟨m, z', h1, h2, h3, by simp [h4]⟩
  · have key : ∀ (i : Nat) (e' : MapEntry), es[i]? = some e' → ∃ e'' ∈ (es.modify j fun e => { e with key := natV n, val := .int .i64 z }).toList, e''.key = e'.key := fun i e' hi => by
      by_cases hij : j = i
      · subst hij
        rw [hj] at hi
        injection hi with hi
        subst hi
        exact ⟨_, by rw [Array.mem_toList_iff, Array.mem_iff_getElem?]; exact ⟨j, by rw [Array.getElem?_modify, if_pos rfl, hj]; rfl⟩, hk.symm⟩
      · exact ⟨e', by rw [Array.mem_toList_iff, Array.mem_iff_getElem?]; exact ⟨i, by rw [Array.getElem?_modify, if_neg hij, hi]⟩, rfl⟩
    rcases (Bool.or_eq_true _ _).mp hm with hm | hm
    · obtain ⟨e', h1, h2⟩ := h.2 m hm
      rw [Array.mem_toList_iff, Array.mem_iff_getElem?] at h1
      obtain ⟨i, hi⟩ := h1
      obtain ⟨e'', h3, h4⟩ := key i e' hi
      exact ⟨e'', h3, h4.trans h2⟩
    · have hm : m = n := by simpa using hm
      subst hm
      obtain ⟨e'', h3, h4⟩ := key j e hj
      exact ⟨e'', h3, h4.trans hk⟩
/-- WHAT IS LOOKED FOR. -/
theorem run_look (M : MapTy P mt kt et) {p : Nat → Bool} {es : Array MapEntry} (h : MapIs p es) (hn : n < 2 ^ 256) {b c : Nat} : ∃ z : Int, ∀ w : World, w.heap[b]? = some (.map es c) →
    (Instr.lookup mt (.map (some b)) (natV n) true).run P w = .ok (.tuple #[.int .i64 z, .bool (p n)]) w := by
  have hall : ∀ e ∈ es.toList, ∃ m, m < 2 ^ 256 ∧ e.key = natV m := fun e he => by
    obtain ⟨m, z, h1, h2, _⟩ := h.1 e he
    exact ⟨m, h1, h2⟩
  by_cases hp : ∃ e ∈ es.toList, e.key = natV n
  · have hpn : p n = true := by
      obtain ⟨e, he, hk⟩ := hp
      obtain ⟨m, z, h1, h2, _, h4⟩ := h.1 e he
      rw [natV_inj M hn h1 (hk.symm.trans h2)]
      exact h4
    have hfind : ∃ j e, es.toList[j]? = some e ∧ ∀ w, (Instr.findAsking kt (natV n) es.toList).run P w = .ok (some (j, e.val)) w := by
      obtain ⟨e0, he0, hk0⟩ := hp
      rcases run_find M hn es.toList 0 hall with ⟨_, h2⟩ | ⟨j, e, h1, h2, h3⟩
      · exact absurd hk0 (h2 e0 he0)
      · exact ⟨j, e, h2, fun w => by rw [h1, Nat.zero_add]⟩
    obtain ⟨j, e, hj, hf⟩ := hfind
    obtain ⟨m, z, _, _, hv, _⟩ := h.1 e (List.mem_of_getElem? hj)
    refine ⟨z, fun w hb => ?_⟩
    simp [Instr.lookup, run_underlying M.m, MapKept.run_getObj_map hb, run_checkKey_nat M hn, run_findKey_nat M, hf, hv, hpn, Result.andThen]
  · have hpn : p n = false := by
      cases hq : p n with
      | false => rfl
      | true => exact absurd (h.2 n hq) hp
    refine ⟨0, fun w hb => ?_⟩
    have hf : (Instr.findAsking kt (natV n) es.toList).run P w = .ok none w := by
      rcases run_find M hn es.toList 0 hall with ⟨h1, _⟩ | ⟨j, e, _, h2, h3⟩
      · exact h1 w
      · exact absurd ⟨e, List.mem_of_getElem? h2, h3⟩ hp
    simp [Instr.lookup, run_underlying M.m, MapKept.run_getObj_map hb, run_checkKey_nat M hn, run_findKey_nat M, hf, hpn, run_zero_of M.zero, Result.andThen]
theorem heapSet {r : Nat} {o o' : Obj} (hb : w.heap[r]? = some o) : (w.heap.setIfInBounds r o')[r]? = some o' ∧ ∀ r', r' ≠ r → (w.heap.setIfInBounds r o')[r']? = w.heap[r']? := by
  have hlt : r < w.heap.size := (Array.getElem?_eq_some_iff.1 hb).1
  exact ⟨by simp [hlt], fun r' hne => by simp [Ne.symm hne]⟩
/-- WHAT IS WRITTEN. -/
theorem run_upd (M : MapTy P mt kt et) {p : Nat → Bool} (hn : n < 2 ^ 256) {b : Nat} {z : Int} (h : MapAt b p w) : ∃ w', (Instr.mapUpdate mt (.map (some b)) (natV n) (.int .i64 z)).run P w = .ok () w' ∧ MapAt b (fun m => p m || m == n) w' ∧
    w'.os = w.os ∧ w'.tape = w.tape ∧ w'.output = w.output ∧ w'.heap.size = w.heap.size ∧ ∀ k, k ≠ b → w'.heap[k]? = w.heap[k]? := by
  obtain ⟨es, c, hb, hp⟩ := h
  have hall : ∀ e ∈ es.toList, ∃ m, m < 2 ^ 256 ∧ e.key = natV m := fun e he => by
    obtain ⟨m, z, h1, h2, _⟩ := hp.1 e he
    exact ⟨m, h1, h2⟩
  rcases run_find M hn es.toList 0 hall with ⟨h1, _⟩ | ⟨j, e, h1, h2, h3⟩
  · refine ⟨{ w with heap := w.heap.setIfInBounds b (.map (es.push { key := natV n, val := .int .i64 z, born := c }) (c + 1)) }, ?_, ⟨_, _, (heapSet hb).1, hp.push hn rfl rfl⟩, rfl, rfl, rfl, by simp, fun k hk => (heapSet hb).2 k hk⟩
    simp [Instr.mapUpdate, run_underlying M.m, MapKept.run_getObj_map hb, run_checkKey_nat M hn, run_findKey_nat M, h1, MapKept.run_setObj_map _ hb, Result.andThen]
  · have hj : es[j]? = some e := by simpa using h2
    refine ⟨{ w with heap := w.heap.setIfInBounds b (.map (es.modify j fun e => { e with key := natV n, val := .int .i64 z }) c) }, ?_, ⟨_, _, (heapSet hb).1, hp.modify hn hj h3⟩, rfl, rfl, rfl, by simp, fun k hk => (heapSet hb).2 k hk⟩
    simp [Instr.mapUpdate, run_underlying M.m, MapKept.run_getObj_map hb, run_checkKey_nat M hn, run_findKey_nat M, h1, hj, h3, run_keyStays_nat, MapKept.run_setObj_map _ hb, Result.andThen]
end
end Go.Ab
