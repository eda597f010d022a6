/-
  Texts laid together: Fm, Fm2.
-/
import Derived.ProofKit
import Derived.Below
import Derived.ChangeSame
import Derived.OpenShut
import Derived.Test.YthniflakjkbpiaaDoorKN
import Derived.Test.YthniflakjkbpiaaDoorKB
import Derived.ChangeSlices
/-
  The frame of a law: what an argument reads stays as it read; words by value, read as numbers.
-/
namespace Go.Ab
open Go Go.ChangeShapes Go.WideShapes Go.ChangeAt Go.RowKit
set_option linter.unusedSimpArgs false
set_option linter.unusedVariables false

section
variable {H : Type} {enc : TypeId × Value → H} {P : Program}

theorem trodAll_stays (hl : laidOutB P = true) {W W' : World} (hb : Below W.heap.size W W') {sp' : Nat → Bool} : ∀ {ts : List TypeId} {vs : List Value} {ds : List (DataW H)} {ps : List MemPlace},
    (∀ t ∈ ts, P.readableRec t = true ∧ t < P.types.size) → DataW.TrodAll enc P W 0 (fun _ => true) true ts vs ds ps → (∀ p ∈ ps, p.block < W.heap.size) → (∀ p ∈ ps, sp' p.block = true) →
    DataW.TrodAll enc P W' 0 sp' true ts vs ds ps
  | [], [], [], _, _, h, _, _ => h
  | _ :: _, _ :: _, _ :: _, _, hT, ⟨p, q, h1, h2, e⟩, hlt, hs =>
    ⟨p, q, WideElems.Trod_stays hl (hT _ (List.mem_cons.2 (Or.inl rfl))).1 (hT _ (List.mem_cons.2 (Or.inl rfl))).2 h1 (fun x hx => hb.same (hlt x (by rw [e]; exact List.mem_append_left _ hx))) (fun x hx => hs x (by rw [e]; exact List.mem_append_left _ hx)),
      trodAll_stays hl hb (fun t ht => hT t (List.mem_cons.2 (Or.inr ht))) h2 (fun x hx => hlt x (by rw [e]; exact List.mem_append_right _ hx)) (fun x hx => hs x (by rw [e]; exact List.mem_append_right _ hx)), e⟩

theorem post_of_below {f : Func} {s : ChangeSpec} {apart fresh handsOn again : Bool} {W W' : World} {args : Array Value} {v : Value} {ds gs : List (DataW H)} {before pa pv : List MemPlace}
    (hW : DataW.Whole enc P f.params.toList s.vars apart W args.toList ds gs before)
    (hres : ∀ (b : Nat) (sp : Nat → Bool) (hd : Bool), DataW.TrodAll enc P W' b sp hd f.resultTypes.toList (v.resultList f.resultTypes.size) (s.fn H (ds ++ gs)).results [])
    (hargs : ∀ sp : Nat → Bool, (∀ p ∈ before, sp p.block = true) → DataW.TrodAll enc P W' 0 sp true f.params.toList args.toList (s.fn H (ds ++ gs)).args pa)
    (hvars : ∀ sp : Nat → Bool, (∀ p ∈ before, sp p.block = true) → DataW.TrodVars enc P W' sp s.vars (s.fn H (ds ++ gs)).vars pv)
    (hps : before = pa ++ pv) (hb : Below W.heap.size W W')
    (hok : ∀ (j : Nat) (t : TypeId) (r : Value), f.resultTypes[j]? = some t → (v.resultList f.resultTypes.size)[j]? = some r → Value.okWide P W' .any 0 t r) :
    s.post enc P f apart fresh handsOn again W args v W' := by
  have hlt : ∀ p ∈ before, p.block < W.heap.size := fun p hp => hW.lt p hp
  have hold : ∀ p ∈ before, (fun b => decide (b < W.heap.size)) p.block = true := fun p hp => by simpa using hlt p hp
  refine ⟨ds, gs, before, [], pa, pv, hW, hres _ _ _, hargs _ hold, hvars _ hold, World.keptBut_mono (fun p hp => ⟨hp, ?_⟩) (hb.frame (· ∈ before)), fun _ => ?_⟩
  · rw [hps, List.mem_append] at hp
    exact Or.inr hp
  · obtain ⟨_, _, _, _, _, hz, hn⟩ := hW
    refine ⟨hok, _, _, ([] ++ pa) ++ pv, ⟨[] ++ pa, pv, trodAll_append (hargs _ (fun _ _ => rfl)) (hres _ _ _), hvars _ (fun _ _ => rfl), rfl, ?_, ?_⟩, ?_⟩
    · intro b off hp
      have hin : MemPlace.cell b off ∈ before := by rw [hps]; simpa using hp
      rw [hb.frozen (hlt _ hin)]
      exact hz b off hin
    · intro ha
      have := hn ha
      rw [hps] at this
      simpa using this
    · intro p hp _
      rw [hps]
      simpa using hp

theorem trodAll_len : ∀ {W : World} {b : Nat} {sp : Nat → Bool} {hd : Bool} {ts : List TypeId} {vs : List Value} {ds : List (DataW H)} {ps : List MemPlace}, DataW.TrodAll enc P W b sp hd ts vs ds ps → ds.length = ts.length ∧ vs.length = ts.length
  | _, _, _, _, [], [], [], _, _ => ⟨rfl, rfl⟩
  | _, _, _, _, _ :: _, _ :: _, _ :: _, _, ⟨p, q, h1, h2, e⟩ => by
    obtain ⟨h3, h4⟩ := trodAll_len h2
    exact ⟨by simp [h3], by simp [h4]⟩

/-- A law, as its row has it: what is left to show is the walk. -/
theorem law_lifted {C : Checked} {os : Os} {f : FuncId} {fn : Func} {s : ChangeSpec} {fresh handsOn again : Bool} {tb : TypeId}
    (own : ownKnob C.prog.godebug = none) (started : os.Started) (noInit : C.prog.inits.idxOf? f = none) (hfn : C.prog.funcs[f]? = some fn) (hl : laidOutB C.prog = true)
    (witness : ∃ (w : World) (tape : Tape) (i : Input), w.os = os ∧ (w.forCall tape i).Shaped C.prog ∧ i.vars = [] ∧ Input.okWide C.prog (w.forCall tape i) .any w.heap.size f i ∧
      s.pre6 enc C.prog fn [] false (w.forCall tape i).memory i.args ∧ ({} : Assume).holds C.prog (lone (Frame.enter C.prog f i.args .normal) [] (w.forCall tape i)))
    (hv : s.vars = []) (hs : ∀ ds : List (DataW H), ds.length = fn.params.toList.length → s.fn H ds = { results := [.lit (.bool true)], args := ds })
    (hrt : fn.resultTypes = #[tb]) (htb : C.prog.underlying tb = some .bool)
    (hp : ∀ t ∈ fn.params.toList, C.prog.readableRec t = true ∧ t < C.prog.types.size)
    (walk : ∀ (W : World) (base : Nat) (args : Array Value) (ds : List (DataW H)) (ps : List MemPlace),
      (∀ (j : Nat) t v, fn.params[j]? = some t → args[j]? = some v → Value.okWide C.prog W .any base t v) → DataW.TrodAll enc C.prog W 0 (fun _ => true) true fn.params.toList args.toList ds ps →
      (∀ x ∈ ps, x.block < W.heap.size) → W.noneFrozen ps → Calls C.prog f args W fun e W' => e = .returned (.bool true) ∧ Below W.heap.size W W') :
    ReturnsInHanded {} C os f .any (s.pre6 enc C.prog fn [] false) (s.post enc C.prog fn false fresh handsOn again) := by
  refine returnsInHanded_of_change own started noInit hfn witness ?_
  intro W base args ds gs before hval hW _ _
  have hW' := hW
  have hlt : ∀ x ∈ before, x.block < W.heap.size := fun x hx => hW.lt x hx
  obtain ⟨p, q, hA, hV, rfl, hfz, hnd⟩ := hW
  rw [hv] at hV
  obtain ⟨rfl, rfl⟩ := trodVars_none hV
  simp only [List.append_nil] at hW' hlt hfz
  refine (walk W base args ds p hval hA hlt hfz).mono fun e W' ⟨he, hb⟩ => ⟨_, he, ?_⟩
  have hfn' := hs ds (trodAll_len hA).1
  refine post_of_below (pa := p) (pv := []) hW' (fun b sp hd => ?_) (fun sp hsp => ?_) (fun sp _ => ?_) (by simp) hb ?_
  · rw [List.append_nil, hfn', hrt]
    exact trodAll_mk1 (shut_bool htb true)
  · rw [List.append_nil, hfn']
    exact trodAll_stays hl hb hp hA hlt hsp
  · rw [List.append_nil, hfn', hv]
    rfl
  · exact ok_one hrt rfl (okWide_bool_mk htb true)
end

/-! Tryd# Words by value, read as numbers -/
/-- The number of n words. -/
def wsum (g : Nat → Nat) : Nat → Nat
  | 0 => 0
  | n + 1 => wsum g n + g n * 2 ^ (64 * n)
theorem wsum_lt (g : Nat → Nat) (hg : ∀ i, g i < 18446744073709551616) : ∀ n, wsum g n < 2 ^ (64 * n)
  | 0 => by simp [wsum]
  | n + 1 => by
    have h := wsum_lt g hg n
    have h2 : g n * 2 ^ (64 * n) ≤ 18446744073709551615 * 2 ^ (64 * n) := Nat.mul_le_mul_right _ (by have := hg n; omega)
    rw [P_succ]
    simp only [wsum]
    omega
theorem wd_wsum (g : Nat → Nat) (hg : ∀ i, g i < 18446744073709551616) : ∀ n i, i < n → wd (wsum g n) i = g i
  | n + 1, i, h => by
    simp only [wsum]
    by_cases h1 : i = n
    · subst h1
      rw [wd_eq, Nat.mul_comm (g i), Nat.add_mul_div_left _ _ (Nat.two_pow_pos _), Nat.div_eq_of_lt (wsum_lt g hg i), Nat.zero_add, Nat.mod_eq_of_lt (hg i)]
    · rw [wd_add_high _ _ _ _ (by omega), wd_wsum g hg n i (by omega)]

section
variable {H : Type} {enc : TypeId × Value → H} {P : Program} {W : World} {base b0 : Nat} {sp : Nat → Bool} {held : Bool} {r : Reach} {t e n : Nat} {v : Value} {d : DataW H} {ps : List MemPlace}
theorem okWide_array {P : Program} {w : World} {r : Reach} {base : Nat} {t e n : Nat} {v : Value} (ht : P.underlying t = some (.array n e)) (h : Value.okWide P w r base t v) : ∃ cs, v = .agg cs ∧ cs.size = P.cellsOf t := by
  simp only [Value.okWide, ht] at h
  obtain ⟨cs, h1, h2, _⟩ := h
  exact ⟨cs, h1, h2⟩
/-- An array of words, by value. -/
theorem open_words (ht : P.underlying t = some (.array n e)) (he : P.underlying e = some (.int .u64)) (hc : P.cellsOf t = n) (hce : P.cellsOf e = 1)
    (hval : Value.okWide P W r b0 t v) (hd : DataW.Trod enc P W base sp held t v d ps) : ∃ a, a < 2 ^ (64 * n) ∧ ∀ β, v = (TV.agg (arr n (wd a))).conc β := by
  obtain ⟨cs, rfl, hsz⟩ := okWide_array ht hval
  rw [hc] at hsz
  obtain ⟨fuel, hf⟩ := hd
  obtain ⟨xs, m, _, _, hl, hxl, hi⟩ := DataW.trod_array ht hf
  simp only [Value.cells] at hl hi
  have key : ∀ i, i < n → ∃ z : Nat, z < 18446744073709551616 ∧ cs[i]? = some (.int .u64 (z : Int)) := by
    intro i hin
    have h1 := hi i hin
    rw [hce, Nat.mul_one] at h1
    rw [List.getElem?_eq_getElem (by omega)] at h1
    obtain ⟨z, ez, _, wz⟩ := DataW.trod_int he h1
    have hb := bounds_u64 wz
    obtain ⟨z, rfl⟩ := Int.eq_ofNat_of_zero_le hb.1
    refine ⟨z, by omega, ?_⟩
    have h2 := congrArg (·[0]?) ez
    simpa [List.getElem?_take, List.getElem?_drop] using h2
  let g : Nat → Nat := fun i => if h : i < n then (key i h).choose else 0
  have hg : ∀ i, g i < 18446744073709551616 := by
    intro i
    by_cases h : i < n
    · simp only [g, h, dite_true]; exact (key i h).choose_spec.1
    · simp only [g, h, dite_false]; decide
  refine ⟨wsum g n, wsum_lt g hg n, fun β => ?_⟩
  rw [conc_agg]
  congr 1
  apply Array.ext
  · simp [arr, hsz]
  · intro i h1 h2
    have hin : i < n := by omega
    have h3 := (key i hin).choose_spec.2
    have h4 : g i = (key i hin).choose := by simp only [g, hin, dite_true]
    rw [← h4] at h3
    rw [Array.getElem?_eq_getElem h1] at h3
    injection h3 with h3
    rw [h3]
    simp [arr, SV.conc, wd_wsum g hg n i hin]
end
end Go.Ab

/-
  A law's argument that is a slice of bytes.
-/
namespace Go.Ab
open Go Go.ChangeShapes Go.WideShapes Go.ChangeAt Go.RowKit
set_option linter.unusedSimpArgs false
set_option linter.unusedVariables false

theorem open_bytes {H : Type} {enc : TypeId × Value → H} {P : Program} {W : World} {base b0 : Nat} {r : Reach} {t e : Nat} {v : Value} {d : DataW H} {ps : List MemPlace}
    (ht : P.underlying t = some (.slice e)) (he : P.underlying e = some (.int .u8)) (hc : P.cellsOf e = 1) (hval : Value.okWide P W r b0 t v) (hd : DataW.Trod enc P W base (fun _ => true) true t v d ps) :
    ∃ (x : Option Addr) (n c : Nat), v = .slice x n c ∧ n < 9223372036854775808 ∧ (n = 0 ∨ ∃ (ad : Addr) (f : Nat → Nat), x = some ad ∧ (∀ i, f i < 256) ∧ bytesAt W ad n f) := by
  obtain ⟨x, n, c, rfl⟩ := okWide_slice ht hval
  refine ⟨x, n, c, rfl, ?_⟩
  obtain ⟨fuel, hf⟩ := hd
  rcases open_ints ht he hc hf with ⟨h1, _⟩ | ⟨a, len, cap, zs, h1, _, hlc, hcm, hzl, _, hcell, hwf⟩
  · simp only [Value.cells, List.cons.injEq, Value.slice.injEq, and_true] at h1
    obtain ⟨_, rfl, _⟩ := h1
    exact ⟨by omega, .inl rfl⟩
  · simp only [Value.cells, List.cons.injEq, Value.slice.injEq, and_true] at h1
    obtain ⟨rfl, rfl, rfl⟩ := h1
    simp only [if_true] at hzl
    refine ⟨by simp only [maxLen] at hcm; omega, ?_⟩
    by_cases h0 : n = 0
    · exact .inl h0
    · right
      obtain ⟨b, off, rfl, _⟩ := ints_at hcell (by omega)
      have hb : ∀ i, i < zs.length → 0 ≤ zs.getD i 0 ∧ zs.getD i 0 ≤ 255 := fun i hi => bounds_u8 (by
        have := hwf zs[i] (List.getElem_mem hi)
        simpa [hi] using this)
      refine ⟨_, fun i => if i < zs.length then (zs.getD i 0).toNat else 0, rfl, fun i => ?_, rfl, fun i hi => ?_⟩
      · by_cases h : i < zs.length
        · have := hb i h
          simp only [h, if_true]
          omega
        · simp only [h, if_false]
          omega
      · have hi' : i < zs.length := by omega
        rw [hcell i hi']
        have := hb i hi'
        simp only [hi', if_true]
        rw [Int.toNat_of_nonneg this.1]
end Go.Ab
