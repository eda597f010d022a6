/-
  The frame of a law whose row lists the least prime as it is laid.
-/
import Derived.Test.YthniflakjkbpiaaDoorRows
import Derived.Test.YthniflakjkbpiaaDoorFm6
import Derived.Test.YthniflakjkbpiaaDoorKO
import Derived.ChangeVars
import Derived.JoinedOf
import Derived.LaidLaws
import Derived.LaidHandle
import Derived.Stop.Joined
namespace Go.Proofs.YthniflakjkbpiaaDoor
open Go Go.Ab Go.ChangeShapes Go.WideShapes Go.ChangeAt Go.RowKit
set_option linter.unusedSimpArgs false
set_option linter.unusedVariables false

theorem glob0 : Tryd.prog.globalNamed "sortition/pratt.least" = some 0 := by kernel_rfl
theorem globT : (Tryd.prog.globals[0]?).map (·.type) = some 26 := by kernel_rfl
set_option maxRecDepth 100000 in
theorem least_of_laid {W : World} (h : laidMetH Tryd.prog [("sortition/pratt.least", Rows.laid_sortition_pratt_least)] W) : least W := by
  have h' : laidMet Tryd.prog [("sortition/pratt.least", Rows.laid_sortition_pratt_least)] W := h
  obtain ⟨ps, ⟨g, t, cs, fuel, p, q, hg, ht, hc, htr, _, _⟩, _, _⟩ := h'
  obtain rfl := Option.some.inj (glob0.symm.trans hg)
  obtain rfl := Option.some.inj (globT.symm.trans ht)
  obtain ⟨xs, m, _, hx, hl, hxl, hi⟩ := DataW.trod_array tf26_u htr
  have hce : Tryd.prog.cellsOf 24 = 1 := by kernel_rfl
  have hc4 : Tryd.prog.cellsOf 26 = 4 := by kernel_rfl
  rw [hc4] at hl
  injection hx with hx _
  have hx' : ([.lit (.int .u64 2), .lit (.int .u64 0), .lit (.int .u64 0), .lit (.int .u64 0)] : List (DataW Unit)) = xs.map (·.1) := by
    have h1 : (DataW.agg [.lit (.int .u64 2), .lit (.int .u64 0), .lit (.int .u64 0), .lit (.int .u64 0)] : DataW Unit) = .agg (xs.map (·.1)) := hx
    injection h1
  have cell : ∀ i, i < 4 → ∀ z : Int, ([.lit (.int .u64 2), .lit (.int .u64 0), .lit (.int .u64 0), .lit (.int .u64 0)] : List (DataW Unit))[i]? = some (.lit (.int .u64 z)) → cs[i]? = some (.int .u64 z) := by
    intro i h4 z hz
    have h1 := hi i h4
    rw [List.getElem?_eq_getElem (by omega), hce, Nat.mul_one] at h1
    obtain ⟨n, hn, hxn, _⟩ := DataW.trod_int (by kernel_rfl : Tryd.prog.underlying 24 = some (.int .u64)) h1
    rw [hx', List.getElem?_map, List.getElem?_eq_getElem (by omega), Option.map_some, hxn] at hz
    injection hz with hz
    injection hz with hz
    injection hz with _ hz
    subst hz
    have h2 := congrArg (·[0]?) hn
    simpa [List.getElem?_take, List.getElem?_drop] using h2
  unfold World.var? at hc
  rw [glob0, Option.bind_some] at hc
  split at hc
  · rename_i c t f hk
    injection hc with hc
    subst hc
    refine ⟨_, _, _, hk, fun i h4 => ?_⟩
    rcases i with _ | _ | _ | _ | i
    · exact cell 0 h4 2 rfl
    · exact cell 1 h4 0 rfl
    · exact cell 2 h4 0 rfl
    · exact cell 3 h4 0 rfl
    · omega
  · cases hc
/-- A world in which it lies so. -/
noncomputable def laidWorld (os : Os) : World :=
  let w0 := World.holding Tryd.prog os ⟨#[], #[], []⟩
  { w0 with heap := w0.heap.modify 0 fun
      | .cells _ t frozen => .cells #[.int .u64 2, .int .u64 0, .int .u64 0, .int .u64 0] t frozen
      | o => o }
theorem law_lifted2 {H : Type} {enc : TypeId × Value → H} {C : Checked} {os : Os} {f : FuncId} {fn : Func} {s : ChangeSpec} {fresh handsOn again : Bool} {tb : TypeId} {X : World → Array Value → Prop} (hX : ∀ (w w' : World) (args : Array Value), w.heap = w'.heap → X w args → X w' args)
    (own : ownKnob C.prog.godebug = none) (started : os.Started) (noInit : C.prog.inits.idxOf? f = none) (hfn : C.prog.funcs[f]? = some fn) (hl : laidOutB C.prog = true)
    (witness : ∃ (w : World) (tape : Tape) (i : Input), w.os = os ∧ (w.forCall tape i).Shaped C.prog ∧ i.vars = [] ∧ Input.okWide C.prog (w.forCall tape i) .any w.heap.size f i ∧
      ((s.pre enc C.prog fn [] false (w.forCall tape i).memory i.args ∧ X (w.forCall tape i).memory i.args) ∧ sizedMet enc C.prog fn (OpenSpec.ofChange s) false (w.forCall tape i).memory i.args) ∧ ({} : Assume).holds C.prog (lone (Frame.enter C.prog f i.args .normal) [] (w.forCall tape i)))
    (hv : s.vars = []) (hs : ∀ ds : List (DataW H), ds.length = fn.params.toList.length → s.fn H ds = { results := [.lit (.bool true)], args := ds })
    (hrt : fn.resultTypes = #[tb]) (htb : C.prog.underlying tb = some .bool)
    (hp : ∀ t ∈ fn.params.toList, C.prog.readableRec t = true ∧ t < C.prog.types.size)
    (walk : ∀ (W : World) (base : Nat) (args : Array Value) (ds : List (DataW H)) (ps : List MemPlace),
      (∀ (j : Nat) t v, fn.params[j]? = some t → args[j]? = some v → Value.okWide C.prog W .any base t v) → DataW.TrodAll enc C.prog W 0 (fun _ => true) true fn.params.toList args.toList ds ps →
      X W args → Calls C.prog f args W fun e W' => e = .returned (.bool true) ∧ Below W.heap.size W W') :
    ReturnsInHanded {} C os f .any (fun w args => (s.pre enc C.prog fn [] false w args ∧ X w args) ∧ sizedMet enc C.prog fn (OpenSpec.ofChange s) false w args) (s.post enc C.prog fn false fresh handsOn again) := by
  refine returnsInHanded_of_change_and hX own started noInit hfn witness ?_
  intro W base args ds gs before hval hW _ _ hXX _
  have hW' := hW
  have hlt : ∀ x ∈ before, x.block < W.heap.size := fun x hx => hW.lt x hx
  obtain ⟨p, q, hA, hV, rfl, hfz, hnd⟩ := hW
  rw [hv] at hV
  obtain ⟨rfl, rfl⟩ := trodVars_none hV
  simp only [List.append_nil] at hW' hlt hfz
  refine (walk W base args ds p hval hA hXX).mono fun e W' ⟨he, hb⟩ => ⟨_, he, ?_⟩
  have hfn' := hs ds (trodAll_len hA).1
  refine post_of_below (pa := p) (pv := []) hW' (fun b sp hd => ?_) (fun sp hsp => ?_) (fun sp _ => ?_) (by simp) hb ?_
  · rw [List.append_nil, hfn', hrt]
    exact trodAll_mk1 (shut_bool htb true)
  · rw [List.append_nil, hfn']
    exact trodAll_stays hl hb hp hA hlt hsp
  · rw [List.append_nil, hfn', hv]
    rfl
  · exact ok_one hrt rfl (okWide_bool_mk htb true)
end Go.Proofs.YthniflakjkbpiaaDoor
