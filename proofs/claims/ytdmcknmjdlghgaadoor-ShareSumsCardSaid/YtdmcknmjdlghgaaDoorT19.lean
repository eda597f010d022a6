/-
  The frame of a law whose row lists packages' numbers as they are laid.
-/
import Derived.Test.YtdmcknmjdlghgaaDoorRows
import Derived.ChangeVars
import Derived.JoinedOf
import Derived.LaidLaws
import Derived.LaidHandle
import Derived.Stop.Joined
import Derived.Test.YtdmcknmjdlghgaaDoorT01
import Derived.Test.YtdmcknmjdlghgaaDoorT02
import Derived.Test.YtdmcknmjdlghgaaDoorT03
import Derived.Test.YtdmcknmjdlghgaaDoorT05
import Derived.Test.YtdmcknmjdlghgaaDoorT06
import Derived.Test.YtdmcknmjdlghgaaDoorT07
import Derived.Test.YtdmcknmjdlghgaaDoorT08
import Derived.Test.YtdmcknmjdlghgaaDoorT15
namespace Go.Proofs.YtdmcknmjdlghgaaDoor
open Go Go.Ab Go.ChangeShapes Go.WideShapes Go.ChangeAt Go.RowKit
set_option linter.unusedSimpArgs false
set_option linter.unusedVariables false
theorem glob0 : Tryd.prog.globalNamed "sortition/group.low" = some 0 := by kernel_rfl
theorem glob1 : Tryd.prog.globalNamed "sortition/group.two" = some 1 := by kernel_rfl
theorem glob2 : Tryd.prog.globalNamed "sortition/group.one" = some 2 := by kernel_rfl
theorem glob3 : Tryd.prog.globalNamed "sortition/pratt.least" = some 3 := by kernel_rfl
theorem globT0 : (Tryd.prog.globals[0]?).map (·.type) = some 24 := by kernel_rfl
theorem globT1 : (Tryd.prog.globals[1]?).map (·.type) = some 24 := by kernel_rfl
theorem globT2 : (Tryd.prog.globals[2]?).map (·.type) = some 24 := by kernel_rfl
theorem globT3 : (Tryd.prog.globals[3]?).map (·.type) = some 24 := by kernel_rfl
set_option maxRecDepth 100000 in
theorem gnat_of_laid {n : String} {g v : Nat} {z : Int} {r : List (String × DataW Unit)} {W : World} {ps : List MemPlace} (hn : Tryd.prog.globalNamed n = some g) (hT : (Tryd.prog.globals[g]?).map (·.type) = some 24)
    (hv0 : natsG (fun _ => v) 0 = .int .u64 z) (hv1 : natsG (fun _ => v) 1 = .int .u64 0) (hv2 : natsG (fun _ => v) 2 = .int .u64 0) (hv3 : natsG (fun _ => v) 3 = .int .u64 0)
    (h : DataW.LaidVars Tryd.prog W ((n, .agg [.lit (.int .u64 z), .lit (.int .u64 0), .lit (.int .u64 0), .lit (.int .u64 0)]) :: r) ps) : gnat g v W ∧ ∃ q, DataW.LaidVars Tryd.prog W r q := by
  obtain ⟨g', t, cs, fuel, p, q, hg, ht, hc, htr, hr, _⟩ := h
  refine ⟨?_, q, hr⟩
  obtain rfl := Option.some.inj (hn.symm.trans hg)
  obtain rfl := Option.some.inj (hT.symm.trans ht)
  obtain ⟨xs, m, _, hx, hl, hxl, hi⟩ := DataW.trod_array tf24_u htr
  have hce : Tryd.prog.cellsOf 22 = 1 := by kernel_rfl
  have hc4 : Tryd.prog.cellsOf 24 = 4 := by kernel_rfl
  rw [hc4] at hl
  injection hx with hx _
  have hx' : ([.lit (.int .u64 z), .lit (.int .u64 0), .lit (.int .u64 0), .lit (.int .u64 0)] : List (DataW Unit)) = xs.map (·.1) := by
    have h1 : (DataW.agg [.lit (.int .u64 z), .lit (.int .u64 0), .lit (.int .u64 0), .lit (.int .u64 0)] : DataW Unit) = .agg (xs.map (·.1)) := hx
    injection h1
  have cell : ∀ i, i < 4 → ∀ y : Int, ([.lit (.int .u64 z), .lit (.int .u64 0), .lit (.int .u64 0), .lit (.int .u64 0)] : List (DataW Unit))[i]? = some (.lit (.int .u64 y)) → cs[i]? = some (.int .u64 y) := by
    intro i h4 y hy
    have h1 := hi i h4
    rw [List.getElem?_eq_getElem (by omega), hce, Nat.mul_one] at h1
    obtain ⟨n, hn, hxn, _⟩ := DataW.trod_int (by kernel_rfl : Tryd.prog.underlying 22 = some (.int .u64)) h1
    rw [hx', List.getElem?_map, List.getElem?_eq_getElem (by omega), Option.map_some, hxn] at hy
    injection hy with hy
    injection hy with hy
    injection hy with _ hy
    subst hy
    have h2 := congrArg (·[0]?) hn
    simpa [List.getElem?_take, List.getElem?_drop] using h2
  unfold World.var? at hc
  rw [hn, Option.bind_some] at hc
  split at hc
  · rename_i c t f hk
    injection hc with hc
    subst hc
    refine ⟨_, _, _, hk, fun i h4 => ?_⟩
    rcases i with _ | _ | _ | _ | i
    · rw [hv0]; exact cell 0 h4 z rfl
    · rw [hv1]; exact cell 1 h4 0 rfl
    · rw [hv2]; exact cell 2 h4 0 rfl
    · rw [hv3]; exact cell 3 h4 0 rfl
    · omega
  · cases hc
theorem gv_of_laid {W : World} (h : laidMetH Tryd.prog Rows.groupFewRow.laid W) : gv W := by
  have h' : laidMet Tryd.prog [("sortition/pratt.least", Rows.laid_sortition_pratt_least), ("sortition/group.one", Rows.laid_sortition_group_one), ("sortition/group.two", Rows.laid_sortition_group_two), ("sortition/group.low", Rows.laid_sortition_group_low)] W := h
  obtain ⟨ps, h1, _⟩ := h'
  obtain ⟨g3, q1, h2⟩ := gnat_of_laid (v := 2) (z := 2) glob3 globT3 rfl rfl rfl rfl h1
  obtain ⟨g2, q2, h3⟩ := gnat_of_laid (v := 1) (z := 1) glob2 globT2 rfl rfl rfl rfl h2
  obtain ⟨g1, q3, h4⟩ := gnat_of_laid (v := 2) (z := 2) glob1 globT1 rfl rfl rfl rfl h3
  obtain ⟨g0, q4, h5⟩ := gnat_of_laid (v := 5) (z := 5) glob0 globT0 rfl rfl rfl rfl h4
  exact ⟨g3, g0, g1, g2⟩
noncomputable def laidWorld (os : Os) : World :=
  let w0 := World.holding Tryd.prog os ⟨#[], #[], []⟩
  { w0 with heap := (((w0.heap.modify 0 fun
      | .cells _ t frozen => .cells #[.int .u64 5, .int .u64 0, .int .u64 0, .int .u64 0] t frozen
      | o => o).modify 1 fun
      | .cells _ t frozen => .cells #[.int .u64 2, .int .u64 0, .int .u64 0, .int .u64 0] t frozen
      | o => o).modify 2 fun
      | .cells _ t frozen => .cells #[.int .u64 1, .int .u64 0, .int .u64 0, .int .u64 0] t frozen
      | o => o).modify 3 fun
      | .cells _ t frozen => .cells #[.int .u64 2, .int .u64 0, .int .u64 0, .int .u64 0] t frozen
      | o => o }
theorem law_lifted2 {H : Type} {enc : TypeId × Value → H} {C : Checked} {os : Os} {f : FuncId} {fn : Func} {s : ChangeSpec} {fresh handsOn again : Bool} {tb : TypeId} {X : World → Array Value → Prop} (hX : ∀ (w w' : World) (args : Array Value), w.heap = w'.heap → X w args → X w' args)
    (own : ownKnob C.prog.godebug = none) (started : os.Started) (noInit : C.prog.inits.idxOf? f = none) (hfn : C.prog.funcs[f]? = some fn) (hl : laidOutB C.prog = true)
    (witness : ∃ (w : World) (tape : Tape) (i : Input), w.os = os ∧ (w.forCall tape i).Shaped C.prog ∧ i.vars = [] ∧ Input.okWide C.prog (w.forCall tape i) .any w.heap.size f i ∧
      ((s.pre enc C.prog fn [] false (w.forCall tape i).memory i.args ∧ X (w.forCall tape i).memory i.args) ∧ sizedMet enc C.prog fn (OpenSpec.ofChange s) false (w.forCall tape i).memory i.args) ∧ ({} : Assume).holds C.prog (lone (Frame.enter C.prog f i.args .normal) [] (w.forCall tape i)))
    (hv : s.vars = []) (hs : ∀ ds : List (DataW H), ds.length = fn.params.toList.length → s.fn H ds = { results := [.lit (.bool true)], args := ds })
    (hrt : fn.resultTypes = #[tb]) (htb : C.prog.underlying tb = some .bool)
    (hp : ∀ t ∈ fn.params.toList, C.prog.readableRec t = true ∧ t < C.prog.types.size)
    (walk : ∀ (W : World) (base : Nat) (args : Array Value) (ds : List (DataW H)) (ps : List MemPlace),
      (∀ (j : Nat) t v, fn.params[j]? = some t → args[j]? = some v → Value.okWide C.prog W .any base t v) → DataW.TrodAll enc C.prog W 0 (fun _ => true) true fn.params.toList args.toList ds ps →
      X W args → Calls C.prog f args W fun e W' => e = .returned (.bool true) ∧ Below W.heap.size W W') :
    ReturnsInHanded {} C os f .any (fun w args => (s.pre enc C.prog fn [] false w args ∧ X w args) ∧ sizedMet enc C.prog fn (OpenSpec.ofChange s) false w args) (s.post enc C.prog fn false fresh handsOn again) := by
  refine returnsInHanded_of_change_and hX own started noInit hfn witness ?_
  intro W base args ds gs before hval hW _ _ hXX _
  have hW' := hW
  have hlt : ∀ x ∈ before, x.block < W.heap.size := fun x hx => hW.lt x hx
  obtain ⟨p, q, hA, hV, rfl, hfz, hnd⟩ := hW
  rw [hv] at hV
  obtain ⟨rfl, rfl⟩ := trodVars_none hV
  simp only [List.append_nil] at hW' hlt hfz
  refine (walk W base args ds p hval hA hXX).mono fun e W' ⟨he, hb⟩ => ⟨_, he, ?_⟩
  have hfn' := hs ds (trodAll_len hA).1
  refine post_of_below (pa := p) (pv := []) hW' (fun b sp hd => ?_) (fun sp hsp => ?_) (fun sp _ => ?_) (by simp) hb ?_
  · rw [List.append_nil, hfn', hrt]
    exact trodAll_mk1 (shut_bool htb true)
  · rw [List.append_nil, hfn']
    exact trodAll_stays hl hb hp hA hlt hsp
  · rw [List.append_nil, hfn', hv]
    rfl
  · exact ok_one hrt rfl (okWide_bool_mk htb true)
end Go.Proofs.YtdmcknmjdlghgaaDoor
