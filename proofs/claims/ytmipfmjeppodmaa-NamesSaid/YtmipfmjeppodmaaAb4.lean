/-
  The rest of the operations; the assembly: every abstract step is sound.
-/
import Derived.Test.YtmipfmjeppodmaaAb3
namespace Go.Ab
open Go Go.RowKit
set_option linter.unusedSimpArgs false
set_option linter.unusedVariables false

theorem sound_nil {Γ : Ctx} {x : Operand} {E : Operand → TV} {H : Heap} {K : KT} (h : xnil (E x) K) :
    ∃ v e, K v e ∧ Sound Γ (.nilCheck x) E H v e := by
  unfold xnil at h
  split at h
  · rename_i j off hx
    exact ⟨_, _, h, fun o β ρ w ho hρ _ => by simp [Does, execOp, ho, hρ, hx, conc_v, conc_p, conc_sl, conc_agg, conc_tup]⟩
  · rename_i ad hx
    exact ⟨_, _, h, fun o β ρ w ho hρ _ => by simp [Does, execOp, ho, hρ, hx, conc_v, conc_p, conc_sl, conc_agg, conc_tup]⟩
  · rename_i f a c hx
    exact ⟨_, _, h, fun o β ρ w ho hρ _ => by simp [Does, execOp, ho, hρ, hx, conc_v, conc_p, conc_sl, conc_agg, conc_tup]⟩
  · exact h.elim

theorem run_shift {P : Program} {k yk : IntKind} {t : TypeId} {m n : Int} {op : BinOp} {K : KT} (h : shiftOp op k m n K) :
    ∃ v : Value, K (.s (.v v)) .none ∧ ∀ w, (binOp op t (.int k m) (.int yk n)).run P w = .ok v w := by
  unfold shiftOp at h
  split at h
  · exact ⟨_, h.2, fun w => by simp [binOp, Op.shift, Int.not_lt.2 h.1]⟩
  · exact ⟨_, h.2, fun w => by simp [binOp, Op.shift, Int.not_lt.2 h.1]⟩
  · exact h.elim

theorem run_int {P : Program} {k : IntKind} {t : TypeId} {m n : Int} {op : BinOp} {K : KT} (h : intOp op k m n K) :
    ∃ v : Value, K (.s (.v v)) .none ∧ ∀ w, (binOp op t (.int k m) (.int k n)).run P w = .ok v w := by
  unfold intOp at h
  split at h
  · exact ⟨_, h, fun w => by simp [binOp, Op.intArith]⟩
  · exact ⟨_, h, fun w => by simp [binOp, Op.intArith]⟩
  · exact ⟨_, h, fun w => by simp [binOp, Op.intArith]⟩
  · exact ⟨_, h.2, fun w => by simp [binOp, Op.intDiv, h.1]⟩
  · exact ⟨_, h.2, fun w => by simp [binOp, Op.intDiv, h.1]⟩
  · exact ⟨_, h, fun w => by simp [binOp, intBits_and]⟩
  · exact ⟨_, h, fun w => by simp [binOp, intBits_or]⟩
  · exact ⟨_, h, fun w => by simp [binOp, intBits_xor]⟩
  · exact ⟨_, h, fun w => by simp [binOp, intBits_andNot]⟩
  · exact ⟨_, h, fun w => by simp [binOp, Op.intCmp]⟩
  · exact ⟨_, h, fun w => by simp [binOp, Op.intCmp]⟩
  · exact ⟨_, h, fun w => by simp [binOp, Op.intCmp]⟩
  · exact ⟨_, h, fun w => by simp [binOp, Op.intCmp]⟩
  · exact ⟨_, h, fun w => by simp [binOp, Op.intCmp]⟩
  · exact ⟨_, h, fun w => by simp [binOp, Op.intCmp]⟩
  · exact h.elim

theorem eqNeg_cases {op : BinOp} {neg : Bool} (h : eqNeg op = some neg) : (op = .eql ∧ neg = false) ∨ (op = .neq ∧ neg = true) := by
  cases op <;> simp [eqNeg] at h <;> simp [← h]

/-- What a test for being alike yields. -/
theorem run_eqB {P : Program} {op : BinOp} {t : TypeId} {x y : Value} {r : Bool} {ok : Bool} {K : KT} (h : xeqB ok (eqNeg op) r K)
    (hb : ∀ w, ok = true → (binOp .eql t x y).run P w = .ok (.bool r) w ∧ (binOp .neq t x y).run P w = .ok (.bool !r) w) :
    ∃ v : Value, K (.s (.v v)) .none ∧ ∀ w, (binOp op t x y).run P w = .ok v w := by
  unfold xeqB at h
  split at h
  · rename_i neg hneg
    rcases eqNeg_cases hneg with ⟨rfl, rfl⟩ | ⟨rfl, rfl⟩
    · exact ⟨_, h.2, fun w => by simpa using (hb w h.1).1⟩
    · exact ⟨_, h.2, fun w => by simpa using (hb w h.1).2⟩
  · exact h.elim

theorem run_equal_of {P : Program} {t : TypeId} {x y : Value} {r : Bool} (hm : ∀ w, (Op.equal t x y).run P w = .ok r w)
    (he : ∀ w, (binOp .eql t x y).run P w = ((Op.equal t x y).run P w).andThen fun b w' => .ok (.bool b) w')
    (hn : ∀ w, (binOp .neq t x y).run P w = ((Op.equal t x y).run P w).andThen fun b w' => .ok (.bool !b) w') (w : World) :
    (binOp .eql t x y).run P w = .ok (.bool r) w ∧ (binOp .neq t x y).run P w = .ok (.bool !r) w := by
  rw [he, hn, hm]
  exact ⟨rfl, rfl⟩

theorem ptr_eq {P : Program} {t : TypeId} (h : isPtr P t = true) (x : Option Addr) (w : World) :
    (binOp .eql t (.pointer x) (.pointer none)).run P w = .ok (.bool x.isNone) w ∧ (binOp .neq t (.pointer x) (.pointer none)).run P w = .ok (.bool !x.isNone) w := by
  unfold isPtr at h
  split at h
  · rename_i e hu
    refine run_equal_of (fun w => ?_) (fun w => by simp [binOp]) (fun w => by simp [binOp]) w
    have : ∀ d, (Op.equalIn (d + 1) t (.pointer x) (.pointer none)).run P w = .ok x.isNone w := fun d => by cases x <;> simp [Op.equalIn, run_underlying hu]
    exact this 9999
  · cases h

theorem slc_eq {P : Program} {t : TypeId} (h : isSlc P t = true) (x : Option Addr) (n c : Nat) (w : World) :
    (binOp .eql t (.slice x n c) (.slice none 0 0)).run P w = .ok (.bool x.isNone) w ∧ (binOp .neq t (.slice x n c) (.slice none 0 0)).run P w = .ok (.bool !x.isNone) w := by
  unfold isSlc at h
  split at h
  · rename_i e hu
    refine run_equal_of (fun w => ?_) (fun w => by simp [binOp]) (fun w => by simp [binOp]) w
    have : ∀ d, (Op.equalIn (d + 1) t (.slice x n c) (.slice none 0 0)).run P w = .ok x.isNone w := fun d => by cases x <;> simp [Op.equalIn, run_underlying hu]
    exact this 9999
  · cases h

theorem bool_eq {P : Program} {t : TypeId} (h : isBoolT P t = true) (x y : Bool) (w : World) :
    (binOp .eql t (.bool x) (.bool y)).run P w = .ok (.bool (x == y)) w ∧ (binOp .neq t (.bool x) (.bool y)).run P w = .ok (.bool !(x == y)) w := by
  unfold isBoolT at h
  split at h
  · rename_i hu
    refine run_equal_of (fun w => ?_) (fun w => by simp [binOp]) (fun w => by simp [binOp]) w
    exact run_equalIn_bool w 9999 t x y hu
  · cases h

theorem valsOf_conc (β : Nat → Nat) : ∀ {l : List SV} {vs : List Value}, valsOf l = some vs → l.map (SV.conc β) = vs
  | [], vs, h => by simp only [valsOf, Option.some.injEq] at h; subst h; rfl
  | .v x :: l, vs, h => by
    simp only [valsOf, Option.map_eq_some_iff] at h
    obtain ⟨ws, h1, rfl⟩ := h
    simp [SV.conc, valsOf_conc β h1]
  | .p _ _ :: _, _, h => by simp [valsOf] at h
  | .sl _ _ _ _ :: _, _, h => by simp [valsOf] at h

theorem agg_eq {P : Program} {t : TypeId} {a b : TV} {la lb : List Lit} (hok : eqTy P t = true) (ha : litsA P t (cellsOf a) = some la) (hb : litsA P t (cellsOf b) = some lb)
    (β : Nat → Nat) {xs ys : Array Value} (hx : a.conc β = .agg xs) (hy : b.conc β = .agg ys) (w : World) :
    (binOp .eql t (.agg xs) (.agg ys)).run P w = .ok (.bool (litsEq la lb)) w ∧ (binOp .neq t (.agg xs) (.agg ys)).run P w = .ok (.bool !(litsEq la lb)) w := by
  unfold eqTy at hok
  simp only [Bool.and_eq_true, Bool.not_eq_true'] at hok
  obtain ⟨⟨hrow, hkey⟩, hguard⟩ := hok
  have key : ∀ {c : TV} {lc : List Lit} {zs : Array Value}, litsA P t (cellsOf c) = some lc → c.conc β = .agg zs → P.keyLits 9 t zs.toList = some lc := by
    intro c lc zs hc hz
    unfold litsA at hc
    simp only [Option.bind_eq_some_iff] at hc
    obtain ⟨vs, ⟨l, hl, hv⟩, hk⟩ := hc
    have h1 := cellsOf_conc hl β
    rw [hz, valsOf_conc β hv] at h1
    simp only [Value.cells] at h1
    rw [h1]
    exact hk
  have kx := key ha hx
  have ky := key hb hy
  have formed : ∀ {zs : Array Value} {lc : List Lit}, P.keyLits 9 t zs.toList = some lc → (Value.agg zs).formed P t = true := by
    intro zs lc hz
    unfold isRow at hrow
    simp only [Value.formed]
    split at hrow
    · rename_i fs hu
      simp only [hu]
      unfold Program.keyLits at hz
      simp only [hu] at hz
      split at hz
      · rename_i hc; simpa using hc.1
      · cases hz
    · rename_i n e hu
      simp only [hu]
      unfold Program.keyLits at hz
      simp only [hu] at hz
      split at hz
      · rename_i hc; simpa using hc
      · cases hz
    · cases hrow
  have hdeep := run_equalIn_deep (P := P) 9991 9 t hkey
  have hE : ∀ w, (Op.equal t (.agg xs) (.agg ys)).run P w = .ok (litsEq la lb) w := by
    intro w
    obtain ⟨r, hr, hiff⟩ := hdeep w 9 9 (.agg xs) (.agg ys) la lb (formed kx) (formed ky) (by simpa [Value.cells] using kx) (by simpa [Value.cells] using ky)
    have : r = litsEq la lb := by rw [Bool.eq_iff_iff, hiff, litsEq_iff]
    rw [← this]
    exact hr
  exact run_equal_of hE (fun w => by simp [binOp]) (fun w => by simp [binOp]) w

theorem eqGuard_agg {P : Program} {t : TypeId} (hok : eqTy P t = true) (op : BinOp) (x y : Operand) (xs ys : Array Value) (w : World) : (eqGuard op t x y (.agg xs) (.agg ys)).run P w = .ok () w := by
  unfold eqTy at hok
  simp only [Bool.and_eq_true, Bool.not_eq_true'] at hok
  exact run_eqGuard_agg w op t x y xs ys hok.2

theorem run_eqR {P : Program} {op : BinOp} {t : TypeId} {a b : TV} {K : KT} (h : xeqR P t (eqNeg op) a b K) (ha : isAgg a = true) (hb : isAgg b = true) :
    ∃ v : Value, K (.s (.v v)) .none ∧ eqTy P t = true ∧ ∀ β w, (∃ xs, a.conc β = .agg xs) ∧ (∃ ys, b.conc β = .agg ys) ∧ (binOp op t (a.conc β) (b.conc β)).run P w = .ok v w := by
  have agg : ∀ {c : TV}, isAgg c = true → ∀ β, ∃ zs, c.conc β = .agg zs := by
    intro c hc β
    unfold isAgg at hc
    split at hc
    · exact ⟨_, rfl⟩
    · exact ⟨_, rfl⟩
    · cases hc
  unfold xeqR at h
  split at h
  · rename_i neg hneg
    unfold xeqA at h
    split at h
    · rename_i la lb hla hlb
      obtain ⟨hok, hK⟩ := h
      refine ⟨_, hK, hok, fun β w => ⟨agg ha β, agg hb β, ?_⟩⟩
      obtain ⟨xs, hx⟩ := agg ha β
      obtain ⟨ys, hy⟩ := agg hb β
      have := agg_eq hok hla hlb β hx hy w
      rw [hx, hy]
      rcases eqNeg_cases hneg with ⟨rfl, rfl⟩ | ⟨rfl, rfl⟩
      · simpa using this.1
      · simpa using this.2
    · exact h.elim
  · exact h.elim

theorem sound_bin {Γ : Ctx} {op : BinOp} {t ty : TypeId} {x y : Operand} {E : Operand → TV} {H : Heap} {K : KT} (h : xbin Γ.P op t (E x) (E y) K) :
    ∃ v e, K v e ∧ Sound Γ (.binOp op t x y ty) E H v e := by
  have fin : ∀ {v : Value}, K (.s (.v v)) .none → (∀ β w, (eqGuard op t x y ((E x).conc β) ((E y).conc β)).run Γ.P w = .ok () w ∧ (binOp op t ((E x).conc β) ((E y).conc β)).run Γ.P w = .ok v w) → ∃ v e, K v e ∧ Sound Γ (.binOp op t x y ty) E H v e :=
    fun {v} hK hr => ⟨_, _, hK, fun o β ρ w ho hρ _ => by
      obtain ⟨h1, h2⟩ := hr β w
      simp only [Does, execOp, ho, hρ, Sem.run_bind, h1, Result.andThen_ok, h2, Sem.run_pure, conc_v, conc_p, conc_sl, conc_agg, conc_tup]⟩
  unfold xbin at h
  split at h
  · rename_i k m k' n hx hy
    unfold xint at h
    split at h
    · obtain ⟨v, hK, hr⟩ := run_shift (P := Γ.P) (yk := k') (t := t) h
      exact fin hK fun β w => ⟨by simp [hx, hy, conc_v, conc_p, conc_sl, conc_agg, conc_tup, eqGuard_at_int], by rw [hx, hy]; exact hr w⟩
    · obtain ⟨rfl, h⟩ := h
      obtain ⟨v, hK, hr⟩ := run_int (P := Γ.P) (t := t) h
      exact fin hK fun β w => ⟨by simp [hx, hy, conc_v, conc_p, conc_sl, conc_agg, conc_tup, eqGuard_at_int], by rw [hx, hy]; exact hr w⟩
  · rename_i p q hx hy
    obtain ⟨v, hK, hr⟩ := run_eqB (P := Γ.P) (t := t) (x := .bool p) (y := .bool q) h (fun w hok => bool_eq hok p q w)
    exact fin hK fun β w => ⟨by simp [hx, hy, conc_v, conc_p, conc_sl, conc_agg, conc_tup, eqGuard_at_bool], by rw [hx, hy]; exact hr w⟩
  · rename_i p q hx hy
    unfold strOp at h
    split at h
    · exact fin h fun β w => ⟨by simp [hx, hy, conc_v, conc_p, conc_sl, conc_agg, conc_tup, eqGuard_at_string], by rw [hx, hy]; simp [conc_v, conc_p, conc_sl, conc_agg, conc_tup, binOp, Op.stringOp, beq_toListBytes, bne]⟩
    · exact fin h fun β w => ⟨by simp [hx, hy, conc_v, conc_p, conc_sl, conc_agg, conc_tup, eqGuard_at_string], by rw [hx, hy]; simp [conc_v, conc_p, conc_sl, conc_agg, conc_tup, binOp, Op.stringOp, beq_toListBytes, bne]⟩
    · exact h.elim
  · rename_i j off hx hy
    unfold xeqB at h
    split at h
    · rename_i neg hneg
      refine fin h.2 fun β w => ⟨by simp [hx, hy, conc_v, conc_p, conc_sl, conc_agg, conc_tup, eqGuard_at_pointer], ?_⟩
      have := ptr_eq h.1 (some ⟨β j, off, none⟩) w
      rw [hx, hy]
      simp only [conc_p, conc_sl, conc_v]
      rcases eqNeg_cases hneg with ⟨rfl, rfl⟩ | ⟨rfl, rfl⟩
      · simpa using this.1
      · simpa using this.2
    · exact h.elim
  · rename_i p hx hy
    obtain ⟨v, hK, hr⟩ := run_eqB (P := Γ.P) (t := t) (x := .pointer p) (y := .pointer none) h (fun w hok => ptr_eq hok p w)
    exact fin hK fun β w => ⟨by simp [hx, hy, conc_v, conc_p, conc_sl, conc_agg, conc_tup, eqGuard_at_pointer], by rw [hx, hy]; exact hr w⟩
  · rename_i j off len cap hx hy
    unfold xeqB at h
    split at h
    · rename_i neg hneg
      refine fin h.2 fun β w => ⟨by simp [hx, hy, conc_v, conc_p, conc_sl, conc_agg, conc_tup, eqGuard_at_slice], ?_⟩
      have := slc_eq h.1 (some ⟨β j, off, none⟩) len cap w
      rw [hx, hy]
      simp only [conc_p, conc_sl, conc_v]
      rcases eqNeg_cases hneg with ⟨rfl, rfl⟩ | ⟨rfl, rfl⟩
      · simpa using this.1
      · simpa using this.2
    · exact h.elim
  · rename_i p n c hx hy
    obtain ⟨v, hK, hr⟩ := run_eqB (P := Γ.P) (t := t) (x := .slice p n c) (y := .slice none 0 0) h (fun w hok => slc_eq hok p n c w)
    exact fin hK fun β w => ⟨by simp [hx, hy, conc_v, conc_p, conc_sl, conc_agg, conc_tup, eqGuard_at_slice], by rw [hx, hy]; exact hr w⟩
  all_goals first
    | exact h.elim
    | (rename_i a b hx hy
       obtain ⟨v, hK, hok, hr⟩ := run_eqR (P := Γ.P) h rfl rfl
       refine fin hK fun β w => ?_
       obtain ⟨⟨xs, hxs⟩, ⟨ys, hys⟩, hrun⟩ := hr β w
       rw [hx, hy]
       refine ⟨?_, hrun⟩
       rw [hxs, hys]
       exact eqGuard_agg hok op x y xs ys w)

theorem sound_un {Γ : Ctx} {op : UnOp} {t : TypeId} {x : Operand} {E : Operand → TV} {H : Heap} {K : KT} (h : xun op (E x) K) :
    ∃ v e, K v e ∧ Sound Γ (.unOp op t x) E H v e := by
  unfold xun at h
  split at h
  · rename_i k n hx
    exact ⟨_, _, h, fun o β ρ w ho hρ _ => by simp [Does, execOp, ho, hρ, hx, conc_v, conc_p, conc_sl, conc_agg, conc_tup, Op.unary, Op.intArith]⟩
  · rename_i k n hx
    exact ⟨_, _, h, fun o β ρ w ho hρ _ => by simp [Does, execOp, ho, hρ, hx, conc_v, conc_p, conc_sl, conc_agg, conc_tup, Op.unary, intBits_xor]⟩
  · rename_i b hx
    exact ⟨_, _, h, fun o β ρ w ho hρ _ => by simp [Does, execOp, ho, hρ, hx, conc_v, conc_p, conc_sl, conc_agg, conc_tup, Op.unary]⟩
  · exact h.elim

theorem intKindOf_spec {P : Program} {t : TypeId} {k : IntKind} (h : intKindOf P t = some k) : P.underlying t = some (.int k) := by
  unfold intKindOf at h
  split at h
  · simp only [Option.some.injEq] at h; subst h; assumption
  · cases h

theorem sound_conv {Γ : Ctx} {s d : TypeId} {x : Operand} {E : Operand → TV} {H : Heap} {K : KT} (h : xconv (intKindOf Γ.P s) (intKindOf Γ.P d) (E x) K) :
    ∃ v e, K v e ∧ Sound Γ (.convert s d x) E H v e := by
  unfold xconv at h
  split at h
  · rename_i _ _ _ ks kd k n hs hd hx
    have us := intKindOf_spec hs
    have ud := intKindOf_spec hd
    exact ⟨_, _, h, fun o β ρ w ho hρ _ => by simp [Does, execOp, ho, hρ, hx, conc_v, conc_p, conc_sl, conc_agg, conc_tup, convert, run_underlying us, run_underlying ud, Conv.intToInt]⟩
  · exact h.elim

theorem fieldOff_spec {P : Program} {s : TypeId} {f o : Nat} {t : TypeId} (h : fieldOff P s f = some (o, t)) :
    ∃ fs fd, P.underlying s = some (.struct fs) ∧ fs[f]? = some fd ∧ fd.offset = o ∧ fd.type = t ∧ P.cellsOf fd.type ≠ 0 := by
  unfold fieldOff at h
  split at h
  · rename_i fs hu
    split at h
    · rename_i fd hf
      split at h
      · cases h
      · rename_i hc
        simp only [Option.some.injEq, Prod.mk.injEq] at h
        exact ⟨fs, fd, hu, hf, h.1, h.2, hc⟩
    · cases h
  · cases h

theorem cellsOf_pos {P : Program} {t : TypeId} (h : P.cellsOf t ≠ 0) : ∃ i, P.info? t = some i ∧ i.size = P.cellsOf t := by
  unfold Program.cellsOf at *
  cases hi : P.info? t with
  | none => simp [hi] at h
  | some i => exact ⟨i, rfl, by simp⟩

theorem run_fieldAt {P : Program} {s : TypeId} {f o : Nat} {t : TypeId} (h : fieldOff P s f = some (o, t)) (a : Addr) (w : World) :
    (Instr.fieldAt s (.pointer (some a)) f).run P w = .ok (.pointer (some (a.add o))) w := by
  obtain ⟨fs, fd, hu, hf, rfl, rfl, hc⟩ := fieldOff_spec h
  obtain ⟨i, hi, hs⟩ := cellsOf_pos hc
  have h0 : i.size ≠ 0 := by rw [hs]; exact hc
  simp [Instr.fieldAt, run_underlying hu, hf, Instr.sureAddr, fieldPlace, sizeOf, typeInfo, hi, h0]

theorem sound_fieldAddr {Γ : Ctx} {s : TypeId} {x : Operand} {f : Nat} {E : Operand → TV} {H : Heap} {K : KT} (h : xfieldAddr (fieldOff Γ.P s f) (E x) K) :
    ∃ v e, K v e ∧ Sound Γ (.fieldAddr s x f) E H v e := by
  unfold xfieldAddr at h
  split at h
  · rename_i _ _ o t j off hf hx
    refine ⟨_, _, h, fun op β ρ w ho hρ _ => ?_⟩
    have := run_fieldAt hf ⟨β j, off, none⟩ w
    simp [Does, execOp, ho, hρ, hx, conc_v, conc_p, conc_sl, conc_agg, conc_tup, this, Addr.add_mid]
  · rename_i _ _ o t ad hf hx
    refine ⟨_, _, h, fun op β ρ w ho hρ _ => ?_⟩
    have := run_fieldAt hf ad w
    simp [Does, execOp, ho, hρ, hx, conc_v, conc_p, conc_sl, conc_agg, conc_tup, this]
  · exact h.elim

theorem isAgg_conc {a : TV} (h : Ab.isAgg a = true) (β : Nat → Nat) : ∃ cs, a.conc β = .agg cs ∧ ∀ l, cellsOf a = some l → cs = (l.map (SV.conc β)).toArray := by
  unfold Ab.isAgg at h
  split at h
  · exact ⟨_, rfl, fun l hl => by simp only [cellsOf, Option.some.injEq] at hl; subst hl; rfl⟩
  · rename_i cs
    refine ⟨cs, rfl, fun l hl => ?_⟩
    simp only [cellsOf, Option.some.injEq] at hl
    subst hl
    simp [Function.comp_def, SV.conc]
  · cases h

theorem run_part {P : Program} {t : TypeId} {cs : Option (List SV)} {off : Nat} {K : KT} (h : xpart (rowOf P t) (P.cellsOf t) off cs K) :
    ∃ l v, cs = some l ∧ K v .none ∧ ∀ β w, (Go.part t (l.map (SV.conc β)).toArray off).run P w = .ok (v.conc β) w := by
  unfold xpart at h
  split at h
  · rename_i l hrow
    obtain ⟨hl, hK⟩ := h
    refine ⟨l, _, rfl, hK, fun β w => ?_⟩
    obtain ⟨d, hu, hd⟩ := rowOf_true hrow
    obtain ⟨i, hi⟩ := info_of_underlying hu
    have hs : P.cellsOf t = i.size := by simp [Program.cellsOf, hi]
    simp only [Go.part, Sem.run_bind, run_isAgg hu, hd, Result.andThen_ok, if_true, sizeOf, typeInfo, run_program, hi, Sem.run_pure, TV.conc, part_eq, hs]
    congr 2
    rw [List.extract_toArray]
    simp [List.map_take, List.map_drop, List.extract_eq_take_drop]
  · rename_i l hrow
    unfold xcell at h
    split at h
    · rename_i y hy
      refine ⟨l, _, rfl, h, fun β w => ?_⟩
      obtain ⟨d, hu, hd⟩ := rowOf_false hrow
      simp [Go.part, run_isAgg hu, hd, hy, TV.conc]
    · exact h.elim
  · exact h.elim

theorem sound_field {Γ : Ctx} {t : TypeId} {x : Operand} {f : Nat} {E : Operand → TV} {H : Heap} {K : KT} (h : xfield Γ.P (fieldOff Γ.P t f) (E x) K) :
    ∃ v e, K v e ∧ Sound Γ (.field t x f) E H v e := by
  unfold xfield at h
  split at h
  · rename_i _ o ft hf
    obtain ⟨hagg, h⟩ := h
    obtain ⟨l, v, hl, hK, hr⟩ := run_part h
    refine ⟨_, _, hK, fun op β ρ w ho hρ _ => ?_⟩
    obtain ⟨fs, fd, hu, hfd, rfl, rfl, _⟩ := fieldOff_spec hf
    obtain ⟨cs, hc, hcs⟩ := isAgg_conc hagg β
    have := hr β w
    rw [← hcs l hl] at this
    simp [Does, execOp, ho, hρ, hc, Instr.field, run_underlying hu, hfd, asAgg, this]
  · exact h.elim

theorem run_indexAt_arr {P : Program} {t : TypeId} {n : Nat} {e : TypeId} (h : arrOf P t = some (n, e)) (a : Addr) (k : IntKind) (i : Int) (hi : inRange i n) (w : World) :
    (Instr.indexAt t (.pointer (some a)) (.int k i)).run P w = .ok (.pointer (some (a.add (i.toNat * P.cellsOf e)))) w := by
  obtain ⟨hu, ie, hie⟩ := arrOf_spec h
  have hs : P.cellsOf e = ie.size := by simp [Program.cellsOf, hie]
  unfold inRange at hi
  simp [Instr.indexAt, asIntOf, run_underlying hu, Instr.sureAddr, hi, sizeOf, typeInfo, hie, hs]

theorem run_indexAt_slc {P : Program} {t e : TypeId} (h : slcOf P t = some e) (a : Addr) (n c : Nat) (k : IntKind) (i : Int) (hi : inRange i n) (w : World) :
    (Instr.indexAt t (.slice (some a) n c) (.int k i)).run P w = .ok (.pointer (some (a.add (i.toNat * P.cellsOf e)))) w := by
  obtain ⟨hu, ie, hie⟩ := slcOf_spec h
  have hs : P.cellsOf e = ie.size := by simp [Program.cellsOf, hie]
  unfold inRange at hi
  simp [Instr.indexAt, asIntOf, run_underlying hu, hi, sizeOf, typeInfo, hie, hs]

theorem sound_indexAddr {Γ : Ctx} {t : TypeId} {x y : Operand} {E : Operand → TV} {H : Heap} {K : KT} (h : xindexAddr Γ.P (arrOf Γ.P t) (slcOf Γ.P t) (E x) (E y) K) :
    ∃ v e, K v e ∧ Sound Γ (.indexAddr t x y) E H v e := by
  unfold xindexAddr at h
  split at h
  · rename_i k i hy
    split at h
    · rename_i n e harr
      split at h
      · rename_i j off hx
        obtain ⟨hi, hK⟩ := h
        refine ⟨_, _, hK, fun o β ρ w ho hρ _ => ?_⟩
        have := run_indexAt_arr harr ⟨β j, off, none⟩ k i hi w
        simp only [Does, execOp, ho, hρ, hx, hy, conc_p, conc_v, Sem.run_bind, this, Result.andThen_ok, Sem.run_pure, Addr.add_mid]
      · rename_i ad hx
        obtain ⟨hi, hK⟩ := h
        refine ⟨_, _, hK, fun o β ρ w ho hρ _ => ?_⟩
        have := run_indexAt_arr harr ad k i hi w
        simp only [Does, execOp, ho, hρ, hx, hy, conc_p, conc_v, Sem.run_bind, this, Result.andThen_ok, Sem.run_pure]
      · exact h.elim
    · split at h
      · rename_i e hslc
        split at h
        · rename_i j off n c hx
          obtain ⟨hi, hK⟩ := h
          refine ⟨_, _, hK, fun o β ρ w ho hρ _ => ?_⟩
          have := run_indexAt_slc hslc ⟨β j, off, none⟩ n c k i hi w
          simp only [Does, execOp, ho, hρ, hx, hy, conc_p, conc_sl, conc_v, Sem.run_bind, this, Result.andThen_ok, Sem.run_pure, Addr.add_mid]
        · rename_i ad n c hx
          obtain ⟨hi, hK⟩ := h
          refine ⟨_, _, hK, fun o β ρ w ho hρ _ => ?_⟩
          have := run_indexAt_slc hslc ad n c k i hi w
          simp only [Does, execOp, ho, hρ, hx, hy, conc_p, conc_v, Sem.run_bind, this, Result.andThen_ok, Sem.run_pure]
        · exact h.elim
      · exact h.elim
  · exact h.elim

theorem sound_index {Γ : Ctx} {t : TypeId} {x y : Operand} {E : Operand → TV} {H : Heap} {K : KT} (h : xindex Γ.P (arrOf Γ.P t) (E x) (E y) K) :
    ∃ v e, K v e ∧ Sound Γ (.index t x y) E H v e := by
  unfold xindex at h
  split at h
  · rename_i k i hy
    split at h
    · rename_i _ n e harr
      obtain ⟨hagg, hi, h⟩ := h
      obtain ⟨l, v, hl, hK, hr⟩ := run_part h
      refine ⟨_, _, hK, fun o β ρ w ho hρ _ => ?_⟩
      obtain ⟨hu, ie, hie⟩ := arrOf_spec harr
      have hs : Γ.P.cellsOf e = ie.size := by simp [Program.cellsOf, hie]
      obtain ⟨cs, hc, hcs⟩ := isAgg_conc hagg β
      have hrun := hr β w
      rw [← hcs l hl, hs] at hrun
      unfold inRange at hi
      have hyc : (TV.s (.v (.int k i))).conc β = .int k i := rfl
      simp [Does, execOp, ho, hρ, hc, hy, hyc, Instr.index, asIntOf, run_underlying hu, hi, sizeOf, typeInfo, hie, hrun]
    · exact h.elim
  · exact h.elim

/-- The element type must be known: an index asks its size. -/
theorem sound_extract {Γ : Ctx} {x : Operand} {i : Nat} {E : Operand → TV} {H : Heap} {K : KT} (h : xextract (E x) i K) :
    ∃ v e, K v e ∧ Sound Γ (.extract x i) E H v e := by
  unfold xextract at h
  split at h
  · rename_i l hx
    split at h
    · rename_i a ha
      exact ⟨_, _, h, fun o β ρ w ho hρ _ => by simp [Does, execOp, ho, hρ, hx, conc_tup, Instr.extract, ha]⟩
    · exact h.elim
  · exact h.elim


/-- EVERY ABSTRACT STEP IS SOUND. -/
theorem xop_sound {Γ : Ctx} {op : Op} {E : Operand → TV} {H : Heap} {K : KT} (h : xop Γ op E H K) : ∃ v e, K v e ∧ Sound Γ op E H v e := by
  cases op <;> simp only [xop] at h
  case move x => exact sound_move h
  case assign x => exact sound_assign h
  case pick c a b => exact sound_pick h
  case alloc e => exact sound_alloc h
  case box e x => exact sound_box h
  case build t ps => exact sound_build h
  case buildSlice t len ps => exact sound_buildSlice h
  case load t a => exact sound_load h
  case store t a x => exact sound_store h
  case nilCheck x => exact sound_nil h
  case binOp op t x y ty => exact sound_bin h
  case unOp op t x => exact sound_un h
  case convert s d x => exact sound_conv h
  case fieldAddr s x f => exact sound_fieldAddr h
  case field t x f => exact sound_field h
  case indexAddr t x i => exact sound_indexAddr h
  case index t x i => exact sound_index h
  case extract x i => exact sound_extract h

end Go.Ab
