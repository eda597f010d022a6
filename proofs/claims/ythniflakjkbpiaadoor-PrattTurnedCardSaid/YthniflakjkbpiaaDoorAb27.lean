/-
  What is added to a row that has something: both ways, each told outright.
-/
import Derived.Test.YthniflakjkbpiaaDoorAb23
namespace Go.Ab
open Go Go.RowKit
set_option linter.unusedSimpArgs false
set_option linter.unusedVariables false
theorem xappend_row2 {Γ : Ctx} {e : TypeId} {nw : TypeId → Option (List SV × Nat)} {H : Heap} {K : TV → Heap → Prop} {news cs : List SV} {sp : List Value} {j n c : Nat} (hn : nw e = some (news, 1)) (h0 : n ≠ 0)
    (hb : H[j]? = some ⟨e, cs ++ sp.map .v⟩) (hnc : n ≤ c) (hsp : sp.length = (c - n) * sz Γ.P e) (hcs : cs.length = n * sz Γ.P e) (hnl : news.length = sz Γ.P e)
    (hap : apOK Γ.P e (n + 1)) (hone : oneAll news) (hTM : ¬ Γ.ev.TM e)
    (h1 : ∀ sp' : List Value, n + 1 ≤ c → sp'.length = (c - (n + 1)) * sz Γ.P e → K (.s (.sl j 0 (n + 1) c)) (putH H j (cs ++ news ++ sp'.map .v)))
    (h2 : ∀ (c' : Nat) (sp' : List Value), n + 1 ≤ c' → sp'.length = (c' - (n + 1)) * sz Γ.P e → K (.s (.sl H.length 0 (n + 1) c')) (H ++ [⟨e, cs ++ news ++ sp'.map .v⟩])) : xappend Γ (some e) (rowS j n c) nw H K := by
  rw [rowS_s h0]
  have hlen : (cs ++ sp.map SV.v).length = c * sz Γ.P e := by
    rw [List.length_append, List.length_map, hcs, hsp, ← Nat.add_mul, Nat.add_sub_cancel' hnc]
  have htk : (cs ++ sp.map SV.v).take (n * sz Γ.P e) = cs := by rw [← hcs]; exact List.take_left' rfl
  refine xappend_sl_i hn hb rfl (by rw [hlen]; exact Nat.le_refl _) hnc hap hone hTM (fun hfit => ?_) fun hgr c' sp' hc hsp' => ?_
  · have hdr : (cs ++ sp.map SV.v).drop (n * sz Γ.P e + news.length) = (sp.drop (sz Γ.P e)).map SV.v := by
      rw [← hcs, hnl, List.drop_append, List.drop_of_length_le (by omega), List.nil_append, List.map_drop]
      congr 1
      omega
    simp only [htk, hdr]
    refine h1 (sp.drop (sz Γ.P e)) hfit ?_
    rw [List.length_drop, hsp, show c - n = c - (n + 1) + 1 by omega, Nat.add_mul, Nat.one_mul, Nat.add_sub_cancel]
  · simp only [htk]
    exact h2 c' sp' hc hsp'
end Go.Ab
