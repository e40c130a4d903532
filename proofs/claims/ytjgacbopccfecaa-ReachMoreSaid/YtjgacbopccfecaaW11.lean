/-
  Walks: function 66.
-/
import Derived.Test.YtjgacbopccfecaaO
import Derived.Test.YtjgacbopccfecaaW1
set_option maxRecDepth 100000
set_option linter.unusedVariables false
set_option linter.unusedSimpArgs false
namespace Go.Proofs.Ytjgacbopccfecaa

theorem f66_spec {v : Value} {cs : List Cell} {last serial : Int} {B : Nat} {i j : Int} (h1 : 0 ≤ i) (h2 : i < cs.length) (h3 : 0 ≤ j) (h4 : j < cs.length) : Spec Try.prog 66 [iV i, iV j, ptr B 0] [] [ro B [v, iV last, iV serial] 26, sl cellK v cs] Unit (fun _ => iV (if (cs[i.toNat]'(by omega)).val.serial < (cs[j.toNat]'(by omega)).val.serial then -1 else if (cs[j.toNat]'(by omega)).val.serial < (cs[i.toNat]'(by omega)).val.serial then 1 else 0)) (fun _ => []) (fun _ => []) := by
  have hi : i.toNat < cs.length := by omega
  have hj : j.toNat < cs.length := by omega
  refine spec_of Try.func66 rfl Try.ntmps66 (by simp) fun ok w => ?_
  refine j_seq ?_
  refine j_region ?_
  refine jv (v_assign rfl) (.no rfl) rfl ?_
  refine jo_nil ?_
  refine je_next ?_
  refine j_seq ?_
  refine j_draw [] mixed ?_
  refine ja_take 0 rfl (by decide +kernel) (v_field (k' := 0) rfl Try.runUnderlying26 rfl Try.sizeOf24 (by decide) rfl) (.no rfl) rfl ?_
  refine ja_take 1 rfl (by decide +kernel) (v_field (k' := 0) rfl Try.runUnderlying24 rfl Try.sizeOf22 (by decide) rfl) (.no rfl) rfl ?_
  refine ja_take 2 rfl (by decide +kernel) (v_loadc rfl Try.isAgg22 rfl) (.no rfl) rfl ?_
  refine ja_take 3 rfl (by decide +kernel) (v_move rfl) (.no rfl) rfl ?_
  refine ja_take 4 rfl (by decide +kernel) (v_index rfl rfl FindR.row Try.runUnderlying22 Try.sizeOf81 (by omega) (by omega)) (.no rfl) rfl ?_
  refine ja_take 5 rfl (by decide +kernel) (v_efield (k' := 2) rfl FindR.row (by omega) Try.runUnderlying81 rfl Try.sizeOf29 (by decide) rfl) (.no rfl) rfl ?_
  refine ja_take 6 rfl (by decide +kernel) (v_efield (k' := 2) rfl FindR.row (by omega) Try.runUnderlying29 rfl Try.sizeOf3 (by decide) rfl) (.no rfl) rfl ?_
  refine ja_take 7 rfl (by decide +kernel) (v_eload rfl FindR.row (List.getElem?_eq_getElem hi) (by decide) Try.isAgg3 (fun _ _ _ h => (cell_at h).elim fun _ h => by rw [h.1]; rfl)) (.no rfl) rfl ?_
  refine ja_take 8 rfl (by decide +kernel) (v_field (k' := 0) rfl Try.runUnderlying26 rfl Try.sizeOf24 (by decide) rfl) (.no rfl) rfl ?_
  refine ja_take 9 rfl (by decide +kernel) (v_field (k' := 0) rfl Try.runUnderlying24 rfl Try.sizeOf22 (by decide) rfl) (.no rfl) rfl ?_
  refine ja_take 10 rfl (by decide +kernel) (v_loadc rfl Try.isAgg22 rfl) (.no rfl) rfl ?_
  refine ja_take 11 rfl (by decide +kernel) (v_move rfl) (.no rfl) rfl ?_
  refine ja_take 12 rfl (by decide +kernel) (v_index rfl rfl FindR.row Try.runUnderlying22 Try.sizeOf81 (by omega) (by omega)) (.no rfl) rfl ?_
  refine ja_take 13 rfl (by decide +kernel) (v_efield (k' := 2) rfl FindR.row (by omega) Try.runUnderlying81 rfl Try.sizeOf29 (by decide) rfl) (.no rfl) rfl ?_
  refine ja_take 14 rfl (by decide +kernel) (v_efield (k' := 2) rfl FindR.row (by omega) Try.runUnderlying29 rfl Try.sizeOf3 (by decide) rfl) (.no rfl) rfl ?_
  refine ja_take 15 rfl (by decide +kernel) (v_eload rfl FindR.row (List.getElem?_eq_getElem hj) (by decide) Try.isAgg3 (fun _ _ _ h => (cell_at h).elim fun _ h => by rw [h.1]; rfl)) (.no rfl) rfl ?_
  refine ja_one (i := 16) (by decide +kernel) (jn_q rfl (q_callP (f67_spec) Try.call67 (by rfl) rfl mem0) (.no rfl) rfl ?_)
  intro x22
  refine ja_take 17 rfl (by decide +kernel) (v_assign rfl) (.no rfl) rfl ?_
  refine ja_nil (by decide +kernel) ?_
  refine je_next ?_
  refine j_ret ?_
  refine je_ret rfl rfl rfl rfl rfl (rvs := [.tmp 5]) rfl (.cons (.tmp rfl) .nil) () ?_ (fun w h => h.fin mem0) (.inl rfl)
  rfl

end Go.Proofs.Ytjgacbopccfecaa
