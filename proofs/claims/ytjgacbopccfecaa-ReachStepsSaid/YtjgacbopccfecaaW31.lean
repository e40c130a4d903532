/-
  Walks: function 109.
-/
import Derived.Test.YtjgacbopccfecaaN10
import Derived.Test.YtjgacbopccfecaaBk
import Derived.Test.YtjgacbopccfecaaW7
import Derived.Test.YtjgacbopccfecaaW30
set_option maxRecDepth 100000
set_option linter.unusedVariables false
set_option linter.unusedSimpArgs false
namespace Go.Proofs.Ytjgacbopccfecaa

theorem f109_spec {vs v : Value} {cs : List Cell} {last serial h : Int} {ks q : List Int} {M B2 B6 B7 : Nat} (hn : cs.length ≤ 1000) (hI : ∀ c ∈ cs, InI c.gen) (hq : (getP cs h).2 = 0 → h ∉ ks → q.length < 24) : Spec Try.prog 109 [iV h, ptr B2 0, ptr B6 0, ptr B7 0] [.obj M (mp ks), .blk B7 [v, iV 24] 133] [ro B2 [vs, iV last, iV serial] 26, ro B6 [.map (some M)] 88, sl cellK vs cs, sl intK v q] Value (fun _ => .tuple #[]) (fun v' => [.obj M (mp (seeF cs (ks, q) h).1), .blk B7 [v', iV 24] 133]) (fun v' => [sl intK v' (seeF cs (ks, q) h).2]) := by
  refine spec_of Try.func109 rfl Try.ntmps109 (by simp) fun ok w => ?_
  refine j_seq ?_
  refine j_region ?_
  refine jv (v_loadAc (vs := [_, _, _]) rfl Try.isAgg26 Try.sizeOf26 rfl rfl) (.no rfl) rfl ?_
  refine jv (v_move rfl) (.no rfl) rfl ?_
  refine jq (q_callP (f22_spec hn hI) Try.call22 (by rfl) rfl (memc FindS.mem mem0)) (.no rfl) rfl ?_
  intro f10
  refine jv (v_move rfl) (.no rfl) rfl ?_
  refine jv (v_ext rfl rfl) (.no rfl) rfl ?_
  refine jv (v_ext rfl rfl) (.no rfl) rfl ?_
  refine jx (x_alloc Try.zeroValue29 Cells.agg) (.no rfl) rfl ?_
  intro B5
  refine jx (x_storec (cs' := [_, _, _, _, _, _]) rfl rfl rfl Try.sizeOf29 rfl rfl) (.no rfl) rfl ?_
  intro _
  refine jv (v_assign rfl) (.no rfl) rfl ?_
  refine jo_nil ?_
  refine je_next ?_
  refine j_seq ?_
  refine j_region ?_
  refine jv (v_move rfl) (.no rfl) rfl ?_
  refine jv (v_eql rfl rfl) (.no rfl) rfl ?_
  refine jv (v_move rfl) (.no rfl) rfl ?_
  refine j_split 15 rfl (fun z1 => ?_) (fun z1 => ?_)
  · first | (with_reducible replace z1 := of_decide_eq_true z1) | skip
    refine jv (v_loadc rfl Try.isAgg88 rfl) (.yes rfl rfl rfl) rfl ?_
    refine jv (v_move rfl) (.yes rfl rfl rfl) rfl ?_
    refine jv (v_has (ks := ks) rfl rfl (by simp) Try.runUnderlying88 Try.runUnderlying3 Try.zeroValue4) (.yes rfl rfl rfl) rfl ?_
    refine jv (v_not rfl) (.yes rfl rfl rfl) rfl ?_
    refine jv (v_pickt rfl rfl) (.no rfl) rfl ?_
    refine jo_nil ?_
    refine je_next ?_
    refine j_if rfl (fun z2 => ?_) (fun z2 => ?_)
    · first | (with_reducible replace z2 := of_decide_eq_true z2) | skip
      refine j_seq ?_
      have e1 : (getP cs h).2 = 0 := by simpa using z1
      have e2 : h ∉ ks := by simpa using z2
      have hq2 := hq e1 e2
      refine j_region ?_
      refine jv (v_loadc rfl Try.isAgg88 rfl) (.no rfl) rfl ?_
      refine jv (v_move rfl) (.no rfl) rfl ?_
      refine jx (x_add rfl rfl (.tail .head) Try.runUnderlying88 Try.runUnderlying3) (.no rfl) rfl ?_
      intro _
      refine jo_nil ?_
      refine je_next ?_
      refine j_region ?_
      refine jv (v_loadAc (vs := [_, _]) rfl Try.isAgg133 Try.sizeOf133 rfl rfl) (.no rfl) rfl ?_
      refine jv (v_move rfl) (.no rfl) rfl ?_
      refine jq (q_callP (f110_spec (by omega) (by omega)) Try.call110 (by rfl) rfl (memc FindS.mem mem0)) (.no rfl) rfl ?_
      intro u26
      refine jv (v_move rfl) (.no rfl) rfl ?_
      refine jv (v_ext rfl rfl) (.no rfl) rfl ?_
      refine jv (v_ext rfl rfl) (.no rfl) rfl ?_
      refine jx (x_storec (cs' := [_, _]) rfl rfl rfl Try.sizeOf133 rfl rfl) (.no rfl) rfl ?_
      intro _
      refine jo_nil ?_
      have e3 : add1 ks h = ks ++ [h] := if_neg e2
      refine je_ret rfl rfl rfl rfl rfl (rvs := []) rfl .nil u26 ?_ (fun w h' => by rw [see_yes (s := (ks, q)) e1 e2]; rw [e3] at h'; exact ((h').del .head).sub (memc FindS.mem mem0)) (.inr rfl)
      rfl
    · first | (with_reducible replace z2 := of_decide_eq_false z2) | skip
      refine j_skip ?_
      have e4 : seeF cs (ks, q) h = (ks, q) := see_no (by simp_all)
      refine je_ret rfl rfl rfl rfl rfl (rvs := []) rfl .nil v ?_ (fun w h' => by rw [e4]; exact ((h').del .head).sub (memc FindS.mem mem0)) (.inr rfl)
      rfl
  · first | (with_reducible replace z1 := of_decide_eq_false z1) | skip
    refine j_off rfl rfl rfl (by decide) rfl ?_
    refine j_off rfl rfl rfl (by decide) rfl ?_
    refine j_off rfl rfl rfl (by decide) rfl ?_
    refine j_off rfl rfl rfl (by decide) rfl ?_
    refine jv (v_pickf rfl rfl) (.no rfl) rfl ?_
    refine jo_nil ?_
    refine je_next ?_
    refine j_iff rfl ?_
    refine j_skip ?_
    have e4 : seeF cs (ks, q) h = (ks, q) := see_no (by simp_all)
    refine je_ret rfl rfl rfl rfl rfl (rvs := []) rfl .nil v ?_ (fun w h' => by rw [e4]; exact ((h').del .head).sub (memc FindS.mem mem0)) (.inr rfl)
    rfl

end Go.Proofs.Ytjgacbopccfecaa
