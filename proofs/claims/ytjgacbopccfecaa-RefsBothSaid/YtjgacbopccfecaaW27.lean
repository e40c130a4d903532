/-
  Walks: function 7, function 8.
-/
import Derived.Test.YtjgacbopccfecaaZ
import Derived.Test.YtjgacbopccfecaaY7
import Derived.Test.YtjgacbopccfecaaW20
import Derived.Test.YtjgacbopccfecaaW21
import Derived.Test.YtjgacbopccfecaaW22
import Derived.Test.YtjgacbopccfecaaW23
import Derived.Test.YtjgacbopccfecaaW24
set_option maxRecDepth 100000
set_option linter.unusedVariables false
set_option linter.unusedSimpArgs false
namespace Go.Proofs.Ytjgacbopccfecaa

theorem f7_spec {v : Value} {cs : List Cell} {last serial : Int} : Spec Try.prog 7 [stA v last serial] [] [sl cellK v cs] Unit (fun _ => .bool true) (fun _ => []) (fun _ => []) := by
  refine spec_of Try.func7 rfl Try.ntmps7 (by simp) fun ok w => ?_
  refine j_seq ?_
  refine j_region ?_
  refine jx (x_boxc rfl) (.no rfl) rfl ?_
  intro B1
  refine jv (v_assign rfl) (.no rfl) rfl ?_
  refine jo_nil ?_
  refine je_next ?_
  refine j_seq ?_
  refine j_seq ?_
  refine j_region ?_
  refine jv (v_loadAc (vs := [_, _, _]) rfl Try.isAgg26 Try.sizeOf26 rfl rfl) (.no rfl) rfl ?_
  refine jq (q_callP (f31_spec) Try.call31 (by rfl) rfl (memc FindS.mem mem0)) (.no rfl) rfl ?_
  intro x8
  refine jv (v_not rfl) (.no rfl) rfl ?_
  refine jv (v_move rfl) (.no rfl) rfl ?_
  refine j_split 10 rfl (fun r1 => ?_) (fun r1 => ?_)
  · first | (with_reducible replace r1 := of_decide_eq_true r1) | skip
    refine j_off rfl rfl rfl (by decide) rfl ?_
    refine j_off rfl rfl rfl (by decide) rfl ?_
    refine jv (v_pickt rfl rfl) (.no rfl) rfl ?_
    refine jo_nil ?_
    refine je_next ?_
    refine j_ift rfl ?_
    refine j_seq ?_
    refine j_region ?_
    refine jq (q_callP (f32_spec) Try.call32 (by rfl) rfl mem0) (.no rfl) rfl ?_
    intro x14
    refine jv (v_assign rfl) (.no rfl) rfl ?_
    refine jo_nil ?_
    refine je_next ?_
    refine j_ret ?_
    refine je_then (by simp) ?_
    refine je_ret rfl rfl rfl rfl rfl (rvs := [.tmp 2]) rfl (.cons (.tmp rfl) .nil) () ?_ (fun w h => h.fin mem0) (.inl rfl)
    first | rfl | exact congrArg Value.bool (decide_eq_true (by dsimp only; rw [hx, hy]; exact refs_sums gs (by omega)))
  · first | (with_reducible replace r1 := of_decide_eq_false r1) | skip
    refine jq (q_callP (f32_spec) Try.call32 (by rfl) rfl mem0) (.yes rfl rfl rfl) rfl ?_
    intro x11
    refine jv (v_not rfl) (.yes rfl rfl rfl) rfl ?_
    refine jv (v_pickf rfl rfl) (.no rfl) rfl ?_
    refine jo_nil ?_
    refine je_next ?_
    refine j_iff rfl ?_
    refine j_skip ?_
    refine je_next ?_
    refine j_seq ?_
    obtain ⟨hsm, hser, hr⟩ := rightL_parts (by simpa using r1)
    have hn := small_le hsm
    have hI := right6_gen hr
    have gs := right6_gens hr
    obtain ⟨hn24, hl0, hl9, hs0, hgen, hcell⟩ := right6_parts hr
    have hA := right6_apart hr
    have hF4 := right6_fields hr
    have hF : ∀ c ∈ cs, c.val.fields.length ≤ 1000 := fun c hc => by have := hF4 c hc; omega
    have hEe := edgesP_le hF4
    have hE : (edgesP cs).length ≤ 96 := by omega
    have hll := liveP_le cs
    refine j_region ?_
    refine jv (v_assign rfl) (.no rfl) rfl ?_
    refine jo_nil ?_
    refine je_next ?_
    refine j_seq ?_
    refine j_region ?_
    refine jv (v_assign rfl) (.no rfl) rfl ?_
    refine jo_nil ?_
    refine je_next ?_
    refine j_seq ?_
    refine j_region ?_
    refine jv (v_loadAc (vs := [_, _, _]) rfl Try.isAgg26 Try.sizeOf26 rfl rfl) (.no rfl) rfl ?_
    refine jq (q_callP (f34_spec (by omega)) Try.call34 (by rfl) rfl (memc FindS.mem mem0)) (.no rfl) rfl ?_
    intro u16
    refine jq (q_callP (f33_spec gs hA) Try.call33 (by rfl) rfl (memc FindS.mem mem0)) (.no rfl) rfl ?_
    intro u17
    refine jv (v_assign rfl) (.no rfl) rfl ?_
    refine jo_nil ?_
    refine je_next ?_
    refine j_seq ?_
    refine j_seq ?_
    refine j_region ?_
    refine jv (v_assign rfl) (.no rfl) rfl ?_
    refine jo_nil ?_
    refine je_next ?_
    refine j_block ?_
    refine j_loopS (G := Nat × Int × Int) [(1, _), (2, _), (5, _)] (fun k t => (3, iV k.2.1) :: (4, iV k.2.2) :: (6, iV ((k.1 : Nat) : Int)) :: t) (fun k t => t) (fun k => k.1 ≤ (liveP cs).length ∧ k.2.1 = ((edgesK cs k.1).length : Int) ∧ k.2.2 = inS cs k.1) (fun k => (liveP cs).length - k.1) (0, 0, 0) (⟨Nat.zero_le _, rfl, rfl⟩) (lsub rfl (lsub rfl (lsub rfl (lsub rfl (lsub rfl (lsub rfl lsub0)))))) rfl (fun ⟨k, x, y⟩ ⟨hk, hx, hy⟩ => ?_)
    simp only at hk hx hy
    refine j_seq ?_
    refine j_seq ?_
    refine j_region ?_
    refine jv (v_move rfl) (.no rfl) rfl ?_
    refine jv (v_move rfl) (.no rfl) rfl ?_
    refine jv (v_len rfl FindR.row Try.runUnderlying27) (.no rfl) rfl ?_
    refine jv (v_lss rfl rfl) (.no rfl) rfl ?_
    refine jo_nil ?_
    refine je_next ?_
    refine j_if rfl (fun hc => ?_) (fun hc => ?_)
    · first | (with_reducible replace hc := of_decide_eq_true hc) | skip
      refine j_skip ?_
      refine je_next ?_
      refine j_seq ?_
      refine j_block ?_
      refine j_seq ?_
      have hkl : k < (liveP cs).length := by omega
      obtain ⟨hb1, hb2⟩ := inS_lo cs (n := 96) (by omega) k
      have hb3 := hb2 (by omega)
      have hb4 := inE_lo (liveP cs)[k] (edgesP cs)
      have hb5 := edgesK_le cs k
      have hb6 := edgesK_le cs (k + 1)
      have hb7 := edgesK_succ hkl
      rw [hb7, List.length_append, outE_len] at hb6
      refine j_draw [] mixed ?_
      refine ja_take 0 rfl (by decide +kernel) (v_move rfl) (.no rfl) rfl ?_
      refine ja_take 1 rfl (by decide +kernel) (v_loadAc (vs := [_, _, _]) rfl Try.isAgg26 Try.sizeOf26 rfl rfl) (.no rfl) rfl ?_
      refine ja_take 2 rfl (by decide +kernel) (v_move rfl) (.no rfl) rfl ?_
      refine ja_take 3 rfl (by decide +kernel) (v_move rfl) (.no rfl) rfl ?_
      refine ja_take 4 rfl (by decide +kernel) (v_index rfl rfl FindR.row Try.runUnderlying27 Try.sizeOf3 (by omega) (by omega)) (.no rfl) rfl ?_
      refine ja_take 5 rfl (by decide +kernel) (v_eload rfl FindR.row (at_k hkl) (by decide) Try.isAgg3 (fun _ _ _ h => int_at h)) (.no rfl) rfl ?_
      refine ja_one (i := 6) (by decide +kernel) (jn_q rfl (q_callP (f35_spec (by omega) hI hF) Try.call35 (by rfl) rfl (memc FindS.mem mem0)) (.no rfl) rfl ?_)
      intro u30
      refine ja_take 7 rfl (by decide +kernel) (v_len rfl FindR.row Try.runUnderlying27) (.no rfl) rfl ?_
      refine ja_take 8 rfl (by decide +kernel) (v_add rfl rfl (by dsimp only; omega) (by dsimp only; unfold outP; omega)) (.no rfl) rfl ?_
      refine ja_take 9 rfl (by decide +kernel) (v_assign rfl) (.no rfl) rfl ?_
      refine ja_nil (by decide +kernel) ?_
      refine je_next ?_
      refine j_draw [] mixed ?_
      refine ja_take 0 rfl (by decide +kernel) (v_move rfl) (.no rfl) rfl ?_
      refine ja_take 1 rfl (by decide +kernel) (v_loadAc (vs := [_, _, _]) rfl Try.isAgg26 Try.sizeOf26 rfl rfl) (.no rfl) rfl ?_
      refine ja_take 2 rfl (by decide +kernel) (v_move rfl) (.no rfl) rfl ?_
      refine ja_take 3 rfl (by decide +kernel) (v_move rfl) (.no rfl) rfl ?_
      refine ja_take 4 rfl (by decide +kernel) (v_index rfl rfl FindR.row Try.runUnderlying27 Try.sizeOf3 (by omega) (by omega)) (.no rfl) rfl ?_
      refine ja_take 5 rfl (by decide +kernel) (v_eload rfl FindR.row (at_k hkl) (by decide) Try.isAgg3 (fun _ _ _ h => int_at h)) (.no rfl) rfl ?_
      refine ja_one (i := 6) (by decide +kernel) (jn_q rfl (q_callP (f36_spec gs hA hF (by omega)) Try.call36 (by rfl) rfl (memc FindS.mem mem0)) (.no rfl) rfl ?_)
      intro x39
      refine ja_take 7 rfl (by decide +kernel) (v_add rfl rfl (by dsimp only; omega) (by dsimp only; omega)) (.no rfl) rfl ?_
      refine ja_take 8 rfl (by decide +kernel) (v_assign rfl) (.no rfl) rfl ?_
      refine ja_nil (by decide +kernel) ?_
      refine je_block ?_
      refine je_next ?_
      refine j_region ?_
      refine jv (v_move rfl) (.no rfl) rfl ?_
      refine jv (v_add rfl rfl (by omega) (by omega)) (.no rfl) rfl ?_
      refine jv (v_assign rfl) (.no rfl) rfl ?_
      refine jo_nil ?_
      refine je_round (k + 1, _, _) (by dsimp only; refine ⟨by omega, ?_, by rw [hy, inS_succ hkl]⟩; rw [hx, hb7, List.length_append, outE_len]; unfold outP; omega) (by first | omega | (dsimp only; omega)) (lsub rfl (lsub rfl (lsub rfl (lsub rfl (lsub rfl (lsub rfl lsub0)))))) (fun _ h => (h).sub fun p hp => (List.mem_append_right _ (List.mem_append_right _ hp)))
    · first | (with_reducible replace hc := of_decide_eq_false hc) | skip
      refine j_exit ?_
      refine je_then (by simp) ?_
      refine je_then (by simp) ?_
      refine je_hit ?_
      refine je_next ?_
      refine j_seq ?_
      obtain ⟨hb1, hb2⟩ := inS_lo cs (n := 96) (by omega) k
      have hb3 := hb2 (by omega)
      have hb4 := danE_le cs (edgesP cs)
      refine j_region ?_
      refine jv (v_move rfl) (.no rfl) rfl ?_
      refine jv (v_move rfl) (.no rfl) rfl ?_
      refine jv (v_loadAc (vs := [_, _, _]) rfl Try.isAgg26 Try.sizeOf26 rfl rfl) (.no rfl) rfl ?_
      refine jq (q_callP (f37_spec gs hA hF (by omega)) Try.call37 (by rfl) rfl (memc FindS.mem mem0)) (.no rfl) rfl ?_
      intro u44
      refine jv (v_len rfl FindR.row Try.runUnderlying27) (.no rfl) rfl ?_
      refine jv (v_add rfl rfl (by dsimp only; omega) (by dsimp only; omega)) (.no rfl) rfl ?_
      refine jv (v_eql rfl rfl) (.no rfl) rfl ?_
      refine jv (v_assign rfl) (.no rfl) rfl ?_
      refine jo_nil ?_
      refine je_next ?_
      refine j_ret ?_
      refine je_ret rfl rfl rfl rfl rfl (rvs := [.tmp 2]) rfl (.cons (.tmp rfl) .nil) () ?_ (fun w h => h.fin mem0) (.inl rfl)
      first | rfl | exact congrArg Value.bool (decide_eq_true (by dsimp only; rw [hx, hy]; exact refs_sums gs (by omega)))

theorem f8_spec {v : Value} {cs : List Cell} {last serial a b : Int} : Spec Try.prog 8 [stA v last serial, iV a, iV b] [] [sl cellK v cs] Unit (fun _ => .bool true) (fun _ => []) (fun _ => []) := by
  refine spec_of Try.func8 rfl Try.ntmps8 (by simp) fun ok w => ?_
  refine j_seq ?_
  refine j_region ?_
  refine jx (x_boxc rfl) (.no rfl) rfl ?_
  intro B3
  refine jv (v_assign rfl) (.no rfl) rfl ?_
  refine jo_nil ?_
  refine je_next ?_
  refine j_seq ?_
  refine j_seq ?_
  refine j_region ?_
  refine jv (v_loadAc (vs := [_, _, _]) rfl Try.isAgg26 Try.sizeOf26 rfl rfl) (.no rfl) rfl ?_
  refine jq (q_callP (f31_spec) Try.call31 (by rfl) rfl (memc FindS.mem mem0)) (.no rfl) rfl ?_
  intro x10
  refine jv (v_not rfl) (.no rfl) rfl ?_
  refine jv (v_move rfl) (.no rfl) rfl ?_
  refine j_split 12 rfl (fun r1 => ?_) (fun r1 => ?_)
  · first | (with_reducible replace r1 := of_decide_eq_true r1) | skip
    refine j_off rfl rfl rfl (by decide) rfl ?_
    refine j_off rfl rfl rfl (by decide) rfl ?_
    refine jv (v_pickt rfl rfl) (.no rfl) rfl ?_
    refine jo_nil ?_
    refine je_next ?_
    refine j_ift rfl ?_
    refine j_seq ?_
    refine j_region ?_
    refine jq (q_callP (f32_spec) Try.call32 (by rfl) rfl mem0) (.no rfl) rfl ?_
    intro x16
    refine jv (v_assign rfl) (.no rfl) rfl ?_
    refine jo_nil ?_
    refine je_next ?_
    refine j_ret ?_
    refine je_then (by simp) ?_
    refine je_ret rfl rfl rfl rfl rfl (rvs := [.tmp 6]) rfl (.cons (.tmp rfl) .nil) () ?_ (fun w h => h.fin mem0) (.inl rfl)
    first | rfl | exact congrArg Value.bool (by rw [beq_iff_eq]; exact decide_eq_decide.2 q3)
  · first | (with_reducible replace r1 := of_decide_eq_false r1) | skip
    refine jq (q_callP (f32_spec) Try.call32 (by rfl) rfl mem0) (.yes rfl rfl rfl) rfl ?_
    intro x13
    refine jv (v_not rfl) (.yes rfl rfl rfl) rfl ?_
    refine jv (v_pickf rfl rfl) (.no rfl) rfl ?_
    refine jo_nil ?_
    refine je_next ?_
    refine j_iff rfl ?_
    refine j_skip ?_
    refine je_next ?_
    refine j_seq ?_
    obtain ⟨hsm, hser, hr⟩ := rightL_parts (by simpa using r1)
    have hn := small_le hsm
    have hI := right6_gen hr
    have gs := right6_gens hr
    obtain ⟨hn24, hl0, hl9, hs0, hgen, hcell⟩ := right6_parts hr
    have hA := right6_apart hr
    have hF4 := right6_fields hr
    have hF : ∀ c ∈ cs, c.val.fields.length ≤ 1000 := fun c hc => by have := hF4 c hc; omega
    have hEe := edgesP_le hF4
    have hE : (edgesP cs).length ≤ 96 := by omega
    have hll := liveP_le cs
    obtain ⟨q1, q2, q3⟩ := refs_both gs a b
    rw [← by_eq gs b] at q1 q2 q3
    refine j_region ?_
    refine jv (v_loadAc (vs := [_, _, _]) rfl Try.isAgg26 Try.sizeOf26 rfl rfl) (.no rfl) rfl ?_
    refine jv (v_move rfl) (.no rfl) rfl ?_
    refine jq (q_callP (f38_spec gs hA hF (by omega)) Try.call38 (by rfl) rfl (memc FindS.mem mem0)) (.no rfl) rfl ?_
    intro u19
    refine jv (v_assign rfl) (.no rfl) rfl ?_
    refine jo_nil ?_
    refine je_next ?_
    refine j_seq ?_
    refine j_region ?_
    refine jv (v_loadAc (vs := [_, _, _]) rfl Try.isAgg26 Try.sizeOf26 rfl rfl) (.no rfl) rfl ?_
    refine jv (v_move rfl) (.no rfl) rfl ?_
    refine jq (q_callP (f35_spec (by omega) hI hF) Try.call35 (by rfl) rfl (memc FindS.mem mem0)) (.no rfl) rfl ?_
    intro u22
    refine jv (v_move rfl) (.no rfl) rfl ?_
    refine jq (q_callP (f39_spec) Try.call39 (by rfl) rfl (memc FindS.mem mem0)) (.no rfl) rfl ?_
    intro x24
    refine jv (v_assign rfl) (.no rfl) rfl ?_
    refine jo_nil ?_
    refine je_next ?_
    refine j_seq ?_
    refine j_region ?_
    refine jv (v_move rfl) (.no rfl) rfl ?_
    refine jv (v_move rfl) (.no rfl) rfl ?_
    refine jq (q_callP (f39_spec) Try.call39 (by rfl) rfl (memc FindS.mem mem0)) (.no rfl) rfl ?_
    intro x27
    refine jv (v_move rfl) (.no rfl) rfl ?_
    refine jv (v_min rfl rfl) (.no rfl) rfl ?_
    refine jv (v_eql rfl rfl) (.no rfl) rfl ?_
    refine jv (v_move rfl) (.no rfl) rfl ?_
    refine j_split 31 rfl (fun e1 => ?_) (fun e1 => ?_)
    · first | (with_reducible replace e1 := of_decide_eq_true e1) | skip
      refine jv (v_move rfl) (.yes rfl rfl rfl) rfl ?_
      refine jv (v_len rfl FindR.row Try.runUnderlying27) (.yes rfl rfl rfl) rfl ?_
      refine jv (v_loadAc (vs := [_, _, _]) rfl Try.isAgg26 Try.sizeOf26 rfl rfl) (.yes rfl rfl rfl) rfl ?_
      refine jv (v_move rfl) (.yes rfl rfl rfl) rfl ?_
      refine jq (q_callP (f36_spec gs hA hF (by omega)) Try.call36 (by rfl) rfl (memc FindS.mem mem0)) (.yes rfl rfl rfl) rfl ?_
      intro x36
      refine jv (v_leq rfl rfl) (.yes rfl rfl rfl) rfl ?_
      refine jv (v_pickt rfl rfl) (.no rfl) rfl ?_
      refine jv (v_move rfl) (.no rfl) rfl ?_
      refine j_split 39 rfl (fun e2 => ?_) (fun e2 => ?_)
      · first | (with_reducible replace e2 := of_decide_eq_true e2) | skip
        refine jv (v_move rfl) (.yes rfl rfl rfl) rfl ?_
        refine jv (v_len rfl FindR.row Try.runUnderlying27) (.yes rfl rfl rfl) rfl ?_
        refine jv (v_gtr rfl rfl) (.yes rfl rfl rfl) rfl ?_
        refine jv (v_loadAc (vs := [_, _, _]) rfl Try.isAgg26 Try.sizeOf26 rfl rfl) (.yes rfl rfl rfl) rfl ?_
        refine jv (v_move rfl) (.yes rfl rfl rfl) rfl ?_
        refine jq (q_callP (f36_spec gs hA hF (by omega)) Try.call36 (by rfl) rfl (memc FindS.mem mem0)) (.yes rfl rfl rfl) rfl ?_
        intro x45
        refine jv (v_gtr rfl rfl) (.yes rfl rfl rfl) rfl ?_
        refine jv (v_beql Try.underlying4 rfl rfl) (.yes rfl rfl rfl) rfl ?_
        refine jv (v_pickt rfl rfl) (.no rfl) rfl ?_
        refine jv (v_assign rfl) (.no rfl) rfl ?_
        refine jo_nil ?_
        refine je_next ?_
        refine j_ret ?_
        refine je_ret rfl rfl rfl rfl rfl (rvs := [.tmp 6]) rfl (.cons (.tmp rfl) .nil) () ?_ (fun w h => h.fin mem0) (.inl rfl)
        first | rfl | exact congrArg Value.bool (by rw [beq_iff_eq]; exact decide_eq_decide.2 q3)
      · first | (with_reducible replace e2 := of_decide_eq_false e2) | skip
        exact absurd q2 e2
    · first | (with_reducible replace e1 := of_decide_eq_false e1) | skip
      exact absurd (by rw [q1]; split <;> omega) e1

end Go.Proofs.Ytjgacbopccfecaa
