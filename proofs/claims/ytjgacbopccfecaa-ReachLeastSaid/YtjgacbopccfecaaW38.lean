/-
  Walks: function 10.
-/
import Derived.Test.YtjgacbopccfecaaBl
import Derived.Test.YtjgacbopccfecaaZ
import Derived.Test.YtjgacbopccfecaaY8
import Derived.Test.YtjgacbopccfecaaW2
import Derived.Test.YtjgacbopccfecaaW22
import Derived.Test.YtjgacbopccfecaaW33
import Derived.Test.YtjgacbopccfecaaW34
import Derived.Test.YtjgacbopccfecaaW35
import Derived.Test.YtjgacbopccfecaaW36
set_option maxRecDepth 100000
set_option linter.unusedVariables false
set_option linter.unusedSimpArgs false
namespace Go.Proofs.Ytjgacbopccfecaa

theorem f10_spec {vs vl vm : Value} {cs : List Cell} {last serial : Int} {l m : List Int} : Spec Try.prog 10 [stA vs last serial, vl, vm] [] [sl cellK vs cs, sl intK vl l, sl intK vm m] Unit (fun _ => .bool true) (fun _ => []) (fun _ => []) := by
  refine spec_of Try.func10 rfl Try.ntmps10 (by simp) fun ok w => ?_
  refine j_seq ?_
  refine j_region ?_
  refine jx (x_boxc rfl) (.no rfl) rfl ?_
  intro B3
  refine jv (v_assign rfl) (.no rfl) rfl ?_
  refine jo_nil ?_
  refine je_next ?_
  refine j_seq ?_
  refine j_seq ?_
  refine j_region ?_
  refine jv (v_loadAc (vs := [_, _, _]) rfl Try.isAgg26 Try.sizeOf26 rfl rfl) (.no rfl) rfl ?_
  refine jq (q_callP (f40_spec) Try.call40 (by rfl) rfl (memc FindS.mem mem0)) (.no rfl) rfl ?_
  intro x13
  refine jv (v_not rfl) (.no rfl) rfl ?_
  refine jv (v_move rfl) (.no rfl) rfl ?_
  refine j_split 15 rfl (fun r1 => ?_) (fun r1 => ?_)
  · first | (with_reducible replace r1 := of_decide_eq_true r1) | skip
    refine j_off rfl rfl rfl (by decide) rfl ?_
    refine j_off rfl rfl rfl (by decide) rfl ?_
    refine j_off rfl rfl rfl (by decide) rfl ?_
    refine jv (v_pickt rfl rfl) (.no rfl) rfl ?_
    refine jv (v_move rfl) (.no rfl) rfl ?_
    refine j_off rfl rfl rfl (by decide) rfl ?_
    refine j_off rfl rfl rfl (by decide) rfl ?_
    refine j_off rfl rfl rfl (by decide) rfl ?_
    refine jv (v_pickt rfl rfl) (.no rfl) rfl ?_
    refine jv (v_move rfl) (.no rfl) rfl ?_
    refine j_off rfl rfl rfl (by decide) rfl ?_
    refine j_off rfl rfl rfl (by decide) rfl ?_
    refine jv (v_pickt rfl rfl) (.no rfl) rfl ?_
    refine jo_nil ?_
    refine je_next ?_
    refine j_ift rfl ?_
    refine j_seq ?_
    refine j_region ?_
    refine jq (q_callP (f41_spec) Try.call41 (by rfl) rfl mem0) (.no rfl) rfl ?_
    intro x29
    refine jv (v_assign rfl) (.no rfl) rfl ?_
    refine jo_nil ?_
    refine je_next ?_
    refine j_ret ?_
    refine je_then (by simp) ?_
    refine je_ret rfl rfl rfl rfl rfl (rvs := [.tmp 6]) rfl (.cons (.tmp rfl) .nil) () ?_ (fun w h => h.fin mem0) (.inl rfl)
    rfl
  · first | (with_reducible replace r1 := of_decide_eq_false r1) | skip
    refine jv (v_move rfl) (.yes rfl rfl rfl) rfl ?_
    refine jv (v_len rfl FindR.row Try.runUnderlying27) (.yes rfl rfl rfl) rfl ?_
    refine jv (v_gtr rfl rfl) (.yes rfl rfl rfl) rfl ?_
    refine jv (v_pickf rfl rfl) (.no rfl) rfl ?_
    refine jv (v_move rfl) (.no rfl) rfl ?_
    refine j_split 20 rfl (fun r2 => ?_) (fun r2 => ?_)
    · first | (with_reducible replace r2 := of_decide_eq_true r2) | skip
      refine j_off rfl rfl rfl (by decide) rfl ?_
      refine j_off rfl rfl rfl (by decide) rfl ?_
      refine j_off rfl rfl rfl (by decide) rfl ?_
      refine jv (v_pickt rfl rfl) (.no rfl) rfl ?_
      refine jv (v_move rfl) (.no rfl) rfl ?_
      refine j_off rfl rfl rfl (by decide) rfl ?_
      refine j_off rfl rfl rfl (by decide) rfl ?_
      refine jv (v_pickt rfl rfl) (.no rfl) rfl ?_
      refine jo_nil ?_
      refine je_next ?_
      refine j_ift rfl ?_
      refine j_seq ?_
      refine j_region ?_
      refine jq (q_callP (f41_spec) Try.call41 (by rfl) rfl mem0) (.no rfl) rfl ?_
      intro x29
      refine jv (v_assign rfl) (.no rfl) rfl ?_
      refine jo_nil ?_
      refine je_next ?_
      refine j_ret ?_
      refine je_then (by simp) ?_
      refine je_ret rfl rfl rfl rfl rfl (rvs := [.tmp 6]) rfl (.cons (.tmp rfl) .nil) () ?_ (fun w h => h.fin mem0) (.inl rfl)
      rfl
    · first | (with_reducible replace r2 := of_decide_eq_false r2) | skip
      refine jv (v_move rfl) (.yes rfl rfl rfl) rfl ?_
      refine jv (v_len rfl FindR.row Try.runUnderlying27) (.yes rfl rfl rfl) rfl ?_
      refine jv (v_gtr rfl rfl) (.yes rfl rfl rfl) rfl ?_
      refine jv (v_pickf rfl rfl) (.no rfl) rfl ?_
      refine jv (v_move rfl) (.no rfl) rfl ?_
      refine j_split 25 rfl (fun r3 => ?_) (fun r3 => ?_)
      · first | (with_reducible replace r3 := of_decide_eq_true r3) | skip
        refine j_off rfl rfl rfl (by decide) rfl ?_
        refine j_off rfl rfl rfl (by decide) rfl ?_
        refine jv (v_pickt rfl rfl) (.no rfl) rfl ?_
        refine jo_nil ?_
        refine je_next ?_
        refine j_ift rfl ?_
        refine j_seq ?_
        refine j_region ?_
        refine jq (q_callP (f41_spec) Try.call41 (by rfl) rfl mem0) (.no rfl) rfl ?_
        intro x29
        refine jv (v_assign rfl) (.no rfl) rfl ?_
        refine jo_nil ?_
        refine je_next ?_
        refine j_ret ?_
        refine je_then (by simp) ?_
        refine je_ret rfl rfl rfl rfl rfl (rvs := [.tmp 6]) rfl (.cons (.tmp rfl) .nil) () ?_ (fun w h => h.fin mem0) (.inl rfl)
        rfl
      · first | (with_reducible replace r3 := of_decide_eq_false r3) | skip
        refine jq (q_callP (f41_spec) Try.call41 (by rfl) rfl mem0) (.yes rfl rfl rfl) rfl ?_
        intro x26
        refine jv (v_not rfl) (.yes rfl rfl rfl) rfl ?_
        refine jv (v_pickf rfl rfl) (.no rfl) rfl ?_
        refine jo_nil ?_
        refine je_next ?_
        refine j_iff rfl ?_
        refine j_skip ?_
        refine je_next ?_
        refine j_seq ?_
        obtain ⟨hsm, hser, hr⟩ := rightL_parts (by simpa using r1)
        have hn := small_le hsm
        have hI := right6_gen hr
        have gs := right6_gens hr
        obtain ⟨hn24, hl0, hl9, hs0, hgen, hcell⟩ := right6_parts hr
        have hA := right6_apart hr
        have hF4 := right6_fields hr
        have hF : ∀ c ∈ cs, c.val.fields.length ≤ 1000 := fun c hc => by have := hF4 c hc; omega
        have hll := liveP_le cs
        have hfl := from_len (cs := cs) l
        have hcf := closed_from gs l
        refine j_region ?_
        refine jv (v_loadAc (vs := [_, _, _]) rfl Try.isAgg26 Try.sizeOf26 rfl rfl) (.no rfl) rfl ?_
        refine jv (v_move rfl) (.no rfl) rfl ?_
        refine jq (q_callP (f43_spec gs hA hF (by omega)) Try.call43 (by rfl) rfl (memc FindS.mem (memc FindS.mem mem0))) (.no rfl) rfl ?_
        intro u32
        refine jv (v_assign rfl) (.no rfl) rfl ?_
        refine jo_nil ?_
        refine je_next ?_
        refine j_seq ?_
        refine j_seq ?_
        refine j_region ?_
        refine jv (v_loadAc (vs := [_, _, _]) rfl Try.isAgg26 Try.sizeOf26 rfl rfl) (.no rfl) rfl ?_
        refine jq (q_callP (f42_spec (by omega)) Try.call42 (by rfl) rfl (memc FindS.mem mem0)) (.no rfl) rfl ?_
        intro u34
        refine jv (v_move rfl) (.no rfl) rfl ?_
        refine jq (q_callP (f50_spec gs hA hF) Try.call50 (by rfl) rfl (memc FindS.mem (memc FindS.mem mem0))) (.no rfl) rfl ?_
        intro x36
        refine jv (v_not rfl) (.no rfl) rfl ?_
        refine jv (v_move rfl) (.no rfl) rfl ?_
        refine j_split 38 rfl (fun d1 => ?_) (fun d1 => ?_)
        · first | (with_reducible replace d1 := of_decide_eq_true d1) | skip
          rw [hcf] at d1; simp at d1
        · first | (with_reducible replace d1 := of_decide_eq_false d1) | skip
          refine jv (v_move rfl) (.yes rfl rfl rfl) rfl ?_
          refine jv (v_len rfl FindR.row Try.runUnderlying27) (.yes rfl rfl rfl) rfl ?_
          refine jv (v_gtr rfl rfl) (.yes rfl rfl rfl) rfl ?_
          refine jv (v_pickf rfl rfl) (.no rfl) rfl ?_
          refine jo_nil ?_
          refine je_next ?_
          refine j_if rfl (fun d2 => ?_) (fun d2 => ?_)
          · first | (with_reducible replace d2 := of_decide_eq_true d2) | skip
            exact absurd d2 (by omega)
          · first | (with_reducible replace d2 := of_decide_eq_false d2) | skip
            refine j_skip ?_
            refine je_next ?_
            refine j_seq ?_
            refine j_region ?_
            refine jv (v_loadAc (vs := [_, _, _]) rfl Try.isAgg26 Try.sizeOf26 rfl rfl) (.no rfl) rfl ?_
            refine jq (q_callP (f42_spec (by omega)) Try.call42 (by rfl) rfl (memc FindS.mem mem0)) (.no rfl) rfl ?_
            intro u44
            refine jq (q_callP (f33_spec gs hA) Try.call33 (by rfl) rfl (memc FindS.mem mem0)) (.no rfl) rfl ?_
            intro u45
            refine jv (v_assign rfl) (.no rfl) rfl ?_
            refine jo_nil ?_
            refine je_next ?_
            refine j_seq ?_
            refine j_region ?_
            refine jv (v_loadAc (vs := [_, _, _]) rfl Try.isAgg26 Try.sizeOf26 rfl rfl) (.no rfl) rfl ?_
            refine jq (q_callP (f42_spec (by omega)) Try.call42 (by rfl) rfl (memc FindS.mem mem0)) (.no rfl) rfl ?_
            intro u47
            refine jv (v_move rfl) (.no rfl) rfl ?_
            refine jq (q_callP (f50_spec gs hA hF) Try.call50 (by rfl) rfl (memc FindS.mem (memc FindS.mem mem0))) (.no rfl) rfl ?_
            intro x49
            refine jv (v_assign rfl) (.no rfl) rfl ?_
            refine jo_nil ?_
            refine je_next ?_
            refine j_seq ?_
            refine j_seq ?_
            refine j_region ?_
            refine jv (v_assign rfl) (.no rfl) rfl ?_
            refine jo_nil ?_
            refine je_next ?_
            refine j_block ?_
            refine j_loopS (G := Nat × Bool) [(1, _), (2, _), (7, _), (8, _)] (fun k t => (9, .bool k.2) :: (10, iV ((k.1 : Nat) : Int)) :: t) (fun k t => t) (fun k => k.1 ≤ (liveP cs).length ∧ k.2 = holdsB cs l m k.1) (fun k => (liveP cs).length - k.1) (0, closedR cs m) (⟨Nat.zero_le _, by show closedR cs m = holdsB cs l m 0; unfold holdsB; rw [List.take_zero, List.all_nil, Bool.and_true]⟩) (lsub rfl (lsub rfl (lsub rfl (lsub rfl (lsub rfl (lsub rfl lsub0)))))) rfl (fun ⟨k, hb⟩ ⟨hk, hhb⟩ => ?_)   -- dead: [6]
            simp only at hk hhb
            refine j_seq ?_
            refine j_seq ?_
            refine j_region ?_
            refine jv (v_move rfl) (.no rfl) rfl ?_
            refine jv (v_move rfl) (.no rfl) rfl ?_
            refine jv (v_len rfl FindR.row Try.runUnderlying27) (.no rfl) rfl ?_
            refine jv (v_lss rfl rfl) (.no rfl) rfl ?_
            refine jo_nil ?_
            refine je_next ?_
            refine j_if rfl (fun hc => ?_) (fun hc => ?_)
            · first | (with_reducible replace hc := of_decide_eq_true hc) | skip
              refine j_skip ?_
              refine je_next ?_
              refine j_seq ?_
              refine j_block ?_
              refine j_seq ?_
              (try dsimp only at hc)
              have hkl : k < (liveP cs).length := by omega
              refine j_region ?_
              refine jv (v_move rfl) (.no rfl) rfl ?_
              refine jv (v_move rfl) (.no rfl) rfl ?_
              refine jv (v_move rfl) (.no rfl) rfl ?_
              refine jv (v_index rfl rfl FindR.row Try.runUnderlying27 Try.sizeOf3 (by omega) (by omega)) (.no rfl) rfl ?_
              refine jv (v_eload rfl FindR.row (at_k hkl) (by decide) Try.isAgg3 (fun _ _ _ h => int_at h)) (.no rfl) rfl ?_
              refine jq (q_callP (f51_spec) Try.call51 (by rfl) rfl (memc FindS.mem mem0)) (.no rfl) rfl ?_
              intro x61
              refine jv (v_gtr rfl rfl) (.no rfl) rfl ?_
              refine jo_nil ?_
              refine je_next ?_
              refine j_if rfl (fun t1 => ?_) (fun t1 => ?_)
              · first | (with_reducible replace t1 := of_decide_eq_true t1) | skip
                refine j_seq ?_
                refine j_seq ?_
                have hone := least_one gs (List.getElem_mem hkl) t1
                refine j_region ?_
                refine jv (v_move rfl) (.no rfl) rfl ?_
                refine jv (v_move rfl) (.no rfl) rfl ?_
                refine jv (v_move rfl) (.no rfl) rfl ?_
                refine jv (v_index rfl rfl FindR.row Try.runUnderlying27 Try.sizeOf3 (by omega) (by omega)) (.no rfl) rfl ?_
                refine jv (v_eload rfl FindR.row (at_k hkl) (by decide) Try.isAgg3 (fun _ _ _ h => int_at h)) (.no rfl) rfl ?_
                refine jq (q_callP (f51_spec) Try.call51 (by rfl) rfl (memc FindS.mem mem0)) (.no rfl) rfl ?_
                intro x68
                refine jv (v_neq rfl rfl) (.no rfl) rfl ?_
                refine jo_nil ?_
                refine je_next ?_
                refine j_if rfl (fun t2 => ?_) (fun t2 => ?_)
                · first | (with_reducible replace t2 := of_decide_eq_true t2) | skip
                  exact absurd hone t2
                · first | (with_reducible replace t2 := of_decide_eq_false t2) | skip
                  refine j_skip ?_
                  refine je_next ?_
                  refine j_region ?_
                  refine jv (v_move rfl) (.no rfl) rfl ?_
                  refine jv (v_move rfl) (.no rfl) rfl ?_
                  refine j_split 71 rfl (fun t3 => ?_) (fun t3 => ?_)
                  · first | (with_reducible replace t3 := of_decide_eq_true t3) | skip
                    have t3 : hb = true := by simpa using t3
                    refine jv (v_move rfl) (.yes rfl rfl rfl) rfl ?_
                    refine jv (v_move rfl) (.yes rfl rfl rfl) rfl ?_
                    refine jv (v_move rfl) (.yes rfl rfl rfl) rfl ?_
                    refine jv (v_index rfl rfl FindR.row Try.runUnderlying27 Try.sizeOf3 (by omega) (by omega)) (.yes rfl rfl rfl) rfl ?_
                    refine jv (v_eload rfl FindR.row (at_k hkl) (by decide) Try.isAgg3 (fun _ _ _ h => int_at h)) (.yes rfl rfl rfl) rfl ?_
                    refine jq (q_callP (f51_spec) Try.call51 (by rfl) rfl (memc FindS.mem mem0)) (.yes rfl rfl rfl) rfl ?_
                    intro x77
                    refine jv (v_gtr rfl rfl) (.yes rfl rfl rfl) rfl ?_
                    refine jv (v_pickt rfl rfl) (.no rfl) rfl ?_
                    refine jv (v_assign rfl) (.no rfl) rfl ?_
                    refine jo_nil ?_
                    refine je_block ?_
                    refine je_next ?_
                    refine j_region ?_
                    refine jv (v_move rfl) (.no rfl) rfl ?_
                    refine jv (v_add rfl rfl (by omega) (by omega)) (.no rfl) rfl ?_
                    refine jv (v_assign rfl) (.no rfl) rfl ?_
                    refine jo_nil ?_
                    refine je_round (k + 1, decide (0 < times m (liveP cs)[k])) (by dsimp only; refine ⟨by omega, ?_⟩; rw [holds_succ hkl, ← hhb]; unfold hasP; first | (simp [t1, t3]; done) | (simp [t1]; done)) (by dsimp only; omega) (lsub rfl (lsub rfl (lsub rfl (lsub rfl (lsub rfl (lsub rfl lsub0)))))) (fun _ h => (h).sub fun p hp => (List.mem_append_right _ (List.mem_append_right _ (List.mem_append_right _ hp))))
                  · first | (with_reducible replace t3 := of_decide_eq_false t3) | skip
                    have t3 : hb = false := by simpa using t3
                    refine j_off rfl rfl rfl (by decide) rfl ?_
                    refine j_off rfl rfl rfl (by decide) rfl ?_
                    refine j_off rfl rfl rfl (by decide) rfl ?_
                    refine j_off rfl rfl rfl (by decide) rfl ?_
                    refine j_off rfl rfl rfl (by decide) rfl ?_
                    refine j_off rfl rfl rfl (by decide) rfl ?_
                    refine j_off rfl rfl rfl (by decide) rfl ?_
                    refine jv (v_pickf rfl rfl) (.no rfl) rfl ?_
                    refine jv (v_assign rfl) (.no rfl) rfl ?_
                    refine jo_nil ?_
                    refine je_block ?_
                    refine je_next ?_
                    refine j_region ?_
                    refine jv (v_move rfl) (.no rfl) rfl ?_
                    refine jv (v_add rfl rfl (by omega) (by omega)) (.no rfl) rfl ?_
                    refine jv (v_assign rfl) (.no rfl) rfl ?_
                    refine jo_nil ?_
                    refine je_round (k + 1, false) (by dsimp only; refine ⟨by omega, ?_⟩; rw [holds_succ hkl, ← hhb]; unfold hasP; first | (simp [t1, t3]; done) | (simp [t1]; done)) (by dsimp only; omega) (lsub rfl (lsub rfl (lsub rfl (lsub rfl (lsub rfl (lsub rfl lsub0)))))) (fun _ h => (h).sub fun p hp => (List.mem_append_right _ (List.mem_append_right _ hp)))
              · first | (with_reducible replace t1 := of_decide_eq_false t1) | skip
                refine j_skip ?_
                refine je_block ?_
                refine je_next ?_
                refine j_region ?_
                refine jv (v_move rfl) (.no rfl) rfl ?_
                refine jv (v_add rfl rfl (by omega) (by omega)) (.no rfl) rfl ?_
                refine jv (v_assign rfl) (.no rfl) rfl ?_
                refine jo_nil ?_
                refine je_round (k + 1, hb) (by dsimp only; refine ⟨by omega, ?_⟩; rw [holds_succ hkl, ← hhb]; unfold hasP; first | (simp [t1, t3]; done) | (simp [t1]; done)) (by dsimp only; omega) (lsub rfl (lsub rfl (lsub rfl (lsub rfl (lsub rfl (lsub rfl lsub0)))))) (fun _ h => (h).sub fun p hp => (List.mem_append_right _ hp))
            · first | (with_reducible replace hc := of_decide_eq_false hc) | skip
              refine j_exit ?_
              refine je_then (by simp) ?_
              refine je_then (by simp) ?_
              refine je_hit ?_
              refine je_next ?_
              refine j_seq ?_
              refine j_seq ?_
              refine j_region ?_
              refine jv (v_assign rfl) (.no rfl) rfl ?_
              refine jo_nil ?_
              refine je_next ?_
              refine j_block ?_
              (try dsimp only at hc)
              have hkl : k = (liveP cs).length := by omega
              refine j_loopS (G := Nat) [(2, _), (7, _), (9, _)] (fun k t => (11, iV ((k : Nat) : Int)) :: t) (fun k t => t) (fun k => k ≤ (fromR cs l).length) (fun k => (fromR cs l).length - k) 0 (Nat.zero_le _) (lsub rfl (lsub rfl (lsub rfl (lsub rfl lsub0)))) rfl (fun j hj => ?_)
              refine j_seq ?_
              refine j_seq ?_
              refine j_region ?_
              refine jv (v_move rfl) (.no rfl) rfl ?_
              refine jv (v_move rfl) (.no rfl) rfl ?_
              refine jv (v_len rfl FindR.row Try.runUnderlying27) (.no rfl) rfl ?_
              refine jv (v_lss rfl rfl) (.no rfl) rfl ?_
              refine jo_nil ?_
              refine je_next ?_
              refine j_if rfl (fun hc2 => ?_) (fun hc2 => ?_)
              · first | (with_reducible replace hc2 := of_decide_eq_true hc2) | skip
                refine j_skip ?_
                refine je_next ?_
                refine j_seq ?_
                refine j_block ?_
                refine j_seq ?_
                (try dsimp only at hc2)
                have hjl : j < (fromR cs l).length := by omega
                refine j_region ?_
                refine jv (v_move rfl) (.no rfl) rfl ?_
                refine jv (v_move rfl) (.no rfl) rfl ?_
                refine j_split 87 rfl (fun u1 => ?_) (fun u1 => ?_)
                · first | (with_reducible replace u1 := of_decide_eq_true u1) | skip
                  refine jv (v_move rfl) (.yes rfl rfl rfl) rfl ?_
                  refine jv (v_move rfl) (.yes rfl rfl rfl) rfl ?_
                  refine jv (v_move rfl) (.yes rfl rfl rfl) rfl ?_
                  refine jv (v_index rfl rfl FindR.row Try.runUnderlying27 Try.sizeOf3 (by omega) (by omega)) (.yes rfl rfl rfl) rfl ?_
                  refine jv (v_eload rfl FindR.row (at_k hjl) (by decide) Try.isAgg3 (fun _ _ _ h => int_at h)) (.yes rfl rfl rfl) rfl ?_
                  refine jq (q_callP (f51_spec) Try.call51 (by rfl) rfl (memc FindS.mem mem0)) (.yes rfl rfl rfl) rfl ?_
                  intro x93
                  refine jv (v_eql rfl rfl) (.yes rfl rfl rfl) rfl ?_
                  refine jv (v_pickt rfl rfl) (.no rfl) rfl ?_
                  refine jo_nil ?_
                  refine je_next ?_
                  refine j_if rfl (fun u2 => ?_) (fun u2 => ?_)
                  · first | (with_reducible replace u2 := of_decide_eq_true u2) | skip
                    exact absurd u2 (least gs (k := k) (by omega) (by rw [← hhb]; exact u1) (List.getElem_mem hjl))
                  · first | (with_reducible replace u2 := of_decide_eq_false u2) | skip
                    refine j_skip ?_
                    refine je_block ?_
                    refine je_next ?_
                    refine j_region ?_
                    refine jv (v_move rfl) (.no rfl) rfl ?_
                    refine jv (v_add rfl rfl (by omega) (by omega)) (.no rfl) rfl ?_
                    refine jv (v_assign rfl) (.no rfl) rfl ?_
                    refine jo_nil ?_
                    refine je_round (j + 1) (by (try dsimp only); omega) (by (try dsimp only); omega) (lsub rfl (lsub rfl (lsub rfl (lsub rfl lsub0)))) (fun _ h => (h).sub fun p hp => (List.mem_append_right _ hp))
                · first | (with_reducible replace u1 := of_decide_eq_false u1) | skip
                  refine j_off rfl rfl rfl (by decide) rfl ?_
                  refine j_off rfl rfl rfl (by decide) rfl ?_
                  refine j_off rfl rfl rfl (by decide) rfl ?_
                  refine j_off rfl rfl rfl (by decide) rfl ?_
                  refine j_off rfl rfl rfl (by decide) rfl ?_
                  refine j_off rfl rfl rfl (by decide) rfl ?_
                  refine j_off rfl rfl rfl (by decide) rfl ?_
                  refine jv (v_pickf rfl rfl) (.no rfl) rfl ?_
                  refine jo_nil ?_
                  refine je_next ?_
                  refine j_iff rfl ?_
                  refine j_skip ?_
                  refine je_block ?_
                  refine je_next ?_
                  refine j_region ?_
                  refine jv (v_move rfl) (.no rfl) rfl ?_
                  refine jv (v_add rfl rfl (by omega) (by omega)) (.no rfl) rfl ?_
                  refine jv (v_assign rfl) (.no rfl) rfl ?_
                  refine jo_nil ?_
                  refine je_round (j + 1) (by (try dsimp only); omega) (by (try dsimp only); omega) (lsub rfl (lsub rfl (lsub rfl (lsub rfl lsub0)))) (fun _ h => (h).sub fun p hp => hp)
              · first | (with_reducible replace hc2 := of_decide_eq_false hc2) | skip
                refine j_exit ?_
                refine je_then (by simp) ?_
                refine je_then (by simp) ?_
                refine je_hit ?_
                refine je_next ?_
                refine j_seq ?_
                refine j_region ?_
                refine jv (v_assign rfl) (.no rfl) rfl ?_
                refine jo_nil ?_
                refine je_next ?_
                refine j_ret ?_
                refine je_ret rfl rfl rfl rfl rfl (rvs := [.tmp 6]) rfl (.cons (.tmp rfl) .nil) () ?_ (fun w h => h.fin mem0) (.inl rfl)
                rfl

end Go.Proofs.Ytjgacbopccfecaa
