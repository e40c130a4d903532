/-
  Walks: function 26.
-/
import Derived.Test.YtjgacbopccfecaaO
import Derived.Test.YtjgacbopccfecaaW9
set_option maxRecDepth 100000
set_option linter.unusedVariables false
set_option linter.unusedSimpArgs false
namespace Go.Proofs.Ytjgacbopccfecaa

theorem f26_spec {v : Value} {cs : List Cell} {last serial : Int} (hn : cs.length ≤ 1000) : Spec Try.prog 26 [stA v last serial] [] [sl cellK v cs] Unit (fun _ => .bool (right6 ⟨cs, last, serial⟩)) (fun _ => []) (fun _ => []) := by
  refine spec_of Try.func26 rfl Try.ntmps26 (by simp) fun ok w => ?_
  refine j_len v fun hlx => ?_
  refine j_seq ?_
  refine j_region ?_
  refine jx (x_boxc rfl) (.no rfl) rfl ?_
  intro B1
  refine jv (v_assign rfl) (.no rfl) rfl ?_
  refine jo_nil ?_
  refine je_next ?_
  refine j_seq ?_
  refine j_seq ?_
  refine j_region ?_
  refine jv (v_field (k' := 0) rfl Try.runUnderlying26 rfl Try.sizeOf24 (by decide) rfl) (.no rfl) rfl ?_
  refine jv (v_field (k' := 0) rfl Try.runUnderlying24 rfl Try.sizeOf22 (by decide) rfl) (.no rfl) rfl ?_
  refine jv (v_loadc rfl Try.isAgg22 rfl) (.no rfl) rfl ?_
  refine jv (v_len rfl FindR.row Try.runUnderlying22) (.no rfl) rfl ?_
  refine jv (v_gtr rfl rfl) (.no rfl) rfl ?_
  refine jv (v_move rfl) (.no rfl) rfl ?_
  refine j_split 13 rfl (fun t1 => ?_) (fun t1 => ?_)
  · first | (with_reducible replace t1 := of_decide_eq_true t1) | skip
    refine j_off rfl rfl rfl (by decide) rfl ?_
    refine j_off rfl rfl rfl (by decide) rfl ?_
    refine j_off rfl rfl rfl (by decide) rfl ?_
    refine j_off rfl rfl rfl (by decide) rfl ?_
    refine jv (v_pickt rfl rfl) (.no rfl) rfl ?_
    refine jv (v_move rfl) (.no rfl) rfl ?_
    refine j_off rfl rfl rfl (by decide) rfl ?_
    refine j_off rfl rfl rfl (by decide) rfl ?_
    refine j_off rfl rfl rfl (by decide) rfl ?_
    refine j_off rfl rfl rfl (by decide) rfl ?_
    refine jv (v_pickt rfl rfl) (.no rfl) rfl ?_
    refine jv (v_move rfl) (.no rfl) rfl ?_
    refine j_off rfl rfl rfl (by decide) rfl ?_
    refine j_off rfl rfl rfl (by decide) rfl ?_
    refine j_off rfl rfl rfl (by decide) rfl ?_
    refine jv (v_pickt rfl rfl) (.no rfl) rfl ?_
    refine jo_nil ?_
    refine je_next ?_
    refine j_ift rfl ?_
    refine j_seq ?_
    refine j_region ?_
    refine jv (v_assign rfl) (.no rfl) rfl ?_
    refine jo_nil ?_
    refine je_next ?_
    refine j_ret ?_
    refine je_then (by simp) ?_
    refine je_ret rfl rfl rfl rfl rfl (rvs := [.tmp 2]) rfl (.cons (.tmp rfl) .nil) () ?_ (fun w h => h.fin mem0) (.inl rfl)
    first | exact congrArg Value.bool (right6_all (by omega) (by omega) (by omega) (by omega) (by omega) hok) | exact congrArg Value.bool (right6_nok hkl (.inr (ok_bare_no htf hbn))) | exact congrArg Value.bool (right6_nok hkl (.inr (seen_twin hkl htt mq hse))) | exact congrArg Value.bool (right6_nok hkl (.inr (ok_fine_no htt (decide_eq_false (by simp at rq; omega))))) | exact congrArg Value.bool (right6_nok hkl (.inl (okC3_no (by omega)))) | exact congrArg Value.bool (right6_top (by omega))
  · first | (with_reducible replace t1 := of_decide_eq_false t1) | skip
    refine jv (v_field (k' := 0) rfl Try.runUnderlying26 rfl Try.sizeOf24 (by decide) rfl) (.yes rfl rfl rfl) rfl ?_
    refine jv (v_field (k' := 1) rfl Try.runUnderlying24 rfl Try.sizeOf3 (by decide) rfl) (.yes rfl rfl rfl) rfl ?_
    refine jv (v_loadc rfl Try.isAgg3 rfl) (.yes rfl rfl rfl) rfl ?_
    refine jv (v_lss rfl rfl) (.yes rfl rfl rfl) rfl ?_
    refine jv (v_pickf rfl rfl) (.no rfl) rfl ?_
    refine jv (v_move rfl) (.no rfl) rfl ?_
    refine j_split 19 rfl (fun t2 => ?_) (fun t2 => ?_)
    · first | (with_reducible replace t2 := of_decide_eq_true t2) | skip
      refine j_off rfl rfl rfl (by decide) rfl ?_
      refine j_off rfl rfl rfl (by decide) rfl ?_
      refine j_off rfl rfl rfl (by decide) rfl ?_
      refine j_off rfl rfl rfl (by decide) rfl ?_
      refine jv (v_pickt rfl rfl) (.no rfl) rfl ?_
      refine jv (v_move rfl) (.no rfl) rfl ?_
      refine j_off rfl rfl rfl (by decide) rfl ?_
      refine j_off rfl rfl rfl (by decide) rfl ?_
      refine j_off rfl rfl rfl (by decide) rfl ?_
      refine jv (v_pickt rfl rfl) (.no rfl) rfl ?_
      refine jo_nil ?_
      refine je_next ?_
      refine j_ift rfl ?_
      refine j_seq ?_
      refine j_region ?_
      refine jv (v_assign rfl) (.no rfl) rfl ?_
      refine jo_nil ?_
      refine je_next ?_
      refine j_ret ?_
      refine je_then (by simp) ?_
      refine je_ret rfl rfl rfl rfl rfl (rvs := [.tmp 2]) rfl (.cons (.tmp rfl) .nil) () ?_ (fun w h => h.fin mem0) (.inl rfl)
      first | exact congrArg Value.bool (right6_all (by omega) (by omega) (by omega) (by omega) (by omega) hok) | exact congrArg Value.bool (right6_nok hkl (.inr (ok_bare_no htf hbn))) | exact congrArg Value.bool (right6_nok hkl (.inr (seen_twin hkl htt mq hse))) | exact congrArg Value.bool (right6_nok hkl (.inr (ok_fine_no htt (decide_eq_false (by simp at rq; omega))))) | exact congrArg Value.bool (right6_nok hkl (.inl (okC3_no (by omega)))) | exact congrArg Value.bool (right6_top (by omega))
    · first | (with_reducible replace t2 := of_decide_eq_false t2) | skip
      refine jv (v_field (k' := 0) rfl Try.runUnderlying26 rfl Try.sizeOf24 (by decide) rfl) (.yes rfl rfl rfl) rfl ?_
      refine jv (v_field (k' := 1) rfl Try.runUnderlying24 rfl Try.sizeOf3 (by decide) rfl) (.yes rfl rfl rfl) rfl ?_
      refine jv (v_loadc rfl Try.isAgg3 rfl) (.yes rfl rfl rfl) rfl ?_
      refine jv (v_gtr rfl rfl) (.yes rfl rfl rfl) rfl ?_
      refine jv (v_pickf rfl rfl) (.no rfl) rfl ?_
      refine jv (v_move rfl) (.no rfl) rfl ?_
      refine j_split 25 rfl (fun t3 => ?_) (fun t3 => ?_)
      · first | (with_reducible replace t3 := of_decide_eq_true t3) | skip
        refine j_off rfl rfl rfl (by decide) rfl ?_
        refine j_off rfl rfl rfl (by decide) rfl ?_
        refine j_off rfl rfl rfl (by decide) rfl ?_
        refine jv (v_pickt rfl rfl) (.no rfl) rfl ?_
        refine jo_nil ?_
        refine je_next ?_
        refine j_ift rfl ?_
        refine j_seq ?_
        refine j_region ?_
        refine jv (v_assign rfl) (.no rfl) rfl ?_
        refine jo_nil ?_
        refine je_next ?_
        refine j_ret ?_
        refine je_then (by simp) ?_
        refine je_ret rfl rfl rfl rfl rfl (rvs := [.tmp 2]) rfl (.cons (.tmp rfl) .nil) () ?_ (fun w h => h.fin mem0) (.inl rfl)
        first | exact congrArg Value.bool (right6_all (by omega) (by omega) (by omega) (by omega) (by omega) hok) | exact congrArg Value.bool (right6_nok hkl (.inr (ok_bare_no htf hbn))) | exact congrArg Value.bool (right6_nok hkl (.inr (seen_twin hkl htt mq hse))) | exact congrArg Value.bool (right6_nok hkl (.inr (ok_fine_no htt (decide_eq_false (by simp at rq; omega))))) | exact congrArg Value.bool (right6_nok hkl (.inl (okC3_no (by omega)))) | exact congrArg Value.bool (right6_top (by omega))
      · first | (with_reducible replace t3 := of_decide_eq_false t3) | skip
        refine jv (v_field (k' := 2) rfl Try.runUnderlying26 rfl Try.sizeOf3 (by decide) rfl) (.yes rfl rfl rfl) rfl ?_
        refine jv (v_loadc rfl Try.isAgg3 rfl) (.yes rfl rfl rfl) rfl ?_
        refine jv (v_lss rfl rfl) (.yes rfl rfl rfl) rfl ?_
        refine jv (v_pickf rfl rfl) (.no rfl) rfl ?_
        refine jo_nil ?_
        refine je_next ?_
        refine j_ifs rfl (fun t4 => ?_) (fun t4 => ?_)
        · first | (with_reducible replace t4 := of_decide_eq_true t4) | skip
          refine j_seq ?_
          refine j_region ?_
          refine jv (v_assign rfl) (.no rfl) rfl ?_
          refine jo_nil ?_
          refine je_next ?_
          refine j_ret ?_
          refine je_then (by simp) ?_
          refine je_ret rfl rfl rfl rfl rfl (rvs := [.tmp 2]) rfl (.cons (.tmp rfl) .nil) () ?_ (fun w h => h.fin mem0) (.inl rfl)
          first | exact congrArg Value.bool (right6_all (by omega) (by omega) (by omega) (by omega) (by omega) hok) | exact congrArg Value.bool (right6_nok hkl (.inr (ok_bare_no htf hbn))) | exact congrArg Value.bool (right6_nok hkl (.inr (seen_twin hkl htt mq hse))) | exact congrArg Value.bool (right6_nok hkl (.inr (ok_fine_no htt (decide_eq_false (by simp at rq; omega))))) | exact congrArg Value.bool (right6_nok hkl (.inl (okC3_no (by omega)))) | exact congrArg Value.bool (right6_top (by omega))
        · first | (with_reducible replace t4 := of_decide_eq_false t4) | skip
          refine j_skip ?_
          refine je_next ?_
          refine j_seq ?_
          refine j_region ?_
          refine jx x_mkmap (.no rfl) rfl ?_
          intro B30
          refine jv (v_assign rfl) (.no rfl) rfl ?_
          refine jo_nil ?_
          refine je_next ?_
          refine j_seq ?_
          refine j_seq ?_
          refine j_region ?_
          refine jv (v_field (k' := 0) rfl Try.runUnderlying26 rfl Try.sizeOf24 (by decide) rfl) (.no rfl) rfl ?_
          refine jv (v_field (k' := 0) rfl Try.runUnderlying24 rfl Try.sizeOf22 (by decide) rfl) (.no rfl) rfl ?_
          refine jv (v_loadc rfl Try.isAgg22 rfl) (.no rfl) rfl ?_
          refine jv (v_len rfl FindR.row Try.runUnderlying22) (.no rfl) rfl ?_
          refine jv (v_move rfl) (.no rfl) rfl ?_
          refine jo_nil ?_
          refine je_next ?_
          refine j_block ?_
          refine j_loopS (G := Nat × List Int) [(1, _), (3, _), (33, _), (34, _)] (fun k t => (35, iV ((k.1 : Nat) : Int)) :: t) (fun k t => .obj B30 (mp k.2) :: t) (fun k => k.1 ≤ cs.length ∧ Seen cs k.1 k.2 ∧ ∀ i (hi : i < cs.length), i < k.1 → OkS last serial cs i cs[i]) (fun k => cs.length - k.1) (0, []) (⟨Nat.zero_le _, seen_0 cs, fun i _ h => absurd h (Nat.not_lt_zero i)⟩) (lsub rfl (lsub rfl (lsub rfl (lsub rfl (lsub rfl lsub0))))) rfl (fun ⟨k, ks⟩ ⟨hk, hse, hok⟩ => ?_)   -- dead: [2]
          simp only at hk hse hok
          refine j_seq ?_
          refine j_region ?_
          refine jv (v_lss rfl rfl) (.no rfl) rfl ?_
          refine jo_nil ?_
          refine je_next ?_
          refine j_seq ?_
          refine j_ifs rfl (fun hc => ?_) (fun hc => ?_)
          · first | (with_reducible replace hc := of_decide_eq_true hc) | skip
            refine j_skip ?_
            refine je_next ?_
            refine j_seq ?_
            refine j_block ?_
            refine j_seq ?_
            have hkl : k < cs.length := by omega
            refine j_region ?_
            refine jv (v_index rfl rfl FindR.row Try.runUnderlying22 Try.sizeOf81 (by omega) (by omega)) (.no rfl) rfl ?_
            refine jq (OpL.q (l_eload rfl FindR.row (at_k hkl) (by decide) Try.isAgg81 Try.sizeOf81 (fun _ _ _ h => cell_all h))) (.no rfl) rfl ?_
            intro v38
            refine jx (x_alloc Try.zeroValue81 Cells.agg) (.no rfl) rfl ?_
            intro B5
            refine jx (x_storec (cs' := [_, _, _, _, _, _, _, _]) rfl rfl rfl Try.sizeOf81 rfl rfl) (.no rfl) rfl ?_
            intro _
            refine jo_nil ?_
            refine je_next ?_
            refine j_seq ?_
            refine j_seq ?_
            refine j_region ?_
            refine jv (v_field (k' := 1) rfl Try.runUnderlying81 rfl Try.sizeOf3 (by decide) rfl) (.no rfl) rfl ?_
            refine jv (v_loadc rfl Try.isAgg3 rfl) (.no rfl) rfl ?_
            refine jv (v_lss rfl rfl) (.no rfl) rfl ?_
            refine jv (v_move rfl) (.no rfl) rfl ?_
            refine j_split 42 rfl (fun g1 => ?_) (fun g1 => ?_)
            · first | (with_reducible replace g1 := of_decide_eq_true g1) | skip
              refine j_off rfl rfl rfl (by decide) rfl ?_
              refine j_off rfl rfl rfl (by decide) rfl ?_
              refine j_off rfl rfl rfl (by decide) rfl ?_
              refine j_off rfl rfl rfl (by decide) rfl ?_
              refine j_off rfl rfl rfl (by decide) rfl ?_
              refine j_off rfl rfl rfl (by decide) rfl ?_
              refine jv (v_pickt rfl rfl) (.no rfl) rfl ?_
              refine jo_nil ?_
              refine je_next ?_
              refine j_ift rfl ?_
              refine j_seq ?_
              refine j_region ?_
              refine jv (v_assign rfl) (.no rfl) rfl ?_
              refine jo_nil ?_
              refine je_next ?_
              refine j_ret ?_
              refine je_then (by simp) ?_
              refine je_blockr ?_
              refine je_then (by simp) ?_
              refine je_then (by simp) ?_
              refine je_blockr ?_
              refine je_then (by simp) ?_
              refine je_ret rfl rfl rfl rfl rfl (rvs := [.tmp 2]) rfl (.cons (.tmp rfl) .nil) () ?_ (fun w h => h.fin mem0) (.inl rfl)
              first | exact congrArg Value.bool (right6_all (by omega) (by omega) (by omega) (by omega) (by omega) hok) | exact congrArg Value.bool (right6_nok hkl (.inr (ok_bare_no htf hbn))) | exact congrArg Value.bool (right6_nok hkl (.inr (seen_twin hkl htt mq hse))) | exact congrArg Value.bool (right6_nok hkl (.inr (ok_fine_no htt (decide_eq_false (by simp at rq; omega))))) | exact congrArg Value.bool (right6_nok hkl (.inl (okC3_no (by omega)))) | exact congrArg Value.bool (right6_top (by omega))
            · first | (with_reducible replace g1 := of_decide_eq_false g1) | skip
              refine jv (v_field (k' := 1) rfl Try.runUnderlying81 rfl Try.sizeOf3 (by decide) rfl) (.yes rfl rfl rfl) rfl ?_
              refine jv (v_loadc rfl Try.isAgg3 rfl) (.yes rfl rfl rfl) rfl ?_
              refine jv (v_field (k' := 0) rfl Try.runUnderlying26 rfl Try.sizeOf24 (by decide) rfl) (.yes rfl rfl rfl) rfl ?_
              refine jv (v_field (k' := 1) rfl Try.runUnderlying24 rfl Try.sizeOf3 (by decide) rfl) (.yes rfl rfl rfl) rfl ?_
              refine jv (v_loadc rfl Try.isAgg3 rfl) (.yes rfl rfl rfl) rfl ?_
              refine jv (v_gtr rfl rfl) (.yes rfl rfl rfl) rfl ?_
              refine jv (v_pickf rfl rfl) (.no rfl) rfl ?_
              refine jo_nil ?_
              refine je_next ?_
              refine j_ifs rfl (fun g2 => ?_) (fun g2 => ?_)
              · first | (with_reducible replace g2 := of_decide_eq_true g2) | skip
                refine j_seq ?_
                refine j_region ?_
                refine jv (v_assign rfl) (.no rfl) rfl ?_
                refine jo_nil ?_
                refine je_next ?_
                refine j_ret ?_
                refine je_then (by simp) ?_
                refine je_blockr ?_
                refine je_then (by simp) ?_
                refine je_then (by simp) ?_
                refine je_blockr ?_
                refine je_then (by simp) ?_
                refine je_ret rfl rfl rfl rfl rfl (rvs := [.tmp 2]) rfl (.cons (.tmp rfl) .nil) () ?_ (fun w h => h.fin mem0) (.inl rfl)
                first | exact congrArg Value.bool (right6_all (by omega) (by omega) (by omega) (by omega) (by omega) hok) | exact congrArg Value.bool (right6_nok hkl (.inr (ok_bare_no htf hbn))) | exact congrArg Value.bool (right6_nok hkl (.inr (seen_twin hkl htt mq hse))) | exact congrArg Value.bool (right6_nok hkl (.inr (ok_fine_no htt (decide_eq_false (by simp at rq; omega))))) | exact congrArg Value.bool (right6_nok hkl (.inl (okC3_no (by omega)))) | exact congrArg Value.bool (right6_top (by omega))
              · first | (with_reducible replace g2 := of_decide_eq_false g2) | skip
                refine j_skip ?_
                refine je_next ?_
                refine j_seq ?_
                refine j_region ?_
                refine jv (v_field (k' := 0) rfl Try.runUnderlying81 rfl Try.sizeOf3 (by decide) rfl) (.no rfl) rfl ?_
                refine jv (v_loadc rfl Try.isAgg3 rfl) (.no rfl) rfl ?_
                refine jo_nil ?_
                refine je_next ?_
                refine j_block ?_
                refine j_seq ?_
                refine j_seq ?_
                refine j_region ?_
                refine jv (v_eql rfl rfl) (.no rfl) rfl ?_
                refine jv (v_assign rfl) (.no rfl) rfl ?_
                refine jo_nil ?_
                refine je_next ?_
                refine j_ifs rfl (fun e0 => ?_) (fun e0 => ?_)
                · first | (with_reducible replace e0 := of_decide_eq_true e0) | skip
                  refine j_skip ?_
                  refine je_next ?_
                  refine j_ift rfl ?_
                  refine j_seq ?_
                  have htf : there cs[k] = false := there_no (by omega)
                  refine j_region ?_
                  refine jv (v_field (k' := 2) rfl Try.runUnderlying81 rfl Try.sizeOf29 (by decide) rfl) (.no rfl) rfl ?_
                  refine jv (v_loadAc (vs := [_, _, _, _, _, _]) rfl Try.isAgg29 Try.sizeOf29 rfl rfl) (.no rfl) rfl ?_
                  refine jq (q_callP (f62_spec) Try.call62 (by rfl) rfl (memc FindS.mem mem0)) (.no rfl) rfl ?_
                  intro x57
                  refine jv (v_not rfl) (.no rfl) rfl ?_
                  refine jo_nil ?_
                  refine je_next ?_
                  refine j_ifs rfl (fun bl => ?_) (fun bl => ?_)
                  · first | (with_reducible replace bl := of_decide_eq_true bl) | skip
                    have hbn : bare cs[k].val = false := by simpa using bl
                    refine j_seq ?_
                    refine j_region ?_
                    refine jv (v_assign rfl) (.no rfl) rfl ?_
                    refine jo_nil ?_
                    refine je_next ?_
                    refine j_ret ?_
                    refine je_blockr ?_
                    refine je_blockr ?_
                    refine je_then (by simp) ?_
                    refine je_then (by simp) ?_
                    refine je_blockr ?_
                    refine je_then (by simp) ?_
                    refine je_ret rfl rfl rfl rfl rfl (rvs := [.tmp 2]) rfl (.cons (.tmp rfl) .nil) () ?_ (fun w h => h.fin mem0) (.inl rfl)
                    first | exact congrArg Value.bool (right6_all (by omega) (by omega) (by omega) (by omega) (by omega) hok) | exact congrArg Value.bool (right6_nok hkl (.inr (ok_bare_no htf hbn))) | exact congrArg Value.bool (right6_nok hkl (.inr (seen_twin hkl htt mq hse))) | exact congrArg Value.bool (right6_nok hkl (.inr (ok_fine_no htt (decide_eq_false (by simp at rq; omega))))) | exact congrArg Value.bool (right6_nok hkl (.inl (okC3_no (by omega)))) | exact congrArg Value.bool (right6_top (by omega))
                  · first | (with_reducible replace bl := of_decide_eq_false bl) | skip
                    have hbl : bare cs[k].val = true := by simpa using bl
                    refine j_skip ?_
                    refine je_block ?_
                    refine je_block ?_
                    refine je_next ?_
                    refine j_region ?_
                    refine jv (v_add rfl rfl (by omega) (by omega)) (.no rfl) rfl ?_
                    refine jv (v_move rfl) (.no rfl) rfl ?_
                    refine jo_nil ?_
                    refine je_round (k + 1, _) (by first | exact ⟨by simp only; omega, seen_add hkl htt hse, step_okS hkl hok ⟨okC3_of (by omega), seen_fine hkl htt hf mm hse⟩⟩ | exact ⟨by simp only; omega, seen_bare hkl htf hse, step_okS hkl hok ⟨okC3_of (by omega), ok_bare htf hbl⟩⟩) (by first | omega | (dsimp only; omega)) (lsub rfl (lsub rfl (lsub rfl (lsub rfl (lsub rfl lsub0))))) (fun _ h => ((h).del .head).sub fun p hp => (List.mem_append_right _ (List.mem_append_right _ hp)))
                · first | (with_reducible replace e0 := of_decide_eq_false e0) | skip
                  refine j_region ?_
                  refine jv (v_eql rfl rfl) (.no rfl) rfl ?_
                  refine jv (v_assign rfl) (.no rfl) rfl ?_
                  refine jo_nil ?_
                  refine je_next ?_
                  refine j_ifs rfl (fun e0 => ?_) (fun e0 => ?_)
                  · first | (with_reducible replace e0 := of_decide_eq_true e0) | skip
                    refine j_seq ?_
                    have htf : there cs[k] = false := there_no (by omega)
                    refine j_region ?_
                    refine jv (v_field (k' := 2) rfl Try.runUnderlying81 rfl Try.sizeOf29 (by decide) rfl) (.no rfl) rfl ?_
                    refine jv (v_loadAc (vs := [_, _, _, _, _, _]) rfl Try.isAgg29 Try.sizeOf29 rfl rfl) (.no rfl) rfl ?_
                    refine jq (q_callP (f62_spec) Try.call62 (by rfl) rfl (memc FindS.mem mem0)) (.no rfl) rfl ?_
                    intro x57
                    refine jv (v_not rfl) (.no rfl) rfl ?_
                    refine jo_nil ?_
                    refine je_next ?_
                    refine j_ifs rfl (fun bl => ?_) (fun bl => ?_)
                    · first | (with_reducible replace bl := of_decide_eq_true bl) | skip
                      have hbn : bare cs[k].val = false := by simpa using bl
                      refine j_seq ?_
                      refine j_region ?_
                      refine jv (v_assign rfl) (.no rfl) rfl ?_
                      refine jo_nil ?_
                      refine je_next ?_
                      refine j_ret ?_
                      refine je_blockr ?_
                      refine je_blockr ?_
                      refine je_then (by simp) ?_
                      refine je_then (by simp) ?_
                      refine je_blockr ?_
                      refine je_then (by simp) ?_
                      refine je_ret rfl rfl rfl rfl rfl (rvs := [.tmp 2]) rfl (.cons (.tmp rfl) .nil) () ?_ (fun w h => h.fin mem0) (.inl rfl)
                      first | exact congrArg Value.bool (right6_all (by omega) (by omega) (by omega) (by omega) (by omega) hok) | exact congrArg Value.bool (right6_nok hkl (.inr (ok_bare_no htf hbn))) | exact congrArg Value.bool (right6_nok hkl (.inr (seen_twin hkl htt mq hse))) | exact congrArg Value.bool (right6_nok hkl (.inr (ok_fine_no htt (decide_eq_false (by simp at rq; omega))))) | exact congrArg Value.bool (right6_nok hkl (.inl (okC3_no (by omega)))) | exact congrArg Value.bool (right6_top (by omega))
                    · first | (with_reducible replace bl := of_decide_eq_false bl) | skip
                      have hbl : bare cs[k].val = true := by simpa using bl
                      refine j_skip ?_
                      refine je_block ?_
                      refine je_block ?_
                      refine je_next ?_
                      refine j_region ?_
                      refine jv (v_add rfl rfl (by omega) (by omega)) (.no rfl) rfl ?_
                      refine jv (v_move rfl) (.no rfl) rfl ?_
                      refine jo_nil ?_
                      refine je_round (k + 1, _) (by first | exact ⟨by simp only; omega, seen_add hkl htt hse, step_okS hkl hok ⟨okC3_of (by omega), seen_fine hkl htt hf mm hse⟩⟩ | exact ⟨by simp only; omega, seen_bare hkl htf hse, step_okS hkl hok ⟨okC3_of (by omega), ok_bare htf hbl⟩⟩) (by first | omega | (dsimp only; omega)) (lsub rfl (lsub rfl (lsub rfl (lsub rfl (lsub rfl lsub0))))) (fun _ h => ((h).del .head).sub fun p hp => (List.mem_append_right _ (List.mem_append_right _ hp)))
                  · first | (with_reducible replace e0 := of_decide_eq_false e0) | skip
                    refine j_seq ?_
                    refine j_seq ?_
                    refine j_region ?_
                    refine jv (v_eql rfl rfl) (.no rfl) rfl ?_
                    refine jv (v_assign rfl) (.no rfl) rfl ?_
                    refine jo_nil ?_
                    refine je_next ?_
                    refine j_ifs rfl (fun e1 => ?_) (fun e1 => ?_)
                    · first | (with_reducible replace e1 := of_decide_eq_true e1) | skip
                      refine j_skip ?_
                      refine je_next ?_
                      refine j_ift rfl ?_
                      refine j_seq ?_
                      refine j_seq ?_
                      have htt : there cs[k] = true := there_yes (by omega)
                      refine j_region ?_
                      refine jv (v_field (k' := 2) rfl Try.runUnderlying26 rfl Try.sizeOf3 (by decide) rfl) (.no rfl) rfl ?_
                      refine jv (v_loadc rfl Try.isAgg3 rfl) (.no rfl) rfl ?_
                      refine jq (q_callP (f63_spec) Try.call63 (by rfl) rfl mem0) (.no rfl) rfl ?_
                      intro b64
                      refine jv (v_len rfl FindR.row Try.runUnderlying90) (.no rfl) rfl ?_
                      refine jv (v_move rfl) (.no rfl) rfl ?_
                      refine jo_nil ?_
                      refine je_next ?_
                      refine j_block ?_
                      refine j_loopN 5 ?_
                      refine jr_succ ?_
                      refine j_seq ?_
                      refine j_region ?_
                      refine jv (v_lss rfl rfl) (.no rfl) rfl ?_
                      refine jo_nil ?_
                      refine je_next ?_
                      refine j_seq ?_
                      refine j_ift rfl ?_
                      refine j_skip ?_
                      refine je_next ?_
                      refine j_seq ?_
                      refine j_block ?_
                      refine j_seq ?_
                      refine j_region ?_
                      refine jv (v_index rfl rfl FindR.row Try.runUnderlying90 Try.sizeOf93 (by omega) (by simp [rulesV])) (.no rfl) rfl ?_
                      refine jq (OpL.q (l_eload rfl FindR.row (show (rulesV b64.1)[_]? = some _ from rfl) (by decide) Try.isAgg93 Try.sizeOf93 (fun _ _ _ h => val_all h))) (.no rfl) rfl ?_
                      intro v69
                      refine jx (x_alloc Try.zeroValue93 Cells.agg) (.no rfl) rfl ?_
                      intro B7
                      refine jx (x_storec (cs' := [_]) rfl rfl rfl Try.sizeOf93 rfl rfl) (.no rfl) rfl ?_
                      intro _
                      refine jo_nil ?_
                      refine je_next ?_
                      refine j_seq ?_
                      refine j_region ?_
                      refine jv (v_field (k' := 0) rfl Try.runUnderlying93 rfl Try.sizeOf89 (by decide) rfl) (.no rfl) rfl ?_
                      refine jv (v_loadc rfl Try.isAgg89 rfl) (.no rfl) rfl ?_
                      refine jv (v_field (k' := 2) rfl Try.runUnderlying81 rfl Try.sizeOf29 (by decide) rfl) (.no rfl) rfl ?_
                      refine jv (v_loadAc (vs := [_, _, _, _, _, _]) rfl Try.isAgg29 Try.sizeOf29 rfl rfl) (.no rfl) rfl ?_
                      refine jq (q_callcP (caps := [ptr b64.1 0]) (f94_spec (o := cs[k].val) (top := serial) (B := b64.1)) Try.call94 (by rfl) rfl rfl rfl (memc FindS.mem (memc FindM.mem mem0))) (.no rfl) rfl ?_
                      intro _
                      refine jv (v_not rfl) (.no rfl) rfl ?_
                      refine jv (v_move rfl) (.no rfl) rfl ?_
                      refine j_split 76 rfl (fun rq => ?_) (fun rq => ?_)
                      · first | (with_reducible replace rq := of_decide_eq_true rq) | skip
                        refine j_off rfl rfl rfl (by decide) rfl ?_
                        refine j_off rfl rfl rfl (by decide) rfl ?_
                        refine j_off rfl rfl rfl (by decide) rfl ?_
                        refine j_off rfl rfl rfl (by decide) rfl ?_
                        refine j_off rfl rfl rfl (by decide) rfl ?_
                        refine jv (v_pickt rfl rfl) (.no rfl) rfl ?_
                        refine jo_nil ?_
                        refine je_next ?_
                        refine j_ift rfl ?_
                        refine j_seq ?_
                        refine j_region ?_
                        refine jv (v_assign rfl) (.no rfl) rfl ?_
                        refine jo_nil ?_
                        refine je_next ?_
                        refine j_ret ?_
                        refine je_blockr ?_
                        refine je_then (by simp) ?_
                        refine je_then (by simp) ?_
                        refine je_blockr ?_
                        refine je_then (by simp) ?_
                        refine je_blockr ?_
                        refine je_blockr ?_
                        refine je_then (by simp) ?_
                        refine je_then (by simp) ?_
                        refine je_blockr ?_
                        refine je_then (by simp) ?_
                        refine je_ret rfl rfl rfl rfl rfl (rvs := [.tmp 2]) rfl (.cons (.tmp rfl) .nil) () ?_ (fun w h => h.fin mem0) (.inl rfl)
                        first | exact congrArg Value.bool (right6_all (by omega) (by omega) (by omega) (by omega) (by omega) hok) | exact congrArg Value.bool (right6_nok hkl (.inr (ok_bare_no htf hbn))) | exact congrArg Value.bool (right6_nok hkl (.inr (seen_twin hkl htt mq hse))) | exact congrArg Value.bool (right6_nok hkl (.inr (ok_fine_no htt (decide_eq_false (by simp at rq; omega))))) | exact congrArg Value.bool (right6_nok hkl (.inl (okC3_no (by omega)))) | exact congrArg Value.bool (right6_top (by omega))
                      · first | (with_reducible replace rq := of_decide_eq_false rq) | skip
                        have r0 := of_decide_eq_true (by simpa using rq)
                        refine jv (v_move rfl) (.yes rfl rfl rfl) rfl ?_
                        refine jv (v_field (k' := 2) rfl Try.runUnderlying81 rfl Try.sizeOf29 (by decide) rfl) (.yes rfl rfl rfl) rfl ?_
                        refine jv (v_field (k' := 2) rfl Try.runUnderlying29 rfl Try.sizeOf3 (by decide) rfl) (.yes rfl rfl rfl) rfl ?_
                        refine jv (v_loadc rfl Try.isAgg3 rfl) (.yes rfl rfl rfl) rfl ?_
                        refine jv (v_has (ks := ks) rfl rfl (by simp) Try.runUnderlying88 Try.runUnderlying3 Try.zeroValue4) (.yes rfl rfl rfl) rfl ?_
                        refine jv (v_pickf rfl rfl) (.no rfl) rfl ?_
                        refine jo_nil ?_
                        refine je_next ?_
                        refine j_ifs rfl (fun mq => ?_) (fun mq => ?_)
                        · first | (with_reducible replace mq := of_decide_eq_true mq) | skip
                          refine j_seq ?_
                          refine j_region ?_
                          refine jv (v_assign rfl) (.no rfl) rfl ?_
                          refine jo_nil ?_
                          refine je_next ?_
                          refine j_ret ?_
                          refine je_blockr ?_
                          refine je_then (by simp) ?_
                          refine je_then (by simp) ?_
                          refine je_blockr ?_
                          refine je_then (by simp) ?_
                          refine je_blockr ?_
                          refine je_blockr ?_
                          refine je_then (by simp) ?_
                          refine je_then (by simp) ?_
                          refine je_blockr ?_
                          refine je_then (by simp) ?_
                          refine je_ret rfl rfl rfl rfl rfl (rvs := [.tmp 2]) rfl (.cons (.tmp rfl) .nil) () ?_ (fun w h => h.fin mem0) (.inl rfl)
                          first | exact congrArg Value.bool (right6_all (by omega) (by omega) (by omega) (by omega) (by omega) hok) | exact congrArg Value.bool (right6_nok hkl (.inr (ok_bare_no htf hbn))) | exact congrArg Value.bool (right6_nok hkl (.inr (seen_twin hkl htt mq hse))) | exact congrArg Value.bool (right6_nok hkl (.inr (ok_fine_no htt (decide_eq_false (by simp at rq; omega))))) | exact congrArg Value.bool (right6_nok hkl (.inl (okC3_no (by omega)))) | exact congrArg Value.bool (right6_top (by omega))
                        · first | (with_reducible replace mq := of_decide_eq_false mq) | skip
                          have mm : cs[k].val.serial ∉ ks := mq
                          refine j_skip ?_
                          refine je_block ?_
                          refine je_next ?_
                          refine j_region ?_
                          refine jv (v_add rfl rfl (by omega) (by omega)) (.no rfl) rfl ?_
                          refine jv (v_move rfl) (.no rfl) rfl ?_
                          refine jo_nil ?_
                          refine je_again ?_
                          refine jr_succ ?_
                          refine j_seq ?_
                          refine j_region ?_
                          refine jv (v_lss rfl rfl) (.no rfl) rfl ?_
                          refine jo_nil ?_
                          refine je_next ?_
                          refine j_seq ?_
                          refine j_ift rfl ?_
                          refine j_skip ?_
                          refine je_next ?_
                          refine j_seq ?_
                          refine j_block ?_
                          refine j_seq ?_
                          refine j_region ?_
                          refine jv (v_index rfl rfl FindR.row Try.runUnderlying90 Try.sizeOf93 (by omega) (by simp [rulesV])) (.no rfl) rfl ?_
                          refine jq (OpL.q (l_eload rfl FindR.row (show (rulesV b64.1)[_]? = some _ from rfl) (by decide) Try.isAgg93 Try.sizeOf93 (fun _ _ _ h => val_all h))) (.no rfl) rfl ?_
                          intro v69
                          refine jx (x_alloc Try.zeroValue93 Cells.agg) (.no rfl) rfl ?_
                          intro B7
                          refine jx (x_storec (cs' := [_]) rfl rfl rfl Try.sizeOf93 rfl rfl) (.no rfl) rfl ?_
                          intro _
                          refine jo_nil ?_
                          refine je_next ?_
                          refine j_seq ?_
                          refine j_region ?_
                          refine jv (v_field (k' := 0) rfl Try.runUnderlying93 rfl Try.sizeOf89 (by decide) rfl) (.no rfl) rfl ?_
                          refine jv (v_loadc rfl Try.isAgg89 rfl) (.no rfl) rfl ?_
                          refine jv (v_field (k' := 2) rfl Try.runUnderlying81 rfl Try.sizeOf29 (by decide) rfl) (.no rfl) rfl ?_
                          refine jv (v_loadAc (vs := [_, _, _, _, _, _]) rfl Try.isAgg29 Try.sizeOf29 rfl rfl) (.no rfl) rfl ?_
                          refine jq (q_callcP (caps := []) (f95_spec (o := cs[k].val)) Try.call95 (by rfl) rfl rfl rfl (memc FindS.mem mem0)) (.no rfl) rfl ?_
                          intro _
                          refine jv (v_not rfl) (.no rfl) rfl ?_
                          refine jv (v_move rfl) (.no rfl) rfl ?_
                          refine j_split 76 rfl (fun rq => ?_) (fun rq => ?_)
                          · first | (with_reducible replace rq := of_decide_eq_true rq) | skip
                            refine j_off rfl rfl rfl (by decide) rfl ?_
                            refine j_off rfl rfl rfl (by decide) rfl ?_
                            refine j_off rfl rfl rfl (by decide) rfl ?_
                            refine j_off rfl rfl rfl (by decide) rfl ?_
                            refine j_off rfl rfl rfl (by decide) rfl ?_
                            refine jv (v_pickt rfl rfl) (.no rfl) rfl ?_
                            refine jo_nil ?_
                            refine je_next ?_
                            refine j_ift rfl ?_
                            refine j_seq ?_
                            refine j_region ?_
                            refine jv (v_assign rfl) (.no rfl) rfl ?_
                            refine jo_nil ?_
                            refine je_next ?_
                            refine j_ret ?_
                            refine je_blockr ?_
                            refine je_then (by simp) ?_
                            refine je_then (by simp) ?_
                            refine je_blockr ?_
                            refine je_then (by simp) ?_
                            refine je_blockr ?_
                            refine je_blockr ?_
                            refine je_then (by simp) ?_
                            refine je_then (by simp) ?_
                            refine je_blockr ?_
                            refine je_then (by simp) ?_
                            refine je_ret rfl rfl rfl rfl rfl (rvs := [.tmp 2]) rfl (.cons (.tmp rfl) .nil) () ?_ (fun w h => h.fin mem0) (.inl rfl)
                            first | exact congrArg Value.bool (right6_all (by omega) (by omega) (by omega) (by omega) (by omega) hok) | exact congrArg Value.bool (right6_nok hkl (.inr (ok_bare_no htf hbn))) | exact congrArg Value.bool (right6_nok hkl (.inr (seen_twin hkl htt mq hse))) | exact congrArg Value.bool (right6_nok hkl (.inr (ok_fine_no htt (decide_eq_false (by simp at rq; omega))))) | exact congrArg Value.bool (right6_nok hkl (.inl (okC3_no (by omega)))) | exact congrArg Value.bool (right6_top (by omega))
                          · first | (with_reducible replace rq := of_decide_eq_false rq) | skip
                            have r1 := of_decide_eq_true (by simpa using rq)
                            refine jv (v_move rfl) (.yes rfl rfl rfl) rfl ?_
                            refine jv (v_field (k' := 2) rfl Try.runUnderlying81 rfl Try.sizeOf29 (by decide) rfl) (.yes rfl rfl rfl) rfl ?_
                            refine jv (v_field (k' := 2) rfl Try.runUnderlying29 rfl Try.sizeOf3 (by decide) rfl) (.yes rfl rfl rfl) rfl ?_
                            refine jv (v_loadc rfl Try.isAgg3 rfl) (.yes rfl rfl rfl) rfl ?_
                            refine jv (v_has (ks := ks) rfl rfl (by simp) Try.runUnderlying88 Try.runUnderlying3 Try.zeroValue4) (.yes rfl rfl rfl) rfl ?_
                            refine jv (v_pickf rfl rfl) (.no rfl) rfl ?_
                            refine jo_nil ?_
                            refine je_next ?_
                            refine j_ifs rfl (fun mq => ?_) (fun mq => ?_)
                            · first | (with_reducible replace mq := of_decide_eq_true mq) | skip
                              refine j_seq ?_
                              refine j_region ?_
                              refine jv (v_assign rfl) (.no rfl) rfl ?_
                              refine jo_nil ?_
                              refine je_next ?_
                              refine j_ret ?_
                              refine je_blockr ?_
                              refine je_then (by simp) ?_
                              refine je_then (by simp) ?_
                              refine je_blockr ?_
                              refine je_then (by simp) ?_
                              refine je_blockr ?_
                              refine je_blockr ?_
                              refine je_then (by simp) ?_
                              refine je_then (by simp) ?_
                              refine je_blockr ?_
                              refine je_then (by simp) ?_
                              refine je_ret rfl rfl rfl rfl rfl (rvs := [.tmp 2]) rfl (.cons (.tmp rfl) .nil) () ?_ (fun w h => h.fin mem0) (.inl rfl)
                              first | exact congrArg Value.bool (right6_all (by omega) (by omega) (by omega) (by omega) (by omega) hok) | exact congrArg Value.bool (right6_nok hkl (.inr (ok_bare_no htf hbn))) | exact congrArg Value.bool (right6_nok hkl (.inr (seen_twin hkl htt mq hse))) | exact congrArg Value.bool (right6_nok hkl (.inr (ok_fine_no htt (decide_eq_false (by simp at rq; omega))))) | exact congrArg Value.bool (right6_nok hkl (.inl (okC3_no (by omega)))) | exact congrArg Value.bool (right6_top (by omega))
                            · first | (with_reducible replace mq := of_decide_eq_false mq) | skip
                              have mm : cs[k].val.serial ∉ ks := mq
                              refine j_skip ?_
                              refine je_block ?_
                              refine je_next ?_
                              refine j_region ?_
                              refine jv (v_add rfl rfl (by omega) (by omega)) (.no rfl) rfl ?_
                              refine jv (v_move rfl) (.no rfl) rfl ?_
                              refine jo_nil ?_
                              refine je_again ?_
                              refine jr_succ ?_
                              refine j_seq ?_
                              refine j_region ?_
                              refine jv (v_lss rfl rfl) (.no rfl) rfl ?_
                              refine jo_nil ?_
                              refine je_next ?_
                              refine j_seq ?_
                              refine j_ift rfl ?_
                              refine j_skip ?_
                              refine je_next ?_
                              refine j_seq ?_
                              refine j_block ?_
                              refine j_seq ?_
                              refine j_region ?_
                              refine jv (v_index rfl rfl FindR.row Try.runUnderlying90 Try.sizeOf93 (by omega) (by simp [rulesV])) (.no rfl) rfl ?_
                              refine jq (OpL.q (l_eload rfl FindR.row (show (rulesV b64.1)[_]? = some _ from rfl) (by decide) Try.isAgg93 Try.sizeOf93 (fun _ _ _ h => val_all h))) (.no rfl) rfl ?_
                              intro v69
                              refine jx (x_alloc Try.zeroValue93 Cells.agg) (.no rfl) rfl ?_
                              intro B7
                              refine jx (x_storec (cs' := [_]) rfl rfl rfl Try.sizeOf93 rfl rfl) (.no rfl) rfl ?_
                              intro _
                              refine jo_nil ?_
                              refine je_next ?_
                              refine j_seq ?_
                              refine j_region ?_
                              refine jv (v_field (k' := 0) rfl Try.runUnderlying93 rfl Try.sizeOf89 (by decide) rfl) (.no rfl) rfl ?_
                              refine jv (v_loadc rfl Try.isAgg89 rfl) (.no rfl) rfl ?_
                              refine jv (v_field (k' := 2) rfl Try.runUnderlying81 rfl Try.sizeOf29 (by decide) rfl) (.no rfl) rfl ?_
                              refine jv (v_loadAc (vs := [_, _, _, _, _, _]) rfl Try.isAgg29 Try.sizeOf29 rfl rfl) (.no rfl) rfl ?_
                              refine jq (q_callcP (caps := []) (f96_spec (o := cs[k].val)) Try.call96 (by rfl) rfl rfl rfl (memc FindS.mem mem0)) (.no rfl) rfl ?_
                              intro _
                              refine jv (v_not rfl) (.no rfl) rfl ?_
                              refine jv (v_move rfl) (.no rfl) rfl ?_
                              refine j_split 76 rfl (fun rq => ?_) (fun rq => ?_)
                              · first | (with_reducible replace rq := of_decide_eq_true rq) | skip
                                refine j_off rfl rfl rfl (by decide) rfl ?_
                                refine j_off rfl rfl rfl (by decide) rfl ?_
                                refine j_off rfl rfl rfl (by decide) rfl ?_
                                refine j_off rfl rfl rfl (by decide) rfl ?_
                                refine j_off rfl rfl rfl (by decide) rfl ?_
                                refine jv (v_pickt rfl rfl) (.no rfl) rfl ?_
                                refine jo_nil ?_
                                refine je_next ?_
                                refine j_ift rfl ?_
                                refine j_seq ?_
                                refine j_region ?_
                                refine jv (v_assign rfl) (.no rfl) rfl ?_
                                refine jo_nil ?_
                                refine je_next ?_
                                refine j_ret ?_
                                refine je_blockr ?_
                                refine je_then (by simp) ?_
                                refine je_then (by simp) ?_
                                refine je_blockr ?_
                                refine je_then (by simp) ?_
                                refine je_blockr ?_
                                refine je_blockr ?_
                                refine je_then (by simp) ?_
                                refine je_then (by simp) ?_
                                refine je_blockr ?_
                                refine je_then (by simp) ?_
                                refine je_ret rfl rfl rfl rfl rfl (rvs := [.tmp 2]) rfl (.cons (.tmp rfl) .nil) () ?_ (fun w h => h.fin mem0) (.inl rfl)
                                first | exact congrArg Value.bool (right6_all (by omega) (by omega) (by omega) (by omega) (by omega) hok) | exact congrArg Value.bool (right6_nok hkl (.inr (ok_bare_no htf hbn))) | exact congrArg Value.bool (right6_nok hkl (.inr (seen_twin hkl htt mq hse))) | exact congrArg Value.bool (right6_nok hkl (.inr (ok_fine_no htt (decide_eq_false (by simp at rq; omega))))) | exact congrArg Value.bool (right6_nok hkl (.inl (okC3_no (by omega)))) | exact congrArg Value.bool (right6_top (by omega))
                              · first | (with_reducible replace rq := of_decide_eq_false rq) | skip
                                have r2 := of_decide_eq_true (by simpa using rq)
                                refine jv (v_move rfl) (.yes rfl rfl rfl) rfl ?_
                                refine jv (v_field (k' := 2) rfl Try.runUnderlying81 rfl Try.sizeOf29 (by decide) rfl) (.yes rfl rfl rfl) rfl ?_
                                refine jv (v_field (k' := 2) rfl Try.runUnderlying29 rfl Try.sizeOf3 (by decide) rfl) (.yes rfl rfl rfl) rfl ?_
                                refine jv (v_loadc rfl Try.isAgg3 rfl) (.yes rfl rfl rfl) rfl ?_
                                refine jv (v_has (ks := ks) rfl rfl (by simp) Try.runUnderlying88 Try.runUnderlying3 Try.zeroValue4) (.yes rfl rfl rfl) rfl ?_
                                refine jv (v_pickf rfl rfl) (.no rfl) rfl ?_
                                refine jo_nil ?_
                                refine je_next ?_
                                refine j_ifs rfl (fun mq => ?_) (fun mq => ?_)
                                · first | (with_reducible replace mq := of_decide_eq_true mq) | skip
                                  refine j_seq ?_
                                  refine j_region ?_
                                  refine jv (v_assign rfl) (.no rfl) rfl ?_
                                  refine jo_nil ?_
                                  refine je_next ?_
                                  refine j_ret ?_
                                  refine je_blockr ?_
                                  refine je_then (by simp) ?_
                                  refine je_then (by simp) ?_
                                  refine je_blockr ?_
                                  refine je_then (by simp) ?_
                                  refine je_blockr ?_
                                  refine je_blockr ?_
                                  refine je_then (by simp) ?_
                                  refine je_then (by simp) ?_
                                  refine je_blockr ?_
                                  refine je_then (by simp) ?_
                                  refine je_ret rfl rfl rfl rfl rfl (rvs := [.tmp 2]) rfl (.cons (.tmp rfl) .nil) () ?_ (fun w h => h.fin mem0) (.inl rfl)
                                  first | exact congrArg Value.bool (right6_all (by omega) (by omega) (by omega) (by omega) (by omega) hok) | exact congrArg Value.bool (right6_nok hkl (.inr (ok_bare_no htf hbn))) | exact congrArg Value.bool (right6_nok hkl (.inr (seen_twin hkl htt mq hse))) | exact congrArg Value.bool (right6_nok hkl (.inr (ok_fine_no htt (decide_eq_false (by simp at rq; omega))))) | exact congrArg Value.bool (right6_nok hkl (.inl (okC3_no (by omega)))) | exact congrArg Value.bool (right6_top (by omega))
                                · first | (with_reducible replace mq := of_decide_eq_false mq) | skip
                                  have mm : cs[k].val.serial ∉ ks := mq
                                  refine j_skip ?_
                                  refine je_block ?_
                                  refine je_next ?_
                                  refine j_region ?_
                                  refine jv (v_add rfl rfl (by omega) (by omega)) (.no rfl) rfl ?_
                                  refine jv (v_move rfl) (.no rfl) rfl ?_
                                  refine jo_nil ?_
                                  refine je_again ?_
                                  refine jr_succ ?_
                                  refine j_seq ?_
                                  refine j_region ?_
                                  refine jv (v_lss rfl rfl) (.no rfl) rfl ?_
                                  refine jo_nil ?_
                                  refine je_next ?_
                                  refine j_seq ?_
                                  refine j_ift rfl ?_
                                  refine j_skip ?_
                                  refine je_next ?_
                                  refine j_seq ?_
                                  refine j_block ?_
                                  refine j_seq ?_
                                  refine j_region ?_
                                  refine jv (v_index rfl rfl FindR.row Try.runUnderlying90 Try.sizeOf93 (by omega) (by simp [rulesV])) (.no rfl) rfl ?_
                                  refine jq (OpL.q (l_eload rfl FindR.row (show (rulesV b64.1)[_]? = some _ from rfl) (by decide) Try.isAgg93 Try.sizeOf93 (fun _ _ _ h => val_all h))) (.no rfl) rfl ?_
                                  intro v69
                                  refine jx (x_alloc Try.zeroValue93 Cells.agg) (.no rfl) rfl ?_
                                  intro B7
                                  refine jx (x_storec (cs' := [_]) rfl rfl rfl Try.sizeOf93 rfl rfl) (.no rfl) rfl ?_
                                  intro _
                                  refine jo_nil ?_
                                  refine je_next ?_
                                  refine j_seq ?_
                                  refine j_region ?_
                                  refine jv (v_field (k' := 0) rfl Try.runUnderlying93 rfl Try.sizeOf89 (by decide) rfl) (.no rfl) rfl ?_
                                  refine jv (v_loadc rfl Try.isAgg89 rfl) (.no rfl) rfl ?_
                                  refine jv (v_field (k' := 2) rfl Try.runUnderlying81 rfl Try.sizeOf29 (by decide) rfl) (.no rfl) rfl ?_
                                  refine jv (v_loadAc (vs := [_, _, _, _, _, _]) rfl Try.isAgg29 Try.sizeOf29 rfl rfl) (.no rfl) rfl ?_
                                  refine jq (q_callcP (caps := []) (f97_spec (o := cs[k].val)) Try.call97 (by rfl) rfl rfl rfl (memc FindS.mem mem0)) (.no rfl) rfl ?_
                                  intro _
                                  refine jv (v_not rfl) (.no rfl) rfl ?_
                                  refine jv (v_move rfl) (.no rfl) rfl ?_
                                  refine j_split 76 rfl (fun rq => ?_) (fun rq => ?_)
                                  · first | (with_reducible replace rq := of_decide_eq_true rq) | skip
                                    refine j_off rfl rfl rfl (by decide) rfl ?_
                                    refine j_off rfl rfl rfl (by decide) rfl ?_
                                    refine j_off rfl rfl rfl (by decide) rfl ?_
                                    refine j_off rfl rfl rfl (by decide) rfl ?_
                                    refine j_off rfl rfl rfl (by decide) rfl ?_
                                    refine jv (v_pickt rfl rfl) (.no rfl) rfl ?_
                                    refine jo_nil ?_
                                    refine je_next ?_
                                    refine j_ift rfl ?_
                                    refine j_seq ?_
                                    refine j_region ?_
                                    refine jv (v_assign rfl) (.no rfl) rfl ?_
                                    refine jo_nil ?_
                                    refine je_next ?_
                                    refine j_ret ?_
                                    refine je_blockr ?_
                                    refine je_then (by simp) ?_
                                    refine je_then (by simp) ?_
                                    refine je_blockr ?_
                                    refine je_then (by simp) ?_
                                    refine je_blockr ?_
                                    refine je_blockr ?_
                                    refine je_then (by simp) ?_
                                    refine je_then (by simp) ?_
                                    refine je_blockr ?_
                                    refine je_then (by simp) ?_
                                    refine je_ret rfl rfl rfl rfl rfl (rvs := [.tmp 2]) rfl (.cons (.tmp rfl) .nil) () ?_ (fun w h => h.fin mem0) (.inl rfl)
                                    first | exact congrArg Value.bool (right6_all (by omega) (by omega) (by omega) (by omega) (by omega) hok) | exact congrArg Value.bool (right6_nok hkl (.inr (ok_bare_no htf hbn))) | exact congrArg Value.bool (right6_nok hkl (.inr (seen_twin hkl htt mq hse))) | exact congrArg Value.bool (right6_nok hkl (.inr (ok_fine_no htt (decide_eq_false (by simp at rq; omega))))) | exact congrArg Value.bool (right6_nok hkl (.inl (okC3_no (by omega)))) | exact congrArg Value.bool (right6_top (by omega))
                                  · first | (with_reducible replace rq := of_decide_eq_false rq) | skip
                                    have r3 := of_decide_eq_true (by simpa using rq)
                                    refine jv (v_move rfl) (.yes rfl rfl rfl) rfl ?_
                                    refine jv (v_field (k' := 2) rfl Try.runUnderlying81 rfl Try.sizeOf29 (by decide) rfl) (.yes rfl rfl rfl) rfl ?_
                                    refine jv (v_field (k' := 2) rfl Try.runUnderlying29 rfl Try.sizeOf3 (by decide) rfl) (.yes rfl rfl rfl) rfl ?_
                                    refine jv (v_loadc rfl Try.isAgg3 rfl) (.yes rfl rfl rfl) rfl ?_
                                    refine jv (v_has (ks := ks) rfl rfl (by simp) Try.runUnderlying88 Try.runUnderlying3 Try.zeroValue4) (.yes rfl rfl rfl) rfl ?_
                                    refine jv (v_pickf rfl rfl) (.no rfl) rfl ?_
                                    refine jo_nil ?_
                                    refine je_next ?_
                                    refine j_ifs rfl (fun mq => ?_) (fun mq => ?_)
                                    · first | (with_reducible replace mq := of_decide_eq_true mq) | skip
                                      refine j_seq ?_
                                      refine j_region ?_
                                      refine jv (v_assign rfl) (.no rfl) rfl ?_
                                      refine jo_nil ?_
                                      refine je_next ?_
                                      refine j_ret ?_
                                      refine je_blockr ?_
                                      refine je_then (by simp) ?_
                                      refine je_then (by simp) ?_
                                      refine je_blockr ?_
                                      refine je_then (by simp) ?_
                                      refine je_blockr ?_
                                      refine je_blockr ?_
                                      refine je_then (by simp) ?_
                                      refine je_then (by simp) ?_
                                      refine je_blockr ?_
                                      refine je_then (by simp) ?_
                                      refine je_ret rfl rfl rfl rfl rfl (rvs := [.tmp 2]) rfl (.cons (.tmp rfl) .nil) () ?_ (fun w h => h.fin mem0) (.inl rfl)
                                      first | exact congrArg Value.bool (right6_all (by omega) (by omega) (by omega) (by omega) (by omega) hok) | exact congrArg Value.bool (right6_nok hkl (.inr (ok_bare_no htf hbn))) | exact congrArg Value.bool (right6_nok hkl (.inr (seen_twin hkl htt mq hse))) | exact congrArg Value.bool (right6_nok hkl (.inr (ok_fine_no htt (decide_eq_false (by simp at rq; omega))))) | exact congrArg Value.bool (right6_nok hkl (.inl (okC3_no (by omega)))) | exact congrArg Value.bool (right6_top (by omega))
                                    · first | (with_reducible replace mq := of_decide_eq_false mq) | skip
                                      have mm : cs[k].val.serial ∉ ks := mq
                                      refine j_skip ?_
                                      refine je_block ?_
                                      refine je_next ?_
                                      refine j_region ?_
                                      refine jv (v_add rfl rfl (by omega) (by omega)) (.no rfl) rfl ?_
                                      refine jv (v_move rfl) (.no rfl) rfl ?_
                                      refine jo_nil ?_
                                      refine je_again ?_
                                      refine jr_succ ?_
                                      refine j_seq ?_
                                      refine j_region ?_
                                      refine jv (v_lss rfl rfl) (.no rfl) rfl ?_
                                      refine jo_nil ?_
                                      refine je_next ?_
                                      refine j_seq ?_
                                      refine j_iff rfl ?_
                                      refine j_exit ?_
                                      refine je_then (by simp) ?_
                                      refine je_then (by simp) ?_
                                      refine je_hit ?_
                                      refine je_next ?_
                                      have hf : fine serial cs[k].val = true := decide_eq_true (by omega)
                                      refine j_region ?_
                                      refine jv (v_move rfl) (.no rfl) rfl ?_
                                      refine jv (v_field (k' := 2) rfl Try.runUnderlying81 rfl Try.sizeOf29 (by decide) rfl) (.no rfl) rfl ?_
                                      refine jv (v_field (k' := 2) rfl Try.runUnderlying29 rfl Try.sizeOf3 (by decide) rfl) (.no rfl) rfl ?_
                                      refine jv (v_loadc rfl Try.isAgg3 rfl) (.no rfl) rfl ?_
                                      refine jx (x_add rfl rfl (.tail (.tail (.tail (.tail (.tail .head))))) Try.runUnderlying88 Try.runUnderlying3) (.no rfl) rfl ?_
                                      intro _
                                      refine jo_nil ?_
                                      refine je_block ?_
                                      refine je_block ?_
                                      refine je_next ?_
                                      refine j_region ?_
                                      refine jv (v_add rfl rfl (by omega) (by omega)) (.no rfl) rfl ?_
                                      refine jv (v_move rfl) (.no rfl) rfl ?_
                                      refine jo_nil ?_
                                      refine je_round (k + 1, _) (by first | exact ⟨by simp only; omega, seen_add hkl htt hse, step_okS hkl hok ⟨okC3_of (by omega), seen_fine hkl htt hf mm hse⟩⟩ | exact ⟨by simp only; omega, seen_bare hkl htf hse, step_okS hkl hok ⟨okC3_of (by omega), ok_bare htf hbl⟩⟩) (by first | omega | (dsimp only; omega)) (lsub rfl (lsub rfl (lsub rfl (lsub rfl (lsub rfl lsub0))))) (fun _ h => ((((((h).del .head).del .head).del .head).del .head).del .head).sub fun p hp => (List.mem_append_right _ (List.mem_append_right _ (List.mem_append_right _ (List.mem_append_right _ (List.mem_append_right _ (List.mem_append_right _ (List.mem_append_right _ (List.mem_append_right _ (List.mem_append_right _ (List.mem_append_right _ hp)))))))))))
                    · first | (with_reducible replace e1 := of_decide_eq_false e1) | skip
                      refine j_region ?_
                      refine jv (v_eql rfl rfl) (.no rfl) rfl ?_
                      refine jv (v_assign rfl) (.no rfl) rfl ?_
                      refine jo_nil ?_
                      refine je_next ?_
                      refine j_ifs rfl (fun e1 => ?_) (fun e1 => ?_)
                      · first | (with_reducible replace e1 := of_decide_eq_true e1) | skip
                        refine j_seq ?_
                        refine j_seq ?_
                        have htt : there cs[k] = true := there_yes (by omega)
                        refine j_region ?_
                        refine jv (v_field (k' := 2) rfl Try.runUnderlying26 rfl Try.sizeOf3 (by decide) rfl) (.no rfl) rfl ?_
                        refine jv (v_loadc rfl Try.isAgg3 rfl) (.no rfl) rfl ?_
                        refine jq (q_callP (f63_spec) Try.call63 (by rfl) rfl mem0) (.no rfl) rfl ?_
                        intro b64
                        refine jv (v_len rfl FindR.row Try.runUnderlying90) (.no rfl) rfl ?_
                        refine jv (v_move rfl) (.no rfl) rfl ?_
                        refine jo_nil ?_
                        refine je_next ?_
                        refine j_block ?_
                        refine j_loopN 5 ?_
                        refine jr_succ ?_
                        refine j_seq ?_
                        refine j_region ?_
                        refine jv (v_lss rfl rfl) (.no rfl) rfl ?_
                        refine jo_nil ?_
                        refine je_next ?_
                        refine j_seq ?_
                        refine j_ift rfl ?_
                        refine j_skip ?_
                        refine je_next ?_
                        refine j_seq ?_
                        refine j_block ?_
                        refine j_seq ?_
                        refine j_region ?_
                        refine jv (v_index rfl rfl FindR.row Try.runUnderlying90 Try.sizeOf93 (by omega) (by simp [rulesV])) (.no rfl) rfl ?_
                        refine jq (OpL.q (l_eload rfl FindR.row (show (rulesV b64.1)[_]? = some _ from rfl) (by decide) Try.isAgg93 Try.sizeOf93 (fun _ _ _ h => val_all h))) (.no rfl) rfl ?_
                        intro v69
                        refine jx (x_alloc Try.zeroValue93 Cells.agg) (.no rfl) rfl ?_
                        intro B7
                        refine jx (x_storec (cs' := [_]) rfl rfl rfl Try.sizeOf93 rfl rfl) (.no rfl) rfl ?_
                        intro _
                        refine jo_nil ?_
                        refine je_next ?_
                        refine j_seq ?_
                        refine j_region ?_
                        refine jv (v_field (k' := 0) rfl Try.runUnderlying93 rfl Try.sizeOf89 (by decide) rfl) (.no rfl) rfl ?_
                        refine jv (v_loadc rfl Try.isAgg89 rfl) (.no rfl) rfl ?_
                        refine jv (v_field (k' := 2) rfl Try.runUnderlying81 rfl Try.sizeOf29 (by decide) rfl) (.no rfl) rfl ?_
                        refine jv (v_loadAc (vs := [_, _, _, _, _, _]) rfl Try.isAgg29 Try.sizeOf29 rfl rfl) (.no rfl) rfl ?_
                        refine jq (q_callcP (caps := [ptr b64.1 0]) (f94_spec (o := cs[k].val) (top := serial) (B := b64.1)) Try.call94 (by rfl) rfl rfl rfl (memc FindS.mem (memc FindM.mem mem0))) (.no rfl) rfl ?_
                        intro _
                        refine jv (v_not rfl) (.no rfl) rfl ?_
                        refine jv (v_move rfl) (.no rfl) rfl ?_
                        refine j_split 76 rfl (fun rq => ?_) (fun rq => ?_)
                        · first | (with_reducible replace rq := of_decide_eq_true rq) | skip
                          refine j_off rfl rfl rfl (by decide) rfl ?_
                          refine j_off rfl rfl rfl (by decide) rfl ?_
                          refine j_off rfl rfl rfl (by decide) rfl ?_
                          refine j_off rfl rfl rfl (by decide) rfl ?_
                          refine j_off rfl rfl rfl (by decide) rfl ?_
                          refine jv (v_pickt rfl rfl) (.no rfl) rfl ?_
                          refine jo_nil ?_
                          refine je_next ?_
                          refine j_ift rfl ?_
                          refine j_seq ?_
                          refine j_region ?_
                          refine jv (v_assign rfl) (.no rfl) rfl ?_
                          refine jo_nil ?_
                          refine je_next ?_
                          refine j_ret ?_
                          refine je_blockr ?_
                          refine je_then (by simp) ?_
                          refine je_then (by simp) ?_
                          refine je_blockr ?_
                          refine je_then (by simp) ?_
                          refine je_blockr ?_
                          refine je_blockr ?_
                          refine je_then (by simp) ?_
                          refine je_then (by simp) ?_
                          refine je_blockr ?_
                          refine je_then (by simp) ?_
                          refine je_ret rfl rfl rfl rfl rfl (rvs := [.tmp 2]) rfl (.cons (.tmp rfl) .nil) () ?_ (fun w h => h.fin mem0) (.inl rfl)
                          first | exact congrArg Value.bool (right6_all (by omega) (by omega) (by omega) (by omega) (by omega) hok) | exact congrArg Value.bool (right6_nok hkl (.inr (ok_bare_no htf hbn))) | exact congrArg Value.bool (right6_nok hkl (.inr (seen_twin hkl htt mq hse))) | exact congrArg Value.bool (right6_nok hkl (.inr (ok_fine_no htt (decide_eq_false (by simp at rq; omega))))) | exact congrArg Value.bool (right6_nok hkl (.inl (okC3_no (by omega)))) | exact congrArg Value.bool (right6_top (by omega))
                        · first | (with_reducible replace rq := of_decide_eq_false rq) | skip
                          have r0 := of_decide_eq_true (by simpa using rq)
                          refine jv (v_move rfl) (.yes rfl rfl rfl) rfl ?_
                          refine jv (v_field (k' := 2) rfl Try.runUnderlying81 rfl Try.sizeOf29 (by decide) rfl) (.yes rfl rfl rfl) rfl ?_
                          refine jv (v_field (k' := 2) rfl Try.runUnderlying29 rfl Try.sizeOf3 (by decide) rfl) (.yes rfl rfl rfl) rfl ?_
                          refine jv (v_loadc rfl Try.isAgg3 rfl) (.yes rfl rfl rfl) rfl ?_
                          refine jv (v_has (ks := ks) rfl rfl (by simp) Try.runUnderlying88 Try.runUnderlying3 Try.zeroValue4) (.yes rfl rfl rfl) rfl ?_
                          refine jv (v_pickf rfl rfl) (.no rfl) rfl ?_
                          refine jo_nil ?_
                          refine je_next ?_
                          refine j_ifs rfl (fun mq => ?_) (fun mq => ?_)
                          · first | (with_reducible replace mq := of_decide_eq_true mq) | skip
                            refine j_seq ?_
                            refine j_region ?_
                            refine jv (v_assign rfl) (.no rfl) rfl ?_
                            refine jo_nil ?_
                            refine je_next ?_
                            refine j_ret ?_
                            refine je_blockr ?_
                            refine je_then (by simp) ?_
                            refine je_then (by simp) ?_
                            refine je_blockr ?_
                            refine je_then (by simp) ?_
                            refine je_blockr ?_
                            refine je_blockr ?_
                            refine je_then (by simp) ?_
                            refine je_then (by simp) ?_
                            refine je_blockr ?_
                            refine je_then (by simp) ?_
                            refine je_ret rfl rfl rfl rfl rfl (rvs := [.tmp 2]) rfl (.cons (.tmp rfl) .nil) () ?_ (fun w h => h.fin mem0) (.inl rfl)
                            first | exact congrArg Value.bool (right6_all (by omega) (by omega) (by omega) (by omega) (by omega) hok) | exact congrArg Value.bool (right6_nok hkl (.inr (ok_bare_no htf hbn))) | exact congrArg Value.bool (right6_nok hkl (.inr (seen_twin hkl htt mq hse))) | exact congrArg Value.bool (right6_nok hkl (.inr (ok_fine_no htt (decide_eq_false (by simp at rq; omega))))) | exact congrArg Value.bool (right6_nok hkl (.inl (okC3_no (by omega)))) | exact congrArg Value.bool (right6_top (by omega))
                          · first | (with_reducible replace mq := of_decide_eq_false mq) | skip
                            have mm : cs[k].val.serial ∉ ks := mq
                            refine j_skip ?_
                            refine je_block ?_
                            refine je_next ?_
                            refine j_region ?_
                            refine jv (v_add rfl rfl (by omega) (by omega)) (.no rfl) rfl ?_
                            refine jv (v_move rfl) (.no rfl) rfl ?_
                            refine jo_nil ?_
                            refine je_again ?_
                            refine jr_succ ?_
                            refine j_seq ?_
                            refine j_region ?_
                            refine jv (v_lss rfl rfl) (.no rfl) rfl ?_
                            refine jo_nil ?_
                            refine je_next ?_
                            refine j_seq ?_
                            refine j_ift rfl ?_
                            refine j_skip ?_
                            refine je_next ?_
                            refine j_seq ?_
                            refine j_block ?_
                            refine j_seq ?_
                            refine j_region ?_
                            refine jv (v_index rfl rfl FindR.row Try.runUnderlying90 Try.sizeOf93 (by omega) (by simp [rulesV])) (.no rfl) rfl ?_
                            refine jq (OpL.q (l_eload rfl FindR.row (show (rulesV b64.1)[_]? = some _ from rfl) (by decide) Try.isAgg93 Try.sizeOf93 (fun _ _ _ h => val_all h))) (.no rfl) rfl ?_
                            intro v69
                            refine jx (x_alloc Try.zeroValue93 Cells.agg) (.no rfl) rfl ?_
                            intro B7
                            refine jx (x_storec (cs' := [_]) rfl rfl rfl Try.sizeOf93 rfl rfl) (.no rfl) rfl ?_
                            intro _
                            refine jo_nil ?_
                            refine je_next ?_
                            refine j_seq ?_
                            refine j_region ?_
                            refine jv (v_field (k' := 0) rfl Try.runUnderlying93 rfl Try.sizeOf89 (by decide) rfl) (.no rfl) rfl ?_
                            refine jv (v_loadc rfl Try.isAgg89 rfl) (.no rfl) rfl ?_
                            refine jv (v_field (k' := 2) rfl Try.runUnderlying81 rfl Try.sizeOf29 (by decide) rfl) (.no rfl) rfl ?_
                            refine jv (v_loadAc (vs := [_, _, _, _, _, _]) rfl Try.isAgg29 Try.sizeOf29 rfl rfl) (.no rfl) rfl ?_
                            refine jq (q_callcP (caps := []) (f95_spec (o := cs[k].val)) Try.call95 (by rfl) rfl rfl rfl (memc FindS.mem mem0)) (.no rfl) rfl ?_
                            intro _
                            refine jv (v_not rfl) (.no rfl) rfl ?_
                            refine jv (v_move rfl) (.no rfl) rfl ?_
                            refine j_split 76 rfl (fun rq => ?_) (fun rq => ?_)
                            · first | (with_reducible replace rq := of_decide_eq_true rq) | skip
                              refine j_off rfl rfl rfl (by decide) rfl ?_
                              refine j_off rfl rfl rfl (by decide) rfl ?_
                              refine j_off rfl rfl rfl (by decide) rfl ?_
                              refine j_off rfl rfl rfl (by decide) rfl ?_
                              refine j_off rfl rfl rfl (by decide) rfl ?_
                              refine jv (v_pickt rfl rfl) (.no rfl) rfl ?_
                              refine jo_nil ?_
                              refine je_next ?_
                              refine j_ift rfl ?_
                              refine j_seq ?_
                              refine j_region ?_
                              refine jv (v_assign rfl) (.no rfl) rfl ?_
                              refine jo_nil ?_
                              refine je_next ?_
                              refine j_ret ?_
                              refine je_blockr ?_
                              refine je_then (by simp) ?_
                              refine je_then (by simp) ?_
                              refine je_blockr ?_
                              refine je_then (by simp) ?_
                              refine je_blockr ?_
                              refine je_blockr ?_
                              refine je_then (by simp) ?_
                              refine je_then (by simp) ?_
                              refine je_blockr ?_
                              refine je_then (by simp) ?_
                              refine je_ret rfl rfl rfl rfl rfl (rvs := [.tmp 2]) rfl (.cons (.tmp rfl) .nil) () ?_ (fun w h => h.fin mem0) (.inl rfl)
                              first | exact congrArg Value.bool (right6_all (by omega) (by omega) (by omega) (by omega) (by omega) hok) | exact congrArg Value.bool (right6_nok hkl (.inr (ok_bare_no htf hbn))) | exact congrArg Value.bool (right6_nok hkl (.inr (seen_twin hkl htt mq hse))) | exact congrArg Value.bool (right6_nok hkl (.inr (ok_fine_no htt (decide_eq_false (by simp at rq; omega))))) | exact congrArg Value.bool (right6_nok hkl (.inl (okC3_no (by omega)))) | exact congrArg Value.bool (right6_top (by omega))
                            · first | (with_reducible replace rq := of_decide_eq_false rq) | skip
                              have r1 := of_decide_eq_true (by simpa using rq)
                              refine jv (v_move rfl) (.yes rfl rfl rfl) rfl ?_
                              refine jv (v_field (k' := 2) rfl Try.runUnderlying81 rfl Try.sizeOf29 (by decide) rfl) (.yes rfl rfl rfl) rfl ?_
                              refine jv (v_field (k' := 2) rfl Try.runUnderlying29 rfl Try.sizeOf3 (by decide) rfl) (.yes rfl rfl rfl) rfl ?_
                              refine jv (v_loadc rfl Try.isAgg3 rfl) (.yes rfl rfl rfl) rfl ?_
                              refine jv (v_has (ks := ks) rfl rfl (by simp) Try.runUnderlying88 Try.runUnderlying3 Try.zeroValue4) (.yes rfl rfl rfl) rfl ?_
                              refine jv (v_pickf rfl rfl) (.no rfl) rfl ?_
                              refine jo_nil ?_
                              refine je_next ?_
                              refine j_ifs rfl (fun mq => ?_) (fun mq => ?_)
                              · first | (with_reducible replace mq := of_decide_eq_true mq) | skip
                                refine j_seq ?_
                                refine j_region ?_
                                refine jv (v_assign rfl) (.no rfl) rfl ?_
                                refine jo_nil ?_
                                refine je_next ?_
                                refine j_ret ?_
                                refine je_blockr ?_
                                refine je_then (by simp) ?_
                                refine je_then (by simp) ?_
                                refine je_blockr ?_
                                refine je_then (by simp) ?_
                                refine je_blockr ?_
                                refine je_blockr ?_
                                refine je_then (by simp) ?_
                                refine je_then (by simp) ?_
                                refine je_blockr ?_
                                refine je_then (by simp) ?_
                                refine je_ret rfl rfl rfl rfl rfl (rvs := [.tmp 2]) rfl (.cons (.tmp rfl) .nil) () ?_ (fun w h => h.fin mem0) (.inl rfl)
                                first | exact congrArg Value.bool (right6_all (by omega) (by omega) (by omega) (by omega) (by omega) hok) | exact congrArg Value.bool (right6_nok hkl (.inr (ok_bare_no htf hbn))) | exact congrArg Value.bool (right6_nok hkl (.inr (seen_twin hkl htt mq hse))) | exact congrArg Value.bool (right6_nok hkl (.inr (ok_fine_no htt (decide_eq_false (by simp at rq; omega))))) | exact congrArg Value.bool (right6_nok hkl (.inl (okC3_no (by omega)))) | exact congrArg Value.bool (right6_top (by omega))
                              · first | (with_reducible replace mq := of_decide_eq_false mq) | skip
                                have mm : cs[k].val.serial ∉ ks := mq
                                refine j_skip ?_
                                refine je_block ?_
                                refine je_next ?_
                                refine j_region ?_
                                refine jv (v_add rfl rfl (by omega) (by omega)) (.no rfl) rfl ?_
                                refine jv (v_move rfl) (.no rfl) rfl ?_
                                refine jo_nil ?_
                                refine je_again ?_
                                refine jr_succ ?_
                                refine j_seq ?_
                                refine j_region ?_
                                refine jv (v_lss rfl rfl) (.no rfl) rfl ?_
                                refine jo_nil ?_
                                refine je_next ?_
                                refine j_seq ?_
                                refine j_ift rfl ?_
                                refine j_skip ?_
                                refine je_next ?_
                                refine j_seq ?_
                                refine j_block ?_
                                refine j_seq ?_
                                refine j_region ?_
                                refine jv (v_index rfl rfl FindR.row Try.runUnderlying90 Try.sizeOf93 (by omega) (by simp [rulesV])) (.no rfl) rfl ?_
                                refine jq (OpL.q (l_eload rfl FindR.row (show (rulesV b64.1)[_]? = some _ from rfl) (by decide) Try.isAgg93 Try.sizeOf93 (fun _ _ _ h => val_all h))) (.no rfl) rfl ?_
                                intro v69
                                refine jx (x_alloc Try.zeroValue93 Cells.agg) (.no rfl) rfl ?_
                                intro B7
                                refine jx (x_storec (cs' := [_]) rfl rfl rfl Try.sizeOf93 rfl rfl) (.no rfl) rfl ?_
                                intro _
                                refine jo_nil ?_
                                refine je_next ?_
                                refine j_seq ?_
                                refine j_region ?_
                                refine jv (v_field (k' := 0) rfl Try.runUnderlying93 rfl Try.sizeOf89 (by decide) rfl) (.no rfl) rfl ?_
                                refine jv (v_loadc rfl Try.isAgg89 rfl) (.no rfl) rfl ?_
                                refine jv (v_field (k' := 2) rfl Try.runUnderlying81 rfl Try.sizeOf29 (by decide) rfl) (.no rfl) rfl ?_
                                refine jv (v_loadAc (vs := [_, _, _, _, _, _]) rfl Try.isAgg29 Try.sizeOf29 rfl rfl) (.no rfl) rfl ?_
                                refine jq (q_callcP (caps := []) (f96_spec (o := cs[k].val)) Try.call96 (by rfl) rfl rfl rfl (memc FindS.mem mem0)) (.no rfl) rfl ?_
                                intro _
                                refine jv (v_not rfl) (.no rfl) rfl ?_
                                refine jv (v_move rfl) (.no rfl) rfl ?_
                                refine j_split 76 rfl (fun rq => ?_) (fun rq => ?_)
                                · first | (with_reducible replace rq := of_decide_eq_true rq) | skip
                                  refine j_off rfl rfl rfl (by decide) rfl ?_
                                  refine j_off rfl rfl rfl (by decide) rfl ?_
                                  refine j_off rfl rfl rfl (by decide) rfl ?_
                                  refine j_off rfl rfl rfl (by decide) rfl ?_
                                  refine j_off rfl rfl rfl (by decide) rfl ?_
                                  refine jv (v_pickt rfl rfl) (.no rfl) rfl ?_
                                  refine jo_nil ?_
                                  refine je_next ?_
                                  refine j_ift rfl ?_
                                  refine j_seq ?_
                                  refine j_region ?_
                                  refine jv (v_assign rfl) (.no rfl) rfl ?_
                                  refine jo_nil ?_
                                  refine je_next ?_
                                  refine j_ret ?_
                                  refine je_blockr ?_
                                  refine je_then (by simp) ?_
                                  refine je_then (by simp) ?_
                                  refine je_blockr ?_
                                  refine je_then (by simp) ?_
                                  refine je_blockr ?_
                                  refine je_blockr ?_
                                  refine je_then (by simp) ?_
                                  refine je_then (by simp) ?_
                                  refine je_blockr ?_
                                  refine je_then (by simp) ?_
                                  refine je_ret rfl rfl rfl rfl rfl (rvs := [.tmp 2]) rfl (.cons (.tmp rfl) .nil) () ?_ (fun w h => h.fin mem0) (.inl rfl)
                                  first | exact congrArg Value.bool (right6_all (by omega) (by omega) (by omega) (by omega) (by omega) hok) | exact congrArg Value.bool (right6_nok hkl (.inr (ok_bare_no htf hbn))) | exact congrArg Value.bool (right6_nok hkl (.inr (seen_twin hkl htt mq hse))) | exact congrArg Value.bool (right6_nok hkl (.inr (ok_fine_no htt (decide_eq_false (by simp at rq; omega))))) | exact congrArg Value.bool (right6_nok hkl (.inl (okC3_no (by omega)))) | exact congrArg Value.bool (right6_top (by omega))
                                · first | (with_reducible replace rq := of_decide_eq_false rq) | skip
                                  have r2 := of_decide_eq_true (by simpa using rq)
                                  refine jv (v_move rfl) (.yes rfl rfl rfl) rfl ?_
                                  refine jv (v_field (k' := 2) rfl Try.runUnderlying81 rfl Try.sizeOf29 (by decide) rfl) (.yes rfl rfl rfl) rfl ?_
                                  refine jv (v_field (k' := 2) rfl Try.runUnderlying29 rfl Try.sizeOf3 (by decide) rfl) (.yes rfl rfl rfl) rfl ?_
                                  refine jv (v_loadc rfl Try.isAgg3 rfl) (.yes rfl rfl rfl) rfl ?_
                                  refine jv (v_has (ks := ks) rfl rfl (by simp) Try.runUnderlying88 Try.runUnderlying3 Try.zeroValue4) (.yes rfl rfl rfl) rfl ?_
                                  refine jv (v_pickf rfl rfl) (.no rfl) rfl ?_
                                  refine jo_nil ?_
                                  refine je_next ?_
                                  refine j_ifs rfl (fun mq => ?_) (fun mq => ?_)
                                  · first | (with_reducible replace mq := of_decide_eq_true mq) | skip
                                    refine j_seq ?_
                                    refine j_region ?_
                                    refine jv (v_assign rfl) (.no rfl) rfl ?_
                                    refine jo_nil ?_
                                    refine je_next ?_
                                    refine j_ret ?_
                                    refine je_blockr ?_
                                    refine je_then (by simp) ?_
                                    refine je_then (by simp) ?_
                                    refine je_blockr ?_
                                    refine je_then (by simp) ?_
                                    refine je_blockr ?_
                                    refine je_blockr ?_
                                    refine je_then (by simp) ?_
                                    refine je_then (by simp) ?_
                                    refine je_blockr ?_
                                    refine je_then (by simp) ?_
                                    refine je_ret rfl rfl rfl rfl rfl (rvs := [.tmp 2]) rfl (.cons (.tmp rfl) .nil) () ?_ (fun w h => h.fin mem0) (.inl rfl)
                                    first | exact congrArg Value.bool (right6_all (by omega) (by omega) (by omega) (by omega) (by omega) hok) | exact congrArg Value.bool (right6_nok hkl (.inr (ok_bare_no htf hbn))) | exact congrArg Value.bool (right6_nok hkl (.inr (seen_twin hkl htt mq hse))) | exact congrArg Value.bool (right6_nok hkl (.inr (ok_fine_no htt (decide_eq_false (by simp at rq; omega))))) | exact congrArg Value.bool (right6_nok hkl (.inl (okC3_no (by omega)))) | exact congrArg Value.bool (right6_top (by omega))
                                  · first | (with_reducible replace mq := of_decide_eq_false mq) | skip
                                    have mm : cs[k].val.serial ∉ ks := mq
                                    refine j_skip ?_
                                    refine je_block ?_
                                    refine je_next ?_
                                    refine j_region ?_
                                    refine jv (v_add rfl rfl (by omega) (by omega)) (.no rfl) rfl ?_
                                    refine jv (v_move rfl) (.no rfl) rfl ?_
                                    refine jo_nil ?_
                                    refine je_again ?_
                                    refine jr_succ ?_
                                    refine j_seq ?_
                                    refine j_region ?_
                                    refine jv (v_lss rfl rfl) (.no rfl) rfl ?_
                                    refine jo_nil ?_
                                    refine je_next ?_
                                    refine j_seq ?_
                                    refine j_ift rfl ?_
                                    refine j_skip ?_
                                    refine je_next ?_
                                    refine j_seq ?_
                                    refine j_block ?_
                                    refine j_seq ?_
                                    refine j_region ?_
                                    refine jv (v_index rfl rfl FindR.row Try.runUnderlying90 Try.sizeOf93 (by omega) (by simp [rulesV])) (.no rfl) rfl ?_
                                    refine jq (OpL.q (l_eload rfl FindR.row (show (rulesV b64.1)[_]? = some _ from rfl) (by decide) Try.isAgg93 Try.sizeOf93 (fun _ _ _ h => val_all h))) (.no rfl) rfl ?_
                                    intro v69
                                    refine jx (x_alloc Try.zeroValue93 Cells.agg) (.no rfl) rfl ?_
                                    intro B7
                                    refine jx (x_storec (cs' := [_]) rfl rfl rfl Try.sizeOf93 rfl rfl) (.no rfl) rfl ?_
                                    intro _
                                    refine jo_nil ?_
                                    refine je_next ?_
                                    refine j_seq ?_
                                    refine j_region ?_
                                    refine jv (v_field (k' := 0) rfl Try.runUnderlying93 rfl Try.sizeOf89 (by decide) rfl) (.no rfl) rfl ?_
                                    refine jv (v_loadc rfl Try.isAgg89 rfl) (.no rfl) rfl ?_
                                    refine jv (v_field (k' := 2) rfl Try.runUnderlying81 rfl Try.sizeOf29 (by decide) rfl) (.no rfl) rfl ?_
                                    refine jv (v_loadAc (vs := [_, _, _, _, _, _]) rfl Try.isAgg29 Try.sizeOf29 rfl rfl) (.no rfl) rfl ?_
                                    refine jq (q_callcP (caps := []) (f97_spec (o := cs[k].val)) Try.call97 (by rfl) rfl rfl rfl (memc FindS.mem mem0)) (.no rfl) rfl ?_
                                    intro _
                                    refine jv (v_not rfl) (.no rfl) rfl ?_
                                    refine jv (v_move rfl) (.no rfl) rfl ?_
                                    refine j_split 76 rfl (fun rq => ?_) (fun rq => ?_)
                                    · first | (with_reducible replace rq := of_decide_eq_true rq) | skip
                                      refine j_off rfl rfl rfl (by decide) rfl ?_
                                      refine j_off rfl rfl rfl (by decide) rfl ?_
                                      refine j_off rfl rfl rfl (by decide) rfl ?_
                                      refine j_off rfl rfl rfl (by decide) rfl ?_
                                      refine j_off rfl rfl rfl (by decide) rfl ?_
                                      refine jv (v_pickt rfl rfl) (.no rfl) rfl ?_
                                      refine jo_nil ?_
                                      refine je_next ?_
                                      refine j_ift rfl ?_
                                      refine j_seq ?_
                                      refine j_region ?_
                                      refine jv (v_assign rfl) (.no rfl) rfl ?_
                                      refine jo_nil ?_
                                      refine je_next ?_
                                      refine j_ret ?_
                                      refine je_blockr ?_
                                      refine je_then (by simp) ?_
                                      refine je_then (by simp) ?_
                                      refine je_blockr ?_
                                      refine je_then (by simp) ?_
                                      refine je_blockr ?_
                                      refine je_blockr ?_
                                      refine je_then (by simp) ?_
                                      refine je_then (by simp) ?_
                                      refine je_blockr ?_
                                      refine je_then (by simp) ?_
                                      refine je_ret rfl rfl rfl rfl rfl (rvs := [.tmp 2]) rfl (.cons (.tmp rfl) .nil) () ?_ (fun w h => h.fin mem0) (.inl rfl)
                                      first | exact congrArg Value.bool (right6_all (by omega) (by omega) (by omega) (by omega) (by omega) hok) | exact congrArg Value.bool (right6_nok hkl (.inr (ok_bare_no htf hbn))) | exact congrArg Value.bool (right6_nok hkl (.inr (seen_twin hkl htt mq hse))) | exact congrArg Value.bool (right6_nok hkl (.inr (ok_fine_no htt (decide_eq_false (by simp at rq; omega))))) | exact congrArg Value.bool (right6_nok hkl (.inl (okC3_no (by omega)))) | exact congrArg Value.bool (right6_top (by omega))
                                    · first | (with_reducible replace rq := of_decide_eq_false rq) | skip
                                      have r3 := of_decide_eq_true (by simpa using rq)
                                      refine jv (v_move rfl) (.yes rfl rfl rfl) rfl ?_
                                      refine jv (v_field (k' := 2) rfl Try.runUnderlying81 rfl Try.sizeOf29 (by decide) rfl) (.yes rfl rfl rfl) rfl ?_
                                      refine jv (v_field (k' := 2) rfl Try.runUnderlying29 rfl Try.sizeOf3 (by decide) rfl) (.yes rfl rfl rfl) rfl ?_
                                      refine jv (v_loadc rfl Try.isAgg3 rfl) (.yes rfl rfl rfl) rfl ?_
                                      refine jv (v_has (ks := ks) rfl rfl (by simp) Try.runUnderlying88 Try.runUnderlying3 Try.zeroValue4) (.yes rfl rfl rfl) rfl ?_
                                      refine jv (v_pickf rfl rfl) (.no rfl) rfl ?_
                                      refine jo_nil ?_
                                      refine je_next ?_
                                      refine j_ifs rfl (fun mq => ?_) (fun mq => ?_)
                                      · first | (with_reducible replace mq := of_decide_eq_true mq) | skip
                                        refine j_seq ?_
                                        refine j_region ?_
                                        refine jv (v_assign rfl) (.no rfl) rfl ?_
                                        refine jo_nil ?_
                                        refine je_next ?_
                                        refine j_ret ?_
                                        refine je_blockr ?_
                                        refine je_then (by simp) ?_
                                        refine je_then (by simp) ?_
                                        refine je_blockr ?_
                                        refine je_then (by simp) ?_
                                        refine je_blockr ?_
                                        refine je_blockr ?_
                                        refine je_then (by simp) ?_
                                        refine je_then (by simp) ?_
                                        refine je_blockr ?_
                                        refine je_then (by simp) ?_
                                        refine je_ret rfl rfl rfl rfl rfl (rvs := [.tmp 2]) rfl (.cons (.tmp rfl) .nil) () ?_ (fun w h => h.fin mem0) (.inl rfl)
                                        first | exact congrArg Value.bool (right6_all (by omega) (by omega) (by omega) (by omega) (by omega) hok) | exact congrArg Value.bool (right6_nok hkl (.inr (ok_bare_no htf hbn))) | exact congrArg Value.bool (right6_nok hkl (.inr (seen_twin hkl htt mq hse))) | exact congrArg Value.bool (right6_nok hkl (.inr (ok_fine_no htt (decide_eq_false (by simp at rq; omega))))) | exact congrArg Value.bool (right6_nok hkl (.inl (okC3_no (by omega)))) | exact congrArg Value.bool (right6_top (by omega))
                                      · first | (with_reducible replace mq := of_decide_eq_false mq) | skip
                                        have mm : cs[k].val.serial ∉ ks := mq
                                        refine j_skip ?_
                                        refine je_block ?_
                                        refine je_next ?_
                                        refine j_region ?_
                                        refine jv (v_add rfl rfl (by omega) (by omega)) (.no rfl) rfl ?_
                                        refine jv (v_move rfl) (.no rfl) rfl ?_
                                        refine jo_nil ?_
                                        refine je_again ?_
                                        refine jr_succ ?_
                                        refine j_seq ?_
                                        refine j_region ?_
                                        refine jv (v_lss rfl rfl) (.no rfl) rfl ?_
                                        refine jo_nil ?_
                                        refine je_next ?_
                                        refine j_seq ?_
                                        refine j_iff rfl ?_
                                        refine j_exit ?_
                                        refine je_then (by simp) ?_
                                        refine je_then (by simp) ?_
                                        refine je_hit ?_
                                        refine je_next ?_
                                        have hf : fine serial cs[k].val = true := decide_eq_true (by omega)
                                        refine j_region ?_
                                        refine jv (v_move rfl) (.no rfl) rfl ?_
                                        refine jv (v_field (k' := 2) rfl Try.runUnderlying81 rfl Try.sizeOf29 (by decide) rfl) (.no rfl) rfl ?_
                                        refine jv (v_field (k' := 2) rfl Try.runUnderlying29 rfl Try.sizeOf3 (by decide) rfl) (.no rfl) rfl ?_
                                        refine jv (v_loadc rfl Try.isAgg3 rfl) (.no rfl) rfl ?_
                                        refine jx (x_add rfl rfl (.tail (.tail (.tail (.tail (.tail .head))))) Try.runUnderlying88 Try.runUnderlying3) (.no rfl) rfl ?_
                                        intro _
                                        refine jo_nil ?_
                                        refine je_block ?_
                                        refine je_block ?_
                                        refine je_next ?_
                                        refine j_region ?_
                                        refine jv (v_add rfl rfl (by omega) (by omega)) (.no rfl) rfl ?_
                                        refine jv (v_move rfl) (.no rfl) rfl ?_
                                        refine jo_nil ?_
                                        refine je_round (k + 1, _) (by first | exact ⟨by simp only; omega, seen_add hkl htt hse, step_okS hkl hok ⟨okC3_of (by omega), seen_fine hkl htt hf mm hse⟩⟩ | exact ⟨by simp only; omega, seen_bare hkl htf hse, step_okS hkl hok ⟨okC3_of (by omega), ok_bare htf hbl⟩⟩) (by first | omega | (dsimp only; omega)) (lsub rfl (lsub rfl (lsub rfl (lsub rfl (lsub rfl lsub0))))) (fun _ h => ((((((h).del .head).del .head).del .head).del .head).del .head).sub fun p hp => (List.mem_append_right _ (List.mem_append_right _ (List.mem_append_right _ (List.mem_append_right _ (List.mem_append_right _ (List.mem_append_right _ (List.mem_append_right _ (List.mem_append_right _ (List.mem_append_right _ (List.mem_append_right _ hp)))))))))))
                      · first | (with_reducible replace e1 := of_decide_eq_false e1) | skip
                        refine j_seq ?_
                        refine j_region ?_
                        refine jv (v_assign rfl) (.no rfl) rfl ?_
                        refine jo_nil ?_
                        refine je_next ?_
                        refine j_ret ?_
                        refine je_blockr ?_
                        refine je_blockr ?_
                        refine je_then (by simp) ?_
                        refine je_then (by simp) ?_
                        refine je_blockr ?_
                        refine je_then (by simp) ?_
                        refine je_ret rfl rfl rfl rfl rfl (rvs := [.tmp 2]) rfl (.cons (.tmp rfl) .nil) () ?_ (fun w h => h.fin mem0) (.inl rfl)
                        first | exact congrArg Value.bool (right6_all (by omega) (by omega) (by omega) (by omega) (by omega) hok) | exact congrArg Value.bool (right6_nok hkl (.inr (ok_bare_no htf hbn))) | exact congrArg Value.bool (right6_nok hkl (.inr (seen_twin hkl htt mq hse))) | exact congrArg Value.bool (right6_nok hkl (.inr (ok_fine_no htt (decide_eq_false (by simp at rq; omega))))) | exact congrArg Value.bool (right6_nok hkl (.inl (okC3_no (by omega)))) | exact congrArg Value.bool (right6_top (by omega))
          · first | (with_reducible replace hc := of_decide_eq_false hc) | skip
            refine j_exit ?_
            refine je_then (by simp) ?_
            refine je_then (by simp) ?_
            refine je_hit ?_
            refine je_next ?_
            refine j_seq ?_
            refine j_region ?_
            refine jv (v_assign rfl) (.no rfl) rfl ?_
            refine jo_nil ?_
            refine je_next ?_
            refine j_ret ?_
            refine je_ret rfl rfl rfl rfl rfl (rvs := [.tmp 2]) rfl (.cons (.tmp rfl) .nil) () ?_ (fun w h => h.fin mem0) (.inl rfl)
            first | exact congrArg Value.bool (right6_all (by omega) (by omega) (by omega) (by omega) (by omega) hok) | exact congrArg Value.bool (right6_nok hkl (.inr (ok_bare_no htf hbn))) | exact congrArg Value.bool (right6_nok hkl (.inr (seen_twin hkl htt mq hse))) | exact congrArg Value.bool (right6_nok hkl (.inr (ok_fine_no htt (decide_eq_false (by simp at rq; omega))))) | exact congrArg Value.bool (right6_nok hkl (.inl (okC3_no (by omega)))) | exact congrArg Value.bool (right6_top (by omega))

end Go.Proofs.Ytjgacbopccfecaa
