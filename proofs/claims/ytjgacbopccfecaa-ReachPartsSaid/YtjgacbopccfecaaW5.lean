/-
  Walks: function 21, function 61, function 25, function 14.
-/
import Derived.Test.YtjgacbopccfecaaN
import Derived.Test.YtjgacbopccfecaaW1
import Derived.Test.YtjgacbopccfecaaW2
import Derived.Test.YtjgacbopccfecaaW3
import Derived.Test.YtjgacbopccfecaaW4
set_option maxRecDepth 100000
set_option linter.unusedVariables false
set_option linter.unusedSimpArgs false
namespace Go.Proofs.Ytjgacbopccfecaa

theorem f21_spec {v : Value} {cs : List Cell} {last serial : Int} (hn : cs.length ≤ 1000) : Spec Try.prog 21 [stA v last serial] [] [sl cellK v cs] Unit (fun _ => .bool (right6 ⟨cs, last, serial⟩)) (fun _ => []) (fun _ => []) := by
  refine spec_of Try.func21 rfl Try.ntmps21 (by simp) fun ok w => ?_
  refine j_len v fun hlx => ?_
  refine j_seq ?_
  refine j_region ?_
  refine jx (x_boxc rfl) (.no rfl) rfl ?_
  intro B1
  refine jv (v_assign rfl) (.no rfl) rfl ?_
  refine jo_nil ?_
  refine je_next ?_
  refine j_seq ?_
  refine j_seq ?_
  refine j_region ?_
  refine jv (v_loadAc (vs := [_, _, _]) rfl Try.isAgg37 Try.sizeOf37 rfl rfl) (.no rfl) rfl ?_
  refine jq (q_callP (f56_spec (by omega)) Try.call56 (by rfl) rfl (memc FindS.mem mem0)) (.no rfl) rfl ?_
  intro u8
  refine jq (q_callP (f58_spec) Try.call58 (by rfl) rfl (memc FindS.mem mem0)) (.no rfl) rfl ?_
  intro x9
  refine jv (v_not rfl) (.no rfl) rfl ?_
  refine jv (v_move rfl) (.no rfl) rfl ?_
  refine j_split 11 rfl (fun q1 => ?_) (fun q1 => ?_)
  · first | (with_reducible replace q1 := of_decide_eq_true q1) | skip
    refine j_off rfl rfl rfl (by decide) rfl ?_
    refine j_off rfl rfl rfl (by decide) rfl ?_
    refine j_off rfl rfl rfl (by decide) rfl ?_
    refine jv (v_pickt rfl rfl) (.no rfl) rfl ?_
    refine jo_nil ?_
    refine je_next ?_
    refine j_ift rfl ?_
    refine j_seq ?_
    refine j_region ?_
    refine jv (v_assign rfl) (.no rfl) rfl ?_
    refine jo_nil ?_
    refine je_next ?_
    refine j_ret ?_
    refine je_then (by simp) ?_
    refine je_ret rfl rfl rfl rfl rfl (rvs := [.tmp 2]) rfl (.cons (.tmp rfl) .nil) () ?_ (fun w h => h.fin mem0) (.inl rfl)
    first | exact congrArg Value.bool (right6_yes hr3 (by omega) (by omega) hk2) | exact congrArg Value.bool (right6_no hkl (ok_twin htt (by omega) (by omega) y1 y2)) | exact congrArg Value.bool (right6_no hkl (ok_fine_no htt (decide_eq_false (by omega)))) | exact congrArg Value.bool (right6_no hkl (ok_bare_no htf (bare_no (by first | omega | (right; right; right; right; left; assumption) | (right; right; right; right; right; exact fields_not (by assumption)))))) | exact congrArg Value.bool (right6_no3 (by first | (left; simpa using q1) | (right; omega)))
  · first | (with_reducible replace q1 := of_decide_eq_false q1) | skip
    refine jv (v_field (k' := 2) rfl Try.runUnderlying37 rfl Try.sizeOf3 (by decide) rfl) (.yes rfl rfl rfl) rfl ?_
    refine jv (v_loadc rfl Try.isAgg3 rfl) (.yes rfl rfl rfl) rfl ?_
    refine jv (v_lss rfl rfl) (.yes rfl rfl rfl) rfl ?_
    refine jv (v_pickf rfl rfl) (.no rfl) rfl ?_
    refine jo_nil ?_
    refine je_next ?_
    refine j_if rfl (fun q2 => ?_) (fun q2 => ?_)
    · first | (with_reducible replace q2 := of_decide_eq_true q2) | skip
      refine j_seq ?_
      refine j_region ?_
      refine jv (v_assign rfl) (.no rfl) rfl ?_
      refine jo_nil ?_
      refine je_next ?_
      refine j_ret ?_
      refine je_then (by simp) ?_
      refine je_ret rfl rfl rfl rfl rfl (rvs := [.tmp 2]) rfl (.cons (.tmp rfl) .nil) () ?_ (fun w h => h.fin mem0) (.inl rfl)
      first | exact congrArg Value.bool (right6_yes hr3 (by omega) (by omega) hk2) | exact congrArg Value.bool (right6_no hkl (ok_twin htt (by omega) (by omega) y1 y2)) | exact congrArg Value.bool (right6_no hkl (ok_fine_no htt (decide_eq_false (by omega)))) | exact congrArg Value.bool (right6_no hkl (ok_bare_no htf (bare_no (by first | omega | (right; right; right; right; left; assumption) | (right; right; right; right; right; exact fields_not (by assumption)))))) | exact congrArg Value.bool (right6_no3 (by first | (left; simpa using q1) | (right; omega)))
    · first | (with_reducible replace q2 := of_decide_eq_false q2) | skip
      refine j_skip ?_
      refine je_next ?_
      refine j_seq ?_
      refine j_seq ?_
      have hr3 : right3 (plainC cs) last = true := by simpa using q1
      refine j_region ?_
      refine jv (v_assign rfl) (.no rfl) rfl ?_
      refine jo_nil ?_
      refine je_next ?_
      refine j_block ?_
      refine j_loopS (G := Nat) [(1, _)] (fun k t => (3, iV ((k : Nat) : Int)) :: t) (fun k t => t) (fun k => k ≤ cs.length ∧ ∀ i (hi : i < cs.length), i < k → okCell serial cs i cs[i] = true) (fun k => cs.length - k) 0 (⟨Nat.zero_le _, fun i _ h => absurd h (Nat.not_lt_zero i)⟩) (lsub rfl (lsub rfl lsub0)) rfl (fun k ⟨hk, hk2⟩ => ?_)   -- dead: [2]
      refine j_seq ?_
      refine j_seq ?_
      refine j_region ?_
      refine jv (v_move rfl) (.no rfl) rfl ?_
      refine jv (v_field (k' := 0) rfl Try.runUnderlying37 rfl Try.sizeOf35 (by decide) rfl) (.no rfl) rfl ?_
      refine jv (v_loadc rfl Try.isAgg35 rfl) (.no rfl) rfl ?_
      refine jv (v_len rfl FindR.row Try.runUnderlying35) (.no rfl) rfl ?_
      refine jv (v_lss rfl rfl) (.no rfl) rfl ?_
      refine jo_nil ?_
      refine je_next ?_
      refine j_if rfl (fun hc => ?_) (fun hc => ?_)
      · first | (with_reducible replace hc := of_decide_eq_true hc) | skip
        refine j_skip ?_
        refine je_next ?_
        refine j_seq ?_
        refine j_block ?_
        refine j_seq ?_
        have hkl : k < cs.length := by omega
        refine j_region ?_
        refine jv (v_field (k' := 0) rfl Try.runUnderlying37 rfl Try.sizeOf35 (by decide) rfl) (.no rfl) rfl ?_
        refine jv (v_loadc rfl Try.isAgg35 rfl) (.no rfl) rfl ?_
        refine jv (v_move rfl) (.no rfl) rfl ?_
        refine jv (v_index rfl rfl FindR.row Try.runUnderlying35 Try.sizeOf83 (by omega) (by omega)) (.no rfl) rfl ?_
        refine jq (OpL.q (l_eload rfl FindR.row (at_k hkl) (by decide) Try.isAgg83 Try.sizeOf83 (fun _ _ _ h => cell_all h))) (.no rfl) rfl ?_
        intro v27
        refine jx (x_alloc Try.zeroValue83 Cells.agg) (.no rfl) rfl ?_
        intro B4
        refine jx (x_storec (cs' := [_, _, _, _, _, _, _, _]) rfl rfl rfl Try.sizeOf83 rfl rfl) (.no rfl) rfl ?_
        intro _
        refine jo_nil ?_
        refine je_next ?_
        refine j_seq ?_
        refine j_region ?_
        refine jv (v_field (k' := 2) rfl Try.runUnderlying83 rfl Try.sizeOf41 (by decide) rfl) (.no rfl) rfl ?_
        refine jv (v_loadAc (vs := [_, _, _, _, _, _]) rfl Try.isAgg41 Try.sizeOf41 rfl rfl) (.no rfl) rfl ?_
        refine jx (x_alloc Try.zeroValue41 Cells.agg) (.no rfl) rfl ?_
        intro B5
        refine jx (x_storec (cs' := [_, _, _, _, _, _]) rfl rfl rfl Try.sizeOf41 rfl rfl) (.no rfl) rfl ?_
        intro _
        refine jo_nil ?_
        refine je_next ?_
        refine j_seq ?_
        refine j_seq ?_
        refine j_region ?_
        refine jv (v_loadAc (vs := [_, _, _, _, _, _, _, _]) rfl Try.isAgg83 Try.sizeOf83 rfl rfl) (.no rfl) rfl ?_
        refine jq (q_callP (f59_spec) Try.call59 (by rfl) rfl (memc FindS.mem mem0)) (.no rfl) rfl ?_
        intro x31
        refine jv (v_not rfl) (.no rfl) rfl ?_
        refine jo_nil ?_
        refine je_next ?_
        refine j_if rfl (fun ht => ?_) (fun ht => ?_)
        · first | (with_reducible replace ht := of_decide_eq_true ht) | skip
          refine j_seq ?_
          refine j_seq ?_
          have htf : there cs[k] = false := by simpa using ht
          refine j_region ?_
          refine jv (v_field (k' := 0) rfl Try.runUnderlying41 rfl Try.sizeOf3 (by decide) rfl) (.no rfl) rfl ?_
          refine jv (v_loadc rfl Try.isAgg3 rfl) (.no rfl) rfl ?_
          refine jv (v_neq rfl rfl) (.no rfl) rfl ?_
          refine jv (v_move rfl) (.no rfl) rfl ?_
          refine j_split 36 rfl (fun h5 => ?_) (fun h5 => ?_)
          · first | (with_reducible replace h5 := of_decide_eq_true h5) | skip
            refine j_off rfl rfl rfl (by decide) rfl ?_
            refine j_off rfl rfl rfl (by decide) rfl ?_
            refine j_off rfl rfl rfl (by decide) rfl ?_
            refine jv (v_pickt rfl rfl) (.no rfl) rfl ?_
            refine jv (v_move rfl) (.no rfl) rfl ?_
            refine j_off rfl rfl rfl (by decide) rfl ?_
            refine j_off rfl rfl rfl (by decide) rfl ?_
            refine j_off rfl rfl rfl (by decide) rfl ?_
            refine jv (v_pickt rfl rfl) (.no rfl) rfl ?_
            refine jv (v_move rfl) (.no rfl) rfl ?_
            refine j_off rfl rfl rfl (by decide) rfl ?_
            refine j_off rfl rfl rfl (by decide) rfl ?_
            refine j_off rfl rfl rfl (by decide) rfl ?_
            refine jv (v_pickt rfl rfl) (.no rfl) rfl ?_
            refine jv (v_move rfl) (.no rfl) rfl ?_
            refine j_off rfl rfl rfl (by decide) rfl ?_
            refine j_off rfl rfl rfl (by decide) rfl ?_
            refine jv (v_pickt rfl rfl) (.no rfl) rfl ?_
            refine jv (v_move rfl) (.no rfl) rfl ?_
            refine j_off rfl rfl rfl (by decide) rfl ?_
            refine j_off rfl rfl rfl (by decide) rfl ?_
            refine j_off rfl rfl rfl (by decide) rfl ?_
            refine j_off rfl rfl rfl (by decide) rfl ?_
            refine jv (v_pickt rfl rfl) (.no rfl) rfl ?_
            refine jo_nil ?_
            refine je_next ?_
            refine j_ift rfl ?_
            refine j_seq ?_
            refine j_region ?_
            refine jv (v_assign rfl) (.no rfl) rfl ?_
            refine jo_nil ?_
            refine je_next ?_
            refine j_ret ?_
            refine je_then (by simp) ?_
            refine je_then (by simp) ?_
            refine je_blockr ?_
            refine je_then (by simp) ?_
            refine je_then (by simp) ?_
            refine je_blockr ?_
            refine je_then (by simp) ?_
            refine je_ret rfl rfl rfl rfl rfl (rvs := [.tmp 2]) rfl (.cons (.tmp rfl) .nil) () ?_ (fun w h => h.fin mem0) (.inl rfl)
            first | exact congrArg Value.bool (right6_yes hr3 (by omega) (by omega) hk2) | exact congrArg Value.bool (right6_no hkl (ok_twin htt (by omega) (by omega) y1 y2)) | exact congrArg Value.bool (right6_no hkl (ok_fine_no htt (decide_eq_false (by omega)))) | exact congrArg Value.bool (right6_no hkl (ok_bare_no htf (bare_no (by first | omega | (right; right; right; right; left; assumption) | (right; right; right; right; right; exact fields_not (by assumption)))))) | exact congrArg Value.bool (right6_no3 (by first | (left; simpa using q1) | (right; omega)))
          · first | (with_reducible replace h5 := of_decide_eq_false h5) | skip
            refine jv (v_field (k' := 1) rfl Try.runUnderlying41 rfl Try.sizeOf3 (by decide) rfl) (.yes rfl rfl rfl) rfl ?_
            refine jv (v_loadc rfl Try.isAgg3 rfl) (.yes rfl rfl rfl) rfl ?_
            refine jv (v_neq rfl rfl) (.yes rfl rfl rfl) rfl ?_
            refine jv (v_pickf rfl rfl) (.no rfl) rfl ?_
            refine jv (v_move rfl) (.no rfl) rfl ?_
            refine j_split 41 rfl (fun h6 => ?_) (fun h6 => ?_)
            · first | (with_reducible replace h6 := of_decide_eq_true h6) | skip
              refine j_off rfl rfl rfl (by decide) rfl ?_
              refine j_off rfl rfl rfl (by decide) rfl ?_
              refine j_off rfl rfl rfl (by decide) rfl ?_
              refine jv (v_pickt rfl rfl) (.no rfl) rfl ?_
              refine jv (v_move rfl) (.no rfl) rfl ?_
              refine j_off rfl rfl rfl (by decide) rfl ?_
              refine j_off rfl rfl rfl (by decide) rfl ?_
              refine j_off rfl rfl rfl (by decide) rfl ?_
              refine jv (v_pickt rfl rfl) (.no rfl) rfl ?_
              refine jv (v_move rfl) (.no rfl) rfl ?_
              refine j_off rfl rfl rfl (by decide) rfl ?_
              refine j_off rfl rfl rfl (by decide) rfl ?_
              refine jv (v_pickt rfl rfl) (.no rfl) rfl ?_
              refine jv (v_move rfl) (.no rfl) rfl ?_
              refine j_off rfl rfl rfl (by decide) rfl ?_
              refine j_off rfl rfl rfl (by decide) rfl ?_
              refine j_off rfl rfl rfl (by decide) rfl ?_
              refine j_off rfl rfl rfl (by decide) rfl ?_
              refine jv (v_pickt rfl rfl) (.no rfl) rfl ?_
              refine jo_nil ?_
              refine je_next ?_
              refine j_ift rfl ?_
              refine j_seq ?_
              refine j_region ?_
              refine jv (v_assign rfl) (.no rfl) rfl ?_
              refine jo_nil ?_
              refine je_next ?_
              refine j_ret ?_
              refine je_then (by simp) ?_
              refine je_then (by simp) ?_
              refine je_blockr ?_
              refine je_then (by simp) ?_
              refine je_then (by simp) ?_
              refine je_blockr ?_
              refine je_then (by simp) ?_
              refine je_ret rfl rfl rfl rfl rfl (rvs := [.tmp 2]) rfl (.cons (.tmp rfl) .nil) () ?_ (fun w h => h.fin mem0) (.inl rfl)
              first | exact congrArg Value.bool (right6_yes hr3 (by omega) (by omega) hk2) | exact congrArg Value.bool (right6_no hkl (ok_twin htt (by omega) (by omega) y1 y2)) | exact congrArg Value.bool (right6_no hkl (ok_fine_no htt (decide_eq_false (by omega)))) | exact congrArg Value.bool (right6_no hkl (ok_bare_no htf (bare_no (by first | omega | (right; right; right; right; left; assumption) | (right; right; right; right; right; exact fields_not (by assumption)))))) | exact congrArg Value.bool (right6_no3 (by first | (left; simpa using q1) | (right; omega)))
            · first | (with_reducible replace h6 := of_decide_eq_false h6) | skip
              refine jv (v_field (k' := 2) rfl Try.runUnderlying41 rfl Try.sizeOf3 (by decide) rfl) (.yes rfl rfl rfl) rfl ?_
              refine jv (v_loadc rfl Try.isAgg3 rfl) (.yes rfl rfl rfl) rfl ?_
              refine jv (v_neq rfl rfl) (.yes rfl rfl rfl) rfl ?_
              refine jv (v_pickf rfl rfl) (.no rfl) rfl ?_
              refine jv (v_move rfl) (.no rfl) rfl ?_
              refine j_split 46 rfl (fun h7 => ?_) (fun h7 => ?_)
              · first | (with_reducible replace h7 := of_decide_eq_true h7) | skip
                refine j_off rfl rfl rfl (by decide) rfl ?_
                refine j_off rfl rfl rfl (by decide) rfl ?_
                refine j_off rfl rfl rfl (by decide) rfl ?_
                refine jv (v_pickt rfl rfl) (.no rfl) rfl ?_
                refine jv (v_move rfl) (.no rfl) rfl ?_
                refine j_off rfl rfl rfl (by decide) rfl ?_
                refine j_off rfl rfl rfl (by decide) rfl ?_
                refine jv (v_pickt rfl rfl) (.no rfl) rfl ?_
                refine jv (v_move rfl) (.no rfl) rfl ?_
                refine j_off rfl rfl rfl (by decide) rfl ?_
                refine j_off rfl rfl rfl (by decide) rfl ?_
                refine j_off rfl rfl rfl (by decide) rfl ?_
                refine j_off rfl rfl rfl (by decide) rfl ?_
                refine jv (v_pickt rfl rfl) (.no rfl) rfl ?_
                refine jo_nil ?_
                refine je_next ?_
                refine j_ift rfl ?_
                refine j_seq ?_
                refine j_region ?_
                refine jv (v_assign rfl) (.no rfl) rfl ?_
                refine jo_nil ?_
                refine je_next ?_
                refine j_ret ?_
                refine je_then (by simp) ?_
                refine je_then (by simp) ?_
                refine je_blockr ?_
                refine je_then (by simp) ?_
                refine je_then (by simp) ?_
                refine je_blockr ?_
                refine je_then (by simp) ?_
                refine je_ret rfl rfl rfl rfl rfl (rvs := [.tmp 2]) rfl (.cons (.tmp rfl) .nil) () ?_ (fun w h => h.fin mem0) (.inl rfl)
                first | exact congrArg Value.bool (right6_yes hr3 (by omega) (by omega) hk2) | exact congrArg Value.bool (right6_no hkl (ok_twin htt (by omega) (by omega) y1 y2)) | exact congrArg Value.bool (right6_no hkl (ok_fine_no htt (decide_eq_false (by omega)))) | exact congrArg Value.bool (right6_no hkl (ok_bare_no htf (bare_no (by first | omega | (right; right; right; right; left; assumption) | (right; right; right; right; right; exact fields_not (by assumption)))))) | exact congrArg Value.bool (right6_no3 (by first | (left; simpa using q1) | (right; omega)))
              · first | (with_reducible replace h7 := of_decide_eq_false h7) | skip
                refine jv (v_field (k' := 3) rfl Try.runUnderlying41 rfl Try.sizeOf3 (by decide) rfl) (.yes rfl rfl rfl) rfl ?_
                refine jv (v_loadc rfl Try.isAgg3 rfl) (.yes rfl rfl rfl) rfl ?_
                refine jv (v_neq rfl rfl) (.yes rfl rfl rfl) rfl ?_
                refine jv (v_pickf rfl rfl) (.no rfl) rfl ?_
                refine jv (v_move rfl) (.no rfl) rfl ?_
                refine j_split 51 rfl (fun h8 => ?_) (fun h8 => ?_)
                · first | (with_reducible replace h8 := of_decide_eq_true h8) | skip
                  refine j_off rfl rfl rfl (by decide) rfl ?_
                  refine j_off rfl rfl rfl (by decide) rfl ?_
                  refine jv (v_pickt rfl rfl) (.no rfl) rfl ?_
                  refine jv (v_move rfl) (.no rfl) rfl ?_
                  refine j_off rfl rfl rfl (by decide) rfl ?_
                  refine j_off rfl rfl rfl (by decide) rfl ?_
                  refine j_off rfl rfl rfl (by decide) rfl ?_
                  refine j_off rfl rfl rfl (by decide) rfl ?_
                  refine jv (v_pickt rfl rfl) (.no rfl) rfl ?_
                  refine jo_nil ?_
                  refine je_next ?_
                  refine j_ift rfl ?_
                  refine j_seq ?_
                  refine j_region ?_
                  refine jv (v_assign rfl) (.no rfl) rfl ?_
                  refine jo_nil ?_
                  refine je_next ?_
                  refine j_ret ?_
                  refine je_then (by simp) ?_
                  refine je_then (by simp) ?_
                  refine je_blockr ?_
                  refine je_then (by simp) ?_
                  refine je_then (by simp) ?_
                  refine je_blockr ?_
                  refine je_then (by simp) ?_
                  refine je_ret rfl rfl rfl rfl rfl (rvs := [.tmp 2]) rfl (.cons (.tmp rfl) .nil) () ?_ (fun w h => h.fin mem0) (.inl rfl)
                  first | exact congrArg Value.bool (right6_yes hr3 (by omega) (by omega) hk2) | exact congrArg Value.bool (right6_no hkl (ok_twin htt (by omega) (by omega) y1 y2)) | exact congrArg Value.bool (right6_no hkl (ok_fine_no htt (decide_eq_false (by omega)))) | exact congrArg Value.bool (right6_no hkl (ok_bare_no htf (bare_no (by first | omega | (right; right; right; right; left; assumption) | (right; right; right; right; right; exact fields_not (by assumption)))))) | exact congrArg Value.bool (right6_no3 (by first | (left; simpa using q1) | (right; omega)))
                · first | (with_reducible replace h8 := of_decide_eq_false h8) | skip
                  refine jv (v_field (k' := 4) rfl Try.runUnderlying41 rfl Try.sizeOf4 (by decide) rfl) (.yes rfl rfl rfl) rfl ?_
                  refine jv (v_loadc rfl Try.isAgg4 rfl) (.yes rfl rfl rfl) rfl ?_
                  refine jv (v_pickf rfl rfl) (.no rfl) rfl ?_
                  refine jv (v_move rfl) (.no rfl) rfl ?_
                  refine j_split 55 rfl (fun h9 => ?_) (fun h9 => ?_)
                  · first | (with_reducible replace h9 := of_decide_eq_true h9) | skip
                    refine j_off rfl rfl rfl (by decide) rfl ?_
                    refine j_off rfl rfl rfl (by decide) rfl ?_
                    refine j_off rfl rfl rfl (by decide) rfl ?_
                    refine j_off rfl rfl rfl (by decide) rfl ?_
                    refine jv (v_pickt rfl rfl) (.no rfl) rfl ?_
                    refine jo_nil ?_
                    refine je_next ?_
                    refine j_ift rfl ?_
                    refine j_seq ?_
                    refine j_region ?_
                    refine jv (v_assign rfl) (.no rfl) rfl ?_
                    refine jo_nil ?_
                    refine je_next ?_
                    refine j_ret ?_
                    refine je_then (by simp) ?_
                    refine je_then (by simp) ?_
                    refine je_blockr ?_
                    refine je_then (by simp) ?_
                    refine je_then (by simp) ?_
                    refine je_blockr ?_
                    refine je_then (by simp) ?_
                    refine je_ret rfl rfl rfl rfl rfl (rvs := [.tmp 2]) rfl (.cons (.tmp rfl) .nil) () ?_ (fun w h => h.fin mem0) (.inl rfl)
                    first | exact congrArg Value.bool (right6_yes hr3 (by omega) (by omega) hk2) | exact congrArg Value.bool (right6_no hkl (ok_twin htt (by omega) (by omega) y1 y2)) | exact congrArg Value.bool (right6_no hkl (ok_fine_no htt (decide_eq_false (by omega)))) | exact congrArg Value.bool (right6_no hkl (ok_bare_no htf (bare_no (by first | omega | (right; right; right; right; left; assumption) | (right; right; right; right; right; exact fields_not (by assumption)))))) | exact congrArg Value.bool (right6_no3 (by first | (left; simpa using q1) | (right; omega)))
                  · first | (with_reducible replace h9 := of_decide_eq_false h9) | skip
                    refine jv (v_field (k' := 5) rfl Try.runUnderlying41 rfl Try.sizeOf27 (by decide) rfl) (.yes rfl rfl rfl) rfl ?_
                    refine jv (v_loadc rfl Try.isAgg27 rfl) (.yes rfl rfl rfl) rfl ?_
                    refine jv (v_len rfl FindR.row Try.runUnderlying27) (.yes rfl rfl rfl) rfl ?_
                    refine jv (v_neq rfl rfl) (.yes rfl rfl rfl) rfl ?_
                    refine jv (v_pickf rfl rfl) (.no rfl) rfl ?_
                    refine jo_nil ?_
                    refine je_next ?_
                    refine j_if rfl (fun b6 => ?_) (fun b6 => ?_)
                    · first | (with_reducible replace b6 := of_decide_eq_true b6) | skip
                      refine j_seq ?_
                      refine j_region ?_
                      refine jv (v_assign rfl) (.no rfl) rfl ?_
                      refine jo_nil ?_
                      refine je_next ?_
                      refine j_ret ?_
                      refine je_then (by simp) ?_
                      refine je_then (by simp) ?_
                      refine je_blockr ?_
                      refine je_then (by simp) ?_
                      refine je_then (by simp) ?_
                      refine je_blockr ?_
                      refine je_then (by simp) ?_
                      refine je_ret rfl rfl rfl rfl rfl (rvs := [.tmp 2]) rfl (.cons (.tmp rfl) .nil) () ?_ (fun w h => h.fin mem0) (.inl rfl)
                      first | exact congrArg Value.bool (right6_yes hr3 (by omega) (by omega) hk2) | exact congrArg Value.bool (right6_no hkl (ok_twin htt (by omega) (by omega) y1 y2)) | exact congrArg Value.bool (right6_no hkl (ok_fine_no htt (decide_eq_false (by omega)))) | exact congrArg Value.bool (right6_no hkl (ok_bare_no htf (bare_no (by first | omega | (right; right; right; right; left; assumption) | (right; right; right; right; right; exact fields_not (by assumption)))))) | exact congrArg Value.bool (right6_no3 (by first | (left; simpa using q1) | (right; omega)))
                    · first | (with_reducible replace b6 := of_decide_eq_false b6) | skip
                      refine j_skip ?_
                      refine je_next ?_
                      refine j_exit ?_
                      refine je_then (by simp) ?_
                      refine je_hit ?_
                      refine je_next ?_
                      refine j_region ?_
                      refine jv (v_move rfl) (.no rfl) rfl ?_
                      refine jv (v_add rfl rfl (by omega) (by omega)) (.no rfl) rfl ?_
                      refine jv (v_assign rfl) (.no rfl) rfl ?_
                      refine jo_nil ?_
                      refine je_round (k + 1) (by first | exact ⟨by omega, step_ok hkl hk2 (ok_fine htt hf (by omega) hj2)⟩ | exact ⟨by omega, step_ok hkl hk2 (ok_bare htf (decide_eq_true (by first | exact ⟨by omega, by omega, by omega, by omega, by simp_all, fields_nil (by omega)⟩ | simp_all)))⟩) (by first | omega | (dsimp only; omega)) (lsub rfl (lsub rfl lsub0)) (fun _ h => (((h).del .head).del .head).sub fun p hp => (List.mem_append_right _ (List.mem_append_right _ hp)))
        · first | (with_reducible replace ht := of_decide_eq_false ht) | skip
          refine j_skip ?_
          refine je_next ?_
          refine j_seq ?_
          refine j_seq ?_
          have htt : there cs[k] = true := by simpa using ht
          refine j_region ?_
          refine jv (v_field (k' := 0) rfl Try.runUnderlying41 rfl Try.sizeOf3 (by decide) rfl) (.no rfl) rfl ?_
          refine jv (v_loadc rfl Try.isAgg3 rfl) (.no rfl) rfl ?_
          refine jv (v_lss rfl rfl) (.no rfl) rfl ?_
          refine jv (v_move rfl) (.no rfl) rfl ?_
          refine j_split 64 rfl (fun h11 => ?_) (fun h11 => ?_)
          · first | (with_reducible replace h11 := of_decide_eq_true h11) | skip
            refine j_off rfl rfl rfl (by decide) rfl ?_
            refine j_off rfl rfl rfl (by decide) rfl ?_
            refine j_off rfl rfl rfl (by decide) rfl ?_
            refine j_off rfl rfl rfl (by decide) rfl ?_
            refine j_off rfl rfl rfl (by decide) rfl ?_
            refine jv (v_pickt rfl rfl) (.no rfl) rfl ?_
            refine jv (v_move rfl) (.no rfl) rfl ?_
            refine j_off rfl rfl rfl (by decide) rfl ?_
            refine j_off rfl rfl rfl (by decide) rfl ?_
            refine j_off rfl rfl rfl (by decide) rfl ?_
            refine jv (v_pickt rfl rfl) (.no rfl) rfl ?_
            refine jv (v_move rfl) (.no rfl) rfl ?_
            refine j_off rfl rfl rfl (by decide) rfl ?_
            refine j_off rfl rfl rfl (by decide) rfl ?_
            refine j_off rfl rfl rfl (by decide) rfl ?_
            refine jv (v_pickt rfl rfl) (.no rfl) rfl ?_
            refine jv (v_move rfl) (.no rfl) rfl ?_
            refine j_off rfl rfl rfl (by decide) rfl ?_
            refine j_off rfl rfl rfl (by decide) rfl ?_
            refine j_off rfl rfl rfl (by decide) rfl ?_
            refine jv (v_pickt rfl rfl) (.no rfl) rfl ?_
            refine jv (v_move rfl) (.no rfl) rfl ?_
            refine j_off rfl rfl rfl (by decide) rfl ?_
            refine j_off rfl rfl rfl (by decide) rfl ?_
            refine j_off rfl rfl rfl (by decide) rfl ?_
            refine jv (v_pickt rfl rfl) (.no rfl) rfl ?_
            refine jv (v_move rfl) (.no rfl) rfl ?_
            refine j_off rfl rfl rfl (by decide) rfl ?_
            refine j_off rfl rfl rfl (by decide) rfl ?_
            refine j_off rfl rfl rfl (by decide) rfl ?_
            refine j_off rfl rfl rfl (by decide) rfl ?_
            refine jv (v_pickt rfl rfl) (.no rfl) rfl ?_
            refine jo_nil ?_
            refine je_next ?_
            refine j_ift rfl ?_
            refine j_seq ?_
            refine j_region ?_
            refine jv (v_assign rfl) (.no rfl) rfl ?_
            refine jo_nil ?_
            refine je_next ?_
            refine j_ret ?_
            refine je_then (by simp) ?_
            refine je_blockr ?_
            refine je_then (by simp) ?_
            refine je_then (by simp) ?_
            refine je_blockr ?_
            refine je_then (by simp) ?_
            refine je_ret rfl rfl rfl rfl rfl (rvs := [.tmp 2]) rfl (.cons (.tmp rfl) .nil) () ?_ (fun w h => h.fin mem0) (.inl rfl)
            first | exact congrArg Value.bool (right6_yes hr3 (by omega) (by omega) hk2) | exact congrArg Value.bool (right6_no hkl (ok_twin htt (by omega) (by omega) y1 y2)) | exact congrArg Value.bool (right6_no hkl (ok_fine_no htt (decide_eq_false (by omega)))) | exact congrArg Value.bool (right6_no hkl (ok_bare_no htf (bare_no (by first | omega | (right; right; right; right; left; assumption) | (right; right; right; right; right; exact fields_not (by assumption)))))) | exact congrArg Value.bool (right6_no3 (by first | (left; simpa using q1) | (right; omega)))
          · first | (with_reducible replace h11 := of_decide_eq_false h11) | skip
            refine jv (v_field (k' := 0) rfl Try.runUnderlying41 rfl Try.sizeOf3 (by decide) rfl) (.yes rfl rfl rfl) rfl ?_
            refine jv (v_loadc rfl Try.isAgg3 rfl) (.yes rfl rfl rfl) rfl ?_
            refine jv (v_field (k' := 2) rfl Try.runUnderlying37 rfl Try.sizeOf3 (by decide) rfl) (.yes rfl rfl rfl) rfl ?_
            refine jv (v_loadc rfl Try.isAgg3 rfl) (.yes rfl rfl rfl) rfl ?_
            refine jv (v_gtr rfl rfl) (.yes rfl rfl rfl) rfl ?_
            refine jv (v_pickf rfl rfl) (.no rfl) rfl ?_
            refine jv (v_move rfl) (.no rfl) rfl ?_
            refine j_split 71 rfl (fun h12 => ?_) (fun h12 => ?_)
            · first | (with_reducible replace h12 := of_decide_eq_true h12) | skip
              refine j_off rfl rfl rfl (by decide) rfl ?_
              refine j_off rfl rfl rfl (by decide) rfl ?_
              refine j_off rfl rfl rfl (by decide) rfl ?_
              refine jv (v_pickt rfl rfl) (.no rfl) rfl ?_
              refine jv (v_move rfl) (.no rfl) rfl ?_
              refine j_off rfl rfl rfl (by decide) rfl ?_
              refine j_off rfl rfl rfl (by decide) rfl ?_
              refine j_off rfl rfl rfl (by decide) rfl ?_
              refine jv (v_pickt rfl rfl) (.no rfl) rfl ?_
              refine jv (v_move rfl) (.no rfl) rfl ?_
              refine j_off rfl rfl rfl (by decide) rfl ?_
              refine j_off rfl rfl rfl (by decide) rfl ?_
              refine j_off rfl rfl rfl (by decide) rfl ?_
              refine jv (v_pickt rfl rfl) (.no rfl) rfl ?_
              refine jv (v_move rfl) (.no rfl) rfl ?_
              refine j_off rfl rfl rfl (by decide) rfl ?_
              refine j_off rfl rfl rfl (by decide) rfl ?_
              refine j_off rfl rfl rfl (by decide) rfl ?_
              refine jv (v_pickt rfl rfl) (.no rfl) rfl ?_
              refine jv (v_move rfl) (.no rfl) rfl ?_
              refine j_off rfl rfl rfl (by decide) rfl ?_
              refine j_off rfl rfl rfl (by decide) rfl ?_
              refine j_off rfl rfl rfl (by decide) rfl ?_
              refine j_off rfl rfl rfl (by decide) rfl ?_
              refine jv (v_pickt rfl rfl) (.no rfl) rfl ?_
              refine jo_nil ?_
              refine je_next ?_
              refine j_ift rfl ?_
              refine j_seq ?_
              refine j_region ?_
              refine jv (v_assign rfl) (.no rfl) rfl ?_
              refine jo_nil ?_
              refine je_next ?_
              refine j_ret ?_
              refine je_then (by simp) ?_
              refine je_blockr ?_
              refine je_then (by simp) ?_
              refine je_then (by simp) ?_
              refine je_blockr ?_
              refine je_then (by simp) ?_
              refine je_ret rfl rfl rfl rfl rfl (rvs := [.tmp 2]) rfl (.cons (.tmp rfl) .nil) () ?_ (fun w h => h.fin mem0) (.inl rfl)
              first | exact congrArg Value.bool (right6_yes hr3 (by omega) (by omega) hk2) | exact congrArg Value.bool (right6_no hkl (ok_twin htt (by omega) (by omega) y1 y2)) | exact congrArg Value.bool (right6_no hkl (ok_fine_no htt (decide_eq_false (by omega)))) | exact congrArg Value.bool (right6_no hkl (ok_bare_no htf (bare_no (by first | omega | (right; right; right; right; left; assumption) | (right; right; right; right; right; exact fields_not (by assumption)))))) | exact congrArg Value.bool (right6_no3 (by first | (left; simpa using q1) | (right; omega)))
            · first | (with_reducible replace h12 := of_decide_eq_false h12) | skip
              refine jv (v_field (k' := 1) rfl Try.runUnderlying41 rfl Try.sizeOf3 (by decide) rfl) (.yes rfl rfl rfl) rfl ?_
              refine jv (v_loadc rfl Try.isAgg3 rfl) (.yes rfl rfl rfl) rfl ?_
              refine jv (v_lss rfl rfl) (.yes rfl rfl rfl) rfl ?_
              refine jv (v_pickf rfl rfl) (.no rfl) rfl ?_
              refine jv (v_move rfl) (.no rfl) rfl ?_
              refine j_split 76 rfl (fun h13 => ?_) (fun h13 => ?_)
              · first | (with_reducible replace h13 := of_decide_eq_true h13) | skip
                refine j_off rfl rfl rfl (by decide) rfl ?_
                refine j_off rfl rfl rfl (by decide) rfl ?_
                refine j_off rfl rfl rfl (by decide) rfl ?_
                refine jv (v_pickt rfl rfl) (.no rfl) rfl ?_
                refine jv (v_move rfl) (.no rfl) rfl ?_
                refine j_off rfl rfl rfl (by decide) rfl ?_
                refine j_off rfl rfl rfl (by decide) rfl ?_
                refine j_off rfl rfl rfl (by decide) rfl ?_
                refine jv (v_pickt rfl rfl) (.no rfl) rfl ?_
                refine jv (v_move rfl) (.no rfl) rfl ?_
                refine j_off rfl rfl rfl (by decide) rfl ?_
                refine j_off rfl rfl rfl (by decide) rfl ?_
                refine j_off rfl rfl rfl (by decide) rfl ?_
                refine jv (v_pickt rfl rfl) (.no rfl) rfl ?_
                refine jv (v_move rfl) (.no rfl) rfl ?_
                refine j_off rfl rfl rfl (by decide) rfl ?_
                refine j_off rfl rfl rfl (by decide) rfl ?_
                refine j_off rfl rfl rfl (by decide) rfl ?_
                refine j_off rfl rfl rfl (by decide) rfl ?_
                refine jv (v_pickt rfl rfl) (.no rfl) rfl ?_
                refine jo_nil ?_
                refine je_next ?_
                refine j_ift rfl ?_
                refine j_seq ?_
                refine j_region ?_
                refine jv (v_assign rfl) (.no rfl) rfl ?_
                refine jo_nil ?_
                refine je_next ?_
                refine j_ret ?_
                refine je_then (by simp) ?_
                refine je_blockr ?_
                refine je_then (by simp) ?_
                refine je_then (by simp) ?_
                refine je_blockr ?_
                refine je_then (by simp) ?_
                refine je_ret rfl rfl rfl rfl rfl (rvs := [.tmp 2]) rfl (.cons (.tmp rfl) .nil) () ?_ (fun w h => h.fin mem0) (.inl rfl)
                first | exact congrArg Value.bool (right6_yes hr3 (by omega) (by omega) hk2) | exact congrArg Value.bool (right6_no hkl (ok_twin htt (by omega) (by omega) y1 y2)) | exact congrArg Value.bool (right6_no hkl (ok_fine_no htt (decide_eq_false (by omega)))) | exact congrArg Value.bool (right6_no hkl (ok_bare_no htf (bare_no (by first | omega | (right; right; right; right; left; assumption) | (right; right; right; right; right; exact fields_not (by assumption)))))) | exact congrArg Value.bool (right6_no3 (by first | (left; simpa using q1) | (right; omega)))
              · first | (with_reducible replace h13 := of_decide_eq_false h13) | skip
                refine jv (v_field (k' := 2) rfl Try.runUnderlying41 rfl Try.sizeOf3 (by decide) rfl) (.yes rfl rfl rfl) rfl ?_
                refine jv (v_loadc rfl Try.isAgg3 rfl) (.yes rfl rfl rfl) rfl ?_
                refine jv (v_lss rfl rfl) (.yes rfl rfl rfl) rfl ?_
                refine jv (v_pickf rfl rfl) (.no rfl) rfl ?_
                refine jv (v_move rfl) (.no rfl) rfl ?_
                refine j_split 81 rfl (fun h14 => ?_) (fun h14 => ?_)
                · first | (with_reducible replace h14 := of_decide_eq_true h14) | skip
                  refine j_off rfl rfl rfl (by decide) rfl ?_
                  refine j_off rfl rfl rfl (by decide) rfl ?_
                  refine j_off rfl rfl rfl (by decide) rfl ?_
                  refine jv (v_pickt rfl rfl) (.no rfl) rfl ?_
                  refine jv (v_move rfl) (.no rfl) rfl ?_
                  refine j_off rfl rfl rfl (by decide) rfl ?_
                  refine j_off rfl rfl rfl (by decide) rfl ?_
                  refine j_off rfl rfl rfl (by decide) rfl ?_
                  refine jv (v_pickt rfl rfl) (.no rfl) rfl ?_
                  refine jv (v_move rfl) (.no rfl) rfl ?_
                  refine j_off rfl rfl rfl (by decide) rfl ?_
                  refine j_off rfl rfl rfl (by decide) rfl ?_
                  refine j_off rfl rfl rfl (by decide) rfl ?_
                  refine j_off rfl rfl rfl (by decide) rfl ?_
                  refine jv (v_pickt rfl rfl) (.no rfl) rfl ?_
                  refine jo_nil ?_
                  refine je_next ?_
                  refine j_ift rfl ?_
                  refine j_seq ?_
                  refine j_region ?_
                  refine jv (v_assign rfl) (.no rfl) rfl ?_
                  refine jo_nil ?_
                  refine je_next ?_
                  refine j_ret ?_
                  refine je_then (by simp) ?_
                  refine je_blockr ?_
                  refine je_then (by simp) ?_
                  refine je_then (by simp) ?_
                  refine je_blockr ?_
                  refine je_then (by simp) ?_
                  refine je_ret rfl rfl rfl rfl rfl (rvs := [.tmp 2]) rfl (.cons (.tmp rfl) .nil) () ?_ (fun w h => h.fin mem0) (.inl rfl)
                  first | exact congrArg Value.bool (right6_yes hr3 (by omega) (by omega) hk2) | exact congrArg Value.bool (right6_no hkl (ok_twin htt (by omega) (by omega) y1 y2)) | exact congrArg Value.bool (right6_no hkl (ok_fine_no htt (decide_eq_false (by omega)))) | exact congrArg Value.bool (right6_no hkl (ok_bare_no htf (bare_no (by first | omega | (right; right; right; right; left; assumption) | (right; right; right; right; right; exact fields_not (by assumption)))))) | exact congrArg Value.bool (right6_no3 (by first | (left; simpa using q1) | (right; omega)))
                · first | (with_reducible replace h14 := of_decide_eq_false h14) | skip
                  refine jv (v_field (k' := 3) rfl Try.runUnderlying41 rfl Try.sizeOf3 (by decide) rfl) (.yes rfl rfl rfl) rfl ?_
                  refine jv (v_loadc rfl Try.isAgg3 rfl) (.yes rfl rfl rfl) rfl ?_
                  refine jv (v_lss rfl rfl) (.yes rfl rfl rfl) rfl ?_
                  refine jv (v_pickf rfl rfl) (.no rfl) rfl ?_
                  refine jv (v_move rfl) (.no rfl) rfl ?_
                  refine j_split 86 rfl (fun h15 => ?_) (fun h15 => ?_)
                  · first | (with_reducible replace h15 := of_decide_eq_true h15) | skip
                    refine j_off rfl rfl rfl (by decide) rfl ?_
                    refine j_off rfl rfl rfl (by decide) rfl ?_
                    refine j_off rfl rfl rfl (by decide) rfl ?_
                    refine jv (v_pickt rfl rfl) (.no rfl) rfl ?_
                    refine jv (v_move rfl) (.no rfl) rfl ?_
                    refine j_off rfl rfl rfl (by decide) rfl ?_
                    refine j_off rfl rfl rfl (by decide) rfl ?_
                    refine j_off rfl rfl rfl (by decide) rfl ?_
                    refine j_off rfl rfl rfl (by decide) rfl ?_
                    refine jv (v_pickt rfl rfl) (.no rfl) rfl ?_
                    refine jo_nil ?_
                    refine je_next ?_
                    refine j_ift rfl ?_
                    refine j_seq ?_
                    refine j_region ?_
                    refine jv (v_assign rfl) (.no rfl) rfl ?_
                    refine jo_nil ?_
                    refine je_next ?_
                    refine j_ret ?_
                    refine je_then (by simp) ?_
                    refine je_blockr ?_
                    refine je_then (by simp) ?_
                    refine je_then (by simp) ?_
                    refine je_blockr ?_
                    refine je_then (by simp) ?_
                    refine je_ret rfl rfl rfl rfl rfl (rvs := [.tmp 2]) rfl (.cons (.tmp rfl) .nil) () ?_ (fun w h => h.fin mem0) (.inl rfl)
                    first | exact congrArg Value.bool (right6_yes hr3 (by omega) (by omega) hk2) | exact congrArg Value.bool (right6_no hkl (ok_twin htt (by omega) (by omega) y1 y2)) | exact congrArg Value.bool (right6_no hkl (ok_fine_no htt (decide_eq_false (by omega)))) | exact congrArg Value.bool (right6_no hkl (ok_bare_no htf (bare_no (by first | omega | (right; right; right; right; left; assumption) | (right; right; right; right; right; exact fields_not (by assumption)))))) | exact congrArg Value.bool (right6_no3 (by first | (left; simpa using q1) | (right; omega)))
                  · first | (with_reducible replace h15 := of_decide_eq_false h15) | skip
                    refine jv (v_field (k' := 3) rfl Try.runUnderlying41 rfl Try.sizeOf3 (by decide) rfl) (.yes rfl rfl rfl) rfl ?_
                    refine jv (v_loadc rfl Try.isAgg3 rfl) (.yes rfl rfl rfl) rfl ?_
                    refine jv (v_gtr rfl rfl) (.yes rfl rfl rfl) rfl ?_
                    refine jv (v_pickf rfl rfl) (.no rfl) rfl ?_
                    refine jv (v_move rfl) (.no rfl) rfl ?_
                    refine j_split 91 rfl (fun h16 => ?_) (fun h16 => ?_)
                    · first | (with_reducible replace h16 := of_decide_eq_true h16) | skip
                      refine j_off rfl rfl rfl (by decide) rfl ?_
                      refine j_off rfl rfl rfl (by decide) rfl ?_
                      refine j_off rfl rfl rfl (by decide) rfl ?_
                      refine j_off rfl rfl rfl (by decide) rfl ?_
                      refine jv (v_pickt rfl rfl) (.no rfl) rfl ?_
                      refine jo_nil ?_
                      refine je_next ?_
                      refine j_ift rfl ?_
                      refine j_seq ?_
                      refine j_region ?_
                      refine jv (v_assign rfl) (.no rfl) rfl ?_
                      refine jo_nil ?_
                      refine je_next ?_
                      refine j_ret ?_
                      refine je_then (by simp) ?_
                      refine je_blockr ?_
                      refine je_then (by simp) ?_
                      refine je_then (by simp) ?_
                      refine je_blockr ?_
                      refine je_then (by simp) ?_
                      refine je_ret rfl rfl rfl rfl rfl (rvs := [.tmp 2]) rfl (.cons (.tmp rfl) .nil) () ?_ (fun w h => h.fin mem0) (.inl rfl)
                      first | exact congrArg Value.bool (right6_yes hr3 (by omega) (by omega) hk2) | exact congrArg Value.bool (right6_no hkl (ok_twin htt (by omega) (by omega) y1 y2)) | exact congrArg Value.bool (right6_no hkl (ok_fine_no htt (decide_eq_false (by omega)))) | exact congrArg Value.bool (right6_no hkl (ok_bare_no htf (bare_no (by first | omega | (right; right; right; right; left; assumption) | (right; right; right; right; right; exact fields_not (by assumption)))))) | exact congrArg Value.bool (right6_no3 (by first | (left; simpa using q1) | (right; omega)))
                    · first | (with_reducible replace h16 := of_decide_eq_false h16) | skip
                      refine jv (v_field (k' := 5) rfl Try.runUnderlying41 rfl Try.sizeOf27 (by decide) rfl) (.yes rfl rfl rfl) rfl ?_
                      refine jv (v_loadc rfl Try.isAgg27 rfl) (.yes rfl rfl rfl) rfl ?_
                      refine jv (v_len rfl FindR.row Try.runUnderlying27) (.yes rfl rfl rfl) rfl ?_
                      refine jv (v_gtr rfl rfl) (.yes rfl rfl rfl) rfl ?_
                      refine jv (v_pickf rfl rfl) (.no rfl) rfl ?_
                      refine jo_nil ?_
                      refine je_next ?_
                      refine j_if rfl (fun w6 => ?_) (fun w6 => ?_)
                      · first | (with_reducible replace w6 := of_decide_eq_true w6) | skip
                        refine j_seq ?_
                        refine j_region ?_
                        refine jv (v_assign rfl) (.no rfl) rfl ?_
                        refine jo_nil ?_
                        refine je_next ?_
                        refine j_ret ?_
                        refine je_then (by simp) ?_
                        refine je_blockr ?_
                        refine je_then (by simp) ?_
                        refine je_then (by simp) ?_
                        refine je_blockr ?_
                        refine je_then (by simp) ?_
                        refine je_ret rfl rfl rfl rfl rfl (rvs := [.tmp 2]) rfl (.cons (.tmp rfl) .nil) () ?_ (fun w h => h.fin mem0) (.inl rfl)
                        first | exact congrArg Value.bool (right6_yes hr3 (by omega) (by omega) hk2) | exact congrArg Value.bool (right6_no hkl (ok_twin htt (by omega) (by omega) y1 y2)) | exact congrArg Value.bool (right6_no hkl (ok_fine_no htt (decide_eq_false (by omega)))) | exact congrArg Value.bool (right6_no hkl (ok_bare_no htf (bare_no (by first | omega | (right; right; right; right; left; assumption) | (right; right; right; right; right; exact fields_not (by assumption)))))) | exact congrArg Value.bool (right6_no3 (by first | (left; simpa using q1) | (right; omega)))
                      · first | (with_reducible replace w6 := of_decide_eq_false w6) | skip
                        refine j_skip ?_
                        refine je_next ?_
                        refine j_seq ?_
                        have hf : fine serial cs[k].val = true := decide_eq_true (by omega)
                        refine j_region ?_
                        refine jv (v_assign rfl) (.no rfl) rfl ?_
                        refine jo_nil ?_
                        refine je_next ?_
                        refine j_block ?_
                        refine j_loopS (G := Nat) [(1, _), (3, _), (4, _), (5, _), (16, _), (17, _), (18, _), (19, _), (20, _), (23, _), (24, _), (25, _), (26, _), (27, _), (28, _), (29, _), (30, _), (31, _), (32, _), (61, _), (62, _), (63, _), (64, _), (65, _), (66, _), (67, _), (68, _), (69, _), (70, _), (71, _), (72, _), (73, _), (74, _), (75, _), (76, _), (77, _), (78, _), (79, _), (80, _), (81, _), (82, _), (83, _), (84, _), (85, _), (86, _), (87, _), (88, _), (89, _), (90, _), (91, _), (92, _), (93, _), (94, _), (95, _), (96, _)] (fun j t => (6, iV ((j : Nat) : Int)) :: t) (fun j t => t) (fun j => j ≤ k ∧ ∀ d ∈ cs.take j, (!(there d && decide (d.val.serial = cs[k].val.serial))) = true) (fun j => k - j) 0 (by simp) (lsub rfl (lsub rfl (lsub rfl (lsub rfl (lsub rfl (lsub rfl (lsub rfl (lsub rfl (lsub rfl (lsub rfl (lsub rfl (lsub rfl (lsub rfl (lsub rfl (lsub rfl (lsub rfl (lsub rfl (lsub rfl (lsub rfl (lsub rfl (lsub rfl (lsub rfl (lsub rfl (lsub rfl (lsub rfl (lsub rfl (lsub rfl (lsub rfl (lsub rfl (lsub rfl (lsub rfl (lsub rfl (lsub rfl (lsub rfl (lsub rfl (lsub rfl (lsub rfl (lsub rfl (lsub rfl (lsub rfl (lsub rfl (lsub rfl (lsub rfl (lsub rfl (lsub rfl (lsub rfl (lsub rfl (lsub rfl (lsub rfl (lsub rfl (lsub rfl (lsub rfl (lsub rfl (lsub rfl (lsub rfl (lsub rfl lsub0)))))))))))))))))))))))))))))))))))))))))))))))))))))))) rfl (fun j ⟨hj1, hj2⟩ => ?_)
                        refine j_seq ?_
                        refine j_seq ?_
                        refine j_region ?_
                        refine jv (v_move rfl) (.no rfl) rfl ?_
                        refine jv (v_move rfl) (.no rfl) rfl ?_
                        refine jv (v_lss rfl rfl) (.no rfl) rfl ?_
                        refine jo_nil ?_
                        refine je_next ?_
                        refine j_if rfl (fun hj => ?_) (fun hj => ?_)
                        · first | (with_reducible replace hj := of_decide_eq_true hj) | skip
                          refine j_skip ?_
                          refine je_next ?_
                          refine j_seq ?_
                          refine j_block ?_
                          refine j_seq ?_
                          have hjl : j < cs.length := by omega
                          refine j_draw [] mixed ?_
                          refine ja_take 0 rfl (by decide +kernel) (v_field (k' := 0) rfl Try.runUnderlying37 rfl Try.sizeOf35 (by decide) rfl) (.no rfl) rfl ?_
                          refine ja_take 1 rfl (by decide +kernel) (v_loadc rfl Try.isAgg35 rfl) (.no rfl) rfl ?_
                          refine ja_take 2 rfl (by decide +kernel) (v_move rfl) (.no rfl) rfl ?_
                          refine ja_take 3 rfl (by decide +kernel) (v_index rfl rfl FindR.row Try.runUnderlying35 Try.sizeOf83 (by omega) (by omega)) (.no rfl) rfl ?_
                          refine ja_takel 4 rfl (by decide +kernel) (l_eload rfl FindR.row (at_k hjl) (by decide) Try.isAgg83 Try.sizeOf83 (fun _ _ _ h => cell_all h)) (.no rfl) rfl ?_
                          intro v106
                          refine ja_one (i := 5) (by decide +kernel) (jn_q rfl (q_callP (f59_spec) Try.call59 (by rfl) rfl (memc FindS.mem mem0)) (.no rfl) rfl ?_)
                          intro x107
                          refine ja_take 6 rfl (by decide +kernel) (v_move rfl) (.no rfl) rfl ?_
                          refine ja_split 108 rfl (fun y1 => ?_) (fun y1 => ?_)
                          · first | (with_reducible replace y1 := of_decide_eq_true y1) | skip
                            refine ja_take 7 rfl (by decide +kernel) (v_field (k' := 0) rfl Try.runUnderlying37 rfl Try.sizeOf35 (by decide) rfl) (.yes rfl rfl rfl) rfl ?_
                            refine ja_take 8 rfl (by decide +kernel) (v_loadc rfl Try.isAgg35 rfl) (.yes rfl rfl rfl) rfl ?_
                            refine ja_take 9 rfl (by decide +kernel) (v_move rfl) (.yes rfl rfl rfl) rfl ?_
                            refine ja_take 10 rfl (by decide +kernel) (v_index rfl rfl FindR.row Try.runUnderlying35 Try.sizeOf83 (by omega) (by omega)) (.yes rfl rfl rfl) rfl ?_
                            refine ja_take 11 rfl (by decide +kernel) (v_efield (k' := 2) rfl FindR.row (by omega) Try.runUnderlying83 rfl Try.sizeOf41 (by decide) rfl) (.yes rfl rfl rfl) rfl ?_
                            refine ja_take 12 rfl (by decide +kernel) (v_efield (k' := 2) rfl FindR.row (by omega) Try.runUnderlying41 rfl Try.sizeOf3 (by decide) rfl) (.yes rfl rfl rfl) rfl ?_
                            refine ja_take 13 rfl (by decide +kernel) (v_eload rfl FindR.row (at_k hjl) (by decide) Try.isAgg3 (fun _ _ _ h => (cell_at h).elim fun _ h => by rw [h.1]; rfl)) (.yes rfl rfl rfl) rfl ?_
                            refine ja_take 14 rfl (by decide +kernel) (v_field (k' := 0) rfl Try.runUnderlying41 rfl Try.sizeOf3 (by decide) rfl) (.yes rfl rfl rfl) rfl ?_
                            refine ja_take 15 rfl (by decide +kernel) (v_loadc rfl Try.isAgg3 rfl) (.yes rfl rfl rfl) rfl ?_
                            refine ja_take 16 rfl (by decide +kernel) (v_eql rfl rfl) (.yes rfl rfl rfl) rfl ?_
                            refine ja_take 17 rfl (by decide +kernel) (v_pickt rfl rfl) (.no rfl) rfl ?_
                            refine ja_nil (by decide +kernel) ?_
                            refine je_next ?_
                            refine j_if rfl (fun y2 => ?_) (fun y2 => ?_)
                            · first | (with_reducible replace y2 := of_decide_eq_true y2) | skip
                              refine j_seq ?_
                              refine j_region ?_
                              refine jv (v_assign rfl) (.no rfl) rfl ?_
                              refine jo_nil ?_
                              refine je_next ?_
                              refine j_ret ?_
                              refine je_blockr ?_
                              refine je_then (by simp) ?_
                              refine je_then (by simp) ?_
                              refine je_blockr ?_
                              refine je_blockr ?_
                              refine je_then (by simp) ?_
                              refine je_then (by simp) ?_
                              refine je_blockr ?_
                              refine je_then (by simp) ?_
                              refine je_ret rfl rfl rfl rfl rfl (rvs := [.tmp 2]) rfl (.cons (.tmp rfl) .nil) () ?_ (fun w h => h.fin mem0) (.inl rfl)
                              first | exact congrArg Value.bool (right6_yes hr3 (by omega) (by omega) hk2) | exact congrArg Value.bool (right6_no hkl (ok_twin htt (by omega) (by omega) y1 y2)) | exact congrArg Value.bool (right6_no hkl (ok_fine_no htt (decide_eq_false (by omega)))) | exact congrArg Value.bool (right6_no hkl (ok_bare_no htf (bare_no (by first | omega | (right; right; right; right; left; assumption) | (right; right; right; right; right; exact fields_not (by assumption)))))) | exact congrArg Value.bool (right6_no3 (by first | (left; simpa using q1) | (right; omega)))
                            · first | (with_reducible replace y2 := of_decide_eq_false y2) | skip
                              refine j_skip ?_
                              refine je_block ?_
                              refine je_next ?_
                              have hnt : (!(there cs[j] && decide (cs[j].val.serial = cs[k].val.serial))) = true := by simp_all
                              refine j_region ?_
                              refine jv (v_move rfl) (.no rfl) rfl ?_
                              refine jv (v_add rfl rfl (by omega) (by omega)) (.no rfl) rfl ?_
                              refine jv (v_assign rfl) (.no rfl) rfl ?_
                              refine jo_nil ?_
                              refine je_round (j + 1) (⟨by omega, take_mem hjl hj2 hnt⟩) (by first | omega | (dsimp only; omega)) (lsub rfl (lsub rfl (lsub rfl (lsub rfl (lsub rfl (lsub rfl (lsub rfl (lsub rfl (lsub rfl (lsub rfl (lsub rfl (lsub rfl (lsub rfl (lsub rfl (lsub rfl (lsub rfl (lsub rfl (lsub rfl (lsub rfl (lsub rfl (lsub rfl (lsub rfl (lsub rfl (lsub rfl (lsub rfl (lsub rfl (lsub rfl (lsub rfl (lsub rfl (lsub rfl (lsub rfl (lsub rfl (lsub rfl (lsub rfl (lsub rfl (lsub rfl (lsub rfl (lsub rfl (lsub rfl (lsub rfl (lsub rfl (lsub rfl (lsub rfl (lsub rfl (lsub rfl (lsub rfl (lsub rfl (lsub rfl (lsub rfl (lsub rfl (lsub rfl (lsub rfl (lsub rfl (lsub rfl (lsub rfl (lsub rfl lsub0)))))))))))))))))))))))))))))))))))))))))))))))))))))))) (fun _ h => (h).sub fun p hp => (List.mem_append_right _ (List.mem_append_right _ hp)))
                          · first | (with_reducible replace y1 := of_decide_eq_false y1) | skip
                            refine ja_off 7 rfl (by decide +kernel) rfl rfl rfl (by decide) rfl ?_
                            refine ja_off 8 rfl (by decide +kernel) rfl rfl rfl (by decide) rfl ?_
                            refine ja_off 9 rfl (by decide +kernel) rfl rfl rfl (by decide) rfl ?_
                            refine ja_off 10 rfl (by decide +kernel) rfl rfl rfl (by decide) rfl ?_
                            refine ja_off 11 rfl (by decide +kernel) rfl rfl rfl (by decide) rfl ?_
                            refine ja_off 12 rfl (by decide +kernel) rfl rfl rfl (by decide) rfl ?_
                            refine ja_off 13 rfl (by decide +kernel) rfl rfl rfl (by decide) rfl ?_
                            refine ja_off 14 rfl (by decide +kernel) rfl rfl rfl (by decide) rfl ?_
                            refine ja_off 15 rfl (by decide +kernel) rfl rfl rfl (by decide) rfl ?_
                            refine ja_off 16 rfl (by decide +kernel) rfl rfl rfl (by decide) rfl ?_
                            refine ja_take 17 rfl (by decide +kernel) (v_pickf rfl rfl) (.no rfl) rfl ?_
                            refine ja_nil (by decide +kernel) ?_
                            refine je_next ?_
                            refine j_iff rfl ?_
                            refine j_skip ?_
                            refine je_block ?_
                            refine je_next ?_
                            have hnt : (!(there cs[j] && decide (cs[j].val.serial = cs[k].val.serial))) = true := by simp_all
                            refine j_region ?_
                            refine jv (v_move rfl) (.no rfl) rfl ?_
                            refine jv (v_add rfl rfl (by omega) (by omega)) (.no rfl) rfl ?_
                            refine jv (v_assign rfl) (.no rfl) rfl ?_
                            refine jo_nil ?_
                            refine je_round (j + 1) (⟨by omega, take_mem hjl hj2 hnt⟩) (by first | omega | (dsimp only; omega)) (lsub rfl (lsub rfl (lsub rfl (lsub rfl (lsub rfl (lsub rfl (lsub rfl (lsub rfl (lsub rfl (lsub rfl (lsub rfl (lsub rfl (lsub rfl (lsub rfl (lsub rfl (lsub rfl (lsub rfl (lsub rfl (lsub rfl (lsub rfl (lsub rfl (lsub rfl (lsub rfl (lsub rfl (lsub rfl (lsub rfl (lsub rfl (lsub rfl (lsub rfl (lsub rfl (lsub rfl (lsub rfl (lsub rfl (lsub rfl (lsub rfl (lsub rfl (lsub rfl (lsub rfl (lsub rfl (lsub rfl (lsub rfl (lsub rfl (lsub rfl (lsub rfl (lsub rfl (lsub rfl (lsub rfl (lsub rfl (lsub rfl (lsub rfl (lsub rfl (lsub rfl (lsub rfl (lsub rfl (lsub rfl (lsub rfl lsub0)))))))))))))))))))))))))))))))))))))))))))))))))))))))) (fun _ h => (h).sub fun p hp => (List.mem_append_right _ (List.mem_append_right _ hp)))
                        · first | (with_reducible replace hj := of_decide_eq_false hj) | skip
                          refine j_exit ?_
                          refine je_then (by simp) ?_
                          refine je_then (by simp) ?_
                          refine je_hit ?_
                          refine je_block ?_
                          refine je_next ?_
                          refine j_region ?_
                          refine jv (v_move rfl) (.no rfl) rfl ?_
                          refine jv (v_add rfl rfl (by omega) (by omega)) (.no rfl) rfl ?_
                          refine jv (v_assign rfl) (.no rfl) rfl ?_
                          refine jo_nil ?_
                          refine je_round (k + 1) (by first | exact ⟨by omega, step_ok hkl hk2 (ok_fine htt hf (by omega) hj2)⟩ | exact ⟨by omega, step_ok hkl hk2 (ok_bare htf (decide_eq_true (by first | exact ⟨by omega, by omega, by omega, by omega, by simp_all, fields_nil (by omega)⟩ | simp_all)))⟩) (by first | omega | (dsimp only; omega)) (lsub rfl (lsub rfl lsub0)) (fun _ h => (((h).del .head).del .head).sub fun p hp => (List.mem_append_right _ (List.mem_append_right _ hp)))
      · first | (with_reducible replace hc := of_decide_eq_false hc) | skip
        refine j_exit ?_
        refine je_then (by simp) ?_
        refine je_then (by simp) ?_
        refine je_hit ?_
        refine je_next ?_
        refine j_seq ?_
        refine j_region ?_
        refine jv (v_assign rfl) (.no rfl) rfl ?_
        refine jo_nil ?_
        refine je_next ?_
        refine j_ret ?_
        refine je_ret rfl rfl rfl rfl rfl (rvs := [.tmp 2]) rfl (.cons (.tmp rfl) .nil) () ?_ (fun w h => h.fin mem0) (.inl rfl)
        first | exact congrArg Value.bool (right6_yes hr3 (by omega) (by omega) hk2) | exact congrArg Value.bool (right6_no hkl (ok_twin htt (by omega) (by omega) y1 y2)) | exact congrArg Value.bool (right6_no hkl (ok_fine_no htt (decide_eq_false (by omega)))) | exact congrArg Value.bool (right6_no hkl (ok_bare_no htf (bare_no (by first | omega | (right; right; right; right; left; assumption) | (right; right; right; right; right; exact fields_not (by assumption)))))) | exact congrArg Value.bool (right6_no3 (by first | (left; simpa using q1) | (right; omega)))

theorem f61_spec {n last : Int} : Spec Try.prog 61 [iV n, iV last] [] [] Value (fun v => slabA v (newLast n last)) (fun _ => []) (fun v => [sl cellK v (newC n last)]) := by
  refine spec_of Try.func61 rfl Try.ntmps61 (by simp) fun ok w => ?_
  refine j_seq ?_
  refine j_region ?_
  refine jx (x_alloc Try.zeroValue24 Cells.agg) (.no rfl) rfl ?_
  intro B4
  refine jo_nil ?_
  refine je_next ?_
  refine j_seq ?_
  refine j_seq ?_
  refine j_region ?_
  refine jv (v_move rfl) (.no rfl) rfl ?_
  refine jv (v_lss rfl rfl) (.no rfl) rfl ?_
  refine jv (v_move rfl) (.no rfl) rfl ?_
  refine j_split 7 rfl (fun h1 => ?_) (fun h1 => ?_)
  · first | (with_reducible replace h1 := of_decide_eq_true h1) | skip
    refine j_off rfl rfl rfl (by decide) rfl ?_
    refine j_off rfl rfl rfl (by decide) rfl ?_
    refine jv (v_pickt rfl rfl) (.no rfl) rfl ?_
    refine jv (v_move rfl) (.no rfl) rfl ?_
    refine j_off rfl rfl rfl (by decide) rfl ?_
    refine j_off rfl rfl rfl (by decide) rfl ?_
    refine jv (v_pickt rfl rfl) (.no rfl) rfl ?_
    refine jv (v_move rfl) (.no rfl) rfl ?_
    refine j_off rfl rfl rfl (by decide) rfl ?_
    refine j_off rfl rfl rfl (by decide) rfl ?_
    refine jv (v_pickt rfl rfl) (.no rfl) rfl ?_
    refine jo_nil ?_
    refine je_next ?_
    refine j_ift rfl ?_
    refine j_seq ?_
    refine j_region ?_
    refine jv (v_loadAc (vs := [_, _]) rfl Try.isAgg24 Try.sizeOf24 rfl rfl) (.no rfl) rfl ?_
    refine jx (x_storec (cs' := [_, _]) rfl rfl rfl Try.sizeOf24 rfl rfl) (.no rfl) rfl ?_
    intro _
    refine jo_nil ?_
    refine je_next ?_
    refine j_ret ?_
    refine je_then (by simp) ?_
    have e : ¬ newOk n last = true := by rw [new_no (by omega)]; simp
    refine je_ret rfl rfl rfl rfl rfl (rvs := [.cell 4 24]) rfl (.cons (.agg (vs := [_, _]) rfl FindB.mem Try.isAgg24 Try.sizeOf24 rfl rfl) .nil) (.slice none 0 0) ?_ (fun w h => (h.nilS (A := none) cellK).fin (by unfold newC; rw [if_neg e]; exact memc FindS.mem mem0)) (.inl rfl)
    rw [show newLast n last = 0 from if_neg e]; rfl
  · first | (with_reducible replace h1 := of_decide_eq_false h1) | skip
    refine jv (v_move rfl) (.yes rfl rfl rfl) rfl ?_
    refine jv (v_gtr rfl rfl) (.yes rfl rfl rfl) rfl ?_
    refine jv (v_pickf rfl rfl) (.no rfl) rfl ?_
    refine jv (v_move rfl) (.no rfl) rfl ?_
    refine j_split 11 rfl (fun h2 => ?_) (fun h2 => ?_)
    · first | (with_reducible replace h2 := of_decide_eq_true h2) | skip
      refine j_off rfl rfl rfl (by decide) rfl ?_
      refine j_off rfl rfl rfl (by decide) rfl ?_
      refine jv (v_pickt rfl rfl) (.no rfl) rfl ?_
      refine jv (v_move rfl) (.no rfl) rfl ?_
      refine j_off rfl rfl rfl (by decide) rfl ?_
      refine j_off rfl rfl rfl (by decide) rfl ?_
      refine jv (v_pickt rfl rfl) (.no rfl) rfl ?_
      refine jo_nil ?_
      refine je_next ?_
      refine j_ift rfl ?_
      refine j_seq ?_
      refine j_region ?_
      refine jv (v_loadAc (vs := [_, _]) rfl Try.isAgg24 Try.sizeOf24 rfl rfl) (.no rfl) rfl ?_
      refine jx (x_storec (cs' := [_, _]) rfl rfl rfl Try.sizeOf24 rfl rfl) (.no rfl) rfl ?_
      intro _
      refine jo_nil ?_
      refine je_next ?_
      refine j_ret ?_
      refine je_then (by simp) ?_
      have e : ¬ newOk n last = true := by rw [new_no (by omega)]; simp
      refine je_ret rfl rfl rfl rfl rfl (rvs := [.cell 4 24]) rfl (.cons (.agg (vs := [_, _]) rfl FindB.mem Try.isAgg24 Try.sizeOf24 rfl rfl) .nil) (.slice none 0 0) ?_ (fun w h => (h.nilS (A := none) cellK).fin (by unfold newC; rw [if_neg e]; exact memc FindS.mem mem0)) (.inl rfl)
      rw [show newLast n last = 0 from if_neg e]; rfl
    · first | (with_reducible replace h2 := of_decide_eq_false h2) | skip
      refine jv (v_move rfl) (.yes rfl rfl rfl) rfl ?_
      refine jv (v_lss rfl rfl) (.yes rfl rfl rfl) rfl ?_
      refine jv (v_pickf rfl rfl) (.no rfl) rfl ?_
      refine jv (v_move rfl) (.no rfl) rfl ?_
      refine j_split 15 rfl (fun h3 => ?_) (fun h3 => ?_)
      · first | (with_reducible replace h3 := of_decide_eq_true h3) | skip
        refine j_off rfl rfl rfl (by decide) rfl ?_
        refine j_off rfl rfl rfl (by decide) rfl ?_
        refine jv (v_pickt rfl rfl) (.no rfl) rfl ?_
        refine jo_nil ?_
        refine je_next ?_
        refine j_ift rfl ?_
        refine j_seq ?_
        refine j_region ?_
        refine jv (v_loadAc (vs := [_, _]) rfl Try.isAgg24 Try.sizeOf24 rfl rfl) (.no rfl) rfl ?_
        refine jx (x_storec (cs' := [_, _]) rfl rfl rfl Try.sizeOf24 rfl rfl) (.no rfl) rfl ?_
        intro _
        refine jo_nil ?_
        refine je_next ?_
        refine j_ret ?_
        refine je_then (by simp) ?_
        have e : ¬ newOk n last = true := by rw [new_no (by omega)]; simp
        refine je_ret rfl rfl rfl rfl rfl (rvs := [.cell 4 24]) rfl (.cons (.agg (vs := [_, _]) rfl FindB.mem Try.isAgg24 Try.sizeOf24 rfl rfl) .nil) (.slice none 0 0) ?_ (fun w h => (h.nilS (A := none) cellK).fin (by unfold newC; rw [if_neg e]; exact memc FindS.mem mem0)) (.inl rfl)
        rw [show newLast n last = 0 from if_neg e]; rfl
      · first | (with_reducible replace h3 := of_decide_eq_false h3) | skip
        refine jv (v_move rfl) (.yes rfl rfl rfl) rfl ?_
        refine jv (v_gtr rfl rfl) (.yes rfl rfl rfl) rfl ?_
        refine jv (v_pickf rfl rfl) (.no rfl) rfl ?_
        refine jo_nil ?_
        refine je_next ?_
        refine j_if rfl (fun h4 => ?_) (fun h4 => ?_)
        · first | (with_reducible replace h4 := of_decide_eq_true h4) | skip
          refine j_seq ?_
          refine j_region ?_
          refine jv (v_loadAc (vs := [_, _]) rfl Try.isAgg24 Try.sizeOf24 rfl rfl) (.no rfl) rfl ?_
          refine jx (x_storec (cs' := [_, _]) rfl rfl rfl Try.sizeOf24 rfl rfl) (.no rfl) rfl ?_
          intro _
          refine jo_nil ?_
          refine je_next ?_
          refine j_ret ?_
          refine je_then (by simp) ?_
          have e : ¬ newOk n last = true := by rw [new_no (by omega)]; simp
          refine je_ret rfl rfl rfl rfl rfl (rvs := [.cell 4 24]) rfl (.cons (.agg (vs := [_, _]) rfl FindB.mem Try.isAgg24 Try.sizeOf24 rfl rfl) .nil) (.slice none 0 0) ?_ (fun w h => (h.nilS (A := none) cellK).fin (by unfold newC; rw [if_neg e]; exact memc FindS.mem mem0)) (.inl rfl)
          rw [show newLast n last = 0 from if_neg e]; rfl
        · first | (with_reducible replace h4 := of_decide_eq_false h4) | skip
          refine j_skip ?_
          refine je_next ?_
          refine j_seq ?_
          refine j_region ?_
          refine jv (v_move rfl) (.no rfl) rfl ?_
          refine jx (x_make (K := cellK) zeroCell rfl rfl (by omega) (by omega) Try.runUnderlying22 Try.sizeOf81 Try.zeroValue81 Cells.agg Try.typeInfo81 (by decide) (by decide) (fun _ _ => ⟨_, rfl, Sl.nil⟩)) (.no rfl) rfl ?_
          intro v21
          refine jv (v_move rfl) (.no rfl) rfl ?_
          refine jv (v_build1 _ rfl b24) (.no rfl) rfl ?_
          refine jx (x_storec (cs' := [_, _]) rfl rfl rfl Try.sizeOf24 rfl rfl) (.no rfl) rfl ?_
          intro _
          refine jo_nil ?_
          refine je_next ?_
          refine j_ret ?_
          have e := new_yes (n := n) (last := last) (by omega)
          refine je_ret rfl rfl rfl rfl rfl (rvs := [.cell 4 24]) rfl (.cons (.agg (vs := [_, _]) rfl FindB.mem Try.isAgg24 Try.sizeOf24 rfl rfl) .nil) v21 ?_ (fun w h => (h.freeze0 .head).fin (by unfold newC; rw [if_pos e]; exact memc FindS.mem mem0)) (.inl rfl)
          rw [show newLast n last = last from if_pos e]; rfl

theorem f25_spec {n last : Int} : Spec Try.prog 25 [iV n, iV last] [] [] Value (fun v => stA v (newLast n last) 0) (fun _ => []) (fun v => [sl cellK v (newC n last)]) := by
  refine spec_of Try.func25 rfl Try.ntmps25 (by simp) fun ok w => ?_
  refine j_seq ?_
  refine j_region ?_
  refine jx (x_alloc Try.zeroValue26 Cells.agg) (.no rfl) rfl ?_
  intro B4
  refine jo_nil ?_
  refine je_next ?_
  refine j_seq ?_
  refine j_region ?_
  refine jv (v_move rfl) (.no rfl) rfl ?_
  refine jv (v_move rfl) (.no rfl) rfl ?_
  refine jq (q_callP (f61_spec) Try.call61 (by rfl) rfl mem0) (.no rfl) rfl ?_
  intro u7
  refine jv (v_build1 _ rfl b26b) (.no rfl) rfl ?_
  refine jx (x_storec (cs' := [_, _, _]) rfl rfl rfl Try.sizeOf26 rfl rfl) (.no rfl) rfl ?_
  intro _
  refine jo_nil ?_
  refine je_next ?_
  refine j_ret ?_
  refine je_ret rfl rfl rfl rfl rfl (rvs := [.cell 4 26]) rfl (.cons (.agg (vs := [_, _, _]) rfl FindB.mem Try.isAgg26 Try.sizeOf26 rfl rfl) .nil) u7 ?_ (fun w h => h.fin (memc FindS.mem mem0)) (.inl rfl)
  rfl

theorem f14_spec {v : Value} {cs : List Cell} {last serial : Int} : Spec Try.prog 14 [stA v last serial] [] [sl cellK v cs] Unit (fun _ => .bool (rightL cs last serial)) (fun _ => []) (fun _ => []) := by
  refine spec_of Try.func14 rfl Try.ntmps14 (by simp) fun ok w => ?_
  refine j_seq ?_
  refine j_region ?_
  refine jx (x_boxc rfl) (.no rfl) rfl ?_
  intro B1
  refine jv (v_assign rfl) (.no rfl) rfl ?_
  refine jo_nil ?_
  refine je_next ?_
  refine j_seq ?_
  refine j_region ?_
  refine jv (v_loadAc (vs := [_, _, _]) rfl Try.isAgg26 Try.sizeOf26 rfl rfl) (.no rfl) rfl ?_
  refine jq (q_callP (f24_spec) Try.call24 (by rfl) rfl (memc FindS.mem mem0)) (.no rfl) rfl ?_
  intro x4
  refine jv (v_move rfl) (.no rfl) rfl ?_
  refine j_split 5 rfl (fun r1 => ?_) (fun r1 => ?_)
  · first | (with_reducible replace r1 := of_decide_eq_true r1) | skip
    refine jv (v_field (k' := 2) rfl Try.runUnderlying26 rfl Try.sizeOf3 (by decide) rfl) (.yes rfl rfl rfl) rfl ?_
    refine jv (v_loadc rfl Try.isAgg3 rfl) (.yes rfl rfl rfl) rfl ?_
    refine jv (v_lss rfl rfl) (.yes rfl rfl rfl) rfl ?_
    refine jv (v_pickt rfl rfl) (.no rfl) rfl ?_
    refine jv (v_move rfl) (.no rfl) rfl ?_
    refine j_split 10 rfl (fun r2 => ?_) (fun r2 => ?_)
    · first | (with_reducible replace r2 := of_decide_eq_true r2) | skip
      have hn := small_le r1
      refine jv (v_loadAc (vs := [_, _, _]) rfl Try.isAgg26 Try.sizeOf26 rfl rfl) (.yes rfl rfl rfl) rfl ?_
      refine jq (q_callP (f18_spec (by omega)) Try.call18 (by rfl) rfl (memc FindS.mem mem0)) (.yes rfl rfl rfl) rfl ?_
      intro u12
      refine jq (q_callP (f21_spec (by omega)) Try.call21 (by rfl) rfl (memc FindS.mem mem0)) (.yes rfl rfl rfl) rfl ?_
      intro x13
      refine jv (v_pickt rfl rfl) (.no rfl) rfl ?_
      refine jv (v_assign rfl) (.no rfl) rfl ?_
      refine jo_nil ?_
      refine je_next ?_
      refine j_ret ?_
      refine je_ret rfl rfl rfl rfl rfl (rvs := [.tmp 2]) rfl (.cons (.tmp rfl) .nil) () ?_ (fun w h => h.fin mem0) (.inl rfl)
      first | (simp_all [resVal, rightL]; done) | (simp [resVal, rightL, *]; done) | (simp [resVal, rightL, *]; intros; omega)
    · first | (with_reducible replace r2 := of_decide_eq_false r2) | skip
      refine j_off rfl rfl rfl (by decide) rfl ?_
      refine j_off rfl rfl rfl (by decide) rfl ?_
      refine j_off rfl rfl rfl (by decide) rfl ?_
      refine jv (v_pickf rfl rfl) (.no rfl) rfl ?_
      refine jv (v_assign rfl) (.no rfl) rfl ?_
      refine jo_nil ?_
      refine je_next ?_
      refine j_ret ?_
      refine je_ret rfl rfl rfl rfl rfl (rvs := [.tmp 2]) rfl (.cons (.tmp rfl) .nil) () ?_ (fun w h => h.fin mem0) (.inl rfl)
      first | (simp_all [resVal, rightL]; done) | (simp [resVal, rightL, *]; done) | (simp [resVal, rightL, *]; intros; omega)
  · first | (with_reducible replace r1 := of_decide_eq_false r1) | skip
    refine j_off rfl rfl rfl (by decide) rfl ?_
    refine j_off rfl rfl rfl (by decide) rfl ?_
    refine j_off rfl rfl rfl (by decide) rfl ?_
    refine jv (v_pickf rfl rfl) (.no rfl) rfl ?_
    refine jv (v_move rfl) (.no rfl) rfl ?_
    refine j_off rfl rfl rfl (by decide) rfl ?_
    refine j_off rfl rfl rfl (by decide) rfl ?_
    refine j_off rfl rfl rfl (by decide) rfl ?_
    refine jv (v_pickf rfl rfl) (.no rfl) rfl ?_
    refine jv (v_assign rfl) (.no rfl) rfl ?_
    refine jo_nil ?_
    refine je_next ?_
    refine j_ret ?_
    refine je_ret rfl rfl rfl rfl rfl (rvs := [.tmp 2]) rfl (.cons (.tmp rfl) .nil) () ?_ (fun w h => h.fin mem0) (.inl rfl)
    first | (simp_all [resVal, rightL]; done) | (simp [resVal, rightL, *]; done) | (simp [resVal, rightL, *]; intros; omega)

end Go.Proofs.Ytjgacbopccfecaa
