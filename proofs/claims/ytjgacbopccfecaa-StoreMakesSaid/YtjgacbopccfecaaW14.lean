/-
  Walks: function 3, function 4, function 5, function 6.
-/
import Derived.Test.YtjgacbopccfecaaZ
import Derived.Test.YtjgacbopccfecaaW1
import Derived.Test.YtjgacbopccfecaaW2
import Derived.Test.YtjgacbopccfecaaW3
import Derived.Test.YtjgacbopccfecaaW4
import Derived.Test.YtjgacbopccfecaaW5
import Derived.Test.YtjgacbopccfecaaW7
import Derived.Test.YtjgacbopccfecaaW8
import Derived.Test.YtjgacbopccfecaaW13
set_option maxRecDepth 100000
set_option linter.unusedVariables false
set_option linter.unusedSimpArgs false
namespace Go.Proofs.Ytjgacbopccfecaa

theorem f3_spec {v f : Value} {cs : List Cell} {last serial h : Int} {o : Obj} : Spec Try.prog 3 [stA v last serial, iV h, objA o f] [] [sl cellK v cs, sl intK f o.fields] Unit (fun _ => .bool true) (fun _ => []) (fun _ => []) := by
  refine spec_of Try.func3 rfl Try.ntmps3 (by simp) fun ok w => ?_
  refine j_seq ?_
  refine j_region ?_
  refine jx (x_boxc rfl) (.no rfl) rfl ?_
  intro B3
  refine jx (x_boxc rfl) (.no rfl) rfl ?_
  intro B5
  refine jv (v_assign rfl) (.no rfl) rfl ?_
  refine jo_nil ?_
  refine je_next ?_
  refine j_seq ?_
  refine j_seq ?_
  refine j_region ?_
  refine jv (v_loadAc (vs := [_, _, _]) rfl Try.isAgg26 Try.sizeOf26 rfl rfl) (.no rfl) rfl ?_
  refine jq (q_callP (f14_spec) Try.call14 (by rfl) rfl (memc FindS.mem mem0)) (.no rfl) rfl ?_
  intro x16
  refine jv (v_not rfl) (.no rfl) rfl ?_
  refine jv (v_move rfl) (.no rfl) rfl ?_
  refine j_split 18 rfl (fun r1 => ?_) (fun r1 => ?_)
  · first | (with_reducible replace r1 := of_decide_eq_true r1) | skip
    refine j_off rfl rfl rfl (by decide) rfl ?_
    refine j_off rfl rfl rfl (by decide) rfl ?_
    refine j_off rfl rfl rfl (by decide) rfl ?_
    refine j_off rfl rfl rfl (by decide) rfl ?_
    refine jv (v_pickt rfl rfl) (.no rfl) rfl ?_
    refine jv (v_move rfl) (.no rfl) rfl ?_
    refine j_off rfl rfl rfl (by decide) rfl ?_
    refine j_off rfl rfl rfl (by decide) rfl ?_
    refine jv (v_pickt rfl rfl) (.no rfl) rfl ?_
    refine jo_nil ?_
    refine je_next ?_
    refine j_ift rfl ?_
    refine j_seq ?_
    refine j_region ?_
    refine jq (q_callP (f15_spec) Try.call15 (by rfl) rfl mem0) (.no rfl) rfl ?_
    intro x28
    refine jv (v_assign rfl) (.no rfl) rfl ?_
    refine jo_nil ?_
    refine je_next ?_
    refine j_ret ?_
    refine je_then (by simp) ?_
    refine je_ret rfl rfl rfl rfl rfl (rvs := [.tmp 6]) rfl (.cons (.tmp rfl) .nil) () ?_ (fun w h => h.fin mem0) (.inl rfl)
    first | rfl | exact congrArg Value.bool (decide_eq_true e3)
  · first | (with_reducible replace r1 := of_decide_eq_false r1) | skip
    refine jv (v_field (k' := 5) rfl Try.runUnderlying29 rfl Try.sizeOf27 (by decide) rfl) (.yes rfl rfl rfl) rfl ?_
    refine jv (v_loadc rfl Try.isAgg27 rfl) (.yes rfl rfl rfl) rfl ?_
    refine jv (v_len rfl FindR.row Try.runUnderlying27) (.yes rfl rfl rfl) rfl ?_
    refine jv (v_gtr rfl rfl) (.yes rfl rfl rfl) rfl ?_
    refine jv (v_pickf rfl rfl) (.no rfl) rfl ?_
    refine jv (v_move rfl) (.no rfl) rfl ?_
    refine j_split 24 rfl (fun h2 => ?_) (fun h2 => ?_)
    · first | (with_reducible replace h2 := of_decide_eq_true h2) | skip
      refine j_off rfl rfl rfl (by decide) rfl ?_
      refine j_off rfl rfl rfl (by decide) rfl ?_
      refine jv (v_pickt rfl rfl) (.no rfl) rfl ?_
      refine jo_nil ?_
      refine je_next ?_
      refine j_ift rfl ?_
      refine j_seq ?_
      refine j_region ?_
      refine jq (q_callP (f15_spec) Try.call15 (by rfl) rfl mem0) (.no rfl) rfl ?_
      intro x28
      refine jv (v_assign rfl) (.no rfl) rfl ?_
      refine jo_nil ?_
      refine je_next ?_
      refine j_ret ?_
      refine je_then (by simp) ?_
      refine je_ret rfl rfl rfl rfl rfl (rvs := [.tmp 6]) rfl (.cons (.tmp rfl) .nil) () ?_ (fun w h => h.fin mem0) (.inl rfl)
      first | rfl | exact congrArg Value.bool (decide_eq_true e3)
    · first | (with_reducible replace h2 := of_decide_eq_false h2) | skip
      refine jq (q_callP (f15_spec) Try.call15 (by rfl) rfl mem0) (.yes rfl rfl rfl) rfl ?_
      intro x25
      refine jv (v_not rfl) (.yes rfl rfl rfl) rfl ?_
      refine jv (v_pickf rfl rfl) (.no rfl) rfl ?_
      refine jo_nil ?_
      refine je_next ?_
      refine j_iff rfl ?_
      refine j_skip ?_
      refine je_next ?_
      refine j_seq ?_
      obtain ⟨hsm, hser, hr⟩ := rightL_parts (by simpa using r1)
      have hn := small_le hsm
      have hI := right6_gen hr
      have gs := right6_gens hr
      obtain ⟨hn24, hl0, hl9, hs0, hgen, hcell⟩ := right6_parts hr
      obtain ⟨hset, hse⟩ := set_same (h := h) (o := o) hr
      refine j_region ?_
      refine jv (v_loadAc (vs := [_, _, _]) rfl Try.isAgg26 Try.sizeOf26 rfl rfl) (.no rfl) rfl ?_
      refine jv (v_move rfl) (.no rfl) rfl ?_
      refine jv (v_loadAc (vs := [_, _, _, _, _, _]) rfl Try.isAgg29 Try.sizeOf29 rfl rfl) (.no rfl) rfl ?_
      refine jq (q_callP (f16_spec (by omega) hI) Try.call16 (by rfl) rfl (memc FindS.mem (memc FindS.mem mem0))) (.no rfl) rfl ?_
      intro u33
      refine jv (v_move rfl) (.no rfl) rfl ?_
      refine jv (v_ext rfl rfl) (.no rfl) rfl ?_
      refine jv (v_ext rfl rfl) (.no rfl) rfl ?_
      refine jx (x_alloc Try.zeroValue26 Cells.agg) (.no rfl) rfl ?_
      intro B7
      refine jx (x_storec (cs' := [_, _, _]) rfl rfl rfl Try.sizeOf26 rfl rfl) (.no rfl) rfl ?_
      intro _
      refine jv (v_assign rfl) (.no rfl) rfl ?_
      refine jo_nil ?_
      refine je_next ?_
      refine j_seq ?_
      refine j_draw [10] mixed ?_
      refine ja_take 0 rfl (by decide +kernel) (v_loadAc (vs := [_, _, _]) rfl Try.isAgg26 Try.sizeOf26 rfl rfl) (.no rfl) rfl ?_
      refine ja_take 2 rfl (by decide +kernel) (v_move rfl) (.no rfl) rfl ?_
      refine ja_take 3 rfl (by decide +kernel) (v_loadAc (vs := [_, _, _, _, _, _]) rfl Try.isAgg29 Try.sizeOf29 rfl rfl) (.no rfl) rfl ?_
      refine ja_two (i := 1) (j := 9) (by decide +kernel) ?_ ?_
      · skip
        refine jn_q rfl (q_callP (f18_spec (by omega)) Try.call18 (by rfl) rfl (memc FindS.mem mem0)) (.no rfl) rfl ?_
        intro u38
        refine ja_two (i := 4) (j := 9) (by decide +kernel) ?_ ?_
        · skip
          refine jn_q rfl (q_callP (f19_spec) Try.call19 (by rfl) rfl (memc FindS.mem mem0)) (.no rfl) rfl ?_
          intro x41
          refine ja_two (i := 5) (j := 9) (by decide +kernel) ?_ ?_
          · skip
            refine jn_q rfl (q_callP (f17_spec (by omega)) Try.call17 (by rfl) rfl (memc FindS.mem (memc FindS.mem mem0))) (.no rfl) rfl ?_
            intro u42
            refine ja_take 6 rfl (by decide +kernel) (v_move rfl) (.no rfl) rfl ?_
            refine ja_take 7 rfl (by decide +kernel) (v_ext rfl rfl) (.no rfl) rfl ?_
            refine ja_two (i := 8) (j := 9) (by decide +kernel) ?_ ?_
            · skip
              refine jn_v rfl (v_ext rfl rfl) (.no rfl) rfl ?_
              refine ja_one (i := 9) (by decide +kernel) (jn_e rfl (e_alloc Try.zeroValue37 Cells.agg) (.no rfl) rfl ?_)
              intro B9
              refine ja_one (i := 10) (by decide +kernel) (jn_x rfl (by simp) (x_storec (cs' := [_, _, _]) rfl rfl rfl Try.sizeOf37 rfl rfl) (.no rfl) rfl ?_)
              intro _
              refine ja_take 11 rfl (by decide +kernel) (v_assign rfl) (.no rfl) rfl ?_
              refine ja_nil (by decide +kernel) ?_
              refine je_next ?_
              refine j_seq ?_
              refine j_seq ?_
              refine j_draw [] mixed ?_
              refine ja_take 0 rfl (by decide +kernel) (v_loadAc (vs := [_, _, _]) rfl Try.isAgg26 Try.sizeOf26 rfl rfl) (.no rfl) rfl ?_
              refine ja_take 2 rfl (by decide +kernel) (v_loadAc (vs := [_, _, _]) rfl Try.isAgg37 Try.sizeOf37 rfl rfl) (.no rfl) rfl ?_
              refine ja_one (i := 1) (by decide +kernel) (jn_q rfl (q_callP (f18_spec (by rw [setP_shape.1]; omega)) Try.call18 (by rfl) rfl (memc FindS.mem mem0)) (.no rfl) rfl ?_)
              intro u46
              refine ja_one (i := 3) (by decide +kernel) (jn_q rfl (q_callP (f20_spec) Try.call20 (by rfl) rfl (memc FindS.mem (memc FindS.mem mem0))) (.no rfl) rfl ?_)
              intro x48
              refine ja_take 4 rfl (by decide +kernel) (v_not rfl) (.no rfl) rfl ?_
              refine ja_take 5 rfl (by decide +kernel) (v_move rfl) (.no rfl) rfl ?_
              refine ja_split 50 rfl (fun d1 => ?_) (fun d1 => ?_)
              · first | (with_reducible replace d1 := of_decide_eq_true d1) | skip
                rw [hset] at d1; simp at d1
              · first | (with_reducible replace d1 := of_decide_eq_false d1) | skip
                refine ja_take 6 rfl (by decide +kernel) (v_move rfl) (.yes rfl rfl rfl) rfl ?_
                refine ja_take 7 rfl (by decide +kernel) (v_move rfl) (.yes rfl rfl rfl) rfl ?_
                refine ja_take 8 rfl (by decide +kernel) (v_neq rfl rfl) (.yes rfl rfl rfl) rfl ?_
                refine ja_take 9 rfl (by decide +kernel) (v_pickf rfl rfl) (.no rfl) rfl ?_
                refine ja_nil (by decide +kernel) ?_
                refine je_next ?_
                refine j_if rfl (fun d2 => ?_) (fun d2 => ?_)
                · first | (with_reducible replace d2 := of_decide_eq_true d2) | skip
                  exact absurd hse d2
                · first | (with_reducible replace d2 := of_decide_eq_false d2) | skip
                  refine j_skip ?_
                  refine je_next ?_
                  refine j_seq ?_
                  refine j_seq ?_
                  refine j_region ?_
                  refine jv (v_loadAc (vs := [_, _, _]) rfl Try.isAgg37 Try.sizeOf37 rfl rfl) (.no rfl) rfl ?_
                  refine jq (q_callP (f21_spec (by rw [setC_len]; omega)) Try.call21 (by rfl) rfl (memc FindS.mem mem0)) (.no rfl) rfl ?_
                  intro x56
                  refine jv (v_not rfl) (.no rfl) rfl ?_
                  refine jo_nil ?_
                  refine je_next ?_
                  refine j_if rfl (fun d3 => ?_) (fun d3 => ?_)
                  · first | (with_reducible replace d3 := of_decide_eq_true d3) | skip
                    refine j_seq ?_
                    refine j_region ?_
                    refine jv (v_assign rfl) (.no rfl) rfl ?_
                    refine jo_nil ?_
                    refine je_next ?_
                    refine j_ret ?_
                    refine je_then (by simp) ?_
                    refine je_ret rfl rfl rfl rfl rfl (rvs := [.tmp 6]) rfl (.cons (.tmp rfl) .nil) () ?_ (fun w h => h.fin mem0) (.inl rfl)
                    first | rfl | exact congrArg Value.bool (decide_eq_true e3)
                  · first | (with_reducible replace d3 := of_decide_eq_false d3) | skip
                    refine j_skip ?_
                    refine je_next ?_
                    refine j_seq ?_
                    refine j_region ?_
                    refine jv (v_loadAc (vs := [_, _, _]) rfl Try.isAgg26 Try.sizeOf26 rfl rfl) (.no rfl) rfl ?_
                    refine jv (v_move rfl) (.no rfl) rfl ?_
                    refine jq (q_callP (f22_spec (by rw [setP_shape.1]; omega) (set_gen hI)) Try.call22 (by rfl) rfl (memc FindS.mem mem0)) (.no rfl) rfl ?_
                    intro f61
                    refine jv (v_move rfl) (.no rfl) rfl ?_
                    refine jv (v_ext rfl rfl) (.no rfl) rfl ?_
                    refine jv (v_ext rfl rfl) (.no rfl) rfl ?_
                    refine jx (x_alloc Try.zeroValue29 Cells.agg) (.no rfl) rfl ?_
                    intro B11
                    refine jx (x_storec (cs' := [_, _, _, _, _, _]) rfl rfl rfl Try.sizeOf29 rfl rfl) (.no rfl) rfl ?_
                    intro _
                    refine jv (v_assign rfl) (.no rfl) rfl ?_
                    refine jo_nil ?_
                    refine je_next ?_
                    refine j_seq ?_
                    refine j_region ?_
                    refine jv (v_loadAc (vs := [_, _, _]) rfl Try.isAgg26 Try.sizeOf26 rfl rfl) (.no rfl) rfl ?_
                    refine jv (v_move rfl) (.no rfl) rfl ?_
                    refine jq (q_callP (f22_spec (by omega) hI) Try.call22 (by rfl) rfl (memc FindS.mem mem0)) (.no rfl) rfl ?_
                    intro f67
                    refine jv (v_move rfl) (.no rfl) rfl ?_
                    refine jv (v_ext rfl rfl) (.no rfl) rfl ?_
                    refine jv (v_ext rfl rfl) (.no rfl) rfl ?_
                    refine jx (x_alloc Try.zeroValue29 Cells.agg) (.no rfl) rfl ?_
                    intro B13
                    refine jx (x_storec (cs' := [_, _, _, _, _, _]) rfl rfl rfl Try.sizeOf29 rfl rfl) (.no rfl) rfl ?_
                    intro _
                    refine jv (v_assign rfl) (.no rfl) rfl ?_
                    refine jo_nil ?_
                    refine je_next ?_
                    refine j_seq ?_
                    refine j_draw [] mixed ?_
                    refine ja_take 0 rfl (by decide +kernel) (v_move rfl) (.no rfl) rfl ?_
                    refine ja_take 1 rfl (by decide +kernel) (v_move rfl) (.no rfl) rfl ?_
                    refine ja_take 2 rfl (by decide +kernel) (v_eql rfl rfl) (.no rfl) rfl ?_
                    refine ja_take 3 rfl (by decide +kernel) (v_move rfl) (.no rfl) rfl ?_
                    refine ja_split 73 rfl (fun e1 => ?_) (fun e1 => ?_)
                    · first | (with_reducible replace e1 := of_decide_eq_true e1) | skip
                      refine ja_take 4 rfl (by decide +kernel) (v_move rfl) (.yes rfl rfl rfl) rfl ?_
                      refine ja_take 5 rfl (by decide +kernel) (v_neq rfl rfl) (.yes rfl rfl rfl) rfl ?_
                      refine ja_take 6 rfl (by decide +kernel) (v_move rfl) (.yes rfl rfl rfl) rfl ?_
                      refine ja_split 76 rfl (fun e2 => ?_) (fun e2 => ?_)
                      · first | (with_reducible replace e2 := of_decide_eq_true e2) | skip
                        refine ja_off 7 rfl (by decide +kernel) rfl rfl rfl (by decide) rfl ?_
                        refine ja_off 8 rfl (by decide +kernel) rfl rfl rfl (by decide) rfl ?_
                        refine ja_off 9 rfl (by decide +kernel) rfl rfl rfl (by decide) rfl ?_
                        refine ja_off 10 rfl (by decide +kernel) rfl rfl rfl (by decide) rfl ?_
                        refine ja_off 11 rfl (by decide +kernel) rfl rfl rfl (by decide) rfl ?_
                        refine ja_take 12 rfl (by decide +kernel) (v_pickt rfl rfl) (.yes rfl rfl rfl) rfl ?_
                        refine ja_take 13 rfl (by decide +kernel) (v_pickt rfl rfl) (.no rfl) rfl ?_
                        refine ja_take 14 rfl (by decide +kernel) (v_assign rfl) (.no rfl) rfl ?_
                        refine ja_nil (by decide +kernel) ?_
                        refine je_next ?_
                        refine j_ret ?_
                        refine je_ret rfl rfl rfl rfl rfl (rvs := [.tmp 6]) rfl (.cons (.tmp rfl) .nil) () ?_ (fun w h => h.fin mem0) (.inl rfl)
                        first | rfl | exact congrArg Value.bool (decide_eq_true e3)
                      · first | (with_reducible replace e2 := of_decide_eq_false e2) | skip
                        refine ja_take 7 rfl (by decide +kernel) (v_loadAc (vs := [_, _, _, _, _, _]) rfl Try.isAgg29 Try.sizeOf29 rfl rfl) (.yes rfl rfl rfl) rfl ?_
                        refine ja_take 9 rfl (by decide +kernel) (v_loadAc (vs := [_, _, _, _, _, _]) rfl Try.isAgg29 Try.sizeOf29 rfl rfl) (.yes rfl rfl rfl) rfl ?_
                        refine ja_one (i := 8) (by decide +kernel) (jn_q rfl (q_callP (f19_spec) Try.call19 (by rfl) rfl (memc FindS.mem mem0)) (.yes rfl rfl rfl) rfl ?_)
                        intro x78
                        refine ja_one (i := 10) (by decide +kernel) (jn_q rfl (q_callP (f19_spec) Try.call19 (by rfl) rfl (memc FindS.mem mem0)) (.yes rfl rfl rfl) rfl ?_)
                        intro x80
                        refine ja_one (i := 11) (by decide +kernel) (jn_q rfl (q_callP (f23_spec) Try.call23 (by rfl) rfl (memc FindS.mem (memc FindS.mem mem0))) (.yes rfl rfl rfl) rfl ?_)
                        intro x81
                        have e3 := set_get1 (o := o) gs (by simpa using e2)
                        refine ja_take 12 rfl (by decide +kernel) (v_pickf rfl rfl) (.yes rfl rfl rfl) rfl ?_
                        refine ja_take 13 rfl (by decide +kernel) (v_pickt rfl rfl) (.no rfl) rfl ?_
                        refine ja_take 14 rfl (by decide +kernel) (v_assign rfl) (.no rfl) rfl ?_
                        refine ja_nil (by decide +kernel) ?_
                        refine je_next ?_
                        refine j_ret ?_
                        refine je_ret rfl rfl rfl rfl rfl (rvs := [.tmp 6]) rfl (.cons (.tmp rfl) .nil) () ?_ (fun w h => h.fin mem0) (.inl rfl)
                        first | rfl | exact congrArg Value.bool (decide_eq_true e3)
                    · first | (with_reducible replace e1 := of_decide_eq_false e1) | skip
                      exact absurd (set_get2 gs) e1
            · skip
              refine jn_e rfl (e_alloc Try.zeroValue37 Cells.agg) (.no rfl) rfl ?_
              intro B9
              refine ja_two (i := 8) (j := 10) (by decide +kernel) ?_ ?_
              · skip
                refine jn_v rfl (v_ext rfl rfl) (.no rfl) rfl ?_
                refine ja_one (i := 10) (by decide +kernel) (jn_x rfl (by simp) (x_storec (cs' := [_, _, _]) rfl rfl rfl Try.sizeOf37 rfl rfl) (.no rfl) rfl ?_)
                intro _
                refine ja_take 11 rfl (by decide +kernel) (v_assign rfl) (.no rfl) rfl ?_
                refine ja_nil (by decide +kernel) ?_
                refine je_next ?_
                refine j_seq ?_
                refine j_seq ?_
                refine j_draw [] mixed ?_
                refine ja_take 0 rfl (by decide +kernel) (v_loadAc (vs := [_, _, _]) rfl Try.isAgg26 Try.sizeOf26 rfl rfl) (.no rfl) rfl ?_
                refine ja_take 2 rfl (by decide +kernel) (v_loadAc (vs := [_, _, _]) rfl Try.isAgg37 Try.sizeOf37 rfl rfl) (.no rfl) rfl ?_
                refine ja_one (i := 1) (by decide +kernel) (jn_q rfl (q_callP (f18_spec (by rw [setP_shape.1]; omega)) Try.call18 (by rfl) rfl (memc FindS.mem mem0)) (.no rfl) rfl ?_)
                intro u46
                refine ja_one (i := 3) (by decide +kernel) (jn_q rfl (q_callP (f20_spec) Try.call20 (by rfl) rfl (memc FindS.mem (memc FindS.mem mem0))) (.no rfl) rfl ?_)
                intro x48
                refine ja_take 4 rfl (by decide +kernel) (v_not rfl) (.no rfl) rfl ?_
                refine ja_take 5 rfl (by decide +kernel) (v_move rfl) (.no rfl) rfl ?_
                refine ja_split 50 rfl (fun d1 => ?_) (fun d1 => ?_)
                · first | (with_reducible replace d1 := of_decide_eq_true d1) | skip
                  rw [hset] at d1; simp at d1
                · first | (with_reducible replace d1 := of_decide_eq_false d1) | skip
                  refine ja_take 6 rfl (by decide +kernel) (v_move rfl) (.yes rfl rfl rfl) rfl ?_
                  refine ja_take 7 rfl (by decide +kernel) (v_move rfl) (.yes rfl rfl rfl) rfl ?_
                  refine ja_take 8 rfl (by decide +kernel) (v_neq rfl rfl) (.yes rfl rfl rfl) rfl ?_
                  refine ja_take 9 rfl (by decide +kernel) (v_pickf rfl rfl) (.no rfl) rfl ?_
                  refine ja_nil (by decide +kernel) ?_
                  refine je_next ?_
                  refine j_if rfl (fun d2 => ?_) (fun d2 => ?_)
                  · first | (with_reducible replace d2 := of_decide_eq_true d2) | skip
                    exact absurd hse d2
                  · first | (with_reducible replace d2 := of_decide_eq_false d2) | skip
                    refine j_skip ?_
                    refine je_next ?_
                    refine j_seq ?_
                    refine j_seq ?_
                    refine j_region ?_
                    refine jv (v_loadAc (vs := [_, _, _]) rfl Try.isAgg37 Try.sizeOf37 rfl rfl) (.no rfl) rfl ?_
                    refine jq (q_callP (f21_spec (by rw [setC_len]; omega)) Try.call21 (by rfl) rfl (memc FindS.mem mem0)) (.no rfl) rfl ?_
                    intro x56
                    refine jv (v_not rfl) (.no rfl) rfl ?_
                    refine jo_nil ?_
                    refine je_next ?_
                    refine j_if rfl (fun d3 => ?_) (fun d3 => ?_)
                    · first | (with_reducible replace d3 := of_decide_eq_true d3) | skip
                      refine j_seq ?_
                      refine j_region ?_
                      refine jv (v_assign rfl) (.no rfl) rfl ?_
                      refine jo_nil ?_
                      refine je_next ?_
                      refine j_ret ?_
                      refine je_then (by simp) ?_
                      refine je_ret rfl rfl rfl rfl rfl (rvs := [.tmp 6]) rfl (.cons (.tmp rfl) .nil) () ?_ (fun w h => h.fin mem0) (.inl rfl)
                      first | rfl | exact congrArg Value.bool (decide_eq_true e3)
                    · first | (with_reducible replace d3 := of_decide_eq_false d3) | skip
                      refine j_skip ?_
                      refine je_next ?_
                      refine j_seq ?_
                      refine j_region ?_
                      refine jv (v_loadAc (vs := [_, _, _]) rfl Try.isAgg26 Try.sizeOf26 rfl rfl) (.no rfl) rfl ?_
                      refine jv (v_move rfl) (.no rfl) rfl ?_
                      refine jq (q_callP (f22_spec (by rw [setP_shape.1]; omega) (set_gen hI)) Try.call22 (by rfl) rfl (memc FindS.mem mem0)) (.no rfl) rfl ?_
                      intro f61
                      refine jv (v_move rfl) (.no rfl) rfl ?_
                      refine jv (v_ext rfl rfl) (.no rfl) rfl ?_
                      refine jv (v_ext rfl rfl) (.no rfl) rfl ?_
                      refine jx (x_alloc Try.zeroValue29 Cells.agg) (.no rfl) rfl ?_
                      intro B11
                      refine jx (x_storec (cs' := [_, _, _, _, _, _]) rfl rfl rfl Try.sizeOf29 rfl rfl) (.no rfl) rfl ?_
                      intro _
                      refine jv (v_assign rfl) (.no rfl) rfl ?_
                      refine jo_nil ?_
                      refine je_next ?_
                      refine j_seq ?_
                      refine j_region ?_
                      refine jv (v_loadAc (vs := [_, _, _]) rfl Try.isAgg26 Try.sizeOf26 rfl rfl) (.no rfl) rfl ?_
                      refine jv (v_move rfl) (.no rfl) rfl ?_
                      refine jq (q_callP (f22_spec (by omega) hI) Try.call22 (by rfl) rfl (memc FindS.mem mem0)) (.no rfl) rfl ?_
                      intro f67
                      refine jv (v_move rfl) (.no rfl) rfl ?_
                      refine jv (v_ext rfl rfl) (.no rfl) rfl ?_
                      refine jv (v_ext rfl rfl) (.no rfl) rfl ?_
                      refine jx (x_alloc Try.zeroValue29 Cells.agg) (.no rfl) rfl ?_
                      intro B13
                      refine jx (x_storec (cs' := [_, _, _, _, _, _]) rfl rfl rfl Try.sizeOf29 rfl rfl) (.no rfl) rfl ?_
                      intro _
                      refine jv (v_assign rfl) (.no rfl) rfl ?_
                      refine jo_nil ?_
                      refine je_next ?_
                      refine j_seq ?_
                      refine j_draw [] mixed ?_
                      refine ja_take 0 rfl (by decide +kernel) (v_move rfl) (.no rfl) rfl ?_
                      refine ja_take 1 rfl (by decide +kernel) (v_move rfl) (.no rfl) rfl ?_
                      refine ja_take 2 rfl (by decide +kernel) (v_eql rfl rfl) (.no rfl) rfl ?_
                      refine ja_take 3 rfl (by decide +kernel) (v_move rfl) (.no rfl) rfl ?_
                      refine ja_split 73 rfl (fun e1 => ?_) (fun e1 => ?_)
                      · first | (with_reducible replace e1 := of_decide_eq_true e1) | skip
                        refine ja_take 4 rfl (by decide +kernel) (v_move rfl) (.yes rfl rfl rfl) rfl ?_
                        refine ja_take 5 rfl (by decide +kernel) (v_neq rfl rfl) (.yes rfl rfl rfl) rfl ?_
                        refine ja_take 6 rfl (by decide +kernel) (v_move rfl) (.yes rfl rfl rfl) rfl ?_
                        refine ja_split 76 rfl (fun e2 => ?_) (fun e2 => ?_)
                        · first | (with_reducible replace e2 := of_decide_eq_true e2) | skip
                          refine ja_off 7 rfl (by decide +kernel) rfl rfl rfl (by decide) rfl ?_
                          refine ja_off 8 rfl (by decide +kernel) rfl rfl rfl (by decide) rfl ?_
                          refine ja_off 9 rfl (by decide +kernel) rfl rfl rfl (by decide) rfl ?_
                          refine ja_off 10 rfl (by decide +kernel) rfl rfl rfl (by decide) rfl ?_
                          refine ja_off 11 rfl (by decide +kernel) rfl rfl rfl (by decide) rfl ?_
                          refine ja_take 12 rfl (by decide +kernel) (v_pickt rfl rfl) (.yes rfl rfl rfl) rfl ?_
                          refine ja_take 13 rfl (by decide +kernel) (v_pickt rfl rfl) (.no rfl) rfl ?_
                          refine ja_take 14 rfl (by decide +kernel) (v_assign rfl) (.no rfl) rfl ?_
                          refine ja_nil (by decide +kernel) ?_
                          refine je_next ?_
                          refine j_ret ?_
                          refine je_ret rfl rfl rfl rfl rfl (rvs := [.tmp 6]) rfl (.cons (.tmp rfl) .nil) () ?_ (fun w h => h.fin mem0) (.inl rfl)
                          first | rfl | exact congrArg Value.bool (decide_eq_true e3)
                        · first | (with_reducible replace e2 := of_decide_eq_false e2) | skip
                          refine ja_take 7 rfl (by decide +kernel) (v_loadAc (vs := [_, _, _, _, _, _]) rfl Try.isAgg29 Try.sizeOf29 rfl rfl) (.yes rfl rfl rfl) rfl ?_
                          refine ja_take 9 rfl (by decide +kernel) (v_loadAc (vs := [_, _, _, _, _, _]) rfl Try.isAgg29 Try.sizeOf29 rfl rfl) (.yes rfl rfl rfl) rfl ?_
                          refine ja_one (i := 8) (by decide +kernel) (jn_q rfl (q_callP (f19_spec) Try.call19 (by rfl) rfl (memc FindS.mem mem0)) (.yes rfl rfl rfl) rfl ?_)
                          intro x78
                          refine ja_one (i := 10) (by decide +kernel) (jn_q rfl (q_callP (f19_spec) Try.call19 (by rfl) rfl (memc FindS.mem mem0)) (.yes rfl rfl rfl) rfl ?_)
                          intro x80
                          refine ja_one (i := 11) (by decide +kernel) (jn_q rfl (q_callP (f23_spec) Try.call23 (by rfl) rfl (memc FindS.mem (memc FindS.mem mem0))) (.yes rfl rfl rfl) rfl ?_)
                          intro x81
                          have e3 := set_get1 (o := o) gs (by simpa using e2)
                          refine ja_take 12 rfl (by decide +kernel) (v_pickf rfl rfl) (.yes rfl rfl rfl) rfl ?_
                          refine ja_take 13 rfl (by decide +kernel) (v_pickt rfl rfl) (.no rfl) rfl ?_
                          refine ja_take 14 rfl (by decide +kernel) (v_assign rfl) (.no rfl) rfl ?_
                          refine ja_nil (by decide +kernel) ?_
                          refine je_next ?_
                          refine j_ret ?_
                          refine je_ret rfl rfl rfl rfl rfl (rvs := [.tmp 6]) rfl (.cons (.tmp rfl) .nil) () ?_ (fun w h => h.fin mem0) (.inl rfl)
                          first | rfl | exact congrArg Value.bool (decide_eq_true e3)
                      · first | (with_reducible replace e1 := of_decide_eq_false e1) | skip
                        exact absurd (set_get2 gs) e1
              · skip
                refine jn_x rfl (by simp) (x_storec (cs' := [_, _, _]) rfl rfl rfl Try.sizeOf37 rfl rfl) (.no rfl) rfl ?_
                intro _
                refine ja_take 8 rfl (by decide +kernel) (v_ext rfl rfl) (.no rfl) rfl ?_
                refine ja_take 11 rfl (by decide +kernel) (v_assign rfl) (.no rfl) rfl ?_
                refine ja_nil (by decide +kernel) ?_
                refine je_next ?_
                refine j_seq ?_
                refine j_seq ?_
                refine j_draw [] mixed ?_
                refine ja_take 0 rfl (by decide +kernel) (v_loadAc (vs := [_, _, _]) rfl Try.isAgg26 Try.sizeOf26 rfl rfl) (.no rfl) rfl ?_
                refine ja_take 2 rfl (by decide +kernel) (v_loadAc (vs := [_, _, _]) rfl Try.isAgg37 Try.sizeOf37 rfl rfl) (.no rfl) rfl ?_
                refine ja_one (i := 1) (by decide +kernel) (jn_q rfl (q_callP (f18_spec (by rw [setP_shape.1]; omega)) Try.call18 (by rfl) rfl (memc FindS.mem mem0)) (.no rfl) rfl ?_)
                intro u46
                refine ja_one (i := 3) (by decide +kernel) (jn_q rfl (q_callP (f20_spec) Try.call20 (by rfl) rfl (memc FindS.mem (memc FindS.mem mem0))) (.no rfl) rfl ?_)
                intro x48
                refine ja_take 4 rfl (by decide +kernel) (v_not rfl) (.no rfl) rfl ?_
                refine ja_take 5 rfl (by decide +kernel) (v_move rfl) (.no rfl) rfl ?_
                refine ja_split 50 rfl (fun d1 => ?_) (fun d1 => ?_)
                · first | (with_reducible replace d1 := of_decide_eq_true d1) | skip
                  rw [hset] at d1; simp at d1
                · first | (with_reducible replace d1 := of_decide_eq_false d1) | skip
                  refine ja_take 6 rfl (by decide +kernel) (v_move rfl) (.yes rfl rfl rfl) rfl ?_
                  refine ja_take 7 rfl (by decide +kernel) (v_move rfl) (.yes rfl rfl rfl) rfl ?_
                  refine ja_take 8 rfl (by decide +kernel) (v_neq rfl rfl) (.yes rfl rfl rfl) rfl ?_
                  refine ja_take 9 rfl (by decide +kernel) (v_pickf rfl rfl) (.no rfl) rfl ?_
                  refine ja_nil (by decide +kernel) ?_
                  refine je_next ?_
                  refine j_if rfl (fun d2 => ?_) (fun d2 => ?_)
                  · first | (with_reducible replace d2 := of_decide_eq_true d2) | skip
                    exact absurd hse d2
                  · first | (with_reducible replace d2 := of_decide_eq_false d2) | skip
                    refine j_skip ?_
                    refine je_next ?_
                    refine j_seq ?_
                    refine j_seq ?_
                    refine j_region ?_
                    refine jv (v_loadAc (vs := [_, _, _]) rfl Try.isAgg37 Try.sizeOf37 rfl rfl) (.no rfl) rfl ?_
                    refine jq (q_callP (f21_spec (by rw [setC_len]; omega)) Try.call21 (by rfl) rfl (memc FindS.mem mem0)) (.no rfl) rfl ?_
                    intro x56
                    refine jv (v_not rfl) (.no rfl) rfl ?_
                    refine jo_nil ?_
                    refine je_next ?_
                    refine j_if rfl (fun d3 => ?_) (fun d3 => ?_)
                    · first | (with_reducible replace d3 := of_decide_eq_true d3) | skip
                      refine j_seq ?_
                      refine j_region ?_
                      refine jv (v_assign rfl) (.no rfl) rfl ?_
                      refine jo_nil ?_
                      refine je_next ?_
                      refine j_ret ?_
                      refine je_then (by simp) ?_
                      refine je_ret rfl rfl rfl rfl rfl (rvs := [.tmp 6]) rfl (.cons (.tmp rfl) .nil) () ?_ (fun w h => h.fin mem0) (.inl rfl)
                      first | rfl | exact congrArg Value.bool (decide_eq_true e3)
                    · first | (with_reducible replace d3 := of_decide_eq_false d3) | skip
                      refine j_skip ?_
                      refine je_next ?_
                      refine j_seq ?_
                      refine j_region ?_
                      refine jv (v_loadAc (vs := [_, _, _]) rfl Try.isAgg26 Try.sizeOf26 rfl rfl) (.no rfl) rfl ?_
                      refine jv (v_move rfl) (.no rfl) rfl ?_
                      refine jq (q_callP (f22_spec (by rw [setP_shape.1]; omega) (set_gen hI)) Try.call22 (by rfl) rfl (memc FindS.mem mem0)) (.no rfl) rfl ?_
                      intro f61
                      refine jv (v_move rfl) (.no rfl) rfl ?_
                      refine jv (v_ext rfl rfl) (.no rfl) rfl ?_
                      refine jv (v_ext rfl rfl) (.no rfl) rfl ?_
                      refine jx (x_alloc Try.zeroValue29 Cells.agg) (.no rfl) rfl ?_
                      intro B11
                      refine jx (x_storec (cs' := [_, _, _, _, _, _]) rfl rfl rfl Try.sizeOf29 rfl rfl) (.no rfl) rfl ?_
                      intro _
                      refine jv (v_assign rfl) (.no rfl) rfl ?_
                      refine jo_nil ?_
                      refine je_next ?_
                      refine j_seq ?_
                      refine j_region ?_
                      refine jv (v_loadAc (vs := [_, _, _]) rfl Try.isAgg26 Try.sizeOf26 rfl rfl) (.no rfl) rfl ?_
                      refine jv (v_move rfl) (.no rfl) rfl ?_
                      refine jq (q_callP (f22_spec (by omega) hI) Try.call22 (by rfl) rfl (memc FindS.mem mem0)) (.no rfl) rfl ?_
                      intro f67
                      refine jv (v_move rfl) (.no rfl) rfl ?_
                      refine jv (v_ext rfl rfl) (.no rfl) rfl ?_
                      refine jv (v_ext rfl rfl) (.no rfl) rfl ?_
                      refine jx (x_alloc Try.zeroValue29 Cells.agg) (.no rfl) rfl ?_
                      intro B13
                      refine jx (x_storec (cs' := [_, _, _, _, _, _]) rfl rfl rfl Try.sizeOf29 rfl rfl) (.no rfl) rfl ?_
                      intro _
                      refine jv (v_assign rfl) (.no rfl) rfl ?_
                      refine jo_nil ?_
                      refine je_next ?_
                      refine j_seq ?_
                      refine j_draw [] mixed ?_
                      refine ja_take 0 rfl (by decide +kernel) (v_move rfl) (.no rfl) rfl ?_
                      refine ja_take 1 rfl (by decide +kernel) (v_move rfl) (.no rfl) rfl ?_
                      refine ja_take 2 rfl (by decide +kernel) (v_eql rfl rfl) (.no rfl) rfl ?_
                      refine ja_take 3 rfl (by decide +kernel) (v_move rfl) (.no rfl) rfl ?_
                      refine ja_split 73 rfl (fun e1 => ?_) (fun e1 => ?_)
                      · first | (with_reducible replace e1 := of_decide_eq_true e1) | skip
                        refine ja_take 4 rfl (by decide +kernel) (v_move rfl) (.yes rfl rfl rfl) rfl ?_
                        refine ja_take 5 rfl (by decide +kernel) (v_neq rfl rfl) (.yes rfl rfl rfl) rfl ?_
                        refine ja_take 6 rfl (by decide +kernel) (v_move rfl) (.yes rfl rfl rfl) rfl ?_
                        refine ja_split 76 rfl (fun e2 => ?_) (fun e2 => ?_)
                        · first | (with_reducible replace e2 := of_decide_eq_true e2) | skip
                          refine ja_off 7 rfl (by decide +kernel) rfl rfl rfl (by decide) rfl ?_
                          refine ja_off 8 rfl (by decide +kernel) rfl rfl rfl (by decide) rfl ?_
                          refine ja_off 9 rfl (by decide +kernel) rfl rfl rfl (by decide) rfl ?_
                          refine ja_off 10 rfl (by decide +kernel) rfl rfl rfl (by decide) rfl ?_
                          refine ja_off 11 rfl (by decide +kernel) rfl rfl rfl (by decide) rfl ?_
                          refine ja_take 12 rfl (by decide +kernel) (v_pickt rfl rfl) (.yes rfl rfl rfl) rfl ?_
                          refine ja_take 13 rfl (by decide +kernel) (v_pickt rfl rfl) (.no rfl) rfl ?_
                          refine ja_take 14 rfl (by decide +kernel) (v_assign rfl) (.no rfl) rfl ?_
                          refine ja_nil (by decide +kernel) ?_
                          refine je_next ?_
                          refine j_ret ?_
                          refine je_ret rfl rfl rfl rfl rfl (rvs := [.tmp 6]) rfl (.cons (.tmp rfl) .nil) () ?_ (fun w h => h.fin mem0) (.inl rfl)
                          first | rfl | exact congrArg Value.bool (decide_eq_true e3)
                        · first | (with_reducible replace e2 := of_decide_eq_false e2) | skip
                          refine ja_take 7 rfl (by decide +kernel) (v_loadAc (vs := [_, _, _, _, _, _]) rfl Try.isAgg29 Try.sizeOf29 rfl rfl) (.yes rfl rfl rfl) rfl ?_
                          refine ja_take 9 rfl (by decide +kernel) (v_loadAc (vs := [_, _, _, _, _, _]) rfl Try.isAgg29 Try.sizeOf29 rfl rfl) (.yes rfl rfl rfl) rfl ?_
                          refine ja_one (i := 8) (by decide +kernel) (jn_q rfl (q_callP (f19_spec) Try.call19 (by rfl) rfl (memc FindS.mem mem0)) (.yes rfl rfl rfl) rfl ?_)
                          intro x78
                          refine ja_one (i := 10) (by decide +kernel) (jn_q rfl (q_callP (f19_spec) Try.call19 (by rfl) rfl (memc FindS.mem mem0)) (.yes rfl rfl rfl) rfl ?_)
                          intro x80
                          refine ja_one (i := 11) (by decide +kernel) (jn_q rfl (q_callP (f23_spec) Try.call23 (by rfl) rfl (memc FindS.mem (memc FindS.mem mem0))) (.yes rfl rfl rfl) rfl ?_)
                          intro x81
                          have e3 := set_get1 (o := o) gs (by simpa using e2)
                          refine ja_take 12 rfl (by decide +kernel) (v_pickf rfl rfl) (.yes rfl rfl rfl) rfl ?_
                          refine ja_take 13 rfl (by decide +kernel) (v_pickt rfl rfl) (.no rfl) rfl ?_
                          refine ja_take 14 rfl (by decide +kernel) (v_assign rfl) (.no rfl) rfl ?_
                          refine ja_nil (by decide +kernel) ?_
                          refine je_next ?_
                          refine j_ret ?_
                          refine je_ret rfl rfl rfl rfl rfl (rvs := [.tmp 6]) rfl (.cons (.tmp rfl) .nil) () ?_ (fun w h => h.fin mem0) (.inl rfl)
                          first | rfl | exact congrArg Value.bool (decide_eq_true e3)
                      · first | (with_reducible replace e1 := of_decide_eq_false e1) | skip
                        exact absurd (set_get2 gs) e1
          · skip
            refine jn_e rfl (e_alloc Try.zeroValue37 Cells.agg) (.no rfl) rfl ?_
            intro B9
            refine ja_one (i := 5) (by decide +kernel) (jn_q rfl (q_callP (f17_spec (by omega)) Try.call17 (by rfl) rfl (memc FindS.mem (memc FindS.mem mem0))) (.no rfl) rfl ?_)
            intro u42
            refine ja_take 6 rfl (by decide +kernel) (v_move rfl) (.no rfl) rfl ?_
            refine ja_take 7 rfl (by decide +kernel) (v_ext rfl rfl) (.no rfl) rfl ?_
            refine ja_two (i := 8) (j := 10) (by decide +kernel) ?_ ?_
            · skip
              refine jn_v rfl (v_ext rfl rfl) (.no rfl) rfl ?_
              refine ja_one (i := 10) (by decide +kernel) (jn_x rfl (by simp) (x_storec (cs' := [_, _, _]) rfl rfl rfl Try.sizeOf37 rfl rfl) (.no rfl) rfl ?_)
              intro _
              refine ja_take 11 rfl (by decide +kernel) (v_assign rfl) (.no rfl) rfl ?_
              refine ja_nil (by decide +kernel) ?_
              refine je_next ?_
              refine j_seq ?_
              refine j_seq ?_
              refine j_draw [] mixed ?_
              refine ja_take 0 rfl (by decide +kernel) (v_loadAc (vs := [_, _, _]) rfl Try.isAgg26 Try.sizeOf26 rfl rfl) (.no rfl) rfl ?_
              refine ja_take 2 rfl (by decide +kernel) (v_loadAc (vs := [_, _, _]) rfl Try.isAgg37 Try.sizeOf37 rfl rfl) (.no rfl) rfl ?_
              refine ja_one (i := 1) (by decide +kernel) (jn_q rfl (q_callP (f18_spec (by rw [setP_shape.1]; omega)) Try.call18 (by rfl) rfl (memc FindS.mem mem0)) (.no rfl) rfl ?_)
              intro u46
              refine ja_one (i := 3) (by decide +kernel) (jn_q rfl (q_callP (f20_spec) Try.call20 (by rfl) rfl (memc FindS.mem (memc FindS.mem mem0))) (.no rfl) rfl ?_)
              intro x48
              refine ja_take 4 rfl (by decide +kernel) (v_not rfl) (.no rfl) rfl ?_
              refine ja_take 5 rfl (by decide +kernel) (v_move rfl) (.no rfl) rfl ?_
              refine ja_split 50 rfl (fun d1 => ?_) (fun d1 => ?_)
              · first | (with_reducible replace d1 := of_decide_eq_true d1) | skip
                rw [hset] at d1; simp at d1
              · first | (with_reducible replace d1 := of_decide_eq_false d1) | skip
                refine ja_take 6 rfl (by decide +kernel) (v_move rfl) (.yes rfl rfl rfl) rfl ?_
                refine ja_take 7 rfl (by decide +kernel) (v_move rfl) (.yes rfl rfl rfl) rfl ?_
                refine ja_take 8 rfl (by decide +kernel) (v_neq rfl rfl) (.yes rfl rfl rfl) rfl ?_
                refine ja_take 9 rfl (by decide +kernel) (v_pickf rfl rfl) (.no rfl) rfl ?_
                refine ja_nil (by decide +kernel) ?_
                refine je_next ?_
                refine j_if rfl (fun d2 => ?_) (fun d2 => ?_)
                · first | (with_reducible replace d2 := of_decide_eq_true d2) | skip
                  exact absurd hse d2
                · first | (with_reducible replace d2 := of_decide_eq_false d2) | skip
                  refine j_skip ?_
                  refine je_next ?_
                  refine j_seq ?_
                  refine j_seq ?_
                  refine j_region ?_
                  refine jv (v_loadAc (vs := [_, _, _]) rfl Try.isAgg37 Try.sizeOf37 rfl rfl) (.no rfl) rfl ?_
                  refine jq (q_callP (f21_spec (by rw [setC_len]; omega)) Try.call21 (by rfl) rfl (memc FindS.mem mem0)) (.no rfl) rfl ?_
                  intro x56
                  refine jv (v_not rfl) (.no rfl) rfl ?_
                  refine jo_nil ?_
                  refine je_next ?_
                  refine j_if rfl (fun d3 => ?_) (fun d3 => ?_)
                  · first | (with_reducible replace d3 := of_decide_eq_true d3) | skip
                    refine j_seq ?_
                    refine j_region ?_
                    refine jv (v_assign rfl) (.no rfl) rfl ?_
                    refine jo_nil ?_
                    refine je_next ?_
                    refine j_ret ?_
                    refine je_then (by simp) ?_
                    refine je_ret rfl rfl rfl rfl rfl (rvs := [.tmp 6]) rfl (.cons (.tmp rfl) .nil) () ?_ (fun w h => h.fin mem0) (.inl rfl)
                    first | rfl | exact congrArg Value.bool (decide_eq_true e3)
                  · first | (with_reducible replace d3 := of_decide_eq_false d3) | skip
                    refine j_skip ?_
                    refine je_next ?_
                    refine j_seq ?_
                    refine j_region ?_
                    refine jv (v_loadAc (vs := [_, _, _]) rfl Try.isAgg26 Try.sizeOf26 rfl rfl) (.no rfl) rfl ?_
                    refine jv (v_move rfl) (.no rfl) rfl ?_
                    refine jq (q_callP (f22_spec (by rw [setP_shape.1]; omega) (set_gen hI)) Try.call22 (by rfl) rfl (memc FindS.mem mem0)) (.no rfl) rfl ?_
                    intro f61
                    refine jv (v_move rfl) (.no rfl) rfl ?_
                    refine jv (v_ext rfl rfl) (.no rfl) rfl ?_
                    refine jv (v_ext rfl rfl) (.no rfl) rfl ?_
                    refine jx (x_alloc Try.zeroValue29 Cells.agg) (.no rfl) rfl ?_
                    intro B11
                    refine jx (x_storec (cs' := [_, _, _, _, _, _]) rfl rfl rfl Try.sizeOf29 rfl rfl) (.no rfl) rfl ?_
                    intro _
                    refine jv (v_assign rfl) (.no rfl) rfl ?_
                    refine jo_nil ?_
                    refine je_next ?_
                    refine j_seq ?_
                    refine j_region ?_
                    refine jv (v_loadAc (vs := [_, _, _]) rfl Try.isAgg26 Try.sizeOf26 rfl rfl) (.no rfl) rfl ?_
                    refine jv (v_move rfl) (.no rfl) rfl ?_
                    refine jq (q_callP (f22_spec (by omega) hI) Try.call22 (by rfl) rfl (memc FindS.mem mem0)) (.no rfl) rfl ?_
                    intro f67
                    refine jv (v_move rfl) (.no rfl) rfl ?_
                    refine jv (v_ext rfl rfl) (.no rfl) rfl ?_
                    refine jv (v_ext rfl rfl) (.no rfl) rfl ?_
                    refine jx (x_alloc Try.zeroValue29 Cells.agg) (.no rfl) rfl ?_
                    intro B13
                    refine jx (x_storec (cs' := [_, _, _, _, _, _]) rfl rfl rfl Try.sizeOf29 rfl rfl) (.no rfl) rfl ?_
                    intro _
                    refine jv (v_assign rfl) (.no rfl) rfl ?_
                    refine jo_nil ?_
                    refine je_next ?_
                    refine j_seq ?_
                    refine j_draw [] mixed ?_
                    refine ja_take 0 rfl (by decide +kernel) (v_move rfl) (.no rfl) rfl ?_
                    refine ja_take 1 rfl (by decide +kernel) (v_move rfl) (.no rfl) rfl ?_
                    refine ja_take 2 rfl (by decide +kernel) (v_eql rfl rfl) (.no rfl) rfl ?_
                    refine ja_take 3 rfl (by decide +kernel) (v_move rfl) (.no rfl) rfl ?_
                    refine ja_split 73 rfl (fun e1 => ?_) (fun e1 => ?_)
                    · first | (with_reducible replace e1 := of_decide_eq_true e1) | skip
                      refine ja_take 4 rfl (by decide +kernel) (v_move rfl) (.yes rfl rfl rfl) rfl ?_
                      refine ja_take 5 rfl (by decide +kernel) (v_neq rfl rfl) (.yes rfl rfl rfl) rfl ?_
                      refine ja_take 6 rfl (by decide +kernel) (v_move rfl) (.yes rfl rfl rfl) rfl ?_
                      refine ja_split 76 rfl (fun e2 => ?_) (fun e2 => ?_)
                      · first | (with_reducible replace e2 := of_decide_eq_true e2) | skip
                        refine ja_off 7 rfl (by decide +kernel) rfl rfl rfl (by decide) rfl ?_
                        refine ja_off 8 rfl (by decide +kernel) rfl rfl rfl (by decide) rfl ?_
                        refine ja_off 9 rfl (by decide +kernel) rfl rfl rfl (by decide) rfl ?_
                        refine ja_off 10 rfl (by decide +kernel) rfl rfl rfl (by decide) rfl ?_
                        refine ja_off 11 rfl (by decide +kernel) rfl rfl rfl (by decide) rfl ?_
                        refine ja_take 12 rfl (by decide +kernel) (v_pickt rfl rfl) (.yes rfl rfl rfl) rfl ?_
                        refine ja_take 13 rfl (by decide +kernel) (v_pickt rfl rfl) (.no rfl) rfl ?_
                        refine ja_take 14 rfl (by decide +kernel) (v_assign rfl) (.no rfl) rfl ?_
                        refine ja_nil (by decide +kernel) ?_
                        refine je_next ?_
                        refine j_ret ?_
                        refine je_ret rfl rfl rfl rfl rfl (rvs := [.tmp 6]) rfl (.cons (.tmp rfl) .nil) () ?_ (fun w h => h.fin mem0) (.inl rfl)
                        first | rfl | exact congrArg Value.bool (decide_eq_true e3)
                      · first | (with_reducible replace e2 := of_decide_eq_false e2) | skip
                        refine ja_take 7 rfl (by decide +kernel) (v_loadAc (vs := [_, _, _, _, _, _]) rfl Try.isAgg29 Try.sizeOf29 rfl rfl) (.yes rfl rfl rfl) rfl ?_
                        refine ja_take 9 rfl (by decide +kernel) (v_loadAc (vs := [_, _, _, _, _, _]) rfl Try.isAgg29 Try.sizeOf29 rfl rfl) (.yes rfl rfl rfl) rfl ?_
                        refine ja_one (i := 8) (by decide +kernel) (jn_q rfl (q_callP (f19_spec) Try.call19 (by rfl) rfl (memc FindS.mem mem0)) (.yes rfl rfl rfl) rfl ?_)
                        intro x78
                        refine ja_one (i := 10) (by decide +kernel) (jn_q rfl (q_callP (f19_spec) Try.call19 (by rfl) rfl (memc FindS.mem mem0)) (.yes rfl rfl rfl) rfl ?_)
                        intro x80
                        refine ja_one (i := 11) (by decide +kernel) (jn_q rfl (q_callP (f23_spec) Try.call23 (by rfl) rfl (memc FindS.mem (memc FindS.mem mem0))) (.yes rfl rfl rfl) rfl ?_)
                        intro x81
                        have e3 := set_get1 (o := o) gs (by simpa using e2)
                        refine ja_take 12 rfl (by decide +kernel) (v_pickf rfl rfl) (.yes rfl rfl rfl) rfl ?_
                        refine ja_take 13 rfl (by decide +kernel) (v_pickt rfl rfl) (.no rfl) rfl ?_
                        refine ja_take 14 rfl (by decide +kernel) (v_assign rfl) (.no rfl) rfl ?_
                        refine ja_nil (by decide +kernel) ?_
                        refine je_next ?_
                        refine j_ret ?_
                        refine je_ret rfl rfl rfl rfl rfl (rvs := [.tmp 6]) rfl (.cons (.tmp rfl) .nil) () ?_ (fun w h => h.fin mem0) (.inl rfl)
                        first | rfl | exact congrArg Value.bool (decide_eq_true e3)
                    · first | (with_reducible replace e1 := of_decide_eq_false e1) | skip
                      exact absurd (set_get2 gs) e1
            · skip
              refine jn_x rfl (by simp) (x_storec (cs' := [_, _, _]) rfl rfl rfl Try.sizeOf37 rfl rfl) (.no rfl) rfl ?_
              intro _
              refine ja_take 8 rfl (by decide +kernel) (v_ext rfl rfl) (.no rfl) rfl ?_
              refine ja_take 11 rfl (by decide +kernel) (v_assign rfl) (.no rfl) rfl ?_
              refine ja_nil (by decide +kernel) ?_
              refine je_next ?_
              refine j_seq ?_
              refine j_seq ?_
              refine j_draw [] mixed ?_
              refine ja_take 0 rfl (by decide +kernel) (v_loadAc (vs := [_, _, _]) rfl Try.isAgg26 Try.sizeOf26 rfl rfl) (.no rfl) rfl ?_
              refine ja_take 2 rfl (by decide +kernel) (v_loadAc (vs := [_, _, _]) rfl Try.isAgg37 Try.sizeOf37 rfl rfl) (.no rfl) rfl ?_
              refine ja_one (i := 1) (by decide +kernel) (jn_q rfl (q_callP (f18_spec (by rw [setP_shape.1]; omega)) Try.call18 (by rfl) rfl (memc FindS.mem mem0)) (.no rfl) rfl ?_)
              intro u46
              refine ja_one (i := 3) (by decide +kernel) (jn_q rfl (q_callP (f20_spec) Try.call20 (by rfl) rfl (memc FindS.mem (memc FindS.mem mem0))) (.no rfl) rfl ?_)
              intro x48
              refine ja_take 4 rfl (by decide +kernel) (v_not rfl) (.no rfl) rfl ?_
              refine ja_take 5 rfl (by decide +kernel) (v_move rfl) (.no rfl) rfl ?_
              refine ja_split 50 rfl (fun d1 => ?_) (fun d1 => ?_)
              · first | (with_reducible replace d1 := of_decide_eq_true d1) | skip
                rw [hset] at d1; simp at d1
              · first | (with_reducible replace d1 := of_decide_eq_false d1) | skip
                refine ja_take 6 rfl (by decide +kernel) (v_move rfl) (.yes rfl rfl rfl) rfl ?_
                refine ja_take 7 rfl (by decide +kernel) (v_move rfl) (.yes rfl rfl rfl) rfl ?_
                refine ja_take 8 rfl (by decide +kernel) (v_neq rfl rfl) (.yes rfl rfl rfl) rfl ?_
                refine ja_take 9 rfl (by decide +kernel) (v_pickf rfl rfl) (.no rfl) rfl ?_
                refine ja_nil (by decide +kernel) ?_
                refine je_next ?_
                refine j_if rfl (fun d2 => ?_) (fun d2 => ?_)
                · first | (with_reducible replace d2 := of_decide_eq_true d2) | skip
                  exact absurd hse d2
                · first | (with_reducible replace d2 := of_decide_eq_false d2) | skip
                  refine j_skip ?_
                  refine je_next ?_
                  refine j_seq ?_
                  refine j_seq ?_
                  refine j_region ?_
                  refine jv (v_loadAc (vs := [_, _, _]) rfl Try.isAgg37 Try.sizeOf37 rfl rfl) (.no rfl) rfl ?_
                  refine jq (q_callP (f21_spec (by rw [setC_len]; omega)) Try.call21 (by rfl) rfl (memc FindS.mem mem0)) (.no rfl) rfl ?_
                  intro x56
                  refine jv (v_not rfl) (.no rfl) rfl ?_
                  refine jo_nil ?_
                  refine je_next ?_
                  refine j_if rfl (fun d3 => ?_) (fun d3 => ?_)
                  · first | (with_reducible replace d3 := of_decide_eq_true d3) | skip
                    refine j_seq ?_
                    refine j_region ?_
                    refine jv (v_assign rfl) (.no rfl) rfl ?_
                    refine jo_nil ?_
                    refine je_next ?_
                    refine j_ret ?_
                    refine je_then (by simp) ?_
                    refine je_ret rfl rfl rfl rfl rfl (rvs := [.tmp 6]) rfl (.cons (.tmp rfl) .nil) () ?_ (fun w h => h.fin mem0) (.inl rfl)
                    first | rfl | exact congrArg Value.bool (decide_eq_true e3)
                  · first | (with_reducible replace d3 := of_decide_eq_false d3) | skip
                    refine j_skip ?_
                    refine je_next ?_
                    refine j_seq ?_
                    refine j_region ?_
                    refine jv (v_loadAc (vs := [_, _, _]) rfl Try.isAgg26 Try.sizeOf26 rfl rfl) (.no rfl) rfl ?_
                    refine jv (v_move rfl) (.no rfl) rfl ?_
                    refine jq (q_callP (f22_spec (by rw [setP_shape.1]; omega) (set_gen hI)) Try.call22 (by rfl) rfl (memc FindS.mem mem0)) (.no rfl) rfl ?_
                    intro f61
                    refine jv (v_move rfl) (.no rfl) rfl ?_
                    refine jv (v_ext rfl rfl) (.no rfl) rfl ?_
                    refine jv (v_ext rfl rfl) (.no rfl) rfl ?_
                    refine jx (x_alloc Try.zeroValue29 Cells.agg) (.no rfl) rfl ?_
                    intro B11
                    refine jx (x_storec (cs' := [_, _, _, _, _, _]) rfl rfl rfl Try.sizeOf29 rfl rfl) (.no rfl) rfl ?_
                    intro _
                    refine jv (v_assign rfl) (.no rfl) rfl ?_
                    refine jo_nil ?_
                    refine je_next ?_
                    refine j_seq ?_
                    refine j_region ?_
                    refine jv (v_loadAc (vs := [_, _, _]) rfl Try.isAgg26 Try.sizeOf26 rfl rfl) (.no rfl) rfl ?_
                    refine jv (v_move rfl) (.no rfl) rfl ?_
                    refine jq (q_callP (f22_spec (by omega) hI) Try.call22 (by rfl) rfl (memc FindS.mem mem0)) (.no rfl) rfl ?_
                    intro f67
                    refine jv (v_move rfl) (.no rfl) rfl ?_
                    refine jv (v_ext rfl rfl) (.no rfl) rfl ?_
                    refine jv (v_ext rfl rfl) (.no rfl) rfl ?_
                    refine jx (x_alloc Try.zeroValue29 Cells.agg) (.no rfl) rfl ?_
                    intro B13
                    refine jx (x_storec (cs' := [_, _, _, _, _, _]) rfl rfl rfl Try.sizeOf29 rfl rfl) (.no rfl) rfl ?_
                    intro _
                    refine jv (v_assign rfl) (.no rfl) rfl ?_
                    refine jo_nil ?_
                    refine je_next ?_
                    refine j_seq ?_
                    refine j_draw [] mixed ?_
                    refine ja_take 0 rfl (by decide +kernel) (v_move rfl) (.no rfl) rfl ?_
                    refine ja_take 1 rfl (by decide +kernel) (v_move rfl) (.no rfl) rfl ?_
                    refine ja_take 2 rfl (by decide +kernel) (v_eql rfl rfl) (.no rfl) rfl ?_
                    refine ja_take 3 rfl (by decide +kernel) (v_move rfl) (.no rfl) rfl ?_
                    refine ja_split 73 rfl (fun e1 => ?_) (fun e1 => ?_)
                    · first | (with_reducible replace e1 := of_decide_eq_true e1) | skip
                      refine ja_take 4 rfl (by decide +kernel) (v_move rfl) (.yes rfl rfl rfl) rfl ?_
                      refine ja_take 5 rfl (by decide +kernel) (v_neq rfl rfl) (.yes rfl rfl rfl) rfl ?_
                      refine ja_take 6 rfl (by decide +kernel) (v_move rfl) (.yes rfl rfl rfl) rfl ?_
                      refine ja_split 76 rfl (fun e2 => ?_) (fun e2 => ?_)
                      · first | (with_reducible replace e2 := of_decide_eq_true e2) | skip
                        refine ja_off 7 rfl (by decide +kernel) rfl rfl rfl (by decide) rfl ?_
                        refine ja_off 8 rfl (by decide +kernel) rfl rfl rfl (by decide) rfl ?_
                        refine ja_off 9 rfl (by decide +kernel) rfl rfl rfl (by decide) rfl ?_
                        refine ja_off 10 rfl (by decide +kernel) rfl rfl rfl (by decide) rfl ?_
                        refine ja_off 11 rfl (by decide +kernel) rfl rfl rfl (by decide) rfl ?_
                        refine ja_take 12 rfl (by decide +kernel) (v_pickt rfl rfl) (.yes rfl rfl rfl) rfl ?_
                        refine ja_take 13 rfl (by decide +kernel) (v_pickt rfl rfl) (.no rfl) rfl ?_
                        refine ja_take 14 rfl (by decide +kernel) (v_assign rfl) (.no rfl) rfl ?_
                        refine ja_nil (by decide +kernel) ?_
                        refine je_next ?_
                        refine j_ret ?_
                        refine je_ret rfl rfl rfl rfl rfl (rvs := [.tmp 6]) rfl (.cons (.tmp rfl) .nil) () ?_ (fun w h => h.fin mem0) (.inl rfl)
                        first | rfl | exact congrArg Value.bool (decide_eq_true e3)
                      · first | (with_reducible replace e2 := of_decide_eq_false e2) | skip
                        refine ja_take 7 rfl (by decide +kernel) (v_loadAc (vs := [_, _, _, _, _, _]) rfl Try.isAgg29 Try.sizeOf29 rfl rfl) (.yes rfl rfl rfl) rfl ?_
                        refine ja_take 9 rfl (by decide +kernel) (v_loadAc (vs := [_, _, _, _, _, _]) rfl Try.isAgg29 Try.sizeOf29 rfl rfl) (.yes rfl rfl rfl) rfl ?_
                        refine ja_one (i := 8) (by decide +kernel) (jn_q rfl (q_callP (f19_spec) Try.call19 (by rfl) rfl (memc FindS.mem mem0)) (.yes rfl rfl rfl) rfl ?_)
                        intro x78
                        refine ja_one (i := 10) (by decide +kernel) (jn_q rfl (q_callP (f19_spec) Try.call19 (by rfl) rfl (memc FindS.mem mem0)) (.yes rfl rfl rfl) rfl ?_)
                        intro x80
                        refine ja_one (i := 11) (by decide +kernel) (jn_q rfl (q_callP (f23_spec) Try.call23 (by rfl) rfl (memc FindS.mem (memc FindS.mem mem0))) (.yes rfl rfl rfl) rfl ?_)
                        intro x81
                        have e3 := set_get1 (o := o) gs (by simpa using e2)
                        refine ja_take 12 rfl (by decide +kernel) (v_pickf rfl rfl) (.yes rfl rfl rfl) rfl ?_
                        refine ja_take 13 rfl (by decide +kernel) (v_pickt rfl rfl) (.no rfl) rfl ?_
                        refine ja_take 14 rfl (by decide +kernel) (v_assign rfl) (.no rfl) rfl ?_
                        refine ja_nil (by decide +kernel) ?_
                        refine je_next ?_
                        refine j_ret ?_
                        refine je_ret rfl rfl rfl rfl rfl (rvs := [.tmp 6]) rfl (.cons (.tmp rfl) .nil) () ?_ (fun w h => h.fin mem0) (.inl rfl)
                        first | rfl | exact congrArg Value.bool (decide_eq_true e3)
                    · first | (with_reducible replace e1 := of_decide_eq_false e1) | skip
                      exact absurd (set_get2 gs) e1
        · skip
          refine jn_e rfl (e_alloc Try.zeroValue37 Cells.agg) (.no rfl) rfl ?_
          intro B9
          refine ja_one (i := 4) (by decide +kernel) (jn_q rfl (q_callP (f19_spec) Try.call19 (by rfl) rfl (memc FindS.mem mem0)) (.no rfl) rfl ?_)
          intro x41
          refine ja_one (i := 5) (by decide +kernel) (jn_q rfl (q_callP (f17_spec (by omega)) Try.call17 (by rfl) rfl (memc FindS.mem (memc FindS.mem mem0))) (.no rfl) rfl ?_)
          intro u42
          refine ja_take 6 rfl (by decide +kernel) (v_move rfl) (.no rfl) rfl ?_
          refine ja_take 7 rfl (by decide +kernel) (v_ext rfl rfl) (.no rfl) rfl ?_
          refine ja_two (i := 8) (j := 10) (by decide +kernel) ?_ ?_
          · skip
            refine jn_v rfl (v_ext rfl rfl) (.no rfl) rfl ?_
            refine ja_one (i := 10) (by decide +kernel) (jn_x rfl (by simp) (x_storec (cs' := [_, _, _]) rfl rfl rfl Try.sizeOf37 rfl rfl) (.no rfl) rfl ?_)
            intro _
            refine ja_take 11 rfl (by decide +kernel) (v_assign rfl) (.no rfl) rfl ?_
            refine ja_nil (by decide +kernel) ?_
            refine je_next ?_
            refine j_seq ?_
            refine j_seq ?_
            refine j_draw [] mixed ?_
            refine ja_take 0 rfl (by decide +kernel) (v_loadAc (vs := [_, _, _]) rfl Try.isAgg26 Try.sizeOf26 rfl rfl) (.no rfl) rfl ?_
            refine ja_take 2 rfl (by decide +kernel) (v_loadAc (vs := [_, _, _]) rfl Try.isAgg37 Try.sizeOf37 rfl rfl) (.no rfl) rfl ?_
            refine ja_one (i := 1) (by decide +kernel) (jn_q rfl (q_callP (f18_spec (by rw [setP_shape.1]; omega)) Try.call18 (by rfl) rfl (memc FindS.mem mem0)) (.no rfl) rfl ?_)
            intro u46
            refine ja_one (i := 3) (by decide +kernel) (jn_q rfl (q_callP (f20_spec) Try.call20 (by rfl) rfl (memc FindS.mem (memc FindS.mem mem0))) (.no rfl) rfl ?_)
            intro x48
            refine ja_take 4 rfl (by decide +kernel) (v_not rfl) (.no rfl) rfl ?_
            refine ja_take 5 rfl (by decide +kernel) (v_move rfl) (.no rfl) rfl ?_
            refine ja_split 50 rfl (fun d1 => ?_) (fun d1 => ?_)
            · first | (with_reducible replace d1 := of_decide_eq_true d1) | skip
              rw [hset] at d1; simp at d1
            · first | (with_reducible replace d1 := of_decide_eq_false d1) | skip
              refine ja_take 6 rfl (by decide +kernel) (v_move rfl) (.yes rfl rfl rfl) rfl ?_
              refine ja_take 7 rfl (by decide +kernel) (v_move rfl) (.yes rfl rfl rfl) rfl ?_
              refine ja_take 8 rfl (by decide +kernel) (v_neq rfl rfl) (.yes rfl rfl rfl) rfl ?_
              refine ja_take 9 rfl (by decide +kernel) (v_pickf rfl rfl) (.no rfl) rfl ?_
              refine ja_nil (by decide +kernel) ?_
              refine je_next ?_
              refine j_if rfl (fun d2 => ?_) (fun d2 => ?_)
              · first | (with_reducible replace d2 := of_decide_eq_true d2) | skip
                exact absurd hse d2
              · first | (with_reducible replace d2 := of_decide_eq_false d2) | skip
                refine j_skip ?_
                refine je_next ?_
                refine j_seq ?_
                refine j_seq ?_
                refine j_region ?_
                refine jv (v_loadAc (vs := [_, _, _]) rfl Try.isAgg37 Try.sizeOf37 rfl rfl) (.no rfl) rfl ?_
                refine jq (q_callP (f21_spec (by rw [setC_len]; omega)) Try.call21 (by rfl) rfl (memc FindS.mem mem0)) (.no rfl) rfl ?_
                intro x56
                refine jv (v_not rfl) (.no rfl) rfl ?_
                refine jo_nil ?_
                refine je_next ?_
                refine j_if rfl (fun d3 => ?_) (fun d3 => ?_)
                · first | (with_reducible replace d3 := of_decide_eq_true d3) | skip
                  refine j_seq ?_
                  refine j_region ?_
                  refine jv (v_assign rfl) (.no rfl) rfl ?_
                  refine jo_nil ?_
                  refine je_next ?_
                  refine j_ret ?_
                  refine je_then (by simp) ?_
                  refine je_ret rfl rfl rfl rfl rfl (rvs := [.tmp 6]) rfl (.cons (.tmp rfl) .nil) () ?_ (fun w h => h.fin mem0) (.inl rfl)
                  first | rfl | exact congrArg Value.bool (decide_eq_true e3)
                · first | (with_reducible replace d3 := of_decide_eq_false d3) | skip
                  refine j_skip ?_
                  refine je_next ?_
                  refine j_seq ?_
                  refine j_region ?_
                  refine jv (v_loadAc (vs := [_, _, _]) rfl Try.isAgg26 Try.sizeOf26 rfl rfl) (.no rfl) rfl ?_
                  refine jv (v_move rfl) (.no rfl) rfl ?_
                  refine jq (q_callP (f22_spec (by rw [setP_shape.1]; omega) (set_gen hI)) Try.call22 (by rfl) rfl (memc FindS.mem mem0)) (.no rfl) rfl ?_
                  intro f61
                  refine jv (v_move rfl) (.no rfl) rfl ?_
                  refine jv (v_ext rfl rfl) (.no rfl) rfl ?_
                  refine jv (v_ext rfl rfl) (.no rfl) rfl ?_
                  refine jx (x_alloc Try.zeroValue29 Cells.agg) (.no rfl) rfl ?_
                  intro B11
                  refine jx (x_storec (cs' := [_, _, _, _, _, _]) rfl rfl rfl Try.sizeOf29 rfl rfl) (.no rfl) rfl ?_
                  intro _
                  refine jv (v_assign rfl) (.no rfl) rfl ?_
                  refine jo_nil ?_
                  refine je_next ?_
                  refine j_seq ?_
                  refine j_region ?_
                  refine jv (v_loadAc (vs := [_, _, _]) rfl Try.isAgg26 Try.sizeOf26 rfl rfl) (.no rfl) rfl ?_
                  refine jv (v_move rfl) (.no rfl) rfl ?_
                  refine jq (q_callP (f22_spec (by omega) hI) Try.call22 (by rfl) rfl (memc FindS.mem mem0)) (.no rfl) rfl ?_
                  intro f67
                  refine jv (v_move rfl) (.no rfl) rfl ?_
                  refine jv (v_ext rfl rfl) (.no rfl) rfl ?_
                  refine jv (v_ext rfl rfl) (.no rfl) rfl ?_
                  refine jx (x_alloc Try.zeroValue29 Cells.agg) (.no rfl) rfl ?_
                  intro B13
                  refine jx (x_storec (cs' := [_, _, _, _, _, _]) rfl rfl rfl Try.sizeOf29 rfl rfl) (.no rfl) rfl ?_
                  intro _
                  refine jv (v_assign rfl) (.no rfl) rfl ?_
                  refine jo_nil ?_
                  refine je_next ?_
                  refine j_seq ?_
                  refine j_draw [] mixed ?_
                  refine ja_take 0 rfl (by decide +kernel) (v_move rfl) (.no rfl) rfl ?_
                  refine ja_take 1 rfl (by decide +kernel) (v_move rfl) (.no rfl) rfl ?_
                  refine ja_take 2 rfl (by decide +kernel) (v_eql rfl rfl) (.no rfl) rfl ?_
                  refine ja_take 3 rfl (by decide +kernel) (v_move rfl) (.no rfl) rfl ?_
                  refine ja_split 73 rfl (fun e1 => ?_) (fun e1 => ?_)
                  · first | (with_reducible replace e1 := of_decide_eq_true e1) | skip
                    refine ja_take 4 rfl (by decide +kernel) (v_move rfl) (.yes rfl rfl rfl) rfl ?_
                    refine ja_take 5 rfl (by decide +kernel) (v_neq rfl rfl) (.yes rfl rfl rfl) rfl ?_
                    refine ja_take 6 rfl (by decide +kernel) (v_move rfl) (.yes rfl rfl rfl) rfl ?_
                    refine ja_split 76 rfl (fun e2 => ?_) (fun e2 => ?_)
                    · first | (with_reducible replace e2 := of_decide_eq_true e2) | skip
                      refine ja_off 7 rfl (by decide +kernel) rfl rfl rfl (by decide) rfl ?_
                      refine ja_off 8 rfl (by decide +kernel) rfl rfl rfl (by decide) rfl ?_
                      refine ja_off 9 rfl (by decide +kernel) rfl rfl rfl (by decide) rfl ?_
                      refine ja_off 10 rfl (by decide +kernel) rfl rfl rfl (by decide) rfl ?_
                      refine ja_off 11 rfl (by decide +kernel) rfl rfl rfl (by decide) rfl ?_
                      refine ja_take 12 rfl (by decide +kernel) (v_pickt rfl rfl) (.yes rfl rfl rfl) rfl ?_
                      refine ja_take 13 rfl (by decide +kernel) (v_pickt rfl rfl) (.no rfl) rfl ?_
                      refine ja_take 14 rfl (by decide +kernel) (v_assign rfl) (.no rfl) rfl ?_
                      refine ja_nil (by decide +kernel) ?_
                      refine je_next ?_
                      refine j_ret ?_
                      refine je_ret rfl rfl rfl rfl rfl (rvs := [.tmp 6]) rfl (.cons (.tmp rfl) .nil) () ?_ (fun w h => h.fin mem0) (.inl rfl)
                      first | rfl | exact congrArg Value.bool (decide_eq_true e3)
                    · first | (with_reducible replace e2 := of_decide_eq_false e2) | skip
                      refine ja_take 7 rfl (by decide +kernel) (v_loadAc (vs := [_, _, _, _, _, _]) rfl Try.isAgg29 Try.sizeOf29 rfl rfl) (.yes rfl rfl rfl) rfl ?_
                      refine ja_take 9 rfl (by decide +kernel) (v_loadAc (vs := [_, _, _, _, _, _]) rfl Try.isAgg29 Try.sizeOf29 rfl rfl) (.yes rfl rfl rfl) rfl ?_
                      refine ja_one (i := 8) (by decide +kernel) (jn_q rfl (q_callP (f19_spec) Try.call19 (by rfl) rfl (memc FindS.mem mem0)) (.yes rfl rfl rfl) rfl ?_)
                      intro x78
                      refine ja_one (i := 10) (by decide +kernel) (jn_q rfl (q_callP (f19_spec) Try.call19 (by rfl) rfl (memc FindS.mem mem0)) (.yes rfl rfl rfl) rfl ?_)
                      intro x80
                      refine ja_one (i := 11) (by decide +kernel) (jn_q rfl (q_callP (f23_spec) Try.call23 (by rfl) rfl (memc FindS.mem (memc FindS.mem mem0))) (.yes rfl rfl rfl) rfl ?_)
                      intro x81
                      have e3 := set_get1 (o := o) gs (by simpa using e2)
                      refine ja_take 12 rfl (by decide +kernel) (v_pickf rfl rfl) (.yes rfl rfl rfl) rfl ?_
                      refine ja_take 13 rfl (by decide +kernel) (v_pickt rfl rfl) (.no rfl) rfl ?_
                      refine ja_take 14 rfl (by decide +kernel) (v_assign rfl) (.no rfl) rfl ?_
                      refine ja_nil (by decide +kernel) ?_
                      refine je_next ?_
                      refine j_ret ?_
                      refine je_ret rfl rfl rfl rfl rfl (rvs := [.tmp 6]) rfl (.cons (.tmp rfl) .nil) () ?_ (fun w h => h.fin mem0) (.inl rfl)
                      first | rfl | exact congrArg Value.bool (decide_eq_true e3)
                  · first | (with_reducible replace e1 := of_decide_eq_false e1) | skip
                    exact absurd (set_get2 gs) e1
          · skip
            refine jn_x rfl (by simp) (x_storec (cs' := [_, _, _]) rfl rfl rfl Try.sizeOf37 rfl rfl) (.no rfl) rfl ?_
            intro _
            refine ja_take 8 rfl (by decide +kernel) (v_ext rfl rfl) (.no rfl) rfl ?_
            refine ja_take 11 rfl (by decide +kernel) (v_assign rfl) (.no rfl) rfl ?_
            refine ja_nil (by decide +kernel) ?_
            refine je_next ?_
            refine j_seq ?_
            refine j_seq ?_
            refine j_draw [] mixed ?_
            refine ja_take 0 rfl (by decide +kernel) (v_loadAc (vs := [_, _, _]) rfl Try.isAgg26 Try.sizeOf26 rfl rfl) (.no rfl) rfl ?_
            refine ja_take 2 rfl (by decide +kernel) (v_loadAc (vs := [_, _, _]) rfl Try.isAgg37 Try.sizeOf37 rfl rfl) (.no rfl) rfl ?_
            refine ja_one (i := 1) (by decide +kernel) (jn_q rfl (q_callP (f18_spec (by rw [setP_shape.1]; omega)) Try.call18 (by rfl) rfl (memc FindS.mem mem0)) (.no rfl) rfl ?_)
            intro u46
            refine ja_one (i := 3) (by decide +kernel) (jn_q rfl (q_callP (f20_spec) Try.call20 (by rfl) rfl (memc FindS.mem (memc FindS.mem mem0))) (.no rfl) rfl ?_)
            intro x48
            refine ja_take 4 rfl (by decide +kernel) (v_not rfl) (.no rfl) rfl ?_
            refine ja_take 5 rfl (by decide +kernel) (v_move rfl) (.no rfl) rfl ?_
            refine ja_split 50 rfl (fun d1 => ?_) (fun d1 => ?_)
            · first | (with_reducible replace d1 := of_decide_eq_true d1) | skip
              rw [hset] at d1; simp at d1
            · first | (with_reducible replace d1 := of_decide_eq_false d1) | skip
              refine ja_take 6 rfl (by decide +kernel) (v_move rfl) (.yes rfl rfl rfl) rfl ?_
              refine ja_take 7 rfl (by decide +kernel) (v_move rfl) (.yes rfl rfl rfl) rfl ?_
              refine ja_take 8 rfl (by decide +kernel) (v_neq rfl rfl) (.yes rfl rfl rfl) rfl ?_
              refine ja_take 9 rfl (by decide +kernel) (v_pickf rfl rfl) (.no rfl) rfl ?_
              refine ja_nil (by decide +kernel) ?_
              refine je_next ?_
              refine j_if rfl (fun d2 => ?_) (fun d2 => ?_)
              · first | (with_reducible replace d2 := of_decide_eq_true d2) | skip
                exact absurd hse d2
              · first | (with_reducible replace d2 := of_decide_eq_false d2) | skip
                refine j_skip ?_
                refine je_next ?_
                refine j_seq ?_
                refine j_seq ?_
                refine j_region ?_
                refine jv (v_loadAc (vs := [_, _, _]) rfl Try.isAgg37 Try.sizeOf37 rfl rfl) (.no rfl) rfl ?_
                refine jq (q_callP (f21_spec (by rw [setC_len]; omega)) Try.call21 (by rfl) rfl (memc FindS.mem mem0)) (.no rfl) rfl ?_
                intro x56
                refine jv (v_not rfl) (.no rfl) rfl ?_
                refine jo_nil ?_
                refine je_next ?_
                refine j_if rfl (fun d3 => ?_) (fun d3 => ?_)
                · first | (with_reducible replace d3 := of_decide_eq_true d3) | skip
                  refine j_seq ?_
                  refine j_region ?_
                  refine jv (v_assign rfl) (.no rfl) rfl ?_
                  refine jo_nil ?_
                  refine je_next ?_
                  refine j_ret ?_
                  refine je_then (by simp) ?_
                  refine je_ret rfl rfl rfl rfl rfl (rvs := [.tmp 6]) rfl (.cons (.tmp rfl) .nil) () ?_ (fun w h => h.fin mem0) (.inl rfl)
                  first | rfl | exact congrArg Value.bool (decide_eq_true e3)
                · first | (with_reducible replace d3 := of_decide_eq_false d3) | skip
                  refine j_skip ?_
                  refine je_next ?_
                  refine j_seq ?_
                  refine j_region ?_
                  refine jv (v_loadAc (vs := [_, _, _]) rfl Try.isAgg26 Try.sizeOf26 rfl rfl) (.no rfl) rfl ?_
                  refine jv (v_move rfl) (.no rfl) rfl ?_
                  refine jq (q_callP (f22_spec (by rw [setP_shape.1]; omega) (set_gen hI)) Try.call22 (by rfl) rfl (memc FindS.mem mem0)) (.no rfl) rfl ?_
                  intro f61
                  refine jv (v_move rfl) (.no rfl) rfl ?_
                  refine jv (v_ext rfl rfl) (.no rfl) rfl ?_
                  refine jv (v_ext rfl rfl) (.no rfl) rfl ?_
                  refine jx (x_alloc Try.zeroValue29 Cells.agg) (.no rfl) rfl ?_
                  intro B11
                  refine jx (x_storec (cs' := [_, _, _, _, _, _]) rfl rfl rfl Try.sizeOf29 rfl rfl) (.no rfl) rfl ?_
                  intro _
                  refine jv (v_assign rfl) (.no rfl) rfl ?_
                  refine jo_nil ?_
                  refine je_next ?_
                  refine j_seq ?_
                  refine j_region ?_
                  refine jv (v_loadAc (vs := [_, _, _]) rfl Try.isAgg26 Try.sizeOf26 rfl rfl) (.no rfl) rfl ?_
                  refine jv (v_move rfl) (.no rfl) rfl ?_
                  refine jq (q_callP (f22_spec (by omega) hI) Try.call22 (by rfl) rfl (memc FindS.mem mem0)) (.no rfl) rfl ?_
                  intro f67
                  refine jv (v_move rfl) (.no rfl) rfl ?_
                  refine jv (v_ext rfl rfl) (.no rfl) rfl ?_
                  refine jv (v_ext rfl rfl) (.no rfl) rfl ?_
                  refine jx (x_alloc Try.zeroValue29 Cells.agg) (.no rfl) rfl ?_
                  intro B13
                  refine jx (x_storec (cs' := [_, _, _, _, _, _]) rfl rfl rfl Try.sizeOf29 rfl rfl) (.no rfl) rfl ?_
                  intro _
                  refine jv (v_assign rfl) (.no rfl) rfl ?_
                  refine jo_nil ?_
                  refine je_next ?_
                  refine j_seq ?_
                  refine j_draw [] mixed ?_
                  refine ja_take 0 rfl (by decide +kernel) (v_move rfl) (.no rfl) rfl ?_
                  refine ja_take 1 rfl (by decide +kernel) (v_move rfl) (.no rfl) rfl ?_
                  refine ja_take 2 rfl (by decide +kernel) (v_eql rfl rfl) (.no rfl) rfl ?_
                  refine ja_take 3 rfl (by decide +kernel) (v_move rfl) (.no rfl) rfl ?_
                  refine ja_split 73 rfl (fun e1 => ?_) (fun e1 => ?_)
                  · first | (with_reducible replace e1 := of_decide_eq_true e1) | skip
                    refine ja_take 4 rfl (by decide +kernel) (v_move rfl) (.yes rfl rfl rfl) rfl ?_
                    refine ja_take 5 rfl (by decide +kernel) (v_neq rfl rfl) (.yes rfl rfl rfl) rfl ?_
                    refine ja_take 6 rfl (by decide +kernel) (v_move rfl) (.yes rfl rfl rfl) rfl ?_
                    refine ja_split 76 rfl (fun e2 => ?_) (fun e2 => ?_)
                    · first | (with_reducible replace e2 := of_decide_eq_true e2) | skip
                      refine ja_off 7 rfl (by decide +kernel) rfl rfl rfl (by decide) rfl ?_
                      refine ja_off 8 rfl (by decide +kernel) rfl rfl rfl (by decide) rfl ?_
                      refine ja_off 9 rfl (by decide +kernel) rfl rfl rfl (by decide) rfl ?_
                      refine ja_off 10 rfl (by decide +kernel) rfl rfl rfl (by decide) rfl ?_
                      refine ja_off 11 rfl (by decide +kernel) rfl rfl rfl (by decide) rfl ?_
                      refine ja_take 12 rfl (by decide +kernel) (v_pickt rfl rfl) (.yes rfl rfl rfl) rfl ?_
                      refine ja_take 13 rfl (by decide +kernel) (v_pickt rfl rfl) (.no rfl) rfl ?_
                      refine ja_take 14 rfl (by decide +kernel) (v_assign rfl) (.no rfl) rfl ?_
                      refine ja_nil (by decide +kernel) ?_
                      refine je_next ?_
                      refine j_ret ?_
                      refine je_ret rfl rfl rfl rfl rfl (rvs := [.tmp 6]) rfl (.cons (.tmp rfl) .nil) () ?_ (fun w h => h.fin mem0) (.inl rfl)
                      first | rfl | exact congrArg Value.bool (decide_eq_true e3)
                    · first | (with_reducible replace e2 := of_decide_eq_false e2) | skip
                      refine ja_take 7 rfl (by decide +kernel) (v_loadAc (vs := [_, _, _, _, _, _]) rfl Try.isAgg29 Try.sizeOf29 rfl rfl) (.yes rfl rfl rfl) rfl ?_
                      refine ja_take 9 rfl (by decide +kernel) (v_loadAc (vs := [_, _, _, _, _, _]) rfl Try.isAgg29 Try.sizeOf29 rfl rfl) (.yes rfl rfl rfl) rfl ?_
                      refine ja_one (i := 8) (by decide +kernel) (jn_q rfl (q_callP (f19_spec) Try.call19 (by rfl) rfl (memc FindS.mem mem0)) (.yes rfl rfl rfl) rfl ?_)
                      intro x78
                      refine ja_one (i := 10) (by decide +kernel) (jn_q rfl (q_callP (f19_spec) Try.call19 (by rfl) rfl (memc FindS.mem mem0)) (.yes rfl rfl rfl) rfl ?_)
                      intro x80
                      refine ja_one (i := 11) (by decide +kernel) (jn_q rfl (q_callP (f23_spec) Try.call23 (by rfl) rfl (memc FindS.mem (memc FindS.mem mem0))) (.yes rfl rfl rfl) rfl ?_)
                      intro x81
                      have e3 := set_get1 (o := o) gs (by simpa using e2)
                      refine ja_take 12 rfl (by decide +kernel) (v_pickf rfl rfl) (.yes rfl rfl rfl) rfl ?_
                      refine ja_take 13 rfl (by decide +kernel) (v_pickt rfl rfl) (.no rfl) rfl ?_
                      refine ja_take 14 rfl (by decide +kernel) (v_assign rfl) (.no rfl) rfl ?_
                      refine ja_nil (by decide +kernel) ?_
                      refine je_next ?_
                      refine j_ret ?_
                      refine je_ret rfl rfl rfl rfl rfl (rvs := [.tmp 6]) rfl (.cons (.tmp rfl) .nil) () ?_ (fun w h => h.fin mem0) (.inl rfl)
                      first | rfl | exact congrArg Value.bool (decide_eq_true e3)
                  · first | (with_reducible replace e1 := of_decide_eq_false e1) | skip
                    exact absurd (set_get2 gs) e1
      · skip
        refine jn_e rfl (e_alloc Try.zeroValue37 Cells.agg) (.no rfl) rfl ?_
        intro B9
        refine ja_one (i := 1) (by decide +kernel) (jn_q rfl (q_callP (f18_spec (by omega)) Try.call18 (by rfl) rfl (memc FindS.mem mem0)) (.no rfl) rfl ?_)
        intro u38
        refine ja_one (i := 4) (by decide +kernel) (jn_q rfl (q_callP (f19_spec) Try.call19 (by rfl) rfl (memc FindS.mem mem0)) (.no rfl) rfl ?_)
        intro x41
        refine ja_one (i := 5) (by decide +kernel) (jn_q rfl (q_callP (f17_spec (by omega)) Try.call17 (by rfl) rfl (memc FindS.mem (memc FindS.mem mem0))) (.no rfl) rfl ?_)
        intro u42
        refine ja_take 6 rfl (by decide +kernel) (v_move rfl) (.no rfl) rfl ?_
        refine ja_take 7 rfl (by decide +kernel) (v_ext rfl rfl) (.no rfl) rfl ?_
        refine ja_two (i := 8) (j := 10) (by decide +kernel) ?_ ?_
        · skip
          refine jn_v rfl (v_ext rfl rfl) (.no rfl) rfl ?_
          refine ja_one (i := 10) (by decide +kernel) (jn_x rfl (by simp) (x_storec (cs' := [_, _, _]) rfl rfl rfl Try.sizeOf37 rfl rfl) (.no rfl) rfl ?_)
          intro _
          refine ja_take 11 rfl (by decide +kernel) (v_assign rfl) (.no rfl) rfl ?_
          refine ja_nil (by decide +kernel) ?_
          refine je_next ?_
          refine j_seq ?_
          refine j_seq ?_
          refine j_draw [] mixed ?_
          refine ja_take 0 rfl (by decide +kernel) (v_loadAc (vs := [_, _, _]) rfl Try.isAgg26 Try.sizeOf26 rfl rfl) (.no rfl) rfl ?_
          refine ja_take 2 rfl (by decide +kernel) (v_loadAc (vs := [_, _, _]) rfl Try.isAgg37 Try.sizeOf37 rfl rfl) (.no rfl) rfl ?_
          refine ja_one (i := 1) (by decide +kernel) (jn_q rfl (q_callP (f18_spec (by rw [setP_shape.1]; omega)) Try.call18 (by rfl) rfl (memc FindS.mem mem0)) (.no rfl) rfl ?_)
          intro u46
          refine ja_one (i := 3) (by decide +kernel) (jn_q rfl (q_callP (f20_spec) Try.call20 (by rfl) rfl (memc FindS.mem (memc FindS.mem mem0))) (.no rfl) rfl ?_)
          intro x48
          refine ja_take 4 rfl (by decide +kernel) (v_not rfl) (.no rfl) rfl ?_
          refine ja_take 5 rfl (by decide +kernel) (v_move rfl) (.no rfl) rfl ?_
          refine ja_split 50 rfl (fun d1 => ?_) (fun d1 => ?_)
          · first | (with_reducible replace d1 := of_decide_eq_true d1) | skip
            rw [hset] at d1; simp at d1
          · first | (with_reducible replace d1 := of_decide_eq_false d1) | skip
            refine ja_take 6 rfl (by decide +kernel) (v_move rfl) (.yes rfl rfl rfl) rfl ?_
            refine ja_take 7 rfl (by decide +kernel) (v_move rfl) (.yes rfl rfl rfl) rfl ?_
            refine ja_take 8 rfl (by decide +kernel) (v_neq rfl rfl) (.yes rfl rfl rfl) rfl ?_
            refine ja_take 9 rfl (by decide +kernel) (v_pickf rfl rfl) (.no rfl) rfl ?_
            refine ja_nil (by decide +kernel) ?_
            refine je_next ?_
            refine j_if rfl (fun d2 => ?_) (fun d2 => ?_)
            · first | (with_reducible replace d2 := of_decide_eq_true d2) | skip
              exact absurd hse d2
            · first | (with_reducible replace d2 := of_decide_eq_false d2) | skip
              refine j_skip ?_
              refine je_next ?_
              refine j_seq ?_
              refine j_seq ?_
              refine j_region ?_
              refine jv (v_loadAc (vs := [_, _, _]) rfl Try.isAgg37 Try.sizeOf37 rfl rfl) (.no rfl) rfl ?_
              refine jq (q_callP (f21_spec (by rw [setC_len]; omega)) Try.call21 (by rfl) rfl (memc FindS.mem mem0)) (.no rfl) rfl ?_
              intro x56
              refine jv (v_not rfl) (.no rfl) rfl ?_
              refine jo_nil ?_
              refine je_next ?_
              refine j_if rfl (fun d3 => ?_) (fun d3 => ?_)
              · first | (with_reducible replace d3 := of_decide_eq_true d3) | skip
                refine j_seq ?_
                refine j_region ?_
                refine jv (v_assign rfl) (.no rfl) rfl ?_
                refine jo_nil ?_
                refine je_next ?_
                refine j_ret ?_
                refine je_then (by simp) ?_
                refine je_ret rfl rfl rfl rfl rfl (rvs := [.tmp 6]) rfl (.cons (.tmp rfl) .nil) () ?_ (fun w h => h.fin mem0) (.inl rfl)
                first | rfl | exact congrArg Value.bool (decide_eq_true e3)
              · first | (with_reducible replace d3 := of_decide_eq_false d3) | skip
                refine j_skip ?_
                refine je_next ?_
                refine j_seq ?_
                refine j_region ?_
                refine jv (v_loadAc (vs := [_, _, _]) rfl Try.isAgg26 Try.sizeOf26 rfl rfl) (.no rfl) rfl ?_
                refine jv (v_move rfl) (.no rfl) rfl ?_
                refine jq (q_callP (f22_spec (by rw [setP_shape.1]; omega) (set_gen hI)) Try.call22 (by rfl) rfl (memc FindS.mem mem0)) (.no rfl) rfl ?_
                intro f61
                refine jv (v_move rfl) (.no rfl) rfl ?_
                refine jv (v_ext rfl rfl) (.no rfl) rfl ?_
                refine jv (v_ext rfl rfl) (.no rfl) rfl ?_
                refine jx (x_alloc Try.zeroValue29 Cells.agg) (.no rfl) rfl ?_
                intro B11
                refine jx (x_storec (cs' := [_, _, _, _, _, _]) rfl rfl rfl Try.sizeOf29 rfl rfl) (.no rfl) rfl ?_
                intro _
                refine jv (v_assign rfl) (.no rfl) rfl ?_
                refine jo_nil ?_
                refine je_next ?_
                refine j_seq ?_
                refine j_region ?_
                refine jv (v_loadAc (vs := [_, _, _]) rfl Try.isAgg26 Try.sizeOf26 rfl rfl) (.no rfl) rfl ?_
                refine jv (v_move rfl) (.no rfl) rfl ?_
                refine jq (q_callP (f22_spec (by omega) hI) Try.call22 (by rfl) rfl (memc FindS.mem mem0)) (.no rfl) rfl ?_
                intro f67
                refine jv (v_move rfl) (.no rfl) rfl ?_
                refine jv (v_ext rfl rfl) (.no rfl) rfl ?_
                refine jv (v_ext rfl rfl) (.no rfl) rfl ?_
                refine jx (x_alloc Try.zeroValue29 Cells.agg) (.no rfl) rfl ?_
                intro B13
                refine jx (x_storec (cs' := [_, _, _, _, _, _]) rfl rfl rfl Try.sizeOf29 rfl rfl) (.no rfl) rfl ?_
                intro _
                refine jv (v_assign rfl) (.no rfl) rfl ?_
                refine jo_nil ?_
                refine je_next ?_
                refine j_seq ?_
                refine j_draw [] mixed ?_
                refine ja_take 0 rfl (by decide +kernel) (v_move rfl) (.no rfl) rfl ?_
                refine ja_take 1 rfl (by decide +kernel) (v_move rfl) (.no rfl) rfl ?_
                refine ja_take 2 rfl (by decide +kernel) (v_eql rfl rfl) (.no rfl) rfl ?_
                refine ja_take 3 rfl (by decide +kernel) (v_move rfl) (.no rfl) rfl ?_
                refine ja_split 73 rfl (fun e1 => ?_) (fun e1 => ?_)
                · first | (with_reducible replace e1 := of_decide_eq_true e1) | skip
                  refine ja_take 4 rfl (by decide +kernel) (v_move rfl) (.yes rfl rfl rfl) rfl ?_
                  refine ja_take 5 rfl (by decide +kernel) (v_neq rfl rfl) (.yes rfl rfl rfl) rfl ?_
                  refine ja_take 6 rfl (by decide +kernel) (v_move rfl) (.yes rfl rfl rfl) rfl ?_
                  refine ja_split 76 rfl (fun e2 => ?_) (fun e2 => ?_)
                  · first | (with_reducible replace e2 := of_decide_eq_true e2) | skip
                    refine ja_off 7 rfl (by decide +kernel) rfl rfl rfl (by decide) rfl ?_
                    refine ja_off 8 rfl (by decide +kernel) rfl rfl rfl (by decide) rfl ?_
                    refine ja_off 9 rfl (by decide +kernel) rfl rfl rfl (by decide) rfl ?_
                    refine ja_off 10 rfl (by decide +kernel) rfl rfl rfl (by decide) rfl ?_
                    refine ja_off 11 rfl (by decide +kernel) rfl rfl rfl (by decide) rfl ?_
                    refine ja_take 12 rfl (by decide +kernel) (v_pickt rfl rfl) (.yes rfl rfl rfl) rfl ?_
                    refine ja_take 13 rfl (by decide +kernel) (v_pickt rfl rfl) (.no rfl) rfl ?_
                    refine ja_take 14 rfl (by decide +kernel) (v_assign rfl) (.no rfl) rfl ?_
                    refine ja_nil (by decide +kernel) ?_
                    refine je_next ?_
                    refine j_ret ?_
                    refine je_ret rfl rfl rfl rfl rfl (rvs := [.tmp 6]) rfl (.cons (.tmp rfl) .nil) () ?_ (fun w h => h.fin mem0) (.inl rfl)
                    first | rfl | exact congrArg Value.bool (decide_eq_true e3)
                  · first | (with_reducible replace e2 := of_decide_eq_false e2) | skip
                    refine ja_take 7 rfl (by decide +kernel) (v_loadAc (vs := [_, _, _, _, _, _]) rfl Try.isAgg29 Try.sizeOf29 rfl rfl) (.yes rfl rfl rfl) rfl ?_
                    refine ja_take 9 rfl (by decide +kernel) (v_loadAc (vs := [_, _, _, _, _, _]) rfl Try.isAgg29 Try.sizeOf29 rfl rfl) (.yes rfl rfl rfl) rfl ?_
                    refine ja_one (i := 8) (by decide +kernel) (jn_q rfl (q_callP (f19_spec) Try.call19 (by rfl) rfl (memc FindS.mem mem0)) (.yes rfl rfl rfl) rfl ?_)
                    intro x78
                    refine ja_one (i := 10) (by decide +kernel) (jn_q rfl (q_callP (f19_spec) Try.call19 (by rfl) rfl (memc FindS.mem mem0)) (.yes rfl rfl rfl) rfl ?_)
                    intro x80
                    refine ja_one (i := 11) (by decide +kernel) (jn_q rfl (q_callP (f23_spec) Try.call23 (by rfl) rfl (memc FindS.mem (memc FindS.mem mem0))) (.yes rfl rfl rfl) rfl ?_)
                    intro x81
                    have e3 := set_get1 (o := o) gs (by simpa using e2)
                    refine ja_take 12 rfl (by decide +kernel) (v_pickf rfl rfl) (.yes rfl rfl rfl) rfl ?_
                    refine ja_take 13 rfl (by decide +kernel) (v_pickt rfl rfl) (.no rfl) rfl ?_
                    refine ja_take 14 rfl (by decide +kernel) (v_assign rfl) (.no rfl) rfl ?_
                    refine ja_nil (by decide +kernel) ?_
                    refine je_next ?_
                    refine j_ret ?_
                    refine je_ret rfl rfl rfl rfl rfl (rvs := [.tmp 6]) rfl (.cons (.tmp rfl) .nil) () ?_ (fun w h => h.fin mem0) (.inl rfl)
                    first | rfl | exact congrArg Value.bool (decide_eq_true e3)
                · first | (with_reducible replace e1 := of_decide_eq_false e1) | skip
                  exact absurd (set_get2 gs) e1
        · skip
          refine jn_x rfl (by simp) (x_storec (cs' := [_, _, _]) rfl rfl rfl Try.sizeOf37 rfl rfl) (.no rfl) rfl ?_
          intro _
          refine ja_take 8 rfl (by decide +kernel) (v_ext rfl rfl) (.no rfl) rfl ?_
          refine ja_take 11 rfl (by decide +kernel) (v_assign rfl) (.no rfl) rfl ?_
          refine ja_nil (by decide +kernel) ?_
          refine je_next ?_
          refine j_seq ?_
          refine j_seq ?_
          refine j_draw [] mixed ?_
          refine ja_take 0 rfl (by decide +kernel) (v_loadAc (vs := [_, _, _]) rfl Try.isAgg26 Try.sizeOf26 rfl rfl) (.no rfl) rfl ?_
          refine ja_take 2 rfl (by decide +kernel) (v_loadAc (vs := [_, _, _]) rfl Try.isAgg37 Try.sizeOf37 rfl rfl) (.no rfl) rfl ?_
          refine ja_one (i := 1) (by decide +kernel) (jn_q rfl (q_callP (f18_spec (by rw [setP_shape.1]; omega)) Try.call18 (by rfl) rfl (memc FindS.mem mem0)) (.no rfl) rfl ?_)
          intro u46
          refine ja_one (i := 3) (by decide +kernel) (jn_q rfl (q_callP (f20_spec) Try.call20 (by rfl) rfl (memc FindS.mem (memc FindS.mem mem0))) (.no rfl) rfl ?_)
          intro x48
          refine ja_take 4 rfl (by decide +kernel) (v_not rfl) (.no rfl) rfl ?_
          refine ja_take 5 rfl (by decide +kernel) (v_move rfl) (.no rfl) rfl ?_
          refine ja_split 50 rfl (fun d1 => ?_) (fun d1 => ?_)
          · first | (with_reducible replace d1 := of_decide_eq_true d1) | skip
            rw [hset] at d1; simp at d1
          · first | (with_reducible replace d1 := of_decide_eq_false d1) | skip
            refine ja_take 6 rfl (by decide +kernel) (v_move rfl) (.yes rfl rfl rfl) rfl ?_
            refine ja_take 7 rfl (by decide +kernel) (v_move rfl) (.yes rfl rfl rfl) rfl ?_
            refine ja_take 8 rfl (by decide +kernel) (v_neq rfl rfl) (.yes rfl rfl rfl) rfl ?_
            refine ja_take 9 rfl (by decide +kernel) (v_pickf rfl rfl) (.no rfl) rfl ?_
            refine ja_nil (by decide +kernel) ?_
            refine je_next ?_
            refine j_if rfl (fun d2 => ?_) (fun d2 => ?_)
            · first | (with_reducible replace d2 := of_decide_eq_true d2) | skip
              exact absurd hse d2
            · first | (with_reducible replace d2 := of_decide_eq_false d2) | skip
              refine j_skip ?_
              refine je_next ?_
              refine j_seq ?_
              refine j_seq ?_
              refine j_region ?_
              refine jv (v_loadAc (vs := [_, _, _]) rfl Try.isAgg37 Try.sizeOf37 rfl rfl) (.no rfl) rfl ?_
              refine jq (q_callP (f21_spec (by rw [setC_len]; omega)) Try.call21 (by rfl) rfl (memc FindS.mem mem0)) (.no rfl) rfl ?_
              intro x56
              refine jv (v_not rfl) (.no rfl) rfl ?_
              refine jo_nil ?_
              refine je_next ?_
              refine j_if rfl (fun d3 => ?_) (fun d3 => ?_)
              · first | (with_reducible replace d3 := of_decide_eq_true d3) | skip
                refine j_seq ?_
                refine j_region ?_
                refine jv (v_assign rfl) (.no rfl) rfl ?_
                refine jo_nil ?_
                refine je_next ?_
                refine j_ret ?_
                refine je_then (by simp) ?_
                refine je_ret rfl rfl rfl rfl rfl (rvs := [.tmp 6]) rfl (.cons (.tmp rfl) .nil) () ?_ (fun w h => h.fin mem0) (.inl rfl)
                first | rfl | exact congrArg Value.bool (decide_eq_true e3)
              · first | (with_reducible replace d3 := of_decide_eq_false d3) | skip
                refine j_skip ?_
                refine je_next ?_
                refine j_seq ?_
                refine j_region ?_
                refine jv (v_loadAc (vs := [_, _, _]) rfl Try.isAgg26 Try.sizeOf26 rfl rfl) (.no rfl) rfl ?_
                refine jv (v_move rfl) (.no rfl) rfl ?_
                refine jq (q_callP (f22_spec (by rw [setP_shape.1]; omega) (set_gen hI)) Try.call22 (by rfl) rfl (memc FindS.mem mem0)) (.no rfl) rfl ?_
                intro f61
                refine jv (v_move rfl) (.no rfl) rfl ?_
                refine jv (v_ext rfl rfl) (.no rfl) rfl ?_
                refine jv (v_ext rfl rfl) (.no rfl) rfl ?_
                refine jx (x_alloc Try.zeroValue29 Cells.agg) (.no rfl) rfl ?_
                intro B11
                refine jx (x_storec (cs' := [_, _, _, _, _, _]) rfl rfl rfl Try.sizeOf29 rfl rfl) (.no rfl) rfl ?_
                intro _
                refine jv (v_assign rfl) (.no rfl) rfl ?_
                refine jo_nil ?_
                refine je_next ?_
                refine j_seq ?_
                refine j_region ?_
                refine jv (v_loadAc (vs := [_, _, _]) rfl Try.isAgg26 Try.sizeOf26 rfl rfl) (.no rfl) rfl ?_
                refine jv (v_move rfl) (.no rfl) rfl ?_
                refine jq (q_callP (f22_spec (by omega) hI) Try.call22 (by rfl) rfl (memc FindS.mem mem0)) (.no rfl) rfl ?_
                intro f67
                refine jv (v_move rfl) (.no rfl) rfl ?_
                refine jv (v_ext rfl rfl) (.no rfl) rfl ?_
                refine jv (v_ext rfl rfl) (.no rfl) rfl ?_
                refine jx (x_alloc Try.zeroValue29 Cells.agg) (.no rfl) rfl ?_
                intro B13
                refine jx (x_storec (cs' := [_, _, _, _, _, _]) rfl rfl rfl Try.sizeOf29 rfl rfl) (.no rfl) rfl ?_
                intro _
                refine jv (v_assign rfl) (.no rfl) rfl ?_
                refine jo_nil ?_
                refine je_next ?_
                refine j_seq ?_
                refine j_draw [] mixed ?_
                refine ja_take 0 rfl (by decide +kernel) (v_move rfl) (.no rfl) rfl ?_
                refine ja_take 1 rfl (by decide +kernel) (v_move rfl) (.no rfl) rfl ?_
                refine ja_take 2 rfl (by decide +kernel) (v_eql rfl rfl) (.no rfl) rfl ?_
                refine ja_take 3 rfl (by decide +kernel) (v_move rfl) (.no rfl) rfl ?_
                refine ja_split 73 rfl (fun e1 => ?_) (fun e1 => ?_)
                · first | (with_reducible replace e1 := of_decide_eq_true e1) | skip
                  refine ja_take 4 rfl (by decide +kernel) (v_move rfl) (.yes rfl rfl rfl) rfl ?_
                  refine ja_take 5 rfl (by decide +kernel) (v_neq rfl rfl) (.yes rfl rfl rfl) rfl ?_
                  refine ja_take 6 rfl (by decide +kernel) (v_move rfl) (.yes rfl rfl rfl) rfl ?_
                  refine ja_split 76 rfl (fun e2 => ?_) (fun e2 => ?_)
                  · first | (with_reducible replace e2 := of_decide_eq_true e2) | skip
                    refine ja_off 7 rfl (by decide +kernel) rfl rfl rfl (by decide) rfl ?_
                    refine ja_off 8 rfl (by decide +kernel) rfl rfl rfl (by decide) rfl ?_
                    refine ja_off 9 rfl (by decide +kernel) rfl rfl rfl (by decide) rfl ?_
                    refine ja_off 10 rfl (by decide +kernel) rfl rfl rfl (by decide) rfl ?_
                    refine ja_off 11 rfl (by decide +kernel) rfl rfl rfl (by decide) rfl ?_
                    refine ja_take 12 rfl (by decide +kernel) (v_pickt rfl rfl) (.yes rfl rfl rfl) rfl ?_
                    refine ja_take 13 rfl (by decide +kernel) (v_pickt rfl rfl) (.no rfl) rfl ?_
                    refine ja_take 14 rfl (by decide +kernel) (v_assign rfl) (.no rfl) rfl ?_
                    refine ja_nil (by decide +kernel) ?_
                    refine je_next ?_
                    refine j_ret ?_
                    refine je_ret rfl rfl rfl rfl rfl (rvs := [.tmp 6]) rfl (.cons (.tmp rfl) .nil) () ?_ (fun w h => h.fin mem0) (.inl rfl)
                    first | rfl | exact congrArg Value.bool (decide_eq_true e3)
                  · first | (with_reducible replace e2 := of_decide_eq_false e2) | skip
                    refine ja_take 7 rfl (by decide +kernel) (v_loadAc (vs := [_, _, _, _, _, _]) rfl Try.isAgg29 Try.sizeOf29 rfl rfl) (.yes rfl rfl rfl) rfl ?_
                    refine ja_take 9 rfl (by decide +kernel) (v_loadAc (vs := [_, _, _, _, _, _]) rfl Try.isAgg29 Try.sizeOf29 rfl rfl) (.yes rfl rfl rfl) rfl ?_
                    refine ja_one (i := 8) (by decide +kernel) (jn_q rfl (q_callP (f19_spec) Try.call19 (by rfl) rfl (memc FindS.mem mem0)) (.yes rfl rfl rfl) rfl ?_)
                    intro x78
                    refine ja_one (i := 10) (by decide +kernel) (jn_q rfl (q_callP (f19_spec) Try.call19 (by rfl) rfl (memc FindS.mem mem0)) (.yes rfl rfl rfl) rfl ?_)
                    intro x80
                    refine ja_one (i := 11) (by decide +kernel) (jn_q rfl (q_callP (f23_spec) Try.call23 (by rfl) rfl (memc FindS.mem (memc FindS.mem mem0))) (.yes rfl rfl rfl) rfl ?_)
                    intro x81
                    have e3 := set_get1 (o := o) gs (by simpa using e2)
                    refine ja_take 12 rfl (by decide +kernel) (v_pickf rfl rfl) (.yes rfl rfl rfl) rfl ?_
                    refine ja_take 13 rfl (by decide +kernel) (v_pickt rfl rfl) (.no rfl) rfl ?_
                    refine ja_take 14 rfl (by decide +kernel) (v_assign rfl) (.no rfl) rfl ?_
                    refine ja_nil (by decide +kernel) ?_
                    refine je_next ?_
                    refine j_ret ?_
                    refine je_ret rfl rfl rfl rfl rfl (rvs := [.tmp 6]) rfl (.cons (.tmp rfl) .nil) () ?_ (fun w h => h.fin mem0) (.inl rfl)
                    first | rfl | exact congrArg Value.bool (decide_eq_true e3)
                · first | (with_reducible replace e1 := of_decide_eq_false e1) | skip
                  exact absurd (set_get2 gs) e1

theorem f4_spec {v : Value} {cs : List Cell} {last serial n l : Int} : Spec Try.prog 4 [stA v last serial, iV n, iV l] [] [sl cellK v cs] Unit (fun _ => .bool true) (fun _ => []) (fun _ => []) := by
  refine spec_of Try.func4 rfl Try.ntmps4 (by simp) fun ok w => ?_
  refine j_seq ?_
  refine j_region ?_
  refine jx (x_boxc rfl) (.no rfl) rfl ?_
  intro B3
  refine jv (v_assign rfl) (.no rfl) rfl ?_
  refine jo_nil ?_
  refine je_next ?_
  refine j_seq ?_
  refine j_seq ?_
  refine j_region ?_
  refine jv (v_loadAc (vs := [_, _, _]) rfl Try.isAgg26 Try.sizeOf26 rfl rfl) (.no rfl) rfl ?_
  refine jq (q_callP (f24_spec) Try.call24 (by rfl) rfl (memc FindS.mem mem0)) (.no rfl) rfl ?_
  intro x9
  refine jv (v_not rfl) (.no rfl) rfl ?_
  refine jv (v_move rfl) (.no rfl) rfl ?_
  refine j_split 11 rfl (fun r1 => ?_) (fun r1 => ?_)
  · first | (with_reducible replace r1 := of_decide_eq_true r1) | skip
    refine j_off rfl rfl rfl (by decide) rfl ?_
    refine j_off rfl rfl rfl (by decide) rfl ?_
    refine jv (v_pickt rfl rfl) (.no rfl) rfl ?_
    refine jo_nil ?_
    refine je_next ?_
    refine j_ift rfl ?_
    refine j_seq ?_
    refine j_region ?_
    refine jq (q_callP (f15_spec) Try.call15 (by rfl) rfl mem0) (.no rfl) rfl ?_
    intro x15
    refine jv (v_assign rfl) (.no rfl) rfl ?_
    refine jo_nil ?_
    refine je_next ?_
    refine j_ret ?_
    refine je_then (by simp) ?_
    refine je_ret rfl rfl rfl rfl rfl (rvs := [.tmp 6]) rfl (.cons (.tmp rfl) .nil) () ?_ (fun w h => h.fin mem0) (.inl rfl)
    first | rfl | exact congrArg Value.bool (new_right n l)
  · first | (with_reducible replace r1 := of_decide_eq_false r1) | skip
    refine jq (q_callP (f15_spec) Try.call15 (by rfl) rfl mem0) (.yes rfl rfl rfl) rfl ?_
    intro x12
    refine jv (v_not rfl) (.yes rfl rfl rfl) rfl ?_
    refine jv (v_pickf rfl rfl) (.no rfl) rfl ?_
    refine jo_nil ?_
    refine je_next ?_
    refine j_iff rfl ?_
    refine j_skip ?_
    refine je_next ?_
    refine j_seq ?_
    have hn := small_le (by simpa using r1)
    have hnl := new_len n l
    refine j_region ?_
    refine jv (v_move rfl) (.no rfl) rfl ?_
    refine jv (v_move rfl) (.no rfl) rfl ?_
    refine jq (q_callP (f25_spec) Try.call25 (by rfl) rfl mem0) (.no rfl) rfl ?_
    intro u18
    refine jx (x_alloc Try.zeroValue26 Cells.agg) (.no rfl) rfl ?_
    intro B7
    refine jx (x_storec (cs' := [_, _, _]) rfl rfl rfl Try.sizeOf26 rfl rfl) (.no rfl) rfl ?_
    intro _
    refine jo_nil ?_
    refine je_next ?_
    refine j_seq ?_
    refine j_draw [] mixed ?_
    refine ja_take 0 rfl (by decide +kernel) (v_loadAc (vs := [_, _, _]) rfl Try.isAgg26 Try.sizeOf26 rfl rfl) (.no rfl) rfl ?_
    refine ja_take 2 rfl (by decide +kernel) (v_loadAc (vs := [_, _, _]) rfl Try.isAgg26 Try.sizeOf26 rfl rfl) (.no rfl) rfl ?_
    refine ja_one (i := 1) (by decide +kernel) (jn_q rfl (q_callP (f26_spec (by omega)) Try.call26 (by rfl) rfl (memc FindS.mem mem0)) (.no rfl) rfl ?_)
    intro x20
    refine ja_one (i := 3) (by decide +kernel) (jn_q rfl (q_callP (f18_spec (by omega)) Try.call18 (by rfl) rfl (memc FindS.mem mem0)) (.no rfl) rfl ?_)
    intro u22
    refine ja_one (i := 4) (by decide +kernel) (jn_q rfl (q_callP (f21_spec (by omega)) Try.call21 (by rfl) rfl (memc FindS.mem mem0)) (.no rfl) rfl ?_)
    intro x23
    refine ja_take 5 rfl (by decide +kernel) (v_beql Try.underlying4 rfl rfl) (.no rfl) rfl ?_
    refine ja_take 6 rfl (by decide +kernel) (v_move rfl) (.no rfl) rfl ?_
    refine ja_split 25 rfl (fun d1 => ?_) (fun d1 => ?_)
    · first | (with_reducible replace d1 := of_decide_eq_true d1) | skip
      refine ja_take 7 rfl (by decide +kernel) (v_field (k' := 0) rfl Try.runUnderlying26 rfl Try.sizeOf24 (by decide) rfl) (.yes rfl rfl rfl) rfl ?_
      refine ja_take 8 rfl (by decide +kernel) (v_field (k' := 0) rfl Try.runUnderlying24 rfl Try.sizeOf22 (by decide) rfl) (.yes rfl rfl rfl) rfl ?_
      refine ja_take 9 rfl (by decide +kernel) (v_loadc rfl Try.isAgg22 rfl) (.yes rfl rfl rfl) rfl ?_
      refine ja_take 10 rfl (by decide +kernel) (v_len rfl FindR.row Try.runUnderlying22) (.yes rfl rfl rfl) rfl ?_
      refine ja_take 11 rfl (by decide +kernel) (v_leq rfl rfl) (.yes rfl rfl rfl) rfl ?_
      refine ja_take 12 rfl (by decide +kernel) (v_pickt rfl rfl) (.no rfl) rfl ?_
      refine ja_take 13 rfl (by decide +kernel) (v_move rfl) (.no rfl) rfl ?_
      refine ja_split 32 rfl (fun d2 => ?_) (fun d2 => ?_)
      · first | (with_reducible replace d2 := of_decide_eq_true d2) | skip
        refine ja_take 14 rfl (by decide +kernel) (v_loadAc (vs := [_, _, _]) rfl Try.isAgg26 Try.sizeOf26 rfl rfl) (.yes rfl rfl rfl) rfl ?_
        refine ja_take 16 rfl (by decide +kernel) (v_move rfl) (.yes rfl rfl rfl) rfl ?_
        refine ja_take 17 rfl (by decide +kernel) (v_move rfl) (.yes rfl rfl rfl) rfl ?_
        refine ja_one (i := 15) (by decide +kernel) (jn_q rfl (q_callP (f18_spec (by omega)) Try.call18 (by rfl) rfl (memc FindS.mem mem0)) (.yes rfl rfl rfl) rfl ?_)
        intro u34
        refine ja_one (i := 18) (by decide +kernel) (jn_q rfl (q_callP (f27_spec) Try.call27 (by rfl) rfl mem0) (.yes rfl rfl rfl) rfl ?_)
        intro u37
        refine ja_one (i := 19) (by decide +kernel) (jn_q rfl (q_callP (f20_spec) Try.call20 (by rfl) rfl (memc FindS.mem (memc FindS.mem mem0))) (.yes rfl rfl rfl) rfl ?_)
        intro x38
        refine ja_take 20 rfl (by decide +kernel) (v_pickt rfl rfl) (.no rfl) rfl ?_
        refine ja_take 21 rfl (by decide +kernel) (v_move rfl) (.no rfl) rfl ?_
        refine ja_split 40 rfl (fun d3 => ?_) (fun d3 => ?_)
        · first | (with_reducible replace d3 := of_decide_eq_true d3) | skip
          refine ja_take 22 rfl (by decide +kernel) (v_loadAc (vs := [_, _, _]) rfl Try.isAgg26 Try.sizeOf26 rfl rfl) (.yes rfl rfl rfl) rfl ?_
          refine ja_one (i := 23) (by decide +kernel) (jn_q rfl (q_callP (f26_spec (by omega)) Try.call26 (by rfl) rfl (memc FindS.mem mem0)) (.yes rfl rfl rfl) rfl ?_)
          intro x42
          refine ja_take 24 rfl (by decide +kernel) (v_pickt rfl rfl) (.no rfl) rfl ?_
          refine ja_take 25 rfl (by decide +kernel) (v_assign rfl) (.no rfl) rfl ?_
          refine ja_nil (by decide +kernel) ?_
          refine je_next ?_
          refine j_ret ?_
          refine je_ret rfl rfl rfl rfl rfl (rvs := [.tmp 6]) rfl (.cons (.tmp rfl) .nil) () ?_ (fun w h => h.fin mem0) (.inl rfl)
          first | rfl | exact congrArg Value.bool (new_right n l)
        · first | (with_reducible replace d3 := of_decide_eq_false d3) | skip
          simp at d3
      · first | (with_reducible replace d2 := of_decide_eq_false d2) | skip
        exact absurd (by omega) d2
    · first | (with_reducible replace d1 := of_decide_eq_false d1) | skip
      simp at d1

theorem f5_spec {v : Value} {cs : List Cell} {last serial n prog : Int} : Spec Try.prog 5 [stA v last serial, iV n, iV prog] [] [sl cellK v cs] Unit (fun _ => .bool true) (fun _ => []) (fun _ => []) := by
  refine spec_of Try.func5 rfl Try.ntmps5 (by simp) fun ok w => ?_
  refine j_seq ?_
  refine j_region ?_
  refine jx (x_boxc rfl) (.no rfl) rfl ?_
  intro B3
  refine jv (v_assign rfl) (.no rfl) rfl ?_
  refine jo_nil ?_
  refine je_next ?_
  refine j_seq ?_
  refine j_seq ?_
  refine j_region ?_
  refine jv (v_loadAc (vs := [_, _, _]) rfl Try.isAgg26 Try.sizeOf26 rfl rfl) (.no rfl) rfl ?_
  refine jq (q_callP (f14_spec) Try.call14 (by rfl) rfl (memc FindS.mem mem0)) (.no rfl) rfl ?_
  intro x16
  refine jv (v_not rfl) (.no rfl) rfl ?_
  refine jv (v_move rfl) (.no rfl) rfl ?_
  refine j_split 18 rfl (fun r1 => ?_) (fun r1 => ?_)
  · first | (with_reducible replace r1 := of_decide_eq_true r1) | skip
    refine j_off rfl rfl rfl (by decide) rfl ?_
    refine j_off rfl rfl rfl (by decide) rfl ?_
    refine jv (v_pickt rfl rfl) (.no rfl) rfl ?_
    refine jo_nil ?_
    refine je_next ?_
    refine j_ift rfl ?_
    refine j_seq ?_
    refine j_region ?_
    refine jq (q_callP (f15_spec) Try.call15 (by rfl) rfl mem0) (.no rfl) rfl ?_
    intro x22
    refine jv (v_assign rfl) (.no rfl) rfl ?_
    refine jo_nil ?_
    refine je_next ?_
    refine j_ret ?_
    refine je_then (by simp) ?_
    refine je_ret rfl rfl rfl rfl rfl (rvs := [.tmp 6]) rfl (.cons (.tmp rfl) .nil) () ?_ (fun w h => h.fin mem0) (.inl rfl)
    first | rfl | exact congrArg Value.bool (decide_eq_true (by rw [hmk]; exact ⟨rfl, rfl, rfl⟩)) | exact congrArg Value.bool (decide_eq_true (by rw [k2]; rfl))
  · first | (with_reducible replace r1 := of_decide_eq_false r1) | skip
    refine jq (q_callP (f15_spec) Try.call15 (by rfl) rfl mem0) (.yes rfl rfl rfl) rfl ?_
    intro x19
    refine jv (v_not rfl) (.yes rfl rfl rfl) rfl ?_
    refine jv (v_pickf rfl rfl) (.no rfl) rfl ?_
    refine jo_nil ?_
    refine je_next ?_
    refine j_iff rfl ?_
    refine j_skip ?_
    refine je_next ?_
    refine j_seq ?_
    obtain ⟨hsm, hser, hr⟩ := rightL_parts (by simpa using r1)
    have hn := small_le hsm
    have hI := right6_gen hr
    have gs := right6_gens hr
    obtain ⟨hn24, hl0, hl9, hs0, hgen, hcell⟩ := right6_parts hr
    obtain ⟨mA, mG, mL⟩ := make_last (n := n) (prog := prog) hr
    refine j_region ?_
    refine jv (v_loadAc (vs := [_, _, _]) rfl Try.isAgg26 Try.sizeOf26 rfl rfl) (.no rfl) rfl ?_
    refine jq (q_callP (f28_spec (by omega) hI (right6_apart hr)) Try.call28 (by rfl) rfl (memc FindS.mem mem0)) (.no rfl) rfl ?_
    intro u24
    refine jv (v_assign rfl) (.no rfl) rfl ?_
    refine jo_nil ?_
    refine je_next ?_
    refine j_seq ?_
    refine j_region ?_
    refine jv (v_loadAc (vs := [_, _, _]) rfl Try.isAgg26 Try.sizeOf26 rfl rfl) (.no rfl) rfl ?_
    refine jv (v_move rfl) (.no rfl) rfl ?_
    refine jv (v_move rfl) (.no rfl) rfl ?_
    refine jq (q_callP (f29_spec (by omega) hI hs0 (by omega)) Try.call29 (by rfl) rfl (memc FindS.mem mem0)) (.no rfl) rfl ?_
    intro u29
    refine jv (v_move rfl) (.no rfl) rfl ?_
    refine jv (v_ext rfl rfl) (.no rfl) rfl ?_
    refine jv (v_ext rfl rfl) (.no rfl) rfl ?_
    refine jv (v_ext rfl rfl) (.no rfl) rfl ?_
    refine jx (x_alloc Try.zeroValue26 Cells.agg) (.no rfl) rfl ?_
    intro B8
    refine jx (x_storec (cs' := [_, _, _]) rfl rfl rfl Try.sizeOf26 rfl rfl) (.no rfl) rfl ?_
    intro _
    refine jv (v_assign rfl) (.no rfl) rfl ?_
    refine jv (v_assign rfl) (.no rfl) rfl ?_
    refine jo_nil ?_
    refine je_next ?_
    refine j_seq ?_
    refine j_region ?_
    refine jv (v_loadAc (vs := [_, _, _]) rfl Try.isAgg26 Try.sizeOf26 rfl rfl) (.no rfl) rfl ?_
    refine jq (q_callP (f28_spec (by omega) (gens_in mG) mA) Try.call28 (by rfl) rfl (memc FindS.mem mem0)) (.no rfl) rfl ?_
    intro u34
    refine jv (v_assign rfl) (.no rfl) rfl ?_
    refine jo_nil ?_
    refine je_next ?_
    refine j_seq ?_
    refine j_seq ?_
    refine j_region ?_
    refine jv (v_move rfl) (.no rfl) rfl ?_
    refine jv (v_neq rfl rfl) (.no rfl) rfl ?_
    refine jo_nil ?_
    refine je_next ?_
    refine j_if rfl (fun ee => ?_) (fun ee => ?_)
    · first | (with_reducible replace ee := of_decide_eq_true ee) | skip
      refine j_seq ?_
      obtain ⟨er, hmk⟩ := make_no ee
      refine j_draw [] mixed ?_
      refine ja_take 0 rfl (by decide +kernel) (v_move rfl) (.no rfl) rfl ?_
      refine ja_take 1 rfl (by decide +kernel) (v_eql rfl rfl) (.no rfl) rfl ?_
      refine ja_take 2 rfl (by decide +kernel) (v_move rfl) (.no rfl) rfl ?_
      refine ja_split 39 rfl (fun d1 => ?_) (fun d1 => ?_)
      · first | (with_reducible replace d1 := of_decide_eq_true d1) | skip
        refine ja_take 3 rfl (by decide +kernel) (v_loadAc (vs := [_, _, _]) rfl Try.isAgg26 Try.sizeOf26 rfl rfl) (.yes rfl rfl rfl) rfl ?_
        refine ja_take 5 rfl (by decide +kernel) (v_loadAc (vs := [_, _, _]) rfl Try.isAgg26 Try.sizeOf26 rfl rfl) (.yes rfl rfl rfl) rfl ?_
        refine ja_one (i := 4) (by decide +kernel) (jn_q rfl (q_callP (f18_spec (by omega)) Try.call18 (by rfl) rfl (memc FindS.mem mem0)) (.yes rfl rfl rfl) rfl ?_)
        intro u41
        refine ja_one (i := 6) (by decide +kernel) (jn_q rfl (q_callP (f18_spec (by omega)) Try.call18 (by rfl) rfl (memc FindS.mem mem0)) (.yes rfl rfl rfl) rfl ?_)
        intro u43
        refine ja_one (i := 7) (by decide +kernel) (jn_q rfl (q_callP (f20_spec) Try.call20 (by rfl) rfl (memc FindS.mem (memc FindS.mem mem0))) (.yes rfl rfl rfl) rfl ?_)
        intro x44
        refine ja_take 8 rfl (by decide +kernel) (v_pickt rfl rfl) (.no rfl) rfl ?_
        refine ja_take 9 rfl (by decide +kernel) (v_assign rfl) (.no rfl) rfl ?_
        refine ja_nil (by decide +kernel) ?_
        refine je_next ?_
        refine j_ret ?_
        refine je_then (by simp) ?_
        refine je_ret rfl rfl rfl rfl rfl (rvs := [.tmp 6]) rfl (.cons (.tmp rfl) .nil) () ?_ (fun w h => h.fin mem0) (.inl rfl)
        first | rfl | exact congrArg Value.bool (decide_eq_true (by rw [hmk]; exact ⟨rfl, rfl, rfl⟩)) | exact congrArg Value.bool (decide_eq_true (by rw [k2]; rfl))
      · first | (with_reducible replace d1 := of_decide_eq_false d1) | skip
        rw [hmk] at d1; simp at d1
    · first | (with_reducible replace ee := of_decide_eq_false ee) | skip
      refine j_skip ?_
      refine je_next ?_
      refine j_seq ?_
      have ee : (makeP cs serial n prog).2.2.2 = 0 := by simpa using ee
      obtain ⟨k1, k2, k3, k4⟩ := make_ok hr ee
      have hll := liveP_le cs
      refine j_region ?_
      refine jv (v_move rfl) (.no rfl) rfl ?_
      refine jv (v_len rfl FindR.row Try.runUnderlying27) (.no rfl) rfl ?_
      refine jv (v_assign rfl) (.no rfl) rfl ?_
      refine jo_nil ?_
      refine je_next ?_
      refine j_seq ?_
      refine j_region ?_
      refine jv (v_loadAc (vs := [_, _, _]) rfl Try.isAgg26 Try.sizeOf26 rfl rfl) (.no rfl) rfl ?_
      refine jv (v_move rfl) (.no rfl) rfl ?_
      refine jq (q_callP (f22_spec (by omega) (gens_in mG)) Try.call22 (by rfl) rfl (memc FindS.mem mem0)) (.no rfl) rfl ?_
      intro f51
      refine jv (v_move rfl) (.no rfl) rfl ?_
      refine jv (v_ext rfl rfl) (.no rfl) rfl ?_
      refine jv (v_ext rfl rfl) (.no rfl) rfl ?_
      refine jx (x_alloc Try.zeroValue29 Cells.agg) (.no rfl) rfl ?_
      intro B13
      refine jx (x_storec (cs' := [_, _, _, _, _, _]) rfl rfl rfl Try.sizeOf29 rfl rfl) (.no rfl) rfl ?_
      intro _
      refine jv (v_assign rfl) (.no rfl) rfl ?_
      refine jo_nil ?_
      refine je_next ?_
      refine j_seq ?_
      refine j_region ?_
      refine jv (v_move rfl) (.no rfl) rfl ?_
      refine jv (v_len rfl FindR.row Try.runUnderlying27) (.no rfl) rfl ?_
      refine jv (v_move rfl) (.no rfl) rfl ?_
      refine jv (v_add rfl rfl (by omega) (by omega)) (.no rfl) rfl ?_
      refine jv (v_eql rfl rfl) (.no rfl) rfl ?_
      refine jv (v_move rfl) (.no rfl) rfl ?_
      refine j_split 59 rfl (fun e1 => ?_) (fun e1 => ?_)
      · first | (with_reducible replace e1 := of_decide_eq_true e1) | skip
        refine jv (v_move rfl) (.yes rfl rfl rfl) rfl ?_
        refine jv (v_move rfl) (.yes rfl rfl rfl) rfl ?_
        refine jv (v_index rfl rfl FindR.row Try.runUnderlying27 Try.sizeOf3 (by omega) (by rw [k1]; simp; omega)) (.yes rfl rfl rfl) rfl ?_
        refine jv (v_eload rfl FindR.row (by rw [k1]; simp; rfl) (by decide) Try.isAgg3 (fun _ _ _ h => int_at h)) (.yes rfl rfl rfl) rfl ?_
        refine jv (v_move rfl) (.yes rfl rfl rfl) rfl ?_
        refine jv (v_eql rfl rfl) (.yes rfl rfl rfl) rfl ?_
        refine jv (v_pickt rfl rfl) (.no rfl) rfl ?_
        refine jv (v_move rfl) (.no rfl) rfl ?_
        refine j_split 67 rfl (fun e2 => ?_) (fun e2 => ?_)
        · first | (with_reducible replace e2 := of_decide_eq_true e2) | skip
          refine jv (v_move rfl) (.yes rfl rfl rfl) rfl ?_
          refine jv (v_move rfl) (.yes rfl rfl rfl) rfl ?_
          refine jq (OpL.q (l_slice (i := 0) (j := (liveP cs).length) rfl FindS.mem Try.runUnderlying27 Try.sizeOf3 (.inl ⟨rfl, rfl⟩) (.inr ⟨_, rfl, rfl⟩) (Nat.zero_le _) (by rw [k1]; simp))) (.yes rfl rfl rfl) rfl ?_
          intro v70
          refine jv (v_move rfl) (.yes rfl rfl rfl) rfl ?_
          refine jq (q_callP (f30_spec) Try.call30 (by rfl) rfl (memc FindS.mem (memc FindS.mem mem0))) (.yes rfl rfl rfl) rfl ?_
          intro x72
          refine jv (v_pickt rfl rfl) (.no rfl) rfl ?_
          refine jv (v_move rfl) (.no rfl) rfl ?_
          refine j_split 74 rfl (fun e3 => ?_) (fun e3 => ?_)
          · first | (with_reducible replace e3 := of_decide_eq_true e3) | skip
            refine jv (v_move rfl) (.yes rfl rfl rfl) rfl ?_
            refine jv (v_eql rfl rfl) (.yes rfl rfl rfl) rfl ?_
            refine jv (v_pickt rfl rfl) (.no rfl) rfl ?_
            refine jv (v_move rfl) (.no rfl) rfl ?_
            refine j_split 78 rfl (fun e4 => ?_) (fun e4 => ?_)
            · first | (with_reducible replace e4 := of_decide_eq_true e4) | skip
              refine jv (v_field (k' := 0) rfl Try.runUnderlying29 rfl Try.sizeOf3 (by decide) rfl) (.yes rfl rfl rfl) rfl ?_
              refine jv (v_loadc rfl Try.isAgg3 rfl) (.yes rfl rfl rfl) rfl ?_
              refine jv (v_field (k' := 2) rfl Try.runUnderlying26 rfl Try.sizeOf3 (by decide) rfl) (.yes rfl rfl rfl) rfl ?_
              refine jv (v_loadc rfl Try.isAgg3 rfl) (.yes rfl rfl rfl) rfl ?_
              refine jv (v_add rfl rfl (by omega) (by omega)) (.yes rfl rfl rfl) rfl ?_
              refine jv (v_eql rfl rfl) (.yes rfl rfl rfl) rfl ?_
              refine jv (v_pickt rfl rfl) (.no rfl) rfl ?_
              refine jv (v_move rfl) (.no rfl) rfl ?_
              refine j_split 86 rfl (fun e5 => ?_) (fun e5 => ?_)
              · first | (with_reducible replace e5 := of_decide_eq_true e5) | skip
                refine jv (v_field (k' := 2) rfl Try.runUnderlying26 rfl Try.sizeOf3 (by decide) rfl) (.yes rfl rfl rfl) rfl ?_
                refine jv (v_loadc rfl Try.isAgg3 rfl) (.yes rfl rfl rfl) rfl ?_
                refine jv (v_field (k' := 0) rfl Try.runUnderlying29 rfl Try.sizeOf3 (by decide) rfl) (.yes rfl rfl rfl) rfl ?_
                refine jv (v_loadc rfl Try.isAgg3 rfl) (.yes rfl rfl rfl) rfl ?_
                refine jv (v_eql rfl rfl) (.yes rfl rfl rfl) rfl ?_
                refine jv (v_pickt rfl rfl) (.no rfl) rfl ?_
                refine jv (v_move rfl) (.no rfl) rfl ?_
                refine j_split 93 rfl (fun e6 => ?_) (fun e6 => ?_)
                · first | (with_reducible replace e6 := of_decide_eq_true e6) | skip
                  refine jv (v_field (k' := 5) rfl Try.runUnderlying29 rfl Try.sizeOf27 (by decide) rfl) (.yes rfl rfl rfl) rfl ?_
                  refine jv (v_loadc rfl Try.isAgg27 rfl) (.yes rfl rfl rfl) rfl ?_
                  refine jv (v_len rfl FindR.row Try.runUnderlying27) (.yes rfl rfl rfl) rfl ?_
                  refine jv (v_move rfl) (.yes rfl rfl rfl) rfl ?_
                  refine jv (v_eql rfl rfl) (.yes rfl rfl rfl) rfl ?_
                  refine jv (v_pickt rfl rfl) (.no rfl) rfl ?_
                  refine jv (v_move rfl) (.no rfl) rfl ?_
                  refine j_split 100 rfl (fun e7 => ?_) (fun e7 => ?_)
                  · first | (with_reducible replace e7 := of_decide_eq_true e7) | skip
                    refine jv (v_field (k' := 1) rfl Try.runUnderlying29 rfl Try.sizeOf3 (by decide) rfl) (.yes rfl rfl rfl) rfl ?_
                    refine jv (v_loadc rfl Try.isAgg3 rfl) (.yes rfl rfl rfl) rfl ?_
                    refine jv (v_eql rfl rfl) (.yes rfl rfl rfl) rfl ?_
                    refine jv (v_pickt rfl rfl) (.no rfl) rfl ?_
                    refine jv (v_assign rfl) (.no rfl) rfl ?_
                    refine jo_nil ?_
                    refine je_next ?_
                    refine j_ret ?_
                    refine je_ret rfl rfl rfl rfl rfl (rvs := [.tmp 6]) rfl (.cons (.tmp rfl) .nil) () ?_ (fun w h => h.fin mem0) (.inl rfl)
                    first | rfl | exact congrArg Value.bool (decide_eq_true (by rw [hmk]; exact ⟨rfl, rfl, rfl⟩)) | exact congrArg Value.bool (decide_eq_true (by rw [k2]; rfl))
                  · first | (with_reducible replace e7 := of_decide_eq_false e7) | skip
                    exact absurd (by rw [k2]; exact k4) e7
                · first | (with_reducible replace e6 := of_decide_eq_false e6) | skip
                  exact absurd (by rw [k2, k3]; rfl) e6
              · first | (with_reducible replace e5 := of_decide_eq_false e5) | skip
                exact absurd (by rw [k2]; rfl) e5
            · first | (with_reducible replace e4 := of_decide_eq_false e4) | skip
              exact absurd (by rw [k2]) e4
          · first | (with_reducible replace e3 := of_decide_eq_false e3) | skip
            rw [k1] at e3; simp at e3
        · first | (with_reducible replace e2 := of_decide_eq_false e2) | skip
          exact absurd rfl e2
      · first | (with_reducible replace e1 := of_decide_eq_false e1) | skip
        exact absurd (by rw [k1]; simp) e1

theorem f6_spec {v : Value} {cs : List Cell} {last serial h : Int} : Spec Try.prog 6 [stA v last serial, iV h] [] [sl cellK v cs] Unit (fun _ => .bool true) (fun _ => []) (fun _ => []) := by
  refine spec_of Try.func6 rfl Try.ntmps6 (by simp) fun ok w => ?_
  refine j_seq ?_
  refine j_region ?_
  refine jx (x_boxc rfl) (.no rfl) rfl ?_
  intro B2
  refine jv (v_assign rfl) (.no rfl) rfl ?_
  refine jo_nil ?_
  refine je_next ?_
  refine j_seq ?_
  refine j_seq ?_
  refine j_region ?_
  refine jv (v_loadAc (vs := [_, _, _]) rfl Try.isAgg26 Try.sizeOf26 rfl rfl) (.no rfl) rfl ?_
  refine jq (q_callP (f14_spec) Try.call14 (by rfl) rfl (memc FindS.mem mem0)) (.no rfl) rfl ?_
  intro x14
  refine jv (v_not rfl) (.no rfl) rfl ?_
  refine jv (v_move rfl) (.no rfl) rfl ?_
  refine j_split 16 rfl (fun r1 => ?_) (fun r1 => ?_)
  · first | (with_reducible replace r1 := of_decide_eq_true r1) | skip
    refine j_off rfl rfl rfl (by decide) rfl ?_
    refine j_off rfl rfl rfl (by decide) rfl ?_
    refine jv (v_pickt rfl rfl) (.no rfl) rfl ?_
    refine jo_nil ?_
    refine je_next ?_
    refine j_ift rfl ?_
    refine j_seq ?_
    refine j_region ?_
    refine jq (q_callP (f15_spec) Try.call15 (by rfl) rfl mem0) (.no rfl) rfl ?_
    intro x20
    refine jv (v_assign rfl) (.no rfl) rfl ?_
    refine jo_nil ?_
    refine je_next ?_
    refine j_ret ?_
    refine je_then (by simp) ?_
    refine je_ret rfl rfl rfl rfl rfl (rvs := [.tmp 4]) rfl (.cons (.tmp rfl) .nil) () ?_ (fun w h => h.fin mem0) (.inl rfl)
    first | rfl | exact congrArg Value.bool (decide_eq_true (by omega))
  · first | (with_reducible replace r1 := of_decide_eq_false r1) | skip
    refine jq (q_callP (f15_spec) Try.call15 (by rfl) rfl mem0) (.yes rfl rfl rfl) rfl ?_
    intro x17
    refine jv (v_not rfl) (.yes rfl rfl rfl) rfl ?_
    refine jv (v_pickf rfl rfl) (.no rfl) rfl ?_
    refine jo_nil ?_
    refine je_next ?_
    refine j_iff rfl ?_
    refine j_skip ?_
    refine je_next ?_
    refine j_seq ?_
    obtain ⟨hsm, hser, hr⟩ := rightL_parts (by simpa using r1)
    have hn := small_le hsm
    have hI := right6_gen hr
    have gs := right6_gens hr
    obtain ⟨hn24, hl0, hl9, hs0, hgen, hcell⟩ := right6_parts hr
    have hll := liveP_le cs
    refine j_region ?_
    refine jv (v_loadAc (vs := [_, _, _]) rfl Try.isAgg26 Try.sizeOf26 rfl rfl) (.no rfl) rfl ?_
    refine jq (q_callP (f28_spec (by omega) hI (right6_apart hr)) Try.call28 (by rfl) rfl (memc FindS.mem mem0)) (.no rfl) rfl ?_
    intro u22
    refine jv (v_assign rfl) (.no rfl) rfl ?_
    refine jo_nil ?_
    refine je_next ?_
    refine j_seq ?_
    refine j_region ?_
    refine jv (v_assign rfl) (.no rfl) rfl ?_
    refine jo_nil ?_
    refine je_next ?_
    refine j_seq ?_
    refine j_region ?_
    refine jv (v_assign rfl) (.no rfl) rfl ?_
    refine jo_nil ?_
    refine je_next ?_
    refine j_seq ?_
    refine j_seq ?_
    refine j_region ?_
    refine jv (v_assign rfl) (.no rfl) rfl ?_
    refine jo_nil ?_
    refine je_next ?_
    refine j_block ?_
    refine j_loopS (G := Nat × Int × Bool) [(1, _), (2, _), (5, _)] (fun k t => (6, iV k.2.1) :: (7, .bool k.2.2) :: (8, iV ((k.1 : Nat) : Int)) :: t) (fun k t => t) (fun k => k.1 ≤ (liveP cs).length ∧ k.2.1 = lastS cs k.1 ∧ (k.2.2 = true ↔ h ∈ (liveP cs).take k.1)) (fun k => (liveP cs).length - k.1) (0, 0, false) (⟨Nat.zero_le _, rfl, by simp⟩) (lsub rfl (lsub rfl (lsub rfl (lsub rfl (lsub rfl (lsub rfl lsub0)))))) rfl (fun ⟨k, lt, fd⟩ ⟨hk, hlt, hfd⟩ => ?_)   -- dead: [4]
    simp only at hk hlt hfd
    refine j_seq ?_
    refine j_seq ?_
    refine j_region ?_
    refine jv (v_move rfl) (.no rfl) rfl ?_
    refine jv (v_move rfl) (.no rfl) rfl ?_
    refine jv (v_len rfl FindR.row Try.runUnderlying27) (.no rfl) rfl ?_
    refine jv (v_lss rfl rfl) (.no rfl) rfl ?_
    refine jv (v_move rfl) (.no rfl) rfl ?_
    refine j_split 27 rfl (fun c1 => ?_) (fun c1 => ?_)
    · first | (with_reducible replace c1 := of_decide_eq_true c1) | skip
      refine jv (v_move rfl) (.yes rfl rfl rfl) rfl ?_
      refine jv (v_lss rfl rfl) (.yes rfl rfl rfl) rfl ?_
      refine jv (v_pickt rfl rfl) (.no rfl) rfl ?_
      refine jo_nil ?_
      refine je_next ?_
      refine j_if rfl (fun c2 => ?_) (fun c2 => ?_)
      · first | (with_reducible replace c2 := of_decide_eq_true c2) | skip
        refine j_skip ?_
        refine je_next ?_
        refine j_seq ?_
        refine j_block ?_
        refine j_seq ?_
        have hkl : k < (liveP cs).length := by omega
        obtain ⟨hil, hgk⟩ := live_get gs hkl
        obtain ⟨q1, q2⟩ := live_rise hr (by rw [← liveP_len]; exact hkl)
        refine j_draw [10] mixed ?_
        refine ja_take 0 rfl (by decide +kernel) (v_loadAc (vs := [_, _, _]) rfl Try.isAgg26 Try.sizeOf26 rfl rfl) (.no rfl) rfl ?_
        refine ja_take 1 rfl (by decide +kernel) (v_move rfl) (.no rfl) rfl ?_
        refine ja_take 2 rfl (by decide +kernel) (v_move rfl) (.no rfl) rfl ?_
        refine ja_take 3 rfl (by decide +kernel) (v_index rfl rfl FindR.row Try.runUnderlying27 Try.sizeOf3 (by omega) (by omega)) (.no rfl) rfl ?_
        refine ja_take 4 rfl (by decide +kernel) (v_eload rfl FindR.row (at_k hkl) (by decide) Try.isAgg3 (fun _ _ _ h => int_at h)) (.no rfl) rfl ?_
        refine ja_two (i := 5) (j := 9) (by decide +kernel) ?_ ?_
        · skip
          refine jn_q rfl (q_callP (f22_spec (by omega) hI) Try.call22 (by rfl) rfl (memc FindS.mem mem0)) (.no rfl) rfl ?_
          intro f39
          refine ja_take 6 rfl (by decide +kernel) (v_move rfl) (.no rfl) rfl ?_
          refine ja_take 7 rfl (by decide +kernel) (v_ext rfl rfl) (.no rfl) rfl ?_
          refine ja_two (i := 8) (j := 9) (by decide +kernel) ?_ ?_
          · skip
            refine jn_v rfl (v_ext rfl rfl) (.no rfl) rfl ?_
            refine ja_one (i := 9) (by decide +kernel) (jn_e rfl (e_alloc Try.zeroValue29 Cells.agg) (.no rfl) rfl ?_)
            intro B9
            refine ja_one (i := 10) (by decide +kernel) (jn_x rfl (by simp) (x_storec (cs' := [_, _, _, _, _, _]) rfl rfl rfl Try.sizeOf29 rfl rfl) (.no rfl) rfl ?_)
            intro _
            refine ja_take 11 rfl (by decide +kernel) (v_assign rfl) (.no rfl) rfl ?_
            refine ja_nil (by decide +kernel) ?_
            refine je_next ?_
            refine j_seq ?_
            refine j_seq ?_
            refine j_region ?_
            refine jv (v_move rfl) (.no rfl) rfl ?_
            refine jv (v_neq rfl rfl) (.no rfl) rfl ?_
            refine jv (v_move rfl) (.no rfl) rfl ?_
            refine j_split 44 rfl (fun d1 => ?_) (fun d1 => ?_)
            · first | (with_reducible replace d1 := of_decide_eq_true d1) | skip
              rw [hgk] at d1; exact absurd rfl d1
            · first | (with_reducible replace d1 := of_decide_eq_false d1) | skip
              refine jv (v_field (k' := 0) rfl Try.runUnderlying29 rfl Try.sizeOf3 (by decide) rfl) (.yes rfl rfl rfl) rfl ?_
              refine jv (v_loadc rfl Try.isAgg3 rfl) (.yes rfl rfl rfl) rfl ?_
              refine jv (v_move rfl) (.yes rfl rfl rfl) rfl ?_
              refine jv (v_leq rfl rfl) (.yes rfl rfl rfl) rfl ?_
              refine jv (v_pickf rfl rfl) (.no rfl) rfl ?_
              refine jo_nil ?_
              refine je_next ?_
              refine j_if rfl (fun d2 => ?_) (fun d2 => ?_)
              · first | (with_reducible replace d2 := of_decide_eq_true d2) | skip
                rw [hgk] at d2; rw [serN_eq hil] at q1; exact absurd d2 (by simp only; omega)
              · first | (with_reducible replace d2 := of_decide_eq_false d2) | skip
                refine j_skip ?_
                refine je_next ?_
                refine j_seq ?_
                refine j_region ?_
                refine jv (v_field (k' := 0) rfl Try.runUnderlying29 rfl Try.sizeOf3 (by decide) rfl) (.no rfl) rfl ?_
                refine jv (v_loadc rfl Try.isAgg3 rfl) (.no rfl) rfl ?_
                refine jv (v_assign rfl) (.no rfl) rfl ?_
                refine jo_nil ?_
                refine je_next ?_
                refine j_region ?_
                refine jv (v_move rfl) (.no rfl) rfl ?_
                refine jv (v_move rfl) (.no rfl) rfl ?_
                refine j_split 53 rfl (fun f1 => ?_) (fun f1 => ?_)
                · first | (with_reducible replace f1 := of_decide_eq_true f1) | skip
                  refine j_off rfl rfl rfl (by decide) rfl ?_
                  refine j_off rfl rfl rfl (by decide) rfl ?_
                  refine j_off rfl rfl rfl (by decide) rfl ?_
                  refine j_off rfl rfl rfl (by decide) rfl ?_
                  refine j_off rfl rfl rfl (by decide) rfl ?_
                  refine j_off rfl rfl rfl (by decide) rfl ?_
                  refine jv (v_pickt rfl rfl) (.no rfl) rfl ?_
                  refine jv (v_assign rfl) (.no rfl) rfl ?_
                  refine jo_nil ?_
                  refine je_block ?_
                  refine je_next ?_
                  refine j_region ?_
                  refine jv (v_move rfl) (.no rfl) rfl ?_
                  refine jv (v_add rfl rfl (by omega) (by omega)) (.no rfl) rfl ?_
                  refine jv (v_assign rfl) (.no rfl) rfl ?_
                  refine jo_nil ?_
                  refine je_round (k + 1, _, _) (by simp only; refine ⟨by omega, by rw [hgk, q2, serN_eq hil], ?_⟩; rw [List.take_succ_eq_append_getElem hkl, List.mem_append, List.mem_singleton]; first | exact ⟨fun _ => .inl (hfd.1 f1), fun _ => trivial⟩ | exact ⟨fun e => .inr (of_decide_eq_true e).symm, fun e => e.elim (fun e => absurd (hfd.2 e) f1) fun e => decide_eq_true e.symm⟩) (by first | omega | (dsimp only; omega)) (lsub rfl (lsub rfl (lsub rfl (lsub rfl (lsub rfl (lsub rfl lsub0)))))) (fun _ h => ((h).del .head).sub fun p hp => (List.mem_append_right _ hp))
                · first | (with_reducible replace f1 := of_decide_eq_false f1) | skip
                  have f1 : ¬ fd = true := by simpa using f1
                  refine jv (v_move rfl) (.yes rfl rfl rfl) rfl ?_
                  refine jv (v_move rfl) (.yes rfl rfl rfl) rfl ?_
                  refine jv (v_index rfl rfl FindR.row Try.runUnderlying27 Try.sizeOf3 (by omega) (by omega)) (.yes rfl rfl rfl) rfl ?_
                  refine jv (v_eload rfl FindR.row (at_k hkl) (by decide) Try.isAgg3 (fun _ _ _ h => int_at h)) (.yes rfl rfl rfl) rfl ?_
                  refine jv (v_move rfl) (.yes rfl rfl rfl) rfl ?_
                  refine jv (v_eql rfl rfl) (.yes rfl rfl rfl) rfl ?_
                  refine jv (v_pickf rfl rfl) (.no rfl) rfl ?_
                  refine jv (v_assign rfl) (.no rfl) rfl ?_
                  refine jo_nil ?_
                  refine je_block ?_
                  refine je_next ?_
                  refine j_region ?_
                  refine jv (v_move rfl) (.no rfl) rfl ?_
                  refine jv (v_add rfl rfl (by omega) (by omega)) (.no rfl) rfl ?_
                  refine jv (v_assign rfl) (.no rfl) rfl ?_
                  refine jo_nil ?_
                  refine je_round (k + 1, _, _) (by simp only; refine ⟨by omega, by rw [hgk, q2, serN_eq hil], ?_⟩; rw [List.take_succ_eq_append_getElem hkl, List.mem_append, List.mem_singleton]; first | exact ⟨fun _ => .inl (hfd.1 f1), fun _ => trivial⟩ | exact ⟨fun e => .inr (of_decide_eq_true e).symm, fun e => e.elim (fun e => absurd (hfd.2 e) f1) fun e => decide_eq_true e.symm⟩) (by first | omega | (dsimp only; omega)) (lsub rfl (lsub rfl (lsub rfl (lsub rfl (lsub rfl (lsub rfl lsub0)))))) (fun _ h => ((h).del .head).sub fun p hp => (List.mem_append_right _ hp))
          · skip
            refine jn_e rfl (e_alloc Try.zeroValue29 Cells.agg) (.no rfl) rfl ?_
            intro B9
            refine ja_two (i := 8) (j := 10) (by decide +kernel) ?_ ?_
            · skip
              refine jn_v rfl (v_ext rfl rfl) (.no rfl) rfl ?_
              refine ja_one (i := 10) (by decide +kernel) (jn_x rfl (by simp) (x_storec (cs' := [_, _, _, _, _, _]) rfl rfl rfl Try.sizeOf29 rfl rfl) (.no rfl) rfl ?_)
              intro _
              refine ja_take 11 rfl (by decide +kernel) (v_assign rfl) (.no rfl) rfl ?_
              refine ja_nil (by decide +kernel) ?_
              refine je_next ?_
              refine j_seq ?_
              refine j_seq ?_
              refine j_region ?_
              refine jv (v_move rfl) (.no rfl) rfl ?_
              refine jv (v_neq rfl rfl) (.no rfl) rfl ?_
              refine jv (v_move rfl) (.no rfl) rfl ?_
              refine j_split 44 rfl (fun d1 => ?_) (fun d1 => ?_)
              · first | (with_reducible replace d1 := of_decide_eq_true d1) | skip
                rw [hgk] at d1; exact absurd rfl d1
              · first | (with_reducible replace d1 := of_decide_eq_false d1) | skip
                refine jv (v_field (k' := 0) rfl Try.runUnderlying29 rfl Try.sizeOf3 (by decide) rfl) (.yes rfl rfl rfl) rfl ?_
                refine jv (v_loadc rfl Try.isAgg3 rfl) (.yes rfl rfl rfl) rfl ?_
                refine jv (v_move rfl) (.yes rfl rfl rfl) rfl ?_
                refine jv (v_leq rfl rfl) (.yes rfl rfl rfl) rfl ?_
                refine jv (v_pickf rfl rfl) (.no rfl) rfl ?_
                refine jo_nil ?_
                refine je_next ?_
                refine j_if rfl (fun d2 => ?_) (fun d2 => ?_)
                · first | (with_reducible replace d2 := of_decide_eq_true d2) | skip
                  rw [hgk] at d2; rw [serN_eq hil] at q1; exact absurd d2 (by simp only; omega)
                · first | (with_reducible replace d2 := of_decide_eq_false d2) | skip
                  refine j_skip ?_
                  refine je_next ?_
                  refine j_seq ?_
                  refine j_region ?_
                  refine jv (v_field (k' := 0) rfl Try.runUnderlying29 rfl Try.sizeOf3 (by decide) rfl) (.no rfl) rfl ?_
                  refine jv (v_loadc rfl Try.isAgg3 rfl) (.no rfl) rfl ?_
                  refine jv (v_assign rfl) (.no rfl) rfl ?_
                  refine jo_nil ?_
                  refine je_next ?_
                  refine j_region ?_
                  refine jv (v_move rfl) (.no rfl) rfl ?_
                  refine jv (v_move rfl) (.no rfl) rfl ?_
                  refine j_split 53 rfl (fun f1 => ?_) (fun f1 => ?_)
                  · first | (with_reducible replace f1 := of_decide_eq_true f1) | skip
                    refine j_off rfl rfl rfl (by decide) rfl ?_
                    refine j_off rfl rfl rfl (by decide) rfl ?_
                    refine j_off rfl rfl rfl (by decide) rfl ?_
                    refine j_off rfl rfl rfl (by decide) rfl ?_
                    refine j_off rfl rfl rfl (by decide) rfl ?_
                    refine j_off rfl rfl rfl (by decide) rfl ?_
                    refine jv (v_pickt rfl rfl) (.no rfl) rfl ?_
                    refine jv (v_assign rfl) (.no rfl) rfl ?_
                    refine jo_nil ?_
                    refine je_block ?_
                    refine je_next ?_
                    refine j_region ?_
                    refine jv (v_move rfl) (.no rfl) rfl ?_
                    refine jv (v_add rfl rfl (by omega) (by omega)) (.no rfl) rfl ?_
                    refine jv (v_assign rfl) (.no rfl) rfl ?_
                    refine jo_nil ?_
                    refine je_round (k + 1, _, _) (by simp only; refine ⟨by omega, by rw [hgk, q2, serN_eq hil], ?_⟩; rw [List.take_succ_eq_append_getElem hkl, List.mem_append, List.mem_singleton]; first | exact ⟨fun _ => .inl (hfd.1 f1), fun _ => trivial⟩ | exact ⟨fun e => .inr (of_decide_eq_true e).symm, fun e => e.elim (fun e => absurd (hfd.2 e) f1) fun e => decide_eq_true e.symm⟩) (by first | omega | (dsimp only; omega)) (lsub rfl (lsub rfl (lsub rfl (lsub rfl (lsub rfl (lsub rfl lsub0)))))) (fun _ h => ((h).del .head).sub fun p hp => (List.mem_append_right _ hp))
                  · first | (with_reducible replace f1 := of_decide_eq_false f1) | skip
                    have f1 : ¬ fd = true := by simpa using f1
                    refine jv (v_move rfl) (.yes rfl rfl rfl) rfl ?_
                    refine jv (v_move rfl) (.yes rfl rfl rfl) rfl ?_
                    refine jv (v_index rfl rfl FindR.row Try.runUnderlying27 Try.sizeOf3 (by omega) (by omega)) (.yes rfl rfl rfl) rfl ?_
                    refine jv (v_eload rfl FindR.row (at_k hkl) (by decide) Try.isAgg3 (fun _ _ _ h => int_at h)) (.yes rfl rfl rfl) rfl ?_
                    refine jv (v_move rfl) (.yes rfl rfl rfl) rfl ?_
                    refine jv (v_eql rfl rfl) (.yes rfl rfl rfl) rfl ?_
                    refine jv (v_pickf rfl rfl) (.no rfl) rfl ?_
                    refine jv (v_assign rfl) (.no rfl) rfl ?_
                    refine jo_nil ?_
                    refine je_block ?_
                    refine je_next ?_
                    refine j_region ?_
                    refine jv (v_move rfl) (.no rfl) rfl ?_
                    refine jv (v_add rfl rfl (by omega) (by omega)) (.no rfl) rfl ?_
                    refine jv (v_assign rfl) (.no rfl) rfl ?_
                    refine jo_nil ?_
                    refine je_round (k + 1, _, _) (by simp only; refine ⟨by omega, by rw [hgk, q2, serN_eq hil], ?_⟩; rw [List.take_succ_eq_append_getElem hkl, List.mem_append, List.mem_singleton]; first | exact ⟨fun _ => .inl (hfd.1 f1), fun _ => trivial⟩ | exact ⟨fun e => .inr (of_decide_eq_true e).symm, fun e => e.elim (fun e => absurd (hfd.2 e) f1) fun e => decide_eq_true e.symm⟩) (by first | omega | (dsimp only; omega)) (lsub rfl (lsub rfl (lsub rfl (lsub rfl (lsub rfl (lsub rfl lsub0)))))) (fun _ h => ((h).del .head).sub fun p hp => (List.mem_append_right _ hp))
            · skip
              refine jn_x rfl (by simp) (x_storec (cs' := [_, _, _, _, _, _]) rfl rfl rfl Try.sizeOf29 rfl rfl) (.no rfl) rfl ?_
              intro _
              refine ja_take 8 rfl (by decide +kernel) (v_ext rfl rfl) (.no rfl) rfl ?_
              refine ja_take 11 rfl (by decide +kernel) (v_assign rfl) (.no rfl) rfl ?_
              refine ja_nil (by decide +kernel) ?_
              refine je_next ?_
              refine j_seq ?_
              refine j_seq ?_
              refine j_region ?_
              refine jv (v_move rfl) (.no rfl) rfl ?_
              refine jv (v_neq rfl rfl) (.no rfl) rfl ?_
              refine jv (v_move rfl) (.no rfl) rfl ?_
              refine j_split 44 rfl (fun d1 => ?_) (fun d1 => ?_)
              · first | (with_reducible replace d1 := of_decide_eq_true d1) | skip
                rw [hgk] at d1; exact absurd rfl d1
              · first | (with_reducible replace d1 := of_decide_eq_false d1) | skip
                refine jv (v_field (k' := 0) rfl Try.runUnderlying29 rfl Try.sizeOf3 (by decide) rfl) (.yes rfl rfl rfl) rfl ?_
                refine jv (v_loadc rfl Try.isAgg3 rfl) (.yes rfl rfl rfl) rfl ?_
                refine jv (v_move rfl) (.yes rfl rfl rfl) rfl ?_
                refine jv (v_leq rfl rfl) (.yes rfl rfl rfl) rfl ?_
                refine jv (v_pickf rfl rfl) (.no rfl) rfl ?_
                refine jo_nil ?_
                refine je_next ?_
                refine j_if rfl (fun d2 => ?_) (fun d2 => ?_)
                · first | (with_reducible replace d2 := of_decide_eq_true d2) | skip
                  rw [hgk] at d2; rw [serN_eq hil] at q1; exact absurd d2 (by simp only; omega)
                · first | (with_reducible replace d2 := of_decide_eq_false d2) | skip
                  refine j_skip ?_
                  refine je_next ?_
                  refine j_seq ?_
                  refine j_region ?_
                  refine jv (v_field (k' := 0) rfl Try.runUnderlying29 rfl Try.sizeOf3 (by decide) rfl) (.no rfl) rfl ?_
                  refine jv (v_loadc rfl Try.isAgg3 rfl) (.no rfl) rfl ?_
                  refine jv (v_assign rfl) (.no rfl) rfl ?_
                  refine jo_nil ?_
                  refine je_next ?_
                  refine j_region ?_
                  refine jv (v_move rfl) (.no rfl) rfl ?_
                  refine jv (v_move rfl) (.no rfl) rfl ?_
                  refine j_split 53 rfl (fun f1 => ?_) (fun f1 => ?_)
                  · first | (with_reducible replace f1 := of_decide_eq_true f1) | skip
                    refine j_off rfl rfl rfl (by decide) rfl ?_
                    refine j_off rfl rfl rfl (by decide) rfl ?_
                    refine j_off rfl rfl rfl (by decide) rfl ?_
                    refine j_off rfl rfl rfl (by decide) rfl ?_
                    refine j_off rfl rfl rfl (by decide) rfl ?_
                    refine j_off rfl rfl rfl (by decide) rfl ?_
                    refine jv (v_pickt rfl rfl) (.no rfl) rfl ?_
                    refine jv (v_assign rfl) (.no rfl) rfl ?_
                    refine jo_nil ?_
                    refine je_block ?_
                    refine je_next ?_
                    refine j_region ?_
                    refine jv (v_move rfl) (.no rfl) rfl ?_
                    refine jv (v_add rfl rfl (by omega) (by omega)) (.no rfl) rfl ?_
                    refine jv (v_assign rfl) (.no rfl) rfl ?_
                    refine jo_nil ?_
                    refine je_round (k + 1, _, _) (by simp only; refine ⟨by omega, by rw [hgk, q2, serN_eq hil], ?_⟩; rw [List.take_succ_eq_append_getElem hkl, List.mem_append, List.mem_singleton]; first | exact ⟨fun _ => .inl (hfd.1 f1), fun _ => trivial⟩ | exact ⟨fun e => .inr (of_decide_eq_true e).symm, fun e => e.elim (fun e => absurd (hfd.2 e) f1) fun e => decide_eq_true e.symm⟩) (by first | omega | (dsimp only; omega)) (lsub rfl (lsub rfl (lsub rfl (lsub rfl (lsub rfl (lsub rfl lsub0)))))) (fun _ h => ((h).del .head).sub fun p hp => (List.mem_append_right _ hp))
                  · first | (with_reducible replace f1 := of_decide_eq_false f1) | skip
                    have f1 : ¬ fd = true := by simpa using f1
                    refine jv (v_move rfl) (.yes rfl rfl rfl) rfl ?_
                    refine jv (v_move rfl) (.yes rfl rfl rfl) rfl ?_
                    refine jv (v_index rfl rfl FindR.row Try.runUnderlying27 Try.sizeOf3 (by omega) (by omega)) (.yes rfl rfl rfl) rfl ?_
                    refine jv (v_eload rfl FindR.row (at_k hkl) (by decide) Try.isAgg3 (fun _ _ _ h => int_at h)) (.yes rfl rfl rfl) rfl ?_
                    refine jv (v_move rfl) (.yes rfl rfl rfl) rfl ?_
                    refine jv (v_eql rfl rfl) (.yes rfl rfl rfl) rfl ?_
                    refine jv (v_pickf rfl rfl) (.no rfl) rfl ?_
                    refine jv (v_assign rfl) (.no rfl) rfl ?_
                    refine jo_nil ?_
                    refine je_block ?_
                    refine je_next ?_
                    refine j_region ?_
                    refine jv (v_move rfl) (.no rfl) rfl ?_
                    refine jv (v_add rfl rfl (by omega) (by omega)) (.no rfl) rfl ?_
                    refine jv (v_assign rfl) (.no rfl) rfl ?_
                    refine jo_nil ?_
                    refine je_round (k + 1, _, _) (by simp only; refine ⟨by omega, by rw [hgk, q2, serN_eq hil], ?_⟩; rw [List.take_succ_eq_append_getElem hkl, List.mem_append, List.mem_singleton]; first | exact ⟨fun _ => .inl (hfd.1 f1), fun _ => trivial⟩ | exact ⟨fun e => .inr (of_decide_eq_true e).symm, fun e => e.elim (fun e => absurd (hfd.2 e) f1) fun e => decide_eq_true e.symm⟩) (by first | omega | (dsimp only; omega)) (lsub rfl (lsub rfl (lsub rfl (lsub rfl (lsub rfl (lsub rfl lsub0)))))) (fun _ h => ((h).del .head).sub fun p hp => (List.mem_append_right _ hp))
        · skip
          refine jn_e rfl (e_alloc Try.zeroValue29 Cells.agg) (.no rfl) rfl ?_
          intro B9
          refine ja_one (i := 5) (by decide +kernel) (jn_q rfl (q_callP (f22_spec (by omega) hI) Try.call22 (by rfl) rfl (memc FindS.mem mem0)) (.no rfl) rfl ?_)
          intro f39
          refine ja_take 6 rfl (by decide +kernel) (v_move rfl) (.no rfl) rfl ?_
          refine ja_take 7 rfl (by decide +kernel) (v_ext rfl rfl) (.no rfl) rfl ?_
          refine ja_two (i := 8) (j := 10) (by decide +kernel) ?_ ?_
          · skip
            refine jn_v rfl (v_ext rfl rfl) (.no rfl) rfl ?_
            refine ja_one (i := 10) (by decide +kernel) (jn_x rfl (by simp) (x_storec (cs' := [_, _, _, _, _, _]) rfl rfl rfl Try.sizeOf29 rfl rfl) (.no rfl) rfl ?_)
            intro _
            refine ja_take 11 rfl (by decide +kernel) (v_assign rfl) (.no rfl) rfl ?_
            refine ja_nil (by decide +kernel) ?_
            refine je_next ?_
            refine j_seq ?_
            refine j_seq ?_
            refine j_region ?_
            refine jv (v_move rfl) (.no rfl) rfl ?_
            refine jv (v_neq rfl rfl) (.no rfl) rfl ?_
            refine jv (v_move rfl) (.no rfl) rfl ?_
            refine j_split 44 rfl (fun d1 => ?_) (fun d1 => ?_)
            · first | (with_reducible replace d1 := of_decide_eq_true d1) | skip
              rw [hgk] at d1; exact absurd rfl d1
            · first | (with_reducible replace d1 := of_decide_eq_false d1) | skip
              refine jv (v_field (k' := 0) rfl Try.runUnderlying29 rfl Try.sizeOf3 (by decide) rfl) (.yes rfl rfl rfl) rfl ?_
              refine jv (v_loadc rfl Try.isAgg3 rfl) (.yes rfl rfl rfl) rfl ?_
              refine jv (v_move rfl) (.yes rfl rfl rfl) rfl ?_
              refine jv (v_leq rfl rfl) (.yes rfl rfl rfl) rfl ?_
              refine jv (v_pickf rfl rfl) (.no rfl) rfl ?_
              refine jo_nil ?_
              refine je_next ?_
              refine j_if rfl (fun d2 => ?_) (fun d2 => ?_)
              · first | (with_reducible replace d2 := of_decide_eq_true d2) | skip
                rw [hgk] at d2; rw [serN_eq hil] at q1; exact absurd d2 (by simp only; omega)
              · first | (with_reducible replace d2 := of_decide_eq_false d2) | skip
                refine j_skip ?_
                refine je_next ?_
                refine j_seq ?_
                refine j_region ?_
                refine jv (v_field (k' := 0) rfl Try.runUnderlying29 rfl Try.sizeOf3 (by decide) rfl) (.no rfl) rfl ?_
                refine jv (v_loadc rfl Try.isAgg3 rfl) (.no rfl) rfl ?_
                refine jv (v_assign rfl) (.no rfl) rfl ?_
                refine jo_nil ?_
                refine je_next ?_
                refine j_region ?_
                refine jv (v_move rfl) (.no rfl) rfl ?_
                refine jv (v_move rfl) (.no rfl) rfl ?_
                refine j_split 53 rfl (fun f1 => ?_) (fun f1 => ?_)
                · first | (with_reducible replace f1 := of_decide_eq_true f1) | skip
                  refine j_off rfl rfl rfl (by decide) rfl ?_
                  refine j_off rfl rfl rfl (by decide) rfl ?_
                  refine j_off rfl rfl rfl (by decide) rfl ?_
                  refine j_off rfl rfl rfl (by decide) rfl ?_
                  refine j_off rfl rfl rfl (by decide) rfl ?_
                  refine j_off rfl rfl rfl (by decide) rfl ?_
                  refine jv (v_pickt rfl rfl) (.no rfl) rfl ?_
                  refine jv (v_assign rfl) (.no rfl) rfl ?_
                  refine jo_nil ?_
                  refine je_block ?_
                  refine je_next ?_
                  refine j_region ?_
                  refine jv (v_move rfl) (.no rfl) rfl ?_
                  refine jv (v_add rfl rfl (by omega) (by omega)) (.no rfl) rfl ?_
                  refine jv (v_assign rfl) (.no rfl) rfl ?_
                  refine jo_nil ?_
                  refine je_round (k + 1, _, _) (by simp only; refine ⟨by omega, by rw [hgk, q2, serN_eq hil], ?_⟩; rw [List.take_succ_eq_append_getElem hkl, List.mem_append, List.mem_singleton]; first | exact ⟨fun _ => .inl (hfd.1 f1), fun _ => trivial⟩ | exact ⟨fun e => .inr (of_decide_eq_true e).symm, fun e => e.elim (fun e => absurd (hfd.2 e) f1) fun e => decide_eq_true e.symm⟩) (by first | omega | (dsimp only; omega)) (lsub rfl (lsub rfl (lsub rfl (lsub rfl (lsub rfl (lsub rfl lsub0)))))) (fun _ h => ((h).del .head).sub fun p hp => (List.mem_append_right _ hp))
                · first | (with_reducible replace f1 := of_decide_eq_false f1) | skip
                  have f1 : ¬ fd = true := by simpa using f1
                  refine jv (v_move rfl) (.yes rfl rfl rfl) rfl ?_
                  refine jv (v_move rfl) (.yes rfl rfl rfl) rfl ?_
                  refine jv (v_index rfl rfl FindR.row Try.runUnderlying27 Try.sizeOf3 (by omega) (by omega)) (.yes rfl rfl rfl) rfl ?_
                  refine jv (v_eload rfl FindR.row (at_k hkl) (by decide) Try.isAgg3 (fun _ _ _ h => int_at h)) (.yes rfl rfl rfl) rfl ?_
                  refine jv (v_move rfl) (.yes rfl rfl rfl) rfl ?_
                  refine jv (v_eql rfl rfl) (.yes rfl rfl rfl) rfl ?_
                  refine jv (v_pickf rfl rfl) (.no rfl) rfl ?_
                  refine jv (v_assign rfl) (.no rfl) rfl ?_
                  refine jo_nil ?_
                  refine je_block ?_
                  refine je_next ?_
                  refine j_region ?_
                  refine jv (v_move rfl) (.no rfl) rfl ?_
                  refine jv (v_add rfl rfl (by omega) (by omega)) (.no rfl) rfl ?_
                  refine jv (v_assign rfl) (.no rfl) rfl ?_
                  refine jo_nil ?_
                  refine je_round (k + 1, _, _) (by simp only; refine ⟨by omega, by rw [hgk, q2, serN_eq hil], ?_⟩; rw [List.take_succ_eq_append_getElem hkl, List.mem_append, List.mem_singleton]; first | exact ⟨fun _ => .inl (hfd.1 f1), fun _ => trivial⟩ | exact ⟨fun e => .inr (of_decide_eq_true e).symm, fun e => e.elim (fun e => absurd (hfd.2 e) f1) fun e => decide_eq_true e.symm⟩) (by first | omega | (dsimp only; omega)) (lsub rfl (lsub rfl (lsub rfl (lsub rfl (lsub rfl (lsub rfl lsub0)))))) (fun _ h => ((h).del .head).sub fun p hp => (List.mem_append_right _ hp))
          · skip
            refine jn_x rfl (by simp) (x_storec (cs' := [_, _, _, _, _, _]) rfl rfl rfl Try.sizeOf29 rfl rfl) (.no rfl) rfl ?_
            intro _
            refine ja_take 8 rfl (by decide +kernel) (v_ext rfl rfl) (.no rfl) rfl ?_
            refine ja_take 11 rfl (by decide +kernel) (v_assign rfl) (.no rfl) rfl ?_
            refine ja_nil (by decide +kernel) ?_
            refine je_next ?_
            refine j_seq ?_
            refine j_seq ?_
            refine j_region ?_
            refine jv (v_move rfl) (.no rfl) rfl ?_
            refine jv (v_neq rfl rfl) (.no rfl) rfl ?_
            refine jv (v_move rfl) (.no rfl) rfl ?_
            refine j_split 44 rfl (fun d1 => ?_) (fun d1 => ?_)
            · first | (with_reducible replace d1 := of_decide_eq_true d1) | skip
              rw [hgk] at d1; exact absurd rfl d1
            · first | (with_reducible replace d1 := of_decide_eq_false d1) | skip
              refine jv (v_field (k' := 0) rfl Try.runUnderlying29 rfl Try.sizeOf3 (by decide) rfl) (.yes rfl rfl rfl) rfl ?_
              refine jv (v_loadc rfl Try.isAgg3 rfl) (.yes rfl rfl rfl) rfl ?_
              refine jv (v_move rfl) (.yes rfl rfl rfl) rfl ?_
              refine jv (v_leq rfl rfl) (.yes rfl rfl rfl) rfl ?_
              refine jv (v_pickf rfl rfl) (.no rfl) rfl ?_
              refine jo_nil ?_
              refine je_next ?_
              refine j_if rfl (fun d2 => ?_) (fun d2 => ?_)
              · first | (with_reducible replace d2 := of_decide_eq_true d2) | skip
                rw [hgk] at d2; rw [serN_eq hil] at q1; exact absurd d2 (by simp only; omega)
              · first | (with_reducible replace d2 := of_decide_eq_false d2) | skip
                refine j_skip ?_
                refine je_next ?_
                refine j_seq ?_
                refine j_region ?_
                refine jv (v_field (k' := 0) rfl Try.runUnderlying29 rfl Try.sizeOf3 (by decide) rfl) (.no rfl) rfl ?_
                refine jv (v_loadc rfl Try.isAgg3 rfl) (.no rfl) rfl ?_
                refine jv (v_assign rfl) (.no rfl) rfl ?_
                refine jo_nil ?_
                refine je_next ?_
                refine j_region ?_
                refine jv (v_move rfl) (.no rfl) rfl ?_
                refine jv (v_move rfl) (.no rfl) rfl ?_
                refine j_split 53 rfl (fun f1 => ?_) (fun f1 => ?_)
                · first | (with_reducible replace f1 := of_decide_eq_true f1) | skip
                  refine j_off rfl rfl rfl (by decide) rfl ?_
                  refine j_off rfl rfl rfl (by decide) rfl ?_
                  refine j_off rfl rfl rfl (by decide) rfl ?_
                  refine j_off rfl rfl rfl (by decide) rfl ?_
                  refine j_off rfl rfl rfl (by decide) rfl ?_
                  refine j_off rfl rfl rfl (by decide) rfl ?_
                  refine jv (v_pickt rfl rfl) (.no rfl) rfl ?_
                  refine jv (v_assign rfl) (.no rfl) rfl ?_
                  refine jo_nil ?_
                  refine je_block ?_
                  refine je_next ?_
                  refine j_region ?_
                  refine jv (v_move rfl) (.no rfl) rfl ?_
                  refine jv (v_add rfl rfl (by omega) (by omega)) (.no rfl) rfl ?_
                  refine jv (v_assign rfl) (.no rfl) rfl ?_
                  refine jo_nil ?_
                  refine je_round (k + 1, _, _) (by simp only; refine ⟨by omega, by rw [hgk, q2, serN_eq hil], ?_⟩; rw [List.take_succ_eq_append_getElem hkl, List.mem_append, List.mem_singleton]; first | exact ⟨fun _ => .inl (hfd.1 f1), fun _ => trivial⟩ | exact ⟨fun e => .inr (of_decide_eq_true e).symm, fun e => e.elim (fun e => absurd (hfd.2 e) f1) fun e => decide_eq_true e.symm⟩) (by first | omega | (dsimp only; omega)) (lsub rfl (lsub rfl (lsub rfl (lsub rfl (lsub rfl (lsub rfl lsub0)))))) (fun _ h => ((h).del .head).sub fun p hp => (List.mem_append_right _ hp))
                · first | (with_reducible replace f1 := of_decide_eq_false f1) | skip
                  have f1 : ¬ fd = true := by simpa using f1
                  refine jv (v_move rfl) (.yes rfl rfl rfl) rfl ?_
                  refine jv (v_move rfl) (.yes rfl rfl rfl) rfl ?_
                  refine jv (v_index rfl rfl FindR.row Try.runUnderlying27 Try.sizeOf3 (by omega) (by omega)) (.yes rfl rfl rfl) rfl ?_
                  refine jv (v_eload rfl FindR.row (at_k hkl) (by decide) Try.isAgg3 (fun _ _ _ h => int_at h)) (.yes rfl rfl rfl) rfl ?_
                  refine jv (v_move rfl) (.yes rfl rfl rfl) rfl ?_
                  refine jv (v_eql rfl rfl) (.yes rfl rfl rfl) rfl ?_
                  refine jv (v_pickf rfl rfl) (.no rfl) rfl ?_
                  refine jv (v_assign rfl) (.no rfl) rfl ?_
                  refine jo_nil ?_
                  refine je_block ?_
                  refine je_next ?_
                  refine j_region ?_
                  refine jv (v_move rfl) (.no rfl) rfl ?_
                  refine jv (v_add rfl rfl (by omega) (by omega)) (.no rfl) rfl ?_
                  refine jv (v_assign rfl) (.no rfl) rfl ?_
                  refine jo_nil ?_
                  refine je_round (k + 1, _, _) (by simp only; refine ⟨by omega, by rw [hgk, q2, serN_eq hil], ?_⟩; rw [List.take_succ_eq_append_getElem hkl, List.mem_append, List.mem_singleton]; first | exact ⟨fun _ => .inl (hfd.1 f1), fun _ => trivial⟩ | exact ⟨fun e => .inr (of_decide_eq_true e).symm, fun e => e.elim (fun e => absurd (hfd.2 e) f1) fun e => decide_eq_true e.symm⟩) (by first | omega | (dsimp only; omega)) (lsub rfl (lsub rfl (lsub rfl (lsub rfl (lsub rfl (lsub rfl lsub0)))))) (fun _ h => ((h).del .head).sub fun p hp => (List.mem_append_right _ hp))
      · first | (with_reducible replace c2 := of_decide_eq_false c2) | skip
        refine j_exit ?_
        refine je_then (by simp) ?_
        refine je_then (by simp) ?_
        refine je_hit ?_
        refine je_next ?_
        refine j_seq ?_
        have hkl : k = (liveP cs).length := by omega
        refine j_region ?_
        refine jv (v_loadAc (vs := [_, _, _]) rfl Try.isAgg26 Try.sizeOf26 rfl rfl) (.no rfl) rfl ?_
        refine jv (v_move rfl) (.no rfl) rfl ?_
        refine jq (q_callP (f22_spec (by omega) hI) Try.call22 (by rfl) rfl (memc FindS.mem mem0)) (.no rfl) rfl ?_
        intro f64
        refine jv (v_move rfl) (.no rfl) rfl ?_
        refine jv (v_ext rfl rfl) (.no rfl) rfl ?_
        refine jv (v_ext rfl rfl) (.no rfl) rfl ?_
        refine jx (x_alloc Try.zeroValue29 Cells.agg) (.no rfl) rfl ?_
        intro B11
        refine jx (x_storec (cs' := [_, _, _, _, _, _]) rfl rfl rfl Try.sizeOf29 rfl rfl) (.no rfl) rfl ?_
        intro _
        refine jv (v_assign rfl) (.no rfl) rfl ?_
        refine jo_nil ?_
        refine je_next ?_
        refine j_seq ?_
        refine j_region ?_
        refine jv (v_move rfl) (.no rfl) rfl ?_
        refine jv (v_eql rfl rfl) (.no rfl) rfl ?_
        refine jv (v_move rfl) (.no rfl) rfl ?_
        refine jv (v_beql Try.underlying4 rfl rfl) (.no rfl) rfl ?_
        refine jv (v_move rfl) (.no rfl) rfl ?_
        refine j_split 71 rfl (fun e1 => ?_) (fun e1 => ?_)
        · first | (with_reducible replace e1 := of_decide_eq_true e1) | skip
          refine jv (v_move rfl) (.yes rfl rfl rfl) rfl ?_
          refine jv (v_len rfl FindR.row Try.runUnderlying27) (.yes rfl rfl rfl) rfl ?_
          refine jv (v_field (k' := 0) rfl Try.runUnderlying26 rfl Try.sizeOf24 (by decide) rfl) (.yes rfl rfl rfl) rfl ?_
          refine jv (v_field (k' := 0) rfl Try.runUnderlying24 rfl Try.sizeOf22 (by decide) rfl) (.yes rfl rfl rfl) rfl ?_
          refine jv (v_loadc rfl Try.isAgg22 rfl) (.yes rfl rfl rfl) rfl ?_
          refine jv (v_len rfl FindR.row Try.runUnderlying22) (.yes rfl rfl rfl) rfl ?_
          refine jv (v_leq rfl rfl) (.yes rfl rfl rfl) rfl ?_
          refine jv (v_pickt rfl rfl) (.no rfl) rfl ?_
          refine jv (v_assign rfl) (.no rfl) rfl ?_
          refine jo_nil ?_
          refine je_next ?_
          refine j_ret ?_
          refine je_ret rfl rfl rfl rfl rfl (rvs := [.tmp 4]) rfl (.cons (.tmp rfl) .nil) () ?_ (fun w h => h.fin mem0) (.inl rfl)
          first | rfl | exact congrArg Value.bool (decide_eq_true (by omega))
        · first | (with_reducible replace e1 := of_decide_eq_false e1) | skip
          rw [List.take_of_length_le (by omega)] at hfd
          have hg2 := get_live gs (h := h)
          cases fd <;> simp_all
    · first | (with_reducible replace c1 := of_decide_eq_false c1) | skip
      refine j_off rfl rfl rfl (by decide) rfl ?_
      refine j_off rfl rfl rfl (by decide) rfl ?_
      refine jv (v_pickf rfl rfl) (.no rfl) rfl ?_
      refine jo_nil ?_
      refine je_next ?_
      refine j_iff rfl ?_
      refine j_exit ?_
      refine je_then (by simp) ?_
      refine je_then (by simp) ?_
      refine je_hit ?_
      refine je_next ?_
      refine j_seq ?_
      have hkl : k = (liveP cs).length := by omega
      refine j_region ?_
      refine jv (v_loadAc (vs := [_, _, _]) rfl Try.isAgg26 Try.sizeOf26 rfl rfl) (.no rfl) rfl ?_
      refine jv (v_move rfl) (.no rfl) rfl ?_
      refine jq (q_callP (f22_spec (by omega) hI) Try.call22 (by rfl) rfl (memc FindS.mem mem0)) (.no rfl) rfl ?_
      intro f64
      refine jv (v_move rfl) (.no rfl) rfl ?_
      refine jv (v_ext rfl rfl) (.no rfl) rfl ?_
      refine jv (v_ext rfl rfl) (.no rfl) rfl ?_
      refine jx (x_alloc Try.zeroValue29 Cells.agg) (.no rfl) rfl ?_
      intro B11
      refine jx (x_storec (cs' := [_, _, _, _, _, _]) rfl rfl rfl Try.sizeOf29 rfl rfl) (.no rfl) rfl ?_
      intro _
      refine jv (v_assign rfl) (.no rfl) rfl ?_
      refine jo_nil ?_
      refine je_next ?_
      refine j_seq ?_
      refine j_region ?_
      refine jv (v_move rfl) (.no rfl) rfl ?_
      refine jv (v_eql rfl rfl) (.no rfl) rfl ?_
      refine jv (v_move rfl) (.no rfl) rfl ?_
      refine jv (v_beql Try.underlying4 rfl rfl) (.no rfl) rfl ?_
      refine jv (v_move rfl) (.no rfl) rfl ?_
      refine j_split 71 rfl (fun e1 => ?_) (fun e1 => ?_)
      · first | (with_reducible replace e1 := of_decide_eq_true e1) | skip
        refine jv (v_move rfl) (.yes rfl rfl rfl) rfl ?_
        refine jv (v_len rfl FindR.row Try.runUnderlying27) (.yes rfl rfl rfl) rfl ?_
        refine jv (v_field (k' := 0) rfl Try.runUnderlying26 rfl Try.sizeOf24 (by decide) rfl) (.yes rfl rfl rfl) rfl ?_
        refine jv (v_field (k' := 0) rfl Try.runUnderlying24 rfl Try.sizeOf22 (by decide) rfl) (.yes rfl rfl rfl) rfl ?_
        refine jv (v_loadc rfl Try.isAgg22 rfl) (.yes rfl rfl rfl) rfl ?_
        refine jv (v_len rfl FindR.row Try.runUnderlying22) (.yes rfl rfl rfl) rfl ?_
        refine jv (v_leq rfl rfl) (.yes rfl rfl rfl) rfl ?_
        refine jv (v_pickt rfl rfl) (.no rfl) rfl ?_
        refine jv (v_assign rfl) (.no rfl) rfl ?_
        refine jo_nil ?_
        refine je_next ?_
        refine j_ret ?_
        refine je_ret rfl rfl rfl rfl rfl (rvs := [.tmp 4]) rfl (.cons (.tmp rfl) .nil) () ?_ (fun w h => h.fin mem0) (.inl rfl)
        first | rfl | exact congrArg Value.bool (decide_eq_true (by omega))
      · first | (with_reducible replace e1 := of_decide_eq_false e1) | skip
        rw [List.take_of_length_le (by omega)] at hfd
        have hg2 := get_live gs (h := h)
        cases fd <;> simp_all

end Go.Proofs.Ytjgacbopccfecaa
