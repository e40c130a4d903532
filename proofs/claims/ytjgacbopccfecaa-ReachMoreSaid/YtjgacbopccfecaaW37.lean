/-
  Walks: function 9, function 11, function 12, function 13.
-/
import Derived.Test.YtjgacbopccfecaaBl
import Derived.Test.YtjgacbopccfecaaZ
import Derived.Test.YtjgacbopccfecaaY8
import Derived.Test.YtjgacbopccfecaaW2
import Derived.Test.YtjgacbopccfecaaW22
import Derived.Test.YtjgacbopccfecaaW33
import Derived.Test.YtjgacbopccfecaaW34
import Derived.Test.YtjgacbopccfecaaW35
import Derived.Test.YtjgacbopccfecaaW36
set_option maxRecDepth 100000
set_option linter.unusedVariables false
set_option linter.unusedSimpArgs false
namespace Go.Proofs.Ytjgacbopccfecaa

theorem f9_spec {vs vl : Value} {cs : List Cell} {last serial a b : Int} {l : List Int} : Spec Try.prog 9 [stA vs last serial, vl, iV a, iV b] [] [sl cellK vs cs, sl intK vl l] Unit (fun _ => .bool true) (fun _ => []) (fun _ => []) := by
  refine spec_of Try.func9 rfl Try.ntmps9 (by simp) fun ok w => ?_
  refine j_seq ?_
  refine j_region ?_
  refine jx (x_boxc rfl) (.no rfl) rfl ?_
  intro B4
  refine jv (v_assign rfl) (.no rfl) rfl ?_
  refine jo_nil ?_
  refine je_next ?_
  refine j_seq ?_
  refine j_seq ?_
  refine j_region ?_
  refine jv (v_loadAc (vs := [_, _, _]) rfl Try.isAgg26 Try.sizeOf26 rfl rfl) (.no rfl) rfl ?_
  refine jq (q_callP (f40_spec) Try.call40 (by rfl) rfl (memc FindS.mem mem0)) (.no rfl) rfl ?_
  intro x11
  refine jv (v_not rfl) (.no rfl) rfl ?_
  refine jv (v_move rfl) (.no rfl) rfl ?_
  refine j_split 13 rfl (fun r1 => ?_) (fun r1 => ?_)
  · first | (with_reducible replace r1 := of_decide_eq_true r1) | skip
    refine j_off rfl rfl rfl (by decide) rfl ?_
    refine j_off rfl rfl rfl (by decide) rfl ?_
    refine j_off rfl rfl rfl (by decide) rfl ?_
    refine jv (v_pickt rfl rfl) (.no rfl) rfl ?_
    refine jv (v_move rfl) (.no rfl) rfl ?_
    refine j_off rfl rfl rfl (by decide) rfl ?_
    refine j_off rfl rfl rfl (by decide) rfl ?_
    refine jv (v_pickt rfl rfl) (.no rfl) rfl ?_
    refine jo_nil ?_
    refine je_next ?_
    refine j_ift rfl ?_
    refine j_seq ?_
    refine j_region ?_
    refine jq (q_callP (f41_spec) Try.call41 (by rfl) rfl mem0) (.no rfl) rfl ?_
    intro x22
    refine jv (v_assign rfl) (.no rfl) rfl ?_
    refine jo_nil ?_
    refine je_next ?_
    refine j_ret ?_
    refine je_then (by simp) ?_
    refine je_ret rfl rfl rfl rfl rfl (rvs := [.tmp 8]) rfl (.cons (.tmp rfl) .nil) () ?_ (fun w h => h.fin mem0) (.inl rfl)
    first | rfl | exact congrArg Value.bool (beq_self_eq_true _)
  · first | (with_reducible replace r1 := of_decide_eq_false r1) | skip
    refine jv (v_move rfl) (.yes rfl rfl rfl) rfl ?_
    refine jv (v_len rfl FindR.row Try.runUnderlying27) (.yes rfl rfl rfl) rfl ?_
    refine jv (v_gtr rfl rfl) (.yes rfl rfl rfl) rfl ?_
    refine jv (v_pickf rfl rfl) (.no rfl) rfl ?_
    refine jv (v_move rfl) (.no rfl) rfl ?_
    refine j_split 18 rfl (fun r2 => ?_) (fun r2 => ?_)
    · first | (with_reducible replace r2 := of_decide_eq_true r2) | skip
      refine j_off rfl rfl rfl (by decide) rfl ?_
      refine j_off rfl rfl rfl (by decide) rfl ?_
      refine jv (v_pickt rfl rfl) (.no rfl) rfl ?_
      refine jo_nil ?_
      refine je_next ?_
      refine j_ift rfl ?_
      refine j_seq ?_
      refine j_region ?_
      refine jq (q_callP (f41_spec) Try.call41 (by rfl) rfl mem0) (.no rfl) rfl ?_
      intro x22
      refine jv (v_assign rfl) (.no rfl) rfl ?_
      refine jo_nil ?_
      refine je_next ?_
      refine j_ret ?_
      refine je_then (by simp) ?_
      refine je_ret rfl rfl rfl rfl rfl (rvs := [.tmp 8]) rfl (.cons (.tmp rfl) .nil) () ?_ (fun w h => h.fin mem0) (.inl rfl)
      first | rfl | exact congrArg Value.bool (beq_self_eq_true _)
    · first | (with_reducible replace r2 := of_decide_eq_false r2) | skip
      refine jq (q_callP (f41_spec) Try.call41 (by rfl) rfl mem0) (.yes rfl rfl rfl) rfl ?_
      intro x19
      refine jv (v_not rfl) (.yes rfl rfl rfl) rfl ?_
      refine jv (v_pickf rfl rfl) (.no rfl) rfl ?_
      refine jo_nil ?_
      refine je_next ?_
      refine j_iff rfl ?_
      refine j_skip ?_
      refine je_next ?_
      refine j_seq ?_
      obtain ⟨hsm, hser, hr⟩ := rightL_parts (by simpa using r1)
      have hn := small_le hsm
      have hI := right6_gen hr
      have gs := right6_gens hr
      obtain ⟨hn24, hl0, hl9, hs0, hgen, hcell⟩ := right6_parts hr
      have hA := right6_apart hr
      have hF4 := right6_fields hr
      have hF : ∀ c ∈ cs, c.val.fields.length ≤ 1000 := fun c hc => by have := hF4 c hc; omega
      have hll := liveP_le cs
      refine j_region ?_
      refine jv (v_loadAc (vs := [_, _, _]) rfl Try.isAgg26 Try.sizeOf26 rfl rfl) (.no rfl) rfl ?_
      refine jq (q_callP (f42_spec (by omega)) Try.call42 (by rfl) rfl (memc FindS.mem mem0)) (.no rfl) rfl ?_
      intro u24
      refine jx (x_alloc Try.zeroValue37 Cells.agg) (.no rfl) rfl ?_
      intro B9
      refine jx (x_storec (cs' := [_, _, _]) rfl rfl rfl Try.sizeOf37 rfl rfl) (.no rfl) rfl ?_
      intro _
      refine jo_nil ?_
      refine je_next ?_
      refine j_seq ?_
      refine j_draw [] mixed ?_
      refine ja_take 0 rfl (by decide +kernel) (v_loadAc (vs := [_, _, _]) rfl Try.isAgg26 Try.sizeOf26 rfl rfl) (.no rfl) rfl ?_
      refine ja_take 1 rfl (by decide +kernel) (v_move rfl) (.no rfl) rfl ?_
      refine ja_take 3 rfl (by decide +kernel) (v_loadAc (vs := [_, _, _]) rfl Try.isAgg37 Try.sizeOf37 rfl rfl) (.no rfl) rfl ?_
      refine ja_take 4 rfl (by decide +kernel) (v_move rfl) (.no rfl) rfl ?_
      refine ja_one (i := 2) (by decide +kernel) (jn_q rfl (q_callP (f43_spec gs hA hF (by omega)) Try.call43 (by rfl) rfl (memc FindS.mem (memc FindS.mem mem0))) (.no rfl) rfl ?_)
      intro u27
      refine ja_one (i := 5) (by decide +kernel) (jn_q rfl (q_callP (f44_spec gs hA hF) Try.call44 (by rfl) rfl (memc FindS.mem (memc FindS.mem mem0))) (.no rfl) rfl ?_)
      intro u30
      refine ja_one (i := 6) (by decide +kernel) (jn_q rfl (q_callP (f30_spec) Try.call30 (by rfl) rfl (memc FindS.mem (memc FindS.mem mem0))) (.no rfl) rfl ?_)
      intro x31
      refine ja_take 7 rfl (by decide +kernel) (v_move rfl) (.no rfl) rfl ?_
      refine ja_split 32 rfl (fun d1 => ?_) (fun d1 => ?_)
      · first | (with_reducible replace d1 := of_decide_eq_true d1) | skip
        refine ja_take 8 rfl (by decide +kernel) (v_loadAc (vs := [_, _, _]) rfl Try.isAgg26 Try.sizeOf26 rfl rfl) (.yes rfl rfl rfl) rfl ?_
        refine ja_take 9 rfl (by decide +kernel) (v_move rfl) (.yes rfl rfl rfl) rfl ?_
        refine ja_take 11 rfl (by decide +kernel) (v_loadAc (vs := [_, _, _]) rfl Try.isAgg37 Try.sizeOf37 rfl rfl) (.yes rfl rfl rfl) rfl ?_
        refine ja_take 12 rfl (by decide +kernel) (v_move rfl) (.yes rfl rfl rfl) rfl ?_
        refine ja_one (i := 10) (by decide +kernel) (jn_q rfl (q_callP (f45_spec gs hA hF (by omega)) Try.call45 (by rfl) rfl (memc FindS.mem (memc FindS.mem mem0))) (.yes rfl rfl rfl) rfl ?_)
        intro u35
        refine ja_one (i := 13) (by decide +kernel) (jn_q rfl (q_callP (f46_spec gs hA hF) Try.call46 (by rfl) rfl (memc FindS.mem (memc FindS.mem mem0))) (.yes rfl rfl rfl) rfl ?_)
        intro u38
        refine ja_one (i := 14) (by decide +kernel) (jn_q rfl (q_callP (f30_spec) Try.call30 (by rfl) rfl (memc FindS.mem (memc FindS.mem mem0))) (.yes rfl rfl rfl) rfl ?_)
        intro x39
        refine ja_take 15 rfl (by decide +kernel) (v_pickt rfl rfl) (.no rfl) rfl ?_
        refine ja_take 16 rfl (by decide +kernel) (v_move rfl) (.no rfl) rfl ?_
        refine ja_split 41 rfl (fun d2 => ?_) (fun d2 => ?_)
        · first | (with_reducible replace d2 := of_decide_eq_true d2) | skip
          refine ja_take 17 rfl (by decide +kernel) (v_loadAc (vs := [_, _, _]) rfl Try.isAgg26 Try.sizeOf26 rfl rfl) (.yes rfl rfl rfl) rfl ?_
          refine ja_take 18 rfl (by decide +kernel) (v_move rfl) (.yes rfl rfl rfl) rfl ?_
          refine ja_take 19 rfl (by decide +kernel) (v_move rfl) (.yes rfl rfl rfl) rfl ?_
          refine ja_take 21 rfl (by decide +kernel) (v_loadAc (vs := [_, _, _]) rfl Try.isAgg37 Try.sizeOf37 rfl rfl) (.yes rfl rfl rfl) rfl ?_
          refine ja_take 22 rfl (by decide +kernel) (v_move rfl) (.yes rfl rfl rfl) rfl ?_
          refine ja_take 23 rfl (by decide +kernel) (v_move rfl) (.yes rfl rfl rfl) rfl ?_
          refine ja_one (i := 20) (by decide +kernel) (jn_q rfl (q_callP (f47_spec gs hA hF) Try.call47 (by rfl) rfl (memc FindS.mem mem0)) (.yes rfl rfl rfl) rfl ?_)
          intro x45
          refine ja_one (i := 24) (by decide +kernel) (jn_q rfl (q_callP (f48_spec gs hA hF) Try.call48 (by rfl) rfl (memc FindS.mem mem0)) (.yes rfl rfl rfl) rfl ?_)
          intro x49
          refine ja_take 25 rfl (by decide +kernel) (v_beql Try.underlying4 rfl rfl) (.yes rfl rfl rfl) rfl ?_
          refine ja_take 26 rfl (by decide +kernel) (v_pickt rfl rfl) (.no rfl) rfl ?_
          refine ja_take 27 rfl (by decide +kernel) (v_move rfl) (.no rfl) rfl ?_
          refine ja_split 52 rfl (fun d3 => ?_) (fun d3 => ?_)
          · first | (with_reducible replace d3 := of_decide_eq_true d3) | skip
            refine ja_take 28 rfl (by decide +kernel) (v_loadAc (vs := [_, _, _]) rfl Try.isAgg26 Try.sizeOf26 rfl rfl) (.yes rfl rfl rfl) rfl ?_
            refine ja_take 29 rfl (by decide +kernel) (v_move rfl) (.yes rfl rfl rfl) rfl ?_
            refine ja_take 31 rfl (by decide +kernel) (v_loadAc (vs := [_, _, _]) rfl Try.isAgg37 Try.sizeOf37 rfl rfl) (.yes rfl rfl rfl) rfl ?_
            refine ja_take 32 rfl (by decide +kernel) (v_move rfl) (.yes rfl rfl rfl) rfl ?_
            refine ja_one (i := 30) (by decide +kernel) (jn_q rfl (q_callP (f49_spec gs hA hF (by omega)) Try.call49 (by rfl) rfl (memc FindS.mem (memc FindS.mem mem0))) (.yes rfl rfl rfl) rfl ?_)
            intro x55
            refine ja_one (i := 33) (by decide +kernel) (jn_q rfl (q_callP (f50_spec gs hA hF) Try.call50 (by rfl) rfl (memc FindS.mem (memc FindS.mem mem0))) (.yes rfl rfl rfl) rfl ?_)
            intro x58
            refine ja_take 34 rfl (by decide +kernel) (v_beql Try.underlying4 rfl rfl) (.yes rfl rfl rfl) rfl ?_
            refine ja_take 35 rfl (by decide +kernel) (v_pickt rfl rfl) (.no rfl) rfl ?_
            refine ja_take 36 rfl (by decide +kernel) (v_assign rfl) (.no rfl) rfl ?_
            refine ja_nil (by decide +kernel) ?_
            refine je_next ?_
            refine j_ret ?_
            refine je_ret rfl rfl rfl rfl rfl (rvs := [.tmp 8]) rfl (.cons (.tmp rfl) .nil) () ?_ (fun w h => h.fin mem0) (.inl rfl)
            first | rfl | exact congrArg Value.bool (beq_self_eq_true _)
          · first | (with_reducible replace d3 := of_decide_eq_false d3) | skip
            rw [from_hasP gs] at d3; simp at d3
        · first | (with_reducible replace d2 := of_decide_eq_false d2) | skip
          exact absurd rfl d2
      · first | (with_reducible replace d1 := of_decide_eq_false d1) | skip
        exact absurd rfl d1

theorem f11_spec {vs vl : Value} {cs : List Cell} {last serial : Int} {l : List Int} : Spec Try.prog 11 [stA vs last serial, vl] [] [sl cellK vs cs, sl intK vl l] Unit (fun _ => .bool true) (fun _ => []) (fun _ => []) := by
  refine spec_of Try.func11 rfl Try.ntmps11 (by simp) fun ok w => ?_
  refine j_seq ?_
  refine j_region ?_
  refine jx (x_boxc rfl) (.no rfl) rfl ?_
  intro B2
  refine jv (v_assign rfl) (.no rfl) rfl ?_
  refine jo_nil ?_
  refine je_next ?_
  refine j_seq ?_
  refine j_seq ?_
  refine j_region ?_
  refine jv (v_loadAc (vs := [_, _, _]) rfl Try.isAgg26 Try.sizeOf26 rfl rfl) (.no rfl) rfl ?_
  refine jq (q_callP (f40_spec) Try.call40 (by rfl) rfl (memc FindS.mem mem0)) (.no rfl) rfl ?_
  intro x10
  refine jv (v_not rfl) (.no rfl) rfl ?_
  refine jv (v_move rfl) (.no rfl) rfl ?_
  refine j_split 12 rfl (fun r1 => ?_) (fun r1 => ?_)
  · first | (with_reducible replace r1 := of_decide_eq_true r1) | skip
    refine j_off rfl rfl rfl (by decide) rfl ?_
    refine j_off rfl rfl rfl (by decide) rfl ?_
    refine j_off rfl rfl rfl (by decide) rfl ?_
    refine jv (v_pickt rfl rfl) (.no rfl) rfl ?_
    refine jv (v_move rfl) (.no rfl) rfl ?_
    refine j_off rfl rfl rfl (by decide) rfl ?_
    refine j_off rfl rfl rfl (by decide) rfl ?_
    refine jv (v_pickt rfl rfl) (.no rfl) rfl ?_
    refine jo_nil ?_
    refine je_next ?_
    refine j_ift rfl ?_
    refine j_seq ?_
    refine j_region ?_
    refine jq (q_callP (f41_spec) Try.call41 (by rfl) rfl mem0) (.no rfl) rfl ?_
    intro x21
    refine jv (v_assign rfl) (.no rfl) rfl ?_
    refine jo_nil ?_
    refine je_next ?_
    refine j_ret ?_
    refine je_then (by simp) ?_
    refine je_ret rfl rfl rfl rfl rfl (rvs := [.tmp 4]) rfl (.cons (.tmp rfl) .nil) () ?_ (fun w h => h.fin mem0) (.inl rfl)
    first | rfl | exact congrArg Value.bool (decide_eq_true (lost_idem gs l))
  · first | (with_reducible replace r1 := of_decide_eq_false r1) | skip
    refine jv (v_move rfl) (.yes rfl rfl rfl) rfl ?_
    refine jv (v_len rfl FindR.row Try.runUnderlying27) (.yes rfl rfl rfl) rfl ?_
    refine jv (v_gtr rfl rfl) (.yes rfl rfl rfl) rfl ?_
    refine jv (v_pickf rfl rfl) (.no rfl) rfl ?_
    refine jv (v_move rfl) (.no rfl) rfl ?_
    refine j_split 17 rfl (fun r2 => ?_) (fun r2 => ?_)
    · first | (with_reducible replace r2 := of_decide_eq_true r2) | skip
      refine j_off rfl rfl rfl (by decide) rfl ?_
      refine j_off rfl rfl rfl (by decide) rfl ?_
      refine jv (v_pickt rfl rfl) (.no rfl) rfl ?_
      refine jo_nil ?_
      refine je_next ?_
      refine j_ift rfl ?_
      refine j_seq ?_
      refine j_region ?_
      refine jq (q_callP (f41_spec) Try.call41 (by rfl) rfl mem0) (.no rfl) rfl ?_
      intro x21
      refine jv (v_assign rfl) (.no rfl) rfl ?_
      refine jo_nil ?_
      refine je_next ?_
      refine j_ret ?_
      refine je_then (by simp) ?_
      refine je_ret rfl rfl rfl rfl rfl (rvs := [.tmp 4]) rfl (.cons (.tmp rfl) .nil) () ?_ (fun w h => h.fin mem0) (.inl rfl)
      first | rfl | exact congrArg Value.bool (decide_eq_true (lost_idem gs l))
    · first | (with_reducible replace r2 := of_decide_eq_false r2) | skip
      refine jq (q_callP (f41_spec) Try.call41 (by rfl) rfl mem0) (.yes rfl rfl rfl) rfl ?_
      intro x18
      refine jv (v_not rfl) (.yes rfl rfl rfl) rfl ?_
      refine jv (v_pickf rfl rfl) (.no rfl) rfl ?_
      refine jo_nil ?_
      refine je_next ?_
      refine j_iff rfl ?_
      refine j_skip ?_
      refine je_next ?_
      refine j_seq ?_
      obtain ⟨hsm, hser, hr⟩ := rightL_parts (by simpa using r1)
      have hn := small_le hsm
      have hI := right6_gen hr
      have gs := right6_gens hr
      obtain ⟨hn24, hl0, hl9, hs0, hgen, hcell⟩ := right6_parts hr
      have hA := right6_apart hr
      have hF4 := right6_fields hr
      have hF : ∀ c ∈ cs, c.val.fields.length ≤ 1000 := fun c hc => by have := hF4 c hc; omega
      have hll := liveP_le cs
      have hpl := parts_len gs l
      have hfl := from_len (cs := cs) l
      refine j_region ?_
      refine jv (v_loadAc (vs := [_, _, _]) rfl Try.isAgg26 Try.sizeOf26 rfl rfl) (.no rfl) rfl ?_
      refine jv (v_move rfl) (.no rfl) rfl ?_
      refine jq (q_callP (f43_spec gs hA hF (by omega)) Try.call43 (by rfl) rfl (memc FindS.mem (memc FindS.mem mem0))) (.no rfl) rfl ?_
      intro u24
      refine jv (v_assign rfl) (.no rfl) rfl ?_
      refine jo_nil ?_
      refine je_next ?_
      refine j_seq ?_
      refine j_region ?_
      refine jv (v_loadAc (vs := [_, _, _]) rfl Try.isAgg26 Try.sizeOf26 rfl rfl) (.no rfl) rfl ?_
      refine jv (v_move rfl) (.no rfl) rfl ?_
      refine jq (q_callP (f45_spec gs hA hF (by omega)) Try.call45 (by rfl) rfl (memc FindS.mem (memc FindS.mem mem0))) (.no rfl) rfl ?_
      intro u27
      refine jv (v_assign rfl) (.no rfl) rfl ?_
      refine jo_nil ?_
      refine je_next ?_
      refine j_seq ?_
      refine j_region ?_
      refine jv (v_loadAc (vs := [_, _, _]) rfl Try.isAgg26 Try.sizeOf26 rfl rfl) (.no rfl) rfl ?_
      refine jq (q_callP (f42_spec (by omega)) Try.call42 (by rfl) rfl (memc FindS.mem mem0)) (.no rfl) rfl ?_
      intro u29
      refine jq (q_callP (f33_spec gs hA) Try.call33 (by rfl) rfl (memc FindS.mem mem0)) (.no rfl) rfl ?_
      intro u30
      refine jv (v_assign rfl) (.no rfl) rfl ?_
      refine jo_nil ?_
      refine je_next ?_
      refine j_seq ?_
      refine j_seq ?_
      refine j_region ?_
      refine jv (v_move rfl) (.no rfl) rfl ?_
      refine jv (v_len rfl FindR.row Try.runUnderlying27) (.no rfl) rfl ?_
      refine jv (v_move rfl) (.no rfl) rfl ?_
      refine jv (v_len rfl FindR.row Try.runUnderlying27) (.no rfl) rfl ?_
      refine jv (v_add rfl rfl (by omega) (by omega)) (.no rfl) rfl ?_
      refine jv (v_move rfl) (.no rfl) rfl ?_
      refine jv (v_len rfl FindR.row Try.runUnderlying27) (.no rfl) rfl ?_
      refine jv (v_neq rfl rfl) (.no rfl) rfl ?_
      refine jo_nil ?_
      refine je_next ?_
      refine j_if rfl (fun d1 => ?_) (fun d1 => ?_)
      · first | (with_reducible replace d1 := of_decide_eq_true d1) | skip
        exact absurd d1 (by omega)
      · first | (with_reducible replace d1 := of_decide_eq_false d1) | skip
        refine j_skip ?_
        refine je_next ?_
        refine j_seq ?_
        refine j_seq ?_
        refine j_region ?_
        refine jv (v_assign rfl) (.no rfl) rfl ?_
        refine jo_nil ?_
        refine je_next ?_
        refine j_block ?_
        refine j_loopS (G := Nat) [(2, _), (5, _), (6, _), (7, _)] (fun k t => (8, iV ((k : Nat) : Int)) :: t) (fun k t => t) (fun k => k ≤ (liveP cs).length) (fun k => (liveP cs).length - k) 0 (Nat.zero_le _) (lsub rfl (lsub rfl (lsub rfl (lsub rfl (lsub rfl lsub0))))) rfl (fun k hk => ?_)   -- dead: [4]
        refine j_seq ?_
        refine j_seq ?_
        refine j_region ?_
        refine jv (v_move rfl) (.no rfl) rfl ?_
        refine jv (v_move rfl) (.no rfl) rfl ?_
        refine jv (v_len rfl FindR.row Try.runUnderlying27) (.no rfl) rfl ?_
        refine jv (v_lss rfl rfl) (.no rfl) rfl ?_
        refine jo_nil ?_
        refine je_next ?_
        refine j_if rfl (fun hc => ?_) (fun hc => ?_)
        · first | (with_reducible replace hc := of_decide_eq_true hc) | skip
          refine j_skip ?_
          refine je_next ?_
          refine j_seq ?_
          refine j_block ?_
          refine j_seq ?_
          have hkl : k < (liveP cs).length := by omega
          have hp1 := parts_one gs l (List.getElem_mem hkl)
          have ht1 := times_lo (fromR cs l) (liveP cs)[k]
          have ht2 := times_lo (lostR cs l) (liveP cs)[k]
          refine j_draw [] mixed ?_
          refine ja_take 0 rfl (by decide +kernel) (v_move rfl) (.no rfl) rfl ?_
          refine ja_take 1 rfl (by decide +kernel) (v_move rfl) (.no rfl) rfl ?_
          refine ja_take 2 rfl (by decide +kernel) (v_move rfl) (.no rfl) rfl ?_
          refine ja_take 3 rfl (by decide +kernel) (v_index rfl rfl FindR.row Try.runUnderlying27 Try.sizeOf3 (by omega) (by omega)) (.no rfl) rfl ?_
          refine ja_take 4 rfl (by decide +kernel) (v_eload rfl FindR.row (at_k hkl) (by decide) Try.isAgg3 (fun _ _ _ h => int_at h)) (.no rfl) rfl ?_
          refine ja_take 6 rfl (by decide +kernel) (v_move rfl) (.no rfl) rfl ?_
          refine ja_take 7 rfl (by decide +kernel) (v_move rfl) (.no rfl) rfl ?_
          refine ja_take 8 rfl (by decide +kernel) (v_move rfl) (.no rfl) rfl ?_
          refine ja_take 9 rfl (by decide +kernel) (v_index rfl rfl FindR.row Try.runUnderlying27 Try.sizeOf3 (by omega) (by omega)) (.no rfl) rfl ?_
          refine ja_take 10 rfl (by decide +kernel) (v_eload rfl FindR.row (at_k hkl) (by decide) Try.isAgg3 (fun _ _ _ h => int_at h)) (.no rfl) rfl ?_
          refine ja_one (i := 5) (by decide +kernel) (jn_q rfl (q_callP (f51_spec) Try.call51 (by rfl) rfl (memc FindS.mem mem0)) (.no rfl) rfl ?_)
          intro x50
          refine ja_one (i := 11) (by decide +kernel) (jn_q rfl (q_callP (f51_spec) Try.call51 (by rfl) rfl (memc FindS.mem mem0)) (.no rfl) rfl ?_)
          intro x56
          refine ja_take 12 rfl (by decide +kernel) (v_add rfl rfl (by omega) (by omega)) (.no rfl) rfl ?_
          refine ja_take 13 rfl (by decide +kernel) (v_neq rfl rfl) (.no rfl) rfl ?_
          refine ja_nil (by decide +kernel) ?_
          refine je_next ?_
          refine j_if rfl (fun d2 => ?_) (fun d2 => ?_)
          · first | (with_reducible replace d2 := of_decide_eq_true d2) | skip
            exact absurd hp1 d2
          · first | (with_reducible replace d2 := of_decide_eq_false d2) | skip
            refine j_skip ?_
            refine je_block ?_
            refine je_next ?_
            refine j_region ?_
            refine jv (v_move rfl) (.no rfl) rfl ?_
            refine jv (v_add rfl rfl (by omega) (by omega)) (.no rfl) rfl ?_
            refine jv (v_assign rfl) (.no rfl) rfl ?_
            refine jo_nil ?_
            refine je_round (k + 1) (by (try dsimp only); omega) (by (try dsimp only); omega) (lsub rfl (lsub rfl (lsub rfl (lsub rfl (lsub rfl lsub0))))) (fun _ h => (h).sub fun p hp => (List.mem_append_right _ (List.mem_append_right _ hp)))
        · first | (with_reducible replace hc := of_decide_eq_false hc) | skip
          refine j_exit ?_
          refine je_then (by simp) ?_
          refine je_then (by simp) ?_
          refine je_hit ?_
          refine je_next ?_
          refine j_seq ?_
          refine j_region ?_
          refine jv (v_loadAc (vs := [_, _, _]) rfl Try.isAgg26 Try.sizeOf26 rfl rfl) (.no rfl) rfl ?_
          refine jv (v_move rfl) (.no rfl) rfl ?_
          refine jq (q_callP (f43_spec gs hA hF (by omega)) Try.call43 (by rfl) rfl (memc FindS.mem (memc FindS.mem mem0))) (.no rfl) rfl ?_
          intro u61
          refine jv (v_move rfl) (.no rfl) rfl ?_
          refine jq (q_callP (f30_spec) Try.call30 (by rfl) rfl (memc FindS.mem (memc FindS.mem mem0))) (.no rfl) rfl ?_
          intro x63
          refine jv (v_move rfl) (.no rfl) rfl ?_
          refine j_split 64 rfl (fun d3 => ?_) (fun d3 => ?_)
          · first | (with_reducible replace d3 := of_decide_eq_true d3) | skip
            refine jv (v_loadAc (vs := [_, _, _]) rfl Try.isAgg26 Try.sizeOf26 rfl rfl) (.yes rfl rfl rfl) rfl ?_
            refine jv (v_move rfl) (.yes rfl rfl rfl) rfl ?_
            refine jq (q_callP (f45_spec gs hA hF (by omega)) Try.call45 (by rfl) rfl (memc FindS.mem (memc FindS.mem mem0))) (.yes rfl rfl rfl) rfl ?_
            intro u67
            refine jv (v_move rfl) (.yes rfl rfl rfl) rfl ?_
            refine jq (q_callP (f30_spec) Try.call30 (by rfl) rfl (memc FindS.mem (memc FindS.mem mem0))) (.yes rfl rfl rfl) rfl ?_
            intro x69
            refine jv (v_pickt rfl rfl) (.no rfl) rfl ?_
            refine jv (v_assign rfl) (.no rfl) rfl ?_
            refine jo_nil ?_
            refine je_next ?_
            refine j_ret ?_
            refine je_ret rfl rfl rfl rfl rfl (rvs := [.tmp 4]) rfl (.cons (.tmp rfl) .nil) () ?_ (fun w h => h.fin mem0) (.inl rfl)
            first | rfl | exact congrArg Value.bool (decide_eq_true (lost_idem gs l))
          · first | (with_reducible replace d3 := of_decide_eq_false d3) | skip
            exact absurd (from_idem gs l) d3

theorem f12_spec {vs vl vm : Value} {cs : List Cell} {last serial : Int} {l m : List Int} : Spec Try.prog 12 [stA vs last serial, vl, vm] [] [sl cellK vs cs, sl intK vl l, sl intK vm m] Unit (fun _ => .bool true) (fun _ => []) (fun _ => []) := by
  refine spec_of Try.func12 rfl Try.ntmps12 (by simp) fun ok w => ?_
  refine j_seq ?_
  refine j_region ?_
  refine jx (x_boxc rfl) (.no rfl) rfl ?_
  intro B3
  refine jv (v_assign rfl) (.no rfl) rfl ?_
  refine jo_nil ?_
  refine je_next ?_
  refine j_seq ?_
  refine j_seq ?_
  refine j_region ?_
  refine jv (v_loadAc (vs := [_, _, _]) rfl Try.isAgg26 Try.sizeOf26 rfl rfl) (.no rfl) rfl ?_
  refine jq (q_callP (f40_spec) Try.call40 (by rfl) rfl (memc FindS.mem mem0)) (.no rfl) rfl ?_
  intro x14
  refine jv (v_not rfl) (.no rfl) rfl ?_
  refine jv (v_move rfl) (.no rfl) rfl ?_
  refine j_split 16 rfl (fun r1 => ?_) (fun r1 => ?_)
  · first | (with_reducible replace r1 := of_decide_eq_true r1) | skip
    refine j_off rfl rfl rfl (by decide) rfl ?_
    refine j_off rfl rfl rfl (by decide) rfl ?_
    refine j_off rfl rfl rfl (by decide) rfl ?_
    refine jv (v_pickt rfl rfl) (.no rfl) rfl ?_
    refine jv (v_move rfl) (.no rfl) rfl ?_
    refine j_off rfl rfl rfl (by decide) rfl ?_
    refine j_off rfl rfl rfl (by decide) rfl ?_
    refine j_off rfl rfl rfl (by decide) rfl ?_
    refine jv (v_pickt rfl rfl) (.no rfl) rfl ?_
    refine jv (v_move rfl) (.no rfl) rfl ?_
    refine j_off rfl rfl rfl (by decide) rfl ?_
    refine j_off rfl rfl rfl (by decide) rfl ?_
    refine jv (v_pickt rfl rfl) (.no rfl) rfl ?_
    refine jo_nil ?_
    refine je_next ?_
    refine j_ift rfl ?_
    refine j_seq ?_
    refine j_region ?_
    refine jq (q_callP (f41_spec) Try.call41 (by rfl) rfl mem0) (.no rfl) rfl ?_
    intro x30
    refine jv (v_assign rfl) (.no rfl) rfl ?_
    refine jo_nil ?_
    refine je_next ?_
    refine j_ret ?_
    refine je_then (by simp) ?_
    refine je_ret rfl rfl rfl rfl rfl (rvs := [.tmp 6]) rfl (.cons (.tmp rfl) .nil) () ?_ (fun w h => h.fin mem0) (.inl rfl)
    first | rfl | exact congrArg Value.bool (decide_eq_true (by have := hml; (try simp only [List.nil_append]); omega))
  · first | (with_reducible replace r1 := of_decide_eq_false r1) | skip
    refine jv (v_move rfl) (.yes rfl rfl rfl) rfl ?_
    refine jv (v_len rfl FindR.row Try.runUnderlying27) (.yes rfl rfl rfl) rfl ?_
    refine jv (v_gtr rfl rfl) (.yes rfl rfl rfl) rfl ?_
    refine jv (v_pickf rfl rfl) (.no rfl) rfl ?_
    refine jv (v_move rfl) (.no rfl) rfl ?_
    refine j_split 21 rfl (fun r2 => ?_) (fun r2 => ?_)
    · first | (with_reducible replace r2 := of_decide_eq_true r2) | skip
      refine j_off rfl rfl rfl (by decide) rfl ?_
      refine j_off rfl rfl rfl (by decide) rfl ?_
      refine j_off rfl rfl rfl (by decide) rfl ?_
      refine jv (v_pickt rfl rfl) (.no rfl) rfl ?_
      refine jv (v_move rfl) (.no rfl) rfl ?_
      refine j_off rfl rfl rfl (by decide) rfl ?_
      refine j_off rfl rfl rfl (by decide) rfl ?_
      refine jv (v_pickt rfl rfl) (.no rfl) rfl ?_
      refine jo_nil ?_
      refine je_next ?_
      refine j_ift rfl ?_
      refine j_seq ?_
      refine j_region ?_
      refine jq (q_callP (f41_spec) Try.call41 (by rfl) rfl mem0) (.no rfl) rfl ?_
      intro x30
      refine jv (v_assign rfl) (.no rfl) rfl ?_
      refine jo_nil ?_
      refine je_next ?_
      refine j_ret ?_
      refine je_then (by simp) ?_
      refine je_ret rfl rfl rfl rfl rfl (rvs := [.tmp 6]) rfl (.cons (.tmp rfl) .nil) () ?_ (fun w h => h.fin mem0) (.inl rfl)
      first | rfl | exact congrArg Value.bool (decide_eq_true (by have := hml; (try simp only [List.nil_append]); omega))
    · first | (with_reducible replace r2 := of_decide_eq_false r2) | skip
      refine jv (v_move rfl) (.yes rfl rfl rfl) rfl ?_
      refine jv (v_len rfl FindR.row Try.runUnderlying27) (.yes rfl rfl rfl) rfl ?_
      refine jv (v_gtr rfl rfl) (.yes rfl rfl rfl) rfl ?_
      refine jv (v_pickf rfl rfl) (.no rfl) rfl ?_
      refine jv (v_move rfl) (.no rfl) rfl ?_
      refine j_split 26 rfl (fun r3 => ?_) (fun r3 => ?_)
      · first | (with_reducible replace r3 := of_decide_eq_true r3) | skip
        refine j_off rfl rfl rfl (by decide) rfl ?_
        refine j_off rfl rfl rfl (by decide) rfl ?_
        refine jv (v_pickt rfl rfl) (.no rfl) rfl ?_
        refine jo_nil ?_
        refine je_next ?_
        refine j_ift rfl ?_
        refine j_seq ?_
        refine j_region ?_
        refine jq (q_callP (f41_spec) Try.call41 (by rfl) rfl mem0) (.no rfl) rfl ?_
        intro x30
        refine jv (v_assign rfl) (.no rfl) rfl ?_
        refine jo_nil ?_
        refine je_next ?_
        refine j_ret ?_
        refine je_then (by simp) ?_
        refine je_ret rfl rfl rfl rfl rfl (rvs := [.tmp 6]) rfl (.cons (.tmp rfl) .nil) () ?_ (fun w h => h.fin mem0) (.inl rfl)
        first | rfl | exact congrArg Value.bool (decide_eq_true (by have := hml; (try simp only [List.nil_append]); omega))
      · first | (with_reducible replace r3 := of_decide_eq_false r3) | skip
        refine jq (q_callP (f41_spec) Try.call41 (by rfl) rfl mem0) (.yes rfl rfl rfl) rfl ?_
        intro x27
        refine jv (v_not rfl) (.yes rfl rfl rfl) rfl ?_
        refine jv (v_pickf rfl rfl) (.no rfl) rfl ?_
        refine jo_nil ?_
        refine je_next ?_
        refine j_iff rfl ?_
        refine j_skip ?_
        refine je_next ?_
        refine j_seq ?_
        obtain ⟨hsm, hser, hr⟩ := rightL_parts (by simpa using r1)
        have hn := small_le hsm
        have hI := right6_gen hr
        have gs := right6_gens hr
        obtain ⟨hn24, hl0, hl9, hs0, hgen, hcell⟩ := right6_parts hr
        have hA := right6_apart hr
        have hF4 := right6_fields hr
        have hF : ∀ c ∈ cs, c.val.fields.length ≤ 1000 := fun c hc => by have := hF4 c hc; omega
        have hll := liveP_le cs
        have hml := more_len gs l m
        have hfl := from_len (cs := cs) l
        have hfm := from_len (cs := cs) m
        refine j_region ?_
        refine jv (v_loadAc (vs := [_, _, _]) rfl Try.isAgg26 Try.sizeOf26 rfl rfl) (.no rfl) rfl ?_
        refine jv (v_move rfl) (.no rfl) rfl ?_
        refine jq (q_callP (f43_spec gs hA hF (by omega)) Try.call43 (by rfl) rfl (memc FindS.mem (memc FindS.mem mem0))) (.no rfl) rfl ?_
        intro u33
        refine jv (v_assign rfl) (.no rfl) rfl ?_
        refine jo_nil ?_
        refine je_next ?_
        refine j_seq ?_
        refine j_region ?_
        refine jv (v_loadAc (vs := [_, _, _]) rfl Try.isAgg26 Try.sizeOf26 rfl rfl) (.no rfl) rfl ?_
        refine jv (v_move rfl) (.no rfl) rfl ?_
        refine jq (q_callP (f43_spec gs hA hF (by omega)) Try.call43 (by rfl) rfl (memc FindS.mem (memc FindS.mem mem0))) (.no rfl) rfl ?_
        intro u36
        refine jv (v_assign rfl) (.no rfl) rfl ?_
        refine jo_nil ?_
        refine je_next ?_
        refine j_seq ?_
        refine j_draw [5] mixed ?_
        refine ja_take 2 rfl (by decide +kernel) (v_move rfl) (.no rfl) rfl ?_
        refine ja_take 4 rfl (by decide +kernel) (v_move rfl) (.no rfl) rfl ?_
        refine ja_two (i := 0) (j := 1) (by decide +kernel) ?_ ?_
        · skip
          refine jn_v rfl (v_loadAc (vs := [_, _, _]) rfl Try.isAgg26 Try.sizeOf26 rfl rfl) (.no rfl) rfl ?_
          refine ja_one (i := 1) (by decide +kernel) (jn_q rfl (q_lit0 (ps := []) rfl Try.runUnderlying27 Try.sizeOf3) (.no rfl) rfl ?_)
          intro v38
          refine ja_one (i := 3) (by decide +kernel) (jn_e rfl (e_append0 (K := intK) rfl rfl FindR.row Try.runUnderlying27 Try.sizeOf3 Try.zeroValue3 rfl Try.typeInfo3 (by decide) (by decide) (by omega)) (.no rfl) rfl ?_)
          intro v40
          refine ja_one (i := 5) (by decide +kernel) (jn_x rfl (by simp) (x_append rfl rfl (fun _ => Hole.put _) FindR.row Try.runUnderlying27 Try.sizeOf3 Try.zeroValue3 rfl Try.typeInfo3 (by decide) (by decide) (by omega)) (.no rfl) rfl ?_)
          intro v42
          refine ja_to (fun _ _ h => h) (fun w h => h.freeze0a .head) ?_
          refine ja_one (i := 6) (by decide +kernel) (jn_q rfl (q_callP (f43_spec gs hA hF (by simp; omega)) Try.call43 (by rfl) rfl (memc FindS.mem (memc FindS.mem mem0))) (.no rfl) rfl ?_)
          intro u43
          refine ja_take 7 rfl (by decide +kernel) (v_assign rfl) (.no rfl) rfl ?_
          refine ja_nil (by decide +kernel) ?_
          refine je_next ?_
          refine j_seq ?_
          refine j_region ?_
          refine jv (v_loadAc (vs := [_, _, _]) rfl Try.isAgg26 Try.sizeOf26 rfl rfl) (.no rfl) rfl ?_
          refine jq (q_callP (f42_spec (by omega)) Try.call42 (by rfl) rfl (memc FindS.mem mem0)) (.no rfl) rfl ?_
          intro u45
          refine jq (q_callP (f33_spec gs hA) Try.call33 (by rfl) rfl (memc FindS.mem mem0)) (.no rfl) rfl ?_
          intro u46
          refine jv (v_assign rfl) (.no rfl) rfl ?_
          refine jo_nil ?_
          refine je_next ?_
          refine j_seq ?_
          refine j_seq ?_
          refine j_region ?_
          refine jv (v_assign rfl) (.no rfl) rfl ?_
          refine jo_nil ?_
          refine je_next ?_
          refine j_block ?_
          refine j_loopS (G := Nat) [(7, _), (8, _), (9, _), (10, _)] (fun k t => (11, iV ((k : Nat) : Int)) :: t) (fun k t => t) (fun k => k ≤ (liveP cs).length) (fun k => (liveP cs).length - k) 0 (Nat.zero_le _) (lsub rfl (lsub rfl (lsub rfl (lsub rfl (lsub rfl lsub0))))) rfl (fun k hk => ?_)   -- dead: [6]
          refine j_seq ?_
          refine j_seq ?_
          refine j_region ?_
          refine jv (v_move rfl) (.no rfl) rfl ?_
          refine jv (v_move rfl) (.no rfl) rfl ?_
          refine jv (v_len rfl FindR.row Try.runUnderlying27) (.no rfl) rfl ?_
          refine jv (v_lss rfl rfl) (.no rfl) rfl ?_
          refine jo_nil ?_
          refine je_next ?_
          refine j_if rfl (fun hc => ?_) (fun hc => ?_)
          · first | (with_reducible replace hc := of_decide_eq_true hc) | skip
            refine j_skip ?_
            refine je_next ?_
            refine j_seq ?_
            refine j_block ?_
            refine j_seq ?_
            have hkl : k < (liveP cs).length := by omega
            have hmh := more_has gs l m (liveP cs)[k]
            unfold hasP at hmh
            refine j_region ?_
            refine jv (v_move rfl) (.no rfl) rfl ?_
            refine jv (v_move rfl) (.no rfl) rfl ?_
            refine jv (v_move rfl) (.no rfl) rfl ?_
            refine jv (v_index rfl rfl FindR.row Try.runUnderlying27 Try.sizeOf3 (by omega) (by omega)) (.no rfl) rfl ?_
            refine jv (v_eload rfl FindR.row (at_k hkl) (by decide) Try.isAgg3 (fun _ _ _ h => int_at h)) (.no rfl) rfl ?_
            refine jq (q_callP (f51_spec) Try.call51 (by rfl) rfl (memc FindS.mem mem0)) (.no rfl) rfl ?_
            intro x58
            refine jv (v_gtr rfl rfl) (.no rfl) rfl ?_
            refine jv (v_move rfl) (.no rfl) rfl ?_
            refine j_split 60 rfl (fun h1 => ?_) (fun h1 => ?_)
            · first | (with_reducible replace h1 := of_decide_eq_true h1) | skip
              refine j_off rfl rfl rfl (by decide) rfl ?_
              refine j_off rfl rfl rfl (by decide) rfl ?_
              refine j_off rfl rfl rfl (by decide) rfl ?_
              refine j_off rfl rfl rfl (by decide) rfl ?_
              refine j_off rfl rfl rfl (by decide) rfl ?_
              refine j_off rfl rfl rfl (by decide) rfl ?_
              refine j_off rfl rfl rfl (by decide) rfl ?_
              refine jv (v_pickt rfl rfl) (.no rfl) rfl ?_
              refine jv (v_assign rfl) (.no rfl) rfl ?_
              refine jo_nil ?_
              refine je_next ?_
              refine j_seq ?_
              refine j_region ?_
              refine jv (v_move rfl) (.no rfl) rfl ?_
              refine jv (v_move rfl) (.no rfl) rfl ?_
              refine jv (v_move rfl) (.no rfl) rfl ?_
              refine jv (v_move rfl) (.no rfl) rfl ?_
              refine jv (v_index rfl rfl FindR.row Try.runUnderlying27 Try.sizeOf3 (by omega) (by omega)) (.no rfl) rfl ?_
              refine jv (v_eload rfl FindR.row (at_k hkl) (by decide) Try.isAgg3 (fun _ _ _ h => int_at h)) (.no rfl) rfl ?_
              refine jq (q_callP (f51_spec) Try.call51 (by rfl) rfl (memc FindS.mem mem0)) (.no rfl) rfl ?_
              intro x75
              refine jv (v_gtr rfl rfl) (.no rfl) rfl ?_
              refine jv (v_bneq Try.underlying4 rfl rfl) (.no rfl) rfl ?_
              refine jo_nil ?_
              refine je_next ?_
              refine j_if rfl (fun d1 => ?_) (fun d1 => ?_)
              · first | (with_reducible replace d1 := of_decide_eq_true d1) | skip
                exfalso
                by_cases p1 : 0 < times (fromR cs l) (liveP cs)[k] <;> by_cases p2 : 0 < times (fromR cs m) (liveP cs)[k] <;> by_cases p3 : 0 < times (fromR cs (l ++ m)) (liveP cs)[k] <;> simp_all
              · first | (with_reducible replace d1 := of_decide_eq_false d1) | skip
                refine j_skip ?_
                refine je_block ?_
                refine je_next ?_
                refine j_region ?_
                refine jv (v_move rfl) (.no rfl) rfl ?_
                refine jv (v_add rfl rfl (by omega) (by omega)) (.no rfl) rfl ?_
                refine jv (v_assign rfl) (.no rfl) rfl ?_
                refine jo_nil ?_
                refine je_round (k + 1) (by (try dsimp only); omega) (by (try dsimp only); omega) (lsub rfl (lsub rfl (lsub rfl (lsub rfl (lsub rfl lsub0))))) (fun _ h => (h).sub fun p hp => (List.mem_append_right _ (List.mem_append_right _ hp)))
            · first | (with_reducible replace h1 := of_decide_eq_false h1) | skip
              refine jv (v_move rfl) (.yes rfl rfl rfl) rfl ?_
              refine jv (v_move rfl) (.yes rfl rfl rfl) rfl ?_
              refine jv (v_move rfl) (.yes rfl rfl rfl) rfl ?_
              refine jv (v_index rfl rfl FindR.row Try.runUnderlying27 Try.sizeOf3 (by omega) (by omega)) (.yes rfl rfl rfl) rfl ?_
              refine jv (v_eload rfl FindR.row (at_k hkl) (by decide) Try.isAgg3 (fun _ _ _ h => int_at h)) (.yes rfl rfl rfl) rfl ?_
              refine jq (q_callP (f51_spec) Try.call51 (by rfl) rfl (memc FindS.mem mem0)) (.yes rfl rfl rfl) rfl ?_
              intro x66
              refine jv (v_gtr rfl rfl) (.yes rfl rfl rfl) rfl ?_
              refine jv (v_pickf rfl rfl) (.no rfl) rfl ?_
              refine jv (v_assign rfl) (.no rfl) rfl ?_
              refine jo_nil ?_
              refine je_next ?_
              refine j_seq ?_
              refine j_region ?_
              refine jv (v_move rfl) (.no rfl) rfl ?_
              refine jv (v_move rfl) (.no rfl) rfl ?_
              refine jv (v_move rfl) (.no rfl) rfl ?_
              refine jv (v_move rfl) (.no rfl) rfl ?_
              refine jv (v_index rfl rfl FindR.row Try.runUnderlying27 Try.sizeOf3 (by omega) (by omega)) (.no rfl) rfl ?_
              refine jv (v_eload rfl FindR.row (at_k hkl) (by decide) Try.isAgg3 (fun _ _ _ h => int_at h)) (.no rfl) rfl ?_
              refine jq (q_callP (f51_spec) Try.call51 (by rfl) rfl (memc FindS.mem mem0)) (.no rfl) rfl ?_
              intro x75
              refine jv (v_gtr rfl rfl) (.no rfl) rfl ?_
              refine jv (v_bneq Try.underlying4 rfl rfl) (.no rfl) rfl ?_
              refine jo_nil ?_
              refine je_next ?_
              refine j_if rfl (fun d1 => ?_) (fun d1 => ?_)
              · first | (with_reducible replace d1 := of_decide_eq_true d1) | skip
                exfalso
                by_cases p1 : 0 < times (fromR cs l) (liveP cs)[k] <;> by_cases p2 : 0 < times (fromR cs m) (liveP cs)[k] <;> by_cases p3 : 0 < times (fromR cs (l ++ m)) (liveP cs)[k] <;> simp_all
              · first | (with_reducible replace d1 := of_decide_eq_false d1) | skip
                refine j_skip ?_
                refine je_block ?_
                refine je_next ?_
                refine j_region ?_
                refine jv (v_move rfl) (.no rfl) rfl ?_
                refine jv (v_add rfl rfl (by omega) (by omega)) (.no rfl) rfl ?_
                refine jv (v_assign rfl) (.no rfl) rfl ?_
                refine jo_nil ?_
                refine je_round (k + 1) (by (try dsimp only); omega) (by (try dsimp only); omega) (lsub rfl (lsub rfl (lsub rfl (lsub rfl (lsub rfl lsub0))))) (fun _ h => (h).sub fun p hp => (List.mem_append_right _ (List.mem_append_right _ (List.mem_append_right _ hp))))
          · first | (with_reducible replace hc := of_decide_eq_false hc) | skip
            refine j_exit ?_
            refine je_then (by simp) ?_
            refine je_then (by simp) ?_
            refine je_hit ?_
            refine je_next ?_
            refine j_seq ?_
            refine j_region ?_
            refine jv (v_move rfl) (.no rfl) rfl ?_
            refine jv (v_len rfl FindR.row Try.runUnderlying27) (.no rfl) rfl ?_
            refine jv (v_move rfl) (.no rfl) rfl ?_
            refine jv (v_len rfl FindR.row Try.runUnderlying27) (.no rfl) rfl ?_
            refine jv (v_move rfl) (.no rfl) rfl ?_
            refine jv (v_len rfl FindR.row Try.runUnderlying27) (.no rfl) rfl ?_
            refine jv (v_add rfl rfl (by omega) (by omega)) (.no rfl) rfl ?_
            refine jv (v_leq rfl rfl) (.no rfl) rfl ?_
            refine jv (v_assign rfl) (.no rfl) rfl ?_
            refine jo_nil ?_
            refine je_next ?_
            refine j_ret ?_
            refine je_ret rfl rfl rfl rfl rfl (rvs := [.tmp 6]) rfl (.cons (.tmp rfl) .nil) () ?_ (fun w h => h.fin mem0) (.inl rfl)
            first | rfl | exact congrArg Value.bool (decide_eq_true (by have := hml; (try simp only [List.nil_append]); omega))
        · skip
          refine jn_q rfl (q_lit0 (ps := []) rfl Try.runUnderlying27 Try.sizeOf3) (.no rfl) rfl ?_
          intro v38
          refine ja_two (i := 0) (j := 3) (by decide +kernel) ?_ ?_
          · skip
            refine jn_v rfl (v_loadAc (vs := [_, _, _]) rfl Try.isAgg26 Try.sizeOf26 rfl rfl) (.no rfl) rfl ?_
            refine ja_one (i := 3) (by decide +kernel) (jn_e rfl (e_append0 (K := intK) rfl rfl FindR.row Try.runUnderlying27 Try.sizeOf3 Try.zeroValue3 rfl Try.typeInfo3 (by decide) (by decide) (by omega)) (.no rfl) rfl ?_)
            intro v40
            refine ja_one (i := 5) (by decide +kernel) (jn_x rfl (by simp) (x_append rfl rfl (fun _ => Hole.put _) FindR.row Try.runUnderlying27 Try.sizeOf3 Try.zeroValue3 rfl Try.typeInfo3 (by decide) (by decide) (by omega)) (.no rfl) rfl ?_)
            intro v42
            refine ja_to (fun _ _ h => h) (fun w h => h.freeze0a .head) ?_
            refine ja_one (i := 6) (by decide +kernel) (jn_q rfl (q_callP (f43_spec gs hA hF (by simp; omega)) Try.call43 (by rfl) rfl (memc FindS.mem (memc FindS.mem mem0))) (.no rfl) rfl ?_)
            intro u43
            refine ja_take 7 rfl (by decide +kernel) (v_assign rfl) (.no rfl) rfl ?_
            refine ja_nil (by decide +kernel) ?_
            refine je_next ?_
            refine j_seq ?_
            refine j_region ?_
            refine jv (v_loadAc (vs := [_, _, _]) rfl Try.isAgg26 Try.sizeOf26 rfl rfl) (.no rfl) rfl ?_
            refine jq (q_callP (f42_spec (by omega)) Try.call42 (by rfl) rfl (memc FindS.mem mem0)) (.no rfl) rfl ?_
            intro u45
            refine jq (q_callP (f33_spec gs hA) Try.call33 (by rfl) rfl (memc FindS.mem mem0)) (.no rfl) rfl ?_
            intro u46
            refine jv (v_assign rfl) (.no rfl) rfl ?_
            refine jo_nil ?_
            refine je_next ?_
            refine j_seq ?_
            refine j_seq ?_
            refine j_region ?_
            refine jv (v_assign rfl) (.no rfl) rfl ?_
            refine jo_nil ?_
            refine je_next ?_
            refine j_block ?_
            refine j_loopS (G := Nat) [(7, _), (8, _), (9, _), (10, _)] (fun k t => (11, iV ((k : Nat) : Int)) :: t) (fun k t => t) (fun k => k ≤ (liveP cs).length) (fun k => (liveP cs).length - k) 0 (Nat.zero_le _) (lsub rfl (lsub rfl (lsub rfl (lsub rfl (lsub rfl lsub0))))) rfl (fun k hk => ?_)   -- dead: [6]
            refine j_seq ?_
            refine j_seq ?_
            refine j_region ?_
            refine jv (v_move rfl) (.no rfl) rfl ?_
            refine jv (v_move rfl) (.no rfl) rfl ?_
            refine jv (v_len rfl FindR.row Try.runUnderlying27) (.no rfl) rfl ?_
            refine jv (v_lss rfl rfl) (.no rfl) rfl ?_
            refine jo_nil ?_
            refine je_next ?_
            refine j_if rfl (fun hc => ?_) (fun hc => ?_)
            · first | (with_reducible replace hc := of_decide_eq_true hc) | skip
              refine j_skip ?_
              refine je_next ?_
              refine j_seq ?_
              refine j_block ?_
              refine j_seq ?_
              have hkl : k < (liveP cs).length := by omega
              have hmh := more_has gs l m (liveP cs)[k]
              unfold hasP at hmh
              refine j_region ?_
              refine jv (v_move rfl) (.no rfl) rfl ?_
              refine jv (v_move rfl) (.no rfl) rfl ?_
              refine jv (v_move rfl) (.no rfl) rfl ?_
              refine jv (v_index rfl rfl FindR.row Try.runUnderlying27 Try.sizeOf3 (by omega) (by omega)) (.no rfl) rfl ?_
              refine jv (v_eload rfl FindR.row (at_k hkl) (by decide) Try.isAgg3 (fun _ _ _ h => int_at h)) (.no rfl) rfl ?_
              refine jq (q_callP (f51_spec) Try.call51 (by rfl) rfl (memc FindS.mem mem0)) (.no rfl) rfl ?_
              intro x58
              refine jv (v_gtr rfl rfl) (.no rfl) rfl ?_
              refine jv (v_move rfl) (.no rfl) rfl ?_
              refine j_split 60 rfl (fun h1 => ?_) (fun h1 => ?_)
              · first | (with_reducible replace h1 := of_decide_eq_true h1) | skip
                refine j_off rfl rfl rfl (by decide) rfl ?_
                refine j_off rfl rfl rfl (by decide) rfl ?_
                refine j_off rfl rfl rfl (by decide) rfl ?_
                refine j_off rfl rfl rfl (by decide) rfl ?_
                refine j_off rfl rfl rfl (by decide) rfl ?_
                refine j_off rfl rfl rfl (by decide) rfl ?_
                refine j_off rfl rfl rfl (by decide) rfl ?_
                refine jv (v_pickt rfl rfl) (.no rfl) rfl ?_
                refine jv (v_assign rfl) (.no rfl) rfl ?_
                refine jo_nil ?_
                refine je_next ?_
                refine j_seq ?_
                refine j_region ?_
                refine jv (v_move rfl) (.no rfl) rfl ?_
                refine jv (v_move rfl) (.no rfl) rfl ?_
                refine jv (v_move rfl) (.no rfl) rfl ?_
                refine jv (v_move rfl) (.no rfl) rfl ?_
                refine jv (v_index rfl rfl FindR.row Try.runUnderlying27 Try.sizeOf3 (by omega) (by omega)) (.no rfl) rfl ?_
                refine jv (v_eload rfl FindR.row (at_k hkl) (by decide) Try.isAgg3 (fun _ _ _ h => int_at h)) (.no rfl) rfl ?_
                refine jq (q_callP (f51_spec) Try.call51 (by rfl) rfl (memc FindS.mem mem0)) (.no rfl) rfl ?_
                intro x75
                refine jv (v_gtr rfl rfl) (.no rfl) rfl ?_
                refine jv (v_bneq Try.underlying4 rfl rfl) (.no rfl) rfl ?_
                refine jo_nil ?_
                refine je_next ?_
                refine j_if rfl (fun d1 => ?_) (fun d1 => ?_)
                · first | (with_reducible replace d1 := of_decide_eq_true d1) | skip
                  exfalso
                  by_cases p1 : 0 < times (fromR cs l) (liveP cs)[k] <;> by_cases p2 : 0 < times (fromR cs m) (liveP cs)[k] <;> by_cases p3 : 0 < times (fromR cs (l ++ m)) (liveP cs)[k] <;> simp_all
                · first | (with_reducible replace d1 := of_decide_eq_false d1) | skip
                  refine j_skip ?_
                  refine je_block ?_
                  refine je_next ?_
                  refine j_region ?_
                  refine jv (v_move rfl) (.no rfl) rfl ?_
                  refine jv (v_add rfl rfl (by omega) (by omega)) (.no rfl) rfl ?_
                  refine jv (v_assign rfl) (.no rfl) rfl ?_
                  refine jo_nil ?_
                  refine je_round (k + 1) (by (try dsimp only); omega) (by (try dsimp only); omega) (lsub rfl (lsub rfl (lsub rfl (lsub rfl (lsub rfl lsub0))))) (fun _ h => (h).sub fun p hp => (List.mem_append_right _ (List.mem_append_right _ hp)))
              · first | (with_reducible replace h1 := of_decide_eq_false h1) | skip
                refine jv (v_move rfl) (.yes rfl rfl rfl) rfl ?_
                refine jv (v_move rfl) (.yes rfl rfl rfl) rfl ?_
                refine jv (v_move rfl) (.yes rfl rfl rfl) rfl ?_
                refine jv (v_index rfl rfl FindR.row Try.runUnderlying27 Try.sizeOf3 (by omega) (by omega)) (.yes rfl rfl rfl) rfl ?_
                refine jv (v_eload rfl FindR.row (at_k hkl) (by decide) Try.isAgg3 (fun _ _ _ h => int_at h)) (.yes rfl rfl rfl) rfl ?_
                refine jq (q_callP (f51_spec) Try.call51 (by rfl) rfl (memc FindS.mem mem0)) (.yes rfl rfl rfl) rfl ?_
                intro x66
                refine jv (v_gtr rfl rfl) (.yes rfl rfl rfl) rfl ?_
                refine jv (v_pickf rfl rfl) (.no rfl) rfl ?_
                refine jv (v_assign rfl) (.no rfl) rfl ?_
                refine jo_nil ?_
                refine je_next ?_
                refine j_seq ?_
                refine j_region ?_
                refine jv (v_move rfl) (.no rfl) rfl ?_
                refine jv (v_move rfl) (.no rfl) rfl ?_
                refine jv (v_move rfl) (.no rfl) rfl ?_
                refine jv (v_move rfl) (.no rfl) rfl ?_
                refine jv (v_index rfl rfl FindR.row Try.runUnderlying27 Try.sizeOf3 (by omega) (by omega)) (.no rfl) rfl ?_
                refine jv (v_eload rfl FindR.row (at_k hkl) (by decide) Try.isAgg3 (fun _ _ _ h => int_at h)) (.no rfl) rfl ?_
                refine jq (q_callP (f51_spec) Try.call51 (by rfl) rfl (memc FindS.mem mem0)) (.no rfl) rfl ?_
                intro x75
                refine jv (v_gtr rfl rfl) (.no rfl) rfl ?_
                refine jv (v_bneq Try.underlying4 rfl rfl) (.no rfl) rfl ?_
                refine jo_nil ?_
                refine je_next ?_
                refine j_if rfl (fun d1 => ?_) (fun d1 => ?_)
                · first | (with_reducible replace d1 := of_decide_eq_true d1) | skip
                  exfalso
                  by_cases p1 : 0 < times (fromR cs l) (liveP cs)[k] <;> by_cases p2 : 0 < times (fromR cs m) (liveP cs)[k] <;> by_cases p3 : 0 < times (fromR cs (l ++ m)) (liveP cs)[k] <;> simp_all
                · first | (with_reducible replace d1 := of_decide_eq_false d1) | skip
                  refine j_skip ?_
                  refine je_block ?_
                  refine je_next ?_
                  refine j_region ?_
                  refine jv (v_move rfl) (.no rfl) rfl ?_
                  refine jv (v_add rfl rfl (by omega) (by omega)) (.no rfl) rfl ?_
                  refine jv (v_assign rfl) (.no rfl) rfl ?_
                  refine jo_nil ?_
                  refine je_round (k + 1) (by (try dsimp only); omega) (by (try dsimp only); omega) (lsub rfl (lsub rfl (lsub rfl (lsub rfl (lsub rfl lsub0))))) (fun _ h => (h).sub fun p hp => (List.mem_append_right _ (List.mem_append_right _ (List.mem_append_right _ hp))))
            · first | (with_reducible replace hc := of_decide_eq_false hc) | skip
              refine j_exit ?_
              refine je_then (by simp) ?_
              refine je_then (by simp) ?_
              refine je_hit ?_
              refine je_next ?_
              refine j_seq ?_
              refine j_region ?_
              refine jv (v_move rfl) (.no rfl) rfl ?_
              refine jv (v_len rfl FindR.row Try.runUnderlying27) (.no rfl) rfl ?_
              refine jv (v_move rfl) (.no rfl) rfl ?_
              refine jv (v_len rfl FindR.row Try.runUnderlying27) (.no rfl) rfl ?_
              refine jv (v_move rfl) (.no rfl) rfl ?_
              refine jv (v_len rfl FindR.row Try.runUnderlying27) (.no rfl) rfl ?_
              refine jv (v_add rfl rfl (by omega) (by omega)) (.no rfl) rfl ?_
              refine jv (v_leq rfl rfl) (.no rfl) rfl ?_
              refine jv (v_assign rfl) (.no rfl) rfl ?_
              refine jo_nil ?_
              refine je_next ?_
              refine j_ret ?_
              refine je_ret rfl rfl rfl rfl rfl (rvs := [.tmp 6]) rfl (.cons (.tmp rfl) .nil) () ?_ (fun w h => h.fin mem0) (.inl rfl)
              first | rfl | exact congrArg Value.bool (decide_eq_true (by have := hml; (try simp only [List.nil_append]); omega))
          · skip
            refine jn_e rfl (e_append0 (K := intK) rfl rfl FindR.row Try.runUnderlying27 Try.sizeOf3 Try.zeroValue3 rfl Try.typeInfo3 (by decide) (by decide) (by omega)) (.no rfl) rfl ?_
            intro v40
            refine ja_two (i := 0) (j := 5) (by decide +kernel) ?_ ?_
            · skip
              refine jn_v rfl (v_loadAc (vs := [_, _, _]) rfl Try.isAgg26 Try.sizeOf26 rfl rfl) (.no rfl) rfl ?_
              refine ja_one (i := 5) (by decide +kernel) (jn_x rfl (by simp) (x_append rfl rfl (fun _ => Hole.put _) FindR.row Try.runUnderlying27 Try.sizeOf3 Try.zeroValue3 rfl Try.typeInfo3 (by decide) (by decide) (by omega)) (.no rfl) rfl ?_)
              intro v42
              refine ja_to (fun _ _ h => h) (fun w h => h.freeze0a .head) ?_
              refine ja_one (i := 6) (by decide +kernel) (jn_q rfl (q_callP (f43_spec gs hA hF (by simp; omega)) Try.call43 (by rfl) rfl (memc FindS.mem (memc FindS.mem mem0))) (.no rfl) rfl ?_)
              intro u43
              refine ja_take 7 rfl (by decide +kernel) (v_assign rfl) (.no rfl) rfl ?_
              refine ja_nil (by decide +kernel) ?_
              refine je_next ?_
              refine j_seq ?_
              refine j_region ?_
              refine jv (v_loadAc (vs := [_, _, _]) rfl Try.isAgg26 Try.sizeOf26 rfl rfl) (.no rfl) rfl ?_
              refine jq (q_callP (f42_spec (by omega)) Try.call42 (by rfl) rfl (memc FindS.mem mem0)) (.no rfl) rfl ?_
              intro u45
              refine jq (q_callP (f33_spec gs hA) Try.call33 (by rfl) rfl (memc FindS.mem mem0)) (.no rfl) rfl ?_
              intro u46
              refine jv (v_assign rfl) (.no rfl) rfl ?_
              refine jo_nil ?_
              refine je_next ?_
              refine j_seq ?_
              refine j_seq ?_
              refine j_region ?_
              refine jv (v_assign rfl) (.no rfl) rfl ?_
              refine jo_nil ?_
              refine je_next ?_
              refine j_block ?_
              refine j_loopS (G := Nat) [(7, _), (8, _), (9, _), (10, _)] (fun k t => (11, iV ((k : Nat) : Int)) :: t) (fun k t => t) (fun k => k ≤ (liveP cs).length) (fun k => (liveP cs).length - k) 0 (Nat.zero_le _) (lsub rfl (lsub rfl (lsub rfl (lsub rfl (lsub rfl lsub0))))) rfl (fun k hk => ?_)   -- dead: [6]
              refine j_seq ?_
              refine j_seq ?_
              refine j_region ?_
              refine jv (v_move rfl) (.no rfl) rfl ?_
              refine jv (v_move rfl) (.no rfl) rfl ?_
              refine jv (v_len rfl FindR.row Try.runUnderlying27) (.no rfl) rfl ?_
              refine jv (v_lss rfl rfl) (.no rfl) rfl ?_
              refine jo_nil ?_
              refine je_next ?_
              refine j_if rfl (fun hc => ?_) (fun hc => ?_)
              · first | (with_reducible replace hc := of_decide_eq_true hc) | skip
                refine j_skip ?_
                refine je_next ?_
                refine j_seq ?_
                refine j_block ?_
                refine j_seq ?_
                have hkl : k < (liveP cs).length := by omega
                have hmh := more_has gs l m (liveP cs)[k]
                unfold hasP at hmh
                refine j_region ?_
                refine jv (v_move rfl) (.no rfl) rfl ?_
                refine jv (v_move rfl) (.no rfl) rfl ?_
                refine jv (v_move rfl) (.no rfl) rfl ?_
                refine jv (v_index rfl rfl FindR.row Try.runUnderlying27 Try.sizeOf3 (by omega) (by omega)) (.no rfl) rfl ?_
                refine jv (v_eload rfl FindR.row (at_k hkl) (by decide) Try.isAgg3 (fun _ _ _ h => int_at h)) (.no rfl) rfl ?_
                refine jq (q_callP (f51_spec) Try.call51 (by rfl) rfl (memc FindS.mem mem0)) (.no rfl) rfl ?_
                intro x58
                refine jv (v_gtr rfl rfl) (.no rfl) rfl ?_
                refine jv (v_move rfl) (.no rfl) rfl ?_
                refine j_split 60 rfl (fun h1 => ?_) (fun h1 => ?_)
                · first | (with_reducible replace h1 := of_decide_eq_true h1) | skip
                  refine j_off rfl rfl rfl (by decide) rfl ?_
                  refine j_off rfl rfl rfl (by decide) rfl ?_
                  refine j_off rfl rfl rfl (by decide) rfl ?_
                  refine j_off rfl rfl rfl (by decide) rfl ?_
                  refine j_off rfl rfl rfl (by decide) rfl ?_
                  refine j_off rfl rfl rfl (by decide) rfl ?_
                  refine j_off rfl rfl rfl (by decide) rfl ?_
                  refine jv (v_pickt rfl rfl) (.no rfl) rfl ?_
                  refine jv (v_assign rfl) (.no rfl) rfl ?_
                  refine jo_nil ?_
                  refine je_next ?_
                  refine j_seq ?_
                  refine j_region ?_
                  refine jv (v_move rfl) (.no rfl) rfl ?_
                  refine jv (v_move rfl) (.no rfl) rfl ?_
                  refine jv (v_move rfl) (.no rfl) rfl ?_
                  refine jv (v_move rfl) (.no rfl) rfl ?_
                  refine jv (v_index rfl rfl FindR.row Try.runUnderlying27 Try.sizeOf3 (by omega) (by omega)) (.no rfl) rfl ?_
                  refine jv (v_eload rfl FindR.row (at_k hkl) (by decide) Try.isAgg3 (fun _ _ _ h => int_at h)) (.no rfl) rfl ?_
                  refine jq (q_callP (f51_spec) Try.call51 (by rfl) rfl (memc FindS.mem mem0)) (.no rfl) rfl ?_
                  intro x75
                  refine jv (v_gtr rfl rfl) (.no rfl) rfl ?_
                  refine jv (v_bneq Try.underlying4 rfl rfl) (.no rfl) rfl ?_
                  refine jo_nil ?_
                  refine je_next ?_
                  refine j_if rfl (fun d1 => ?_) (fun d1 => ?_)
                  · first | (with_reducible replace d1 := of_decide_eq_true d1) | skip
                    exfalso
                    by_cases p1 : 0 < times (fromR cs l) (liveP cs)[k] <;> by_cases p2 : 0 < times (fromR cs m) (liveP cs)[k] <;> by_cases p3 : 0 < times (fromR cs (l ++ m)) (liveP cs)[k] <;> simp_all
                  · first | (with_reducible replace d1 := of_decide_eq_false d1) | skip
                    refine j_skip ?_
                    refine je_block ?_
                    refine je_next ?_
                    refine j_region ?_
                    refine jv (v_move rfl) (.no rfl) rfl ?_
                    refine jv (v_add rfl rfl (by omega) (by omega)) (.no rfl) rfl ?_
                    refine jv (v_assign rfl) (.no rfl) rfl ?_
                    refine jo_nil ?_
                    refine je_round (k + 1) (by (try dsimp only); omega) (by (try dsimp only); omega) (lsub rfl (lsub rfl (lsub rfl (lsub rfl (lsub rfl lsub0))))) (fun _ h => (h).sub fun p hp => (List.mem_append_right _ (List.mem_append_right _ hp)))
                · first | (with_reducible replace h1 := of_decide_eq_false h1) | skip
                  refine jv (v_move rfl) (.yes rfl rfl rfl) rfl ?_
                  refine jv (v_move rfl) (.yes rfl rfl rfl) rfl ?_
                  refine jv (v_move rfl) (.yes rfl rfl rfl) rfl ?_
                  refine jv (v_index rfl rfl FindR.row Try.runUnderlying27 Try.sizeOf3 (by omega) (by omega)) (.yes rfl rfl rfl) rfl ?_
                  refine jv (v_eload rfl FindR.row (at_k hkl) (by decide) Try.isAgg3 (fun _ _ _ h => int_at h)) (.yes rfl rfl rfl) rfl ?_
                  refine jq (q_callP (f51_spec) Try.call51 (by rfl) rfl (memc FindS.mem mem0)) (.yes rfl rfl rfl) rfl ?_
                  intro x66
                  refine jv (v_gtr rfl rfl) (.yes rfl rfl rfl) rfl ?_
                  refine jv (v_pickf rfl rfl) (.no rfl) rfl ?_
                  refine jv (v_assign rfl) (.no rfl) rfl ?_
                  refine jo_nil ?_
                  refine je_next ?_
                  refine j_seq ?_
                  refine j_region ?_
                  refine jv (v_move rfl) (.no rfl) rfl ?_
                  refine jv (v_move rfl) (.no rfl) rfl ?_
                  refine jv (v_move rfl) (.no rfl) rfl ?_
                  refine jv (v_move rfl) (.no rfl) rfl ?_
                  refine jv (v_index rfl rfl FindR.row Try.runUnderlying27 Try.sizeOf3 (by omega) (by omega)) (.no rfl) rfl ?_
                  refine jv (v_eload rfl FindR.row (at_k hkl) (by decide) Try.isAgg3 (fun _ _ _ h => int_at h)) (.no rfl) rfl ?_
                  refine jq (q_callP (f51_spec) Try.call51 (by rfl) rfl (memc FindS.mem mem0)) (.no rfl) rfl ?_
                  intro x75
                  refine jv (v_gtr rfl rfl) (.no rfl) rfl ?_
                  refine jv (v_bneq Try.underlying4 rfl rfl) (.no rfl) rfl ?_
                  refine jo_nil ?_
                  refine je_next ?_
                  refine j_if rfl (fun d1 => ?_) (fun d1 => ?_)
                  · first | (with_reducible replace d1 := of_decide_eq_true d1) | skip
                    exfalso
                    by_cases p1 : 0 < times (fromR cs l) (liveP cs)[k] <;> by_cases p2 : 0 < times (fromR cs m) (liveP cs)[k] <;> by_cases p3 : 0 < times (fromR cs (l ++ m)) (liveP cs)[k] <;> simp_all
                  · first | (with_reducible replace d1 := of_decide_eq_false d1) | skip
                    refine j_skip ?_
                    refine je_block ?_
                    refine je_next ?_
                    refine j_region ?_
                    refine jv (v_move rfl) (.no rfl) rfl ?_
                    refine jv (v_add rfl rfl (by omega) (by omega)) (.no rfl) rfl ?_
                    refine jv (v_assign rfl) (.no rfl) rfl ?_
                    refine jo_nil ?_
                    refine je_round (k + 1) (by (try dsimp only); omega) (by (try dsimp only); omega) (lsub rfl (lsub rfl (lsub rfl (lsub rfl (lsub rfl lsub0))))) (fun _ h => (h).sub fun p hp => (List.mem_append_right _ (List.mem_append_right _ (List.mem_append_right _ hp))))
              · first | (with_reducible replace hc := of_decide_eq_false hc) | skip
                refine j_exit ?_
                refine je_then (by simp) ?_
                refine je_then (by simp) ?_
                refine je_hit ?_
                refine je_next ?_
                refine j_seq ?_
                refine j_region ?_
                refine jv (v_move rfl) (.no rfl) rfl ?_
                refine jv (v_len rfl FindR.row Try.runUnderlying27) (.no rfl) rfl ?_
                refine jv (v_move rfl) (.no rfl) rfl ?_
                refine jv (v_len rfl FindR.row Try.runUnderlying27) (.no rfl) rfl ?_
                refine jv (v_move rfl) (.no rfl) rfl ?_
                refine jv (v_len rfl FindR.row Try.runUnderlying27) (.no rfl) rfl ?_
                refine jv (v_add rfl rfl (by omega) (by omega)) (.no rfl) rfl ?_
                refine jv (v_leq rfl rfl) (.no rfl) rfl ?_
                refine jv (v_assign rfl) (.no rfl) rfl ?_
                refine jo_nil ?_
                refine je_next ?_
                refine j_ret ?_
                refine je_ret rfl rfl rfl rfl rfl (rvs := [.tmp 6]) rfl (.cons (.tmp rfl) .nil) () ?_ (fun w h => h.fin mem0) (.inl rfl)
                first | rfl | exact congrArg Value.bool (decide_eq_true (by have := hml; (try simp only [List.nil_append]); omega))
            · skip
              refine jn_x rfl (by simp) (x_append rfl rfl (fun _ => Hole.put _) FindR.row Try.runUnderlying27 Try.sizeOf3 Try.zeroValue3 rfl Try.typeInfo3 (by decide) (by decide) (by omega)) (.no rfl) rfl ?_
              intro v42
              refine ja_take 0 rfl (by decide +kernel) (v_loadAc (vs := [_, _, _]) rfl Try.isAgg26 Try.sizeOf26 rfl rfl) (.no rfl) rfl ?_
              refine ja_to (fun _ _ h => h) (fun w h => h.freeze0a .head) ?_
              refine ja_one (i := 6) (by decide +kernel) (jn_q rfl (q_callP (f43_spec gs hA hF (by simp; omega)) Try.call43 (by rfl) rfl (memc FindS.mem (memc FindS.mem mem0))) (.no rfl) rfl ?_)
              intro u43
              refine ja_take 7 rfl (by decide +kernel) (v_assign rfl) (.no rfl) rfl ?_
              refine ja_nil (by decide +kernel) ?_
              refine je_next ?_
              refine j_seq ?_
              refine j_region ?_
              refine jv (v_loadAc (vs := [_, _, _]) rfl Try.isAgg26 Try.sizeOf26 rfl rfl) (.no rfl) rfl ?_
              refine jq (q_callP (f42_spec (by omega)) Try.call42 (by rfl) rfl (memc FindS.mem mem0)) (.no rfl) rfl ?_
              intro u45
              refine jq (q_callP (f33_spec gs hA) Try.call33 (by rfl) rfl (memc FindS.mem mem0)) (.no rfl) rfl ?_
              intro u46
              refine jv (v_assign rfl) (.no rfl) rfl ?_
              refine jo_nil ?_
              refine je_next ?_
              refine j_seq ?_
              refine j_seq ?_
              refine j_region ?_
              refine jv (v_assign rfl) (.no rfl) rfl ?_
              refine jo_nil ?_
              refine je_next ?_
              refine j_block ?_
              refine j_loopS (G := Nat) [(7, _), (8, _), (9, _), (10, _)] (fun k t => (11, iV ((k : Nat) : Int)) :: t) (fun k t => t) (fun k => k ≤ (liveP cs).length) (fun k => (liveP cs).length - k) 0 (Nat.zero_le _) (lsub rfl (lsub rfl (lsub rfl (lsub rfl (lsub rfl lsub0))))) rfl (fun k hk => ?_)   -- dead: [6]
              refine j_seq ?_
              refine j_seq ?_
              refine j_region ?_
              refine jv (v_move rfl) (.no rfl) rfl ?_
              refine jv (v_move rfl) (.no rfl) rfl ?_
              refine jv (v_len rfl FindR.row Try.runUnderlying27) (.no rfl) rfl ?_
              refine jv (v_lss rfl rfl) (.no rfl) rfl ?_
              refine jo_nil ?_
              refine je_next ?_
              refine j_if rfl (fun hc => ?_) (fun hc => ?_)
              · first | (with_reducible replace hc := of_decide_eq_true hc) | skip
                refine j_skip ?_
                refine je_next ?_
                refine j_seq ?_
                refine j_block ?_
                refine j_seq ?_
                have hkl : k < (liveP cs).length := by omega
                have hmh := more_has gs l m (liveP cs)[k]
                unfold hasP at hmh
                refine j_region ?_
                refine jv (v_move rfl) (.no rfl) rfl ?_
                refine jv (v_move rfl) (.no rfl) rfl ?_
                refine jv (v_move rfl) (.no rfl) rfl ?_
                refine jv (v_index rfl rfl FindR.row Try.runUnderlying27 Try.sizeOf3 (by omega) (by omega)) (.no rfl) rfl ?_
                refine jv (v_eload rfl FindR.row (at_k hkl) (by decide) Try.isAgg3 (fun _ _ _ h => int_at h)) (.no rfl) rfl ?_
                refine jq (q_callP (f51_spec) Try.call51 (by rfl) rfl (memc FindS.mem mem0)) (.no rfl) rfl ?_
                intro x58
                refine jv (v_gtr rfl rfl) (.no rfl) rfl ?_
                refine jv (v_move rfl) (.no rfl) rfl ?_
                refine j_split 60 rfl (fun h1 => ?_) (fun h1 => ?_)
                · first | (with_reducible replace h1 := of_decide_eq_true h1) | skip
                  refine j_off rfl rfl rfl (by decide) rfl ?_
                  refine j_off rfl rfl rfl (by decide) rfl ?_
                  refine j_off rfl rfl rfl (by decide) rfl ?_
                  refine j_off rfl rfl rfl (by decide) rfl ?_
                  refine j_off rfl rfl rfl (by decide) rfl ?_
                  refine j_off rfl rfl rfl (by decide) rfl ?_
                  refine j_off rfl rfl rfl (by decide) rfl ?_
                  refine jv (v_pickt rfl rfl) (.no rfl) rfl ?_
                  refine jv (v_assign rfl) (.no rfl) rfl ?_
                  refine jo_nil ?_
                  refine je_next ?_
                  refine j_seq ?_
                  refine j_region ?_
                  refine jv (v_move rfl) (.no rfl) rfl ?_
                  refine jv (v_move rfl) (.no rfl) rfl ?_
                  refine jv (v_move rfl) (.no rfl) rfl ?_
                  refine jv (v_move rfl) (.no rfl) rfl ?_
                  refine jv (v_index rfl rfl FindR.row Try.runUnderlying27 Try.sizeOf3 (by omega) (by omega)) (.no rfl) rfl ?_
                  refine jv (v_eload rfl FindR.row (at_k hkl) (by decide) Try.isAgg3 (fun _ _ _ h => int_at h)) (.no rfl) rfl ?_
                  refine jq (q_callP (f51_spec) Try.call51 (by rfl) rfl (memc FindS.mem mem0)) (.no rfl) rfl ?_
                  intro x75
                  refine jv (v_gtr rfl rfl) (.no rfl) rfl ?_
                  refine jv (v_bneq Try.underlying4 rfl rfl) (.no rfl) rfl ?_
                  refine jo_nil ?_
                  refine je_next ?_
                  refine j_if rfl (fun d1 => ?_) (fun d1 => ?_)
                  · first | (with_reducible replace d1 := of_decide_eq_true d1) | skip
                    exfalso
                    by_cases p1 : 0 < times (fromR cs l) (liveP cs)[k] <;> by_cases p2 : 0 < times (fromR cs m) (liveP cs)[k] <;> by_cases p3 : 0 < times (fromR cs (l ++ m)) (liveP cs)[k] <;> simp_all
                  · first | (with_reducible replace d1 := of_decide_eq_false d1) | skip
                    refine j_skip ?_
                    refine je_block ?_
                    refine je_next ?_
                    refine j_region ?_
                    refine jv (v_move rfl) (.no rfl) rfl ?_
                    refine jv (v_add rfl rfl (by omega) (by omega)) (.no rfl) rfl ?_
                    refine jv (v_assign rfl) (.no rfl) rfl ?_
                    refine jo_nil ?_
                    refine je_round (k + 1) (by (try dsimp only); omega) (by (try dsimp only); omega) (lsub rfl (lsub rfl (lsub rfl (lsub rfl (lsub rfl lsub0))))) (fun _ h => (h).sub fun p hp => (List.mem_append_right _ (List.mem_append_right _ hp)))
                · first | (with_reducible replace h1 := of_decide_eq_false h1) | skip
                  refine jv (v_move rfl) (.yes rfl rfl rfl) rfl ?_
                  refine jv (v_move rfl) (.yes rfl rfl rfl) rfl ?_
                  refine jv (v_move rfl) (.yes rfl rfl rfl) rfl ?_
                  refine jv (v_index rfl rfl FindR.row Try.runUnderlying27 Try.sizeOf3 (by omega) (by omega)) (.yes rfl rfl rfl) rfl ?_
                  refine jv (v_eload rfl FindR.row (at_k hkl) (by decide) Try.isAgg3 (fun _ _ _ h => int_at h)) (.yes rfl rfl rfl) rfl ?_
                  refine jq (q_callP (f51_spec) Try.call51 (by rfl) rfl (memc FindS.mem mem0)) (.yes rfl rfl rfl) rfl ?_
                  intro x66
                  refine jv (v_gtr rfl rfl) (.yes rfl rfl rfl) rfl ?_
                  refine jv (v_pickf rfl rfl) (.no rfl) rfl ?_
                  refine jv (v_assign rfl) (.no rfl) rfl ?_
                  refine jo_nil ?_
                  refine je_next ?_
                  refine j_seq ?_
                  refine j_region ?_
                  refine jv (v_move rfl) (.no rfl) rfl ?_
                  refine jv (v_move rfl) (.no rfl) rfl ?_
                  refine jv (v_move rfl) (.no rfl) rfl ?_
                  refine jv (v_move rfl) (.no rfl) rfl ?_
                  refine jv (v_index rfl rfl FindR.row Try.runUnderlying27 Try.sizeOf3 (by omega) (by omega)) (.no rfl) rfl ?_
                  refine jv (v_eload rfl FindR.row (at_k hkl) (by decide) Try.isAgg3 (fun _ _ _ h => int_at h)) (.no rfl) rfl ?_
                  refine jq (q_callP (f51_spec) Try.call51 (by rfl) rfl (memc FindS.mem mem0)) (.no rfl) rfl ?_
                  intro x75
                  refine jv (v_gtr rfl rfl) (.no rfl) rfl ?_
                  refine jv (v_bneq Try.underlying4 rfl rfl) (.no rfl) rfl ?_
                  refine jo_nil ?_
                  refine je_next ?_
                  refine j_if rfl (fun d1 => ?_) (fun d1 => ?_)
                  · first | (with_reducible replace d1 := of_decide_eq_true d1) | skip
                    exfalso
                    by_cases p1 : 0 < times (fromR cs l) (liveP cs)[k] <;> by_cases p2 : 0 < times (fromR cs m) (liveP cs)[k] <;> by_cases p3 : 0 < times (fromR cs (l ++ m)) (liveP cs)[k] <;> simp_all
                  · first | (with_reducible replace d1 := of_decide_eq_false d1) | skip
                    refine j_skip ?_
                    refine je_block ?_
                    refine je_next ?_
                    refine j_region ?_
                    refine jv (v_move rfl) (.no rfl) rfl ?_
                    refine jv (v_add rfl rfl (by omega) (by omega)) (.no rfl) rfl ?_
                    refine jv (v_assign rfl) (.no rfl) rfl ?_
                    refine jo_nil ?_
                    refine je_round (k + 1) (by (try dsimp only); omega) (by (try dsimp only); omega) (lsub rfl (lsub rfl (lsub rfl (lsub rfl (lsub rfl lsub0))))) (fun _ h => (h).sub fun p hp => (List.mem_append_right _ (List.mem_append_right _ (List.mem_append_right _ hp))))
              · first | (with_reducible replace hc := of_decide_eq_false hc) | skip
                refine j_exit ?_
                refine je_then (by simp) ?_
                refine je_then (by simp) ?_
                refine je_hit ?_
                refine je_next ?_
                refine j_seq ?_
                refine j_region ?_
                refine jv (v_move rfl) (.no rfl) rfl ?_
                refine jv (v_len rfl FindR.row Try.runUnderlying27) (.no rfl) rfl ?_
                refine jv (v_move rfl) (.no rfl) rfl ?_
                refine jv (v_len rfl FindR.row Try.runUnderlying27) (.no rfl) rfl ?_
                refine jv (v_move rfl) (.no rfl) rfl ?_
                refine jv (v_len rfl FindR.row Try.runUnderlying27) (.no rfl) rfl ?_
                refine jv (v_add rfl rfl (by omega) (by omega)) (.no rfl) rfl ?_
                refine jv (v_leq rfl rfl) (.no rfl) rfl ?_
                refine jv (v_assign rfl) (.no rfl) rfl ?_
                refine jo_nil ?_
                refine je_next ?_
                refine j_ret ?_
                refine je_ret rfl rfl rfl rfl rfl (rvs := [.tmp 6]) rfl (.cons (.tmp rfl) .nil) () ?_ (fun w h => h.fin mem0) (.inl rfl)
                first | rfl | exact congrArg Value.bool (decide_eq_true (by have := hml; (try simp only [List.nil_append]); omega))

theorem f13_spec {vs : Value} {cs : List Cell} {last serial a b c : Int} : Spec Try.prog 13 [stA vs last serial, iV a, iV b, iV c] [] [sl cellK vs cs] Unit (fun _ => .bool true) (fun _ => []) (fun _ => []) := by
  refine spec_of Try.func13 rfl Try.ntmps13 (by simp) fun ok w => ?_
  refine j_seq ?_
  refine j_region ?_
  refine jx (x_boxc rfl) (.no rfl) rfl ?_
  intro B4
  refine jv (v_assign rfl) (.no rfl) rfl ?_
  refine jo_nil ?_
  refine je_next ?_
  refine j_seq ?_
  refine j_seq ?_
  refine j_region ?_
  refine jv (v_loadAc (vs := [_, _, _]) rfl Try.isAgg26 Try.sizeOf26 rfl rfl) (.no rfl) rfl ?_
  refine jq (q_callP (f40_spec) Try.call40 (by rfl) rfl (memc FindS.mem mem0)) (.no rfl) rfl ?_
  intro x11
  refine jv (v_not rfl) (.no rfl) rfl ?_
  refine jv (v_move rfl) (.no rfl) rfl ?_
  refine j_split 13 rfl (fun r1 => ?_) (fun r1 => ?_)
  · first | (with_reducible replace r1 := of_decide_eq_true r1) | skip
    refine j_off rfl rfl rfl (by decide) rfl ?_
    refine j_off rfl rfl rfl (by decide) rfl ?_
    refine jv (v_pickt rfl rfl) (.no rfl) rfl ?_
    refine jo_nil ?_
    refine je_next ?_
    refine j_ift rfl ?_
    refine j_seq ?_
    refine j_region ?_
    refine jq (q_callP (f41_spec) Try.call41 (by rfl) rfl mem0) (.no rfl) rfl ?_
    intro x17
    refine jv (v_assign rfl) (.no rfl) rfl ?_
    refine jo_nil ?_
    refine je_next ?_
    refine j_ret ?_
    refine je_then (by simp) ?_
    refine je_ret rfl rfl rfl rfl rfl (rvs := [.tmp 8]) rfl (.cons (.tmp rfl) .nil) () ?_ (fun w h => h.fin mem0) (.inl rfl)
    first | rfl | exact congrArg Value.bool (by rw [beq_iff_eq]; exact steps_self gs a)
  · first | (with_reducible replace r1 := of_decide_eq_false r1) | skip
    refine jq (q_callP (f41_spec) Try.call41 (by rfl) rfl mem0) (.yes rfl rfl rfl) rfl ?_
    intro x14
    refine jv (v_not rfl) (.yes rfl rfl rfl) rfl ?_
    refine jv (v_pickf rfl rfl) (.no rfl) rfl ?_
    refine jo_nil ?_
    refine je_next ?_
    refine j_iff rfl ?_
    refine j_skip ?_
    refine je_next ?_
    refine j_seq ?_
    obtain ⟨hsm, hser, hr⟩ := rightL_parts (by simpa using r1)
    have hn := small_le hsm
    have hI := right6_gen hr
    have gs := right6_gens hr
    obtain ⟨hn24, hl0, hl9, hs0, hgen, hcell⟩ := right6_parts hr
    have hA := right6_apart hr
    have hF4 := right6_fields hr
    have hF : ∀ c ∈ cs, c.val.fields.length ≤ 1000 := fun c hc => by have := hF4 c hc; omega
    have hll := liveP_le cs
    refine j_region ?_
    refine jv (v_loadAc (vs := [_, _, _]) rfl Try.isAgg26 Try.sizeOf26 rfl rfl) (.no rfl) rfl ?_
    refine jq (q_callP (f42_spec (by omega)) Try.call42 (by rfl) rfl (memc FindS.mem mem0)) (.no rfl) rfl ?_
    intro u19
    refine jq (q_callP (f33_spec gs hA) Try.call33 (by rfl) rfl (memc FindS.mem mem0)) (.no rfl) rfl ?_
    intro u20
    refine jv (v_move rfl) (.no rfl) rfl ?_
    refine jq (q_callP (f51_spec) Try.call51 (by rfl) rfl (memc FindS.mem mem0)) (.no rfl) rfl ?_
    intro x22
    refine jv (v_gtr rfl rfl) (.no rfl) rfl ?_
    refine jv (v_assign rfl) (.no rfl) rfl ?_
    refine jo_nil ?_
    refine je_next ?_
    refine j_seq ?_
    refine j_region ?_
    refine jv (v_loadAc (vs := [_, _, _]) rfl Try.isAgg26 Try.sizeOf26 rfl rfl) (.no rfl) rfl ?_
    refine jv (v_move rfl) (.no rfl) rfl ?_
    refine jv (v_move rfl) (.no rfl) rfl ?_
    refine jq (q_callP (f47_spec gs hA hF) Try.call47 (by rfl) rfl (memc FindS.mem mem0)) (.no rfl) rfl ?_
    intro x27
    refine jv (v_not rfl) (.no rfl) rfl ?_
    refine jv (v_move rfl) (.no rfl) rfl ?_
    refine j_split 29 rfl (fun i1 => ?_) (fun i1 => ?_)
    · first | (with_reducible replace i1 := of_decide_eq_true i1) | skip
      refine j_off rfl rfl rfl (by decide) rfl ?_
      refine j_off rfl rfl rfl (by decide) rfl ?_
      refine j_off rfl rfl rfl (by decide) rfl ?_
      refine j_off rfl rfl rfl (by decide) rfl ?_
      refine j_off rfl rfl rfl (by decide) rfl ?_
      refine jv (v_pickt rfl rfl) (.no rfl) rfl ?_
      refine jv (v_move rfl) (.no rfl) rfl ?_
      refine j_off rfl rfl rfl (by decide) rfl ?_
      refine j_off rfl rfl rfl (by decide) rfl ?_
      refine j_off rfl rfl rfl (by decide) rfl ?_
      refine j_off rfl rfl rfl (by decide) rfl ?_
      refine jv (v_pickt rfl rfl) (.no rfl) rfl ?_
      refine jv (v_move rfl) (.no rfl) rfl ?_
      refine jv (v_loadAc (vs := [_, _, _]) rfl Try.isAgg26 Try.sizeOf26 rfl rfl) (.yes rfl rfl rfl) rfl ?_
      refine jv (v_move rfl) (.yes rfl rfl rfl) rfl ?_
      refine jv (v_move rfl) (.yes rfl rfl rfl) rfl ?_
      refine jq (q_callP (f47_spec gs hA hF) Try.call47 (by rfl) rfl (memc FindS.mem mem0)) (.yes rfl rfl rfl) rfl ?_
      intro x46
      refine jv (v_move rfl) (.yes rfl rfl rfl) rfl ?_
      refine jv (v_beql Try.underlying4 rfl rfl) (.yes rfl rfl rfl) rfl ?_
      refine jv (v_pickt rfl rfl) (.no rfl) rfl ?_
      refine jv (v_assign rfl) (.no rfl) rfl ?_
      refine jo_nil ?_
      refine je_next ?_
      refine j_ret ?_
      refine je_ret rfl rfl rfl rfl rfl (rvs := [.tmp 8]) rfl (.cons (.tmp rfl) .nil) () ?_ (fun w h => h.fin mem0) (.inl rfl)
      first | rfl | exact congrArg Value.bool (by rw [beq_iff_eq]; exact steps_self gs a)
    · first | (with_reducible replace i1 := of_decide_eq_false i1) | skip
      refine jv (v_loadAc (vs := [_, _, _]) rfl Try.isAgg26 Try.sizeOf26 rfl rfl) (.yes rfl rfl rfl) rfl ?_
      refine jv (v_move rfl) (.yes rfl rfl rfl) rfl ?_
      refine jv (v_move rfl) (.yes rfl rfl rfl) rfl ?_
      refine jq (q_callP (f47_spec gs hA hF) Try.call47 (by rfl) rfl (memc FindS.mem mem0)) (.yes rfl rfl rfl) rfl ?_
      intro x33
      refine jv (v_not rfl) (.yes rfl rfl rfl) rfl ?_
      refine jv (v_pickf rfl rfl) (.no rfl) rfl ?_
      refine jv (v_move rfl) (.no rfl) rfl ?_
      refine j_split 36 rfl (fun i2 => ?_) (fun i2 => ?_)
      · first | (with_reducible replace i2 := of_decide_eq_true i2) | skip
        refine j_off rfl rfl rfl (by decide) rfl ?_
        refine j_off rfl rfl rfl (by decide) rfl ?_
        refine j_off rfl rfl rfl (by decide) rfl ?_
        refine j_off rfl rfl rfl (by decide) rfl ?_
        refine jv (v_pickt rfl rfl) (.no rfl) rfl ?_
        refine jv (v_move rfl) (.no rfl) rfl ?_
        refine jv (v_loadAc (vs := [_, _, _]) rfl Try.isAgg26 Try.sizeOf26 rfl rfl) (.yes rfl rfl rfl) rfl ?_
        refine jv (v_move rfl) (.yes rfl rfl rfl) rfl ?_
        refine jv (v_move rfl) (.yes rfl rfl rfl) rfl ?_
        refine jq (q_callP (f47_spec gs hA hF) Try.call47 (by rfl) rfl (memc FindS.mem mem0)) (.yes rfl rfl rfl) rfl ?_
        intro x46
        refine jv (v_move rfl) (.yes rfl rfl rfl) rfl ?_
        refine jv (v_beql Try.underlying4 rfl rfl) (.yes rfl rfl rfl) rfl ?_
        refine jv (v_pickt rfl rfl) (.no rfl) rfl ?_
        refine jv (v_assign rfl) (.no rfl) rfl ?_
        refine jo_nil ?_
        refine je_next ?_
        refine j_ret ?_
        refine je_ret rfl rfl rfl rfl rfl (rvs := [.tmp 8]) rfl (.cons (.tmp rfl) .nil) () ?_ (fun w h => h.fin mem0) (.inl rfl)
        first | rfl | exact congrArg Value.bool (by rw [beq_iff_eq]; exact steps_self gs a)
      · first | (with_reducible replace i2 := of_decide_eq_false i2) | skip
        refine jv (v_loadAc (vs := [_, _, _]) rfl Try.isAgg26 Try.sizeOf26 rfl rfl) (.yes rfl rfl rfl) rfl ?_
        refine jv (v_move rfl) (.yes rfl rfl rfl) rfl ?_
        refine jv (v_move rfl) (.yes rfl rfl rfl) rfl ?_
        refine jq (q_callP (f47_spec gs hA hF) Try.call47 (by rfl) rfl (memc FindS.mem mem0)) (.yes rfl rfl rfl) rfl ?_
        intro x40
        refine jv (v_pickf rfl rfl) (.no rfl) rfl ?_
        refine jv (v_move rfl) (.no rfl) rfl ?_
        refine j_split 42 rfl (fun i3 => ?_) (fun i3 => ?_)
        · first | (with_reducible replace i3 := of_decide_eq_true i3) | skip
          refine jv (v_loadAc (vs := [_, _, _]) rfl Try.isAgg26 Try.sizeOf26 rfl rfl) (.yes rfl rfl rfl) rfl ?_
          refine jv (v_move rfl) (.yes rfl rfl rfl) rfl ?_
          refine jv (v_move rfl) (.yes rfl rfl rfl) rfl ?_
          refine jq (q_callP (f47_spec gs hA hF) Try.call47 (by rfl) rfl (memc FindS.mem mem0)) (.yes rfl rfl rfl) rfl ?_
          intro x46
          refine jv (v_move rfl) (.yes rfl rfl rfl) rfl ?_
          refine jv (v_beql Try.underlying4 rfl rfl) (.yes rfl rfl rfl) rfl ?_
          refine jv (v_pickt rfl rfl) (.no rfl) rfl ?_
          refine jv (v_assign rfl) (.no rfl) rfl ?_
          refine jo_nil ?_
          refine je_next ?_
          refine j_ret ?_
          refine je_ret rfl rfl rfl rfl rfl (rvs := [.tmp 8]) rfl (.cons (.tmp rfl) .nil) () ?_ (fun w h => h.fin mem0) (.inl rfl)
          first | rfl | exact congrArg Value.bool (by rw [beq_iff_eq]; exact steps_self gs a)
        · first | (with_reducible replace i3 := of_decide_eq_false i3) | skip
          exact absurd (steps_tr gs (by simpa using i1) (by simpa using i2)) (by simpa using i3)

end Go.Proofs.Ytjgacbopccfecaa
