/-
  Walks: function 79, function 78, function 42, function 40.
-/
import Derived.Test.YtjgacbopccfecaaN
import Derived.Test.YtjgacbopccfecaaW1
import Derived.Test.YtjgacbopccfecaaW2
import Derived.Test.YtjgacbopccfecaaW3
import Derived.Test.YtjgacbopccfecaaW5
set_option maxRecDepth 100000
set_option linter.unusedVariables false
set_option linter.unusedSimpArgs false
namespace Go.Proofs.Ytjgacbopccfecaa

theorem f79_spec {o : Obj} {f : Value} : Spec Try.prog 79 [objA o f] [] [sl intK f o.fields] Unit (fun _ => objA o f) (fun _ => []) (fun _ => []) := by
  refine spec_of Try.func79 rfl Try.ntmps79 (by simp) fun ok w => ?_
  refine j_seq ?_
  refine j_region ?_
  refine jx (x_boxc rfl) (.no rfl) rfl ?_
  intro B1
  refine jx (x_alloc Try.zeroValue41 Cells.agg) (.no rfl) rfl ?_
  intro B2
  refine jo_nil ?_
  refine je_next ?_
  refine j_seq ?_
  refine j_region ?_
  refine jv (v_field (k' := 0) rfl Try.runUnderlying29 rfl Try.sizeOf3 (by decide) rfl) (.no rfl) rfl ?_
  refine jv (v_loadc rfl Try.isAgg3 rfl) (.no rfl) rfl ?_
  refine jv (v_field (k' := 1) rfl Try.runUnderlying29 rfl Try.sizeOf3 (by decide) rfl) (.no rfl) rfl ?_
  refine jv (v_loadc rfl Try.isAgg3 rfl) (.no rfl) rfl ?_
  refine jv (v_field (k' := 2) rfl Try.runUnderlying29 rfl Try.sizeOf3 (by decide) rfl) (.no rfl) rfl ?_
  refine jv (v_loadc rfl Try.isAgg3 rfl) (.no rfl) rfl ?_
  refine jv (v_field (k' := 3) rfl Try.runUnderlying29 rfl Try.sizeOf3 (by decide) rfl) (.no rfl) rfl ?_
  refine jv (v_loadc rfl Try.isAgg3 rfl) (.no rfl) rfl ?_
  refine jv (v_field (k' := 4) rfl Try.runUnderlying29 rfl Try.sizeOf4 (by decide) rfl) (.no rfl) rfl ?_
  refine jv (v_loadc rfl Try.isAgg4 rfl) (.no rfl) rfl ?_
  refine jv (v_field (k' := 5) rfl Try.runUnderlying29 rfl Try.sizeOf27 (by decide) rfl) (.no rfl) rfl ?_
  refine jv (v_loadc rfl Try.isAgg27 rfl) (.no rfl) rfl ?_
  refine jv (v_build1 _ rfl b41) (.no rfl) rfl ?_
  refine jx (x_storec (cs' := [_, _, _, _, _, _]) rfl rfl rfl Try.sizeOf41 rfl rfl) (.no rfl) rfl ?_
  intro _
  refine jo_nil ?_
  refine je_next ?_
  refine j_ret ?_
  refine je_ret rfl rfl rfl rfl rfl (rvs := [.cell 2 41]) rfl (.cons (.agg (vs := [_, _, _, _, _, _]) rfl FindB.mem Try.isAgg41 Try.sizeOf41 rfl rfl) .nil) () ?_ (fun w h => h.fin mem0) (.inl rfl)
  rfl

theorem f78_spec {v : Value} {cs : List Cell} {last serial : Int} : Spec Try.prog 78 [stA v last serial] [] [sl cellK v cs] Unit (fun _ => .bool (smallB cs)) (fun _ => []) (fun _ => []) := by
  refine spec_of Try.func78 rfl Try.ntmps78 (by simp) fun ok w => ?_
  refine j_len v fun hlx => ?_
  refine j_seq ?_
  refine j_region ?_
  refine jx (x_boxc rfl) (.no rfl) rfl ?_
  intro B1
  refine jv (v_assign rfl) (.no rfl) rfl ?_
  refine jo_nil ?_
  refine je_next ?_
  refine j_seq ?_
  refine j_seq ?_
  refine j_region ?_
  refine jv (v_assign rfl) (.no rfl) rfl ?_
  refine jo_nil ?_
  refine je_next ?_
  refine j_block ?_
  refine j_loopS (G := Nat) [(1, _)] (fun k t => (3, iV ((k : Nat) : Int)) :: t) (fun k t => t) (fun k => k ≤ cs.length ∧ ∀ c ∈ cs.take k, c.val.fields.length ≤ 10) (fun k => cs.length - k) 0 (by simp) (lsub rfl (lsub rfl lsub0)) rfl (fun k ⟨hk, hk2⟩ => ?_)   -- dead: [2]
  refine j_seq ?_
  refine j_seq ?_
  refine j_region ?_
  refine jv (v_move rfl) (.no rfl) rfl ?_
  refine jv (v_field (k' := 0) rfl Try.runUnderlying26 rfl Try.sizeOf24 (by decide) rfl) (.no rfl) rfl ?_
  refine jv (v_field (k' := 0) rfl Try.runUnderlying24 rfl Try.sizeOf22 (by decide) rfl) (.no rfl) rfl ?_
  refine jv (v_loadc rfl Try.isAgg22 rfl) (.no rfl) rfl ?_
  refine jv (v_len rfl FindR.row Try.runUnderlying22) (.no rfl) rfl ?_
  refine jv (v_lss rfl rfl) (.no rfl) rfl ?_
  refine jv (v_move rfl) (.no rfl) rfl ?_
  refine j_split 10 rfl (fun h1 => ?_) (fun h1 => ?_)
  · first | (with_reducible replace h1 := of_decide_eq_true h1) | skip
    refine jv (v_move rfl) (.yes rfl rfl rfl) rfl ?_
    refine jv (v_lss rfl rfl) (.yes rfl rfl rfl) rfl ?_
    refine jv (v_pickt rfl rfl) (.no rfl) rfl ?_
    refine jo_nil ?_
    refine je_next ?_
    refine j_if rfl (fun h2 => ?_) (fun h2 => ?_)
    · first | (with_reducible replace h2 := of_decide_eq_true h2) | skip
      refine j_skip ?_
      refine je_next ?_
      refine j_seq ?_
      refine j_block ?_
      refine j_seq ?_
      have hkl : k < cs.length := by omega
      refine j_region ?_
      refine jv (v_field (k' := 0) rfl Try.runUnderlying26 rfl Try.sizeOf24 (by decide) rfl) (.no rfl) rfl ?_
      refine jv (v_field (k' := 0) rfl Try.runUnderlying24 rfl Try.sizeOf22 (by decide) rfl) (.no rfl) rfl ?_
      refine jv (v_loadc rfl Try.isAgg22 rfl) (.no rfl) rfl ?_
      refine jv (v_move rfl) (.no rfl) rfl ?_
      refine jv (v_index rfl rfl FindR.row Try.runUnderlying22 Try.sizeOf81 (by omega) (by omega)) (.no rfl) rfl ?_
      refine jv (v_efield (k' := 2) rfl FindR.row (by omega) Try.runUnderlying81 rfl Try.sizeOf29 (by decide) rfl) (.no rfl) rfl ?_
      refine jv (v_efield (k' := 7) rfl FindR.row (by omega) Try.runUnderlying29 rfl Try.sizeOf27 (by decide) rfl) (.no rfl) rfl ?_
      refine jq (OpL.q (l_eload1 rfl FindR.row (at_k hkl) (by decide) Try.isAgg27 (fun _ _ _ h => cell_f h))) (.no rfl) rfl ?_
      intro v23
      refine jv (v_len rfl FindR.row Try.runUnderlying27) (.no rfl) rfl ?_
      refine jv (v_gtr rfl rfl) (.no rfl) rfl ?_
      refine jo_nil ?_
      refine je_next ?_
      refine j_if rfl (fun h3 => ?_) (fun h3 => ?_)
      · first | (with_reducible replace h3 := of_decide_eq_true h3) | skip
        refine j_seq ?_
        refine j_region ?_
        refine jv (v_assign rfl) (.no rfl) rfl ?_
        refine jo_nil ?_
        refine je_next ?_
        refine j_ret ?_
        refine je_blockr ?_
        refine je_then (by simp) ?_
        refine je_then (by simp) ?_
        refine je_blockr ?_
        refine je_then (by simp) ?_
        refine je_ret rfl rfl rfl rfl rfl (rvs := [.tmp 2]) rfl (.cons (.tmp rfl) .nil) () ?_ (fun w h => h.fin mem0) (.inl rfl)
        first | exact congrArg Value.bool (small_no hkl h3) | exact congrArg Value.bool (small_yes (by omega) hk2)
      · first | (with_reducible replace h3 := of_decide_eq_false h3) | skip
        refine j_skip ?_
        refine je_block ?_
        refine je_next ?_
        refine j_region ?_
        refine jv (v_move rfl) (.no rfl) rfl ?_
        refine jv (v_add rfl rfl (by omega) (by omega)) (.no rfl) rfl ?_
        refine jv (v_assign rfl) (.no rfl) rfl ?_
        refine jo_nil ?_
        refine je_round (k + 1) (⟨by omega, take_mem hkl hk2 (by omega)⟩) (by first | omega | (dsimp only; omega)) (lsub rfl (lsub rfl lsub0)) (fun _ h => (h).sub fun p hp => (List.mem_append_right _ hp))
    · first | (with_reducible replace h2 := of_decide_eq_false h2) | skip
      refine j_exit ?_
      refine je_then (by simp) ?_
      refine je_then (by simp) ?_
      refine je_hit ?_
      refine je_next ?_
      refine j_seq ?_
      refine j_region ?_
      refine jv (v_field (k' := 0) rfl Try.runUnderlying26 rfl Try.sizeOf24 (by decide) rfl) (.no rfl) rfl ?_
      refine jv (v_field (k' := 0) rfl Try.runUnderlying24 rfl Try.sizeOf22 (by decide) rfl) (.no rfl) rfl ?_
      refine jv (v_loadc rfl Try.isAgg22 rfl) (.no rfl) rfl ?_
      refine jv (v_len rfl FindR.row Try.runUnderlying22) (.no rfl) rfl ?_
      refine jv (v_leq rfl rfl) (.no rfl) rfl ?_
      refine jv (v_assign rfl) (.no rfl) rfl ?_
      refine jo_nil ?_
      refine je_next ?_
      refine j_ret ?_
      refine je_ret rfl rfl rfl rfl rfl (rvs := [.tmp 2]) rfl (.cons (.tmp rfl) .nil) () ?_ (fun w h => h.fin mem0) (.inl rfl)
      first | exact congrArg Value.bool (small_no hkl h3) | exact congrArg Value.bool (small_yes (by omega) hk2)
  · first | (with_reducible replace h1 := of_decide_eq_false h1) | skip
    refine j_off rfl rfl rfl (by decide) rfl ?_
    refine j_off rfl rfl rfl (by decide) rfl ?_
    refine jv (v_pickf rfl rfl) (.no rfl) rfl ?_
    refine jo_nil ?_
    refine je_next ?_
    refine j_iff rfl ?_
    refine j_exit ?_
    refine je_then (by simp) ?_
    refine je_then (by simp) ?_
    refine je_hit ?_
    refine je_next ?_
    refine j_seq ?_
    refine j_region ?_
    refine jv (v_field (k' := 0) rfl Try.runUnderlying26 rfl Try.sizeOf24 (by decide) rfl) (.no rfl) rfl ?_
    refine jv (v_field (k' := 0) rfl Try.runUnderlying24 rfl Try.sizeOf22 (by decide) rfl) (.no rfl) rfl ?_
    refine jv (v_loadc rfl Try.isAgg22 rfl) (.no rfl) rfl ?_
    refine jv (v_len rfl FindR.row Try.runUnderlying22) (.no rfl) rfl ?_
    refine jv (v_leq rfl rfl) (.no rfl) rfl ?_
    refine jv (v_assign rfl) (.no rfl) rfl ?_
    refine jo_nil ?_
    refine je_next ?_
    refine j_ret ?_
    refine je_ret rfl rfl rfl rfl rfl (rvs := [.tmp 2]) rfl (.cons (.tmp rfl) .nil) () ?_ (fun w h => h.fin mem0) (.inl rfl)
    first | exact congrArg Value.bool (small_no hkl h3) | exact congrArg Value.bool (small_yes (by omega) hk2)

theorem f42_spec {v : Value} {cs : List Cell} {last serial : Int} (hn : cs.length ≤ 1000) : Spec Try.prog 42 [stA v last serial] [] [sl cellK v cs] Value (fun v' => stA v' last serial) (fun _ => []) (fun v' => [sl cellK v' cs]) := by
  refine spec_of Try.func42 rfl Try.ntmps42 (by simp) fun ok w => ?_
  refine j_seq ?_
  refine j_region ?_
  refine jx (x_boxc rfl) (.no rfl) rfl ?_
  intro B1
  refine jx (x_alloc Try.zeroValue37 Cells.agg) (.no rfl) rfl ?_
  intro B2
  refine jo_nil ?_
  refine je_next ?_
  refine j_seq ?_
  refine j_region ?_
  refine jx (x_lit0 cellK rfl Try.runUnderlying35 Try.sizeOf83) (.no rfl) rfl ?_
  intro v6
  refine jv (v_assign rfl) (.no rfl) rfl ?_
  refine jo_nil ?_
  refine je_next ?_
  refine j_seq ?_
  refine j_seq ?_
  refine j_region ?_
  refine jv (v_assign rfl) (.no rfl) rfl ?_
  refine jo_nil ?_
  refine je_next ?_
  refine j_block ?_
  refine j_loopS (G := Nat × Value × List Cell) [(1, _), (2, _)] (fun k t => (3, k.2.1) :: (4, iV ((k.1 : Nat) : Int)) :: t) (fun k t => .own cellK k.2.1 83 k.2.2 :: t) (fun k => k.1 ≤ cs.length ∧ k.2.2 = cs.take k.1) (fun k => cs.length - k.1) (0, _, []) (by simp) (lsub rfl (lsub rfl (lsub rfl (lsub rfl lsub0)))) rfl (fun ⟨k, u, ds⟩ ⟨hk, hd⟩ => ?_)
  simp only at hk hd
  refine j_seq ?_
  refine j_seq ?_
  refine j_region ?_
  refine jv (v_move rfl) (.no rfl) rfl ?_
  refine jv (v_field (k' := 0) rfl Try.runUnderlying26 rfl Try.sizeOf24 (by decide) rfl) (.no rfl) rfl ?_
  refine jv (v_field (k' := 0) rfl Try.runUnderlying24 rfl Try.sizeOf22 (by decide) rfl) (.no rfl) rfl ?_
  refine jv (v_loadc rfl Try.isAgg22 rfl) (.no rfl) rfl ?_
  refine jv (v_len rfl FindR.row Try.runUnderlying22) (.no rfl) rfl ?_
  refine jv (v_lss rfl rfl) (.no rfl) rfl ?_
  refine jo_nil ?_
  refine je_next ?_
  refine j_if rfl (fun h1 => ?_) (fun h1 => ?_)
  · first | (with_reducible replace h1 := of_decide_eq_true h1) | skip
    refine j_skip ?_
    refine je_next ?_
    refine j_seq ?_
    refine j_block ?_
    refine j_seq ?_
    have hkl : k < cs.length := by omega
    refine j_region ?_
    refine jv (v_field (k' := 0) rfl Try.runUnderlying26 rfl Try.sizeOf24 (by decide) rfl) (.no rfl) rfl ?_
    refine jv (v_field (k' := 0) rfl Try.runUnderlying24 rfl Try.sizeOf22 (by decide) rfl) (.no rfl) rfl ?_
    refine jv (v_loadc rfl Try.isAgg22 rfl) (.no rfl) rfl ?_
    refine jv (v_move rfl) (.no rfl) rfl ?_
    refine jv (v_index rfl rfl FindR.row Try.runUnderlying22 Try.sizeOf81 (by omega) (by omega)) (.no rfl) rfl ?_
    refine jq (OpL.q (l_eload rfl FindR.row (at_k hkl) (by decide) Try.isAgg81 Try.sizeOf81 (fun _ _ _ h => cell_all h))) (.no rfl) rfl ?_
    intro v20
    refine jx (x_alloc Try.zeroValue81 Cells.agg) (.no rfl) rfl ?_
    intro B5
    refine jx (x_storec (cs' := [_, _, _, _, _, _, _, _]) rfl rfl rfl Try.sizeOf81 rfl rfl) (.no rfl) rfl ?_
    intro _
    refine jo_nil ?_
    refine je_next ?_
    refine j_draw [10] mixed ?_
    refine ja_take 0 rfl (by decide +kernel) (v_move rfl) (.no rfl) rfl ?_
    refine ja_take 1 rfl (by decide +kernel) (v_field (k' := 0) rfl Try.runUnderlying81 rfl Try.sizeOf3 (by decide) rfl) (.no rfl) rfl ?_
    refine ja_take 2 rfl (by decide +kernel) (v_loadc rfl Try.isAgg3 rfl) (.no rfl) rfl ?_
    refine ja_take 3 rfl (by decide +kernel) (v_field (k' := 1) rfl Try.runUnderlying81 rfl Try.sizeOf3 (by decide) rfl) (.no rfl) rfl ?_
    refine ja_take 4 rfl (by decide +kernel) (v_loadc rfl Try.isAgg3 rfl) (.no rfl) rfl ?_
    refine ja_take 5 rfl (by decide +kernel) (v_field (k' := 2) rfl Try.runUnderlying81 rfl Try.sizeOf29 (by decide) rfl) (.no rfl) rfl ?_
    refine ja_take 6 rfl (by decide +kernel) (v_loadAc (vs := [_, _, _, _, _, _]) rfl Try.isAgg29 Try.sizeOf29 rfl rfl) (.no rfl) rfl ?_
    refine ja_one (i := 7) (by decide +kernel) (jn_q rfl (q_callP (f79_spec) Try.call79 (by rfl) rfl (memc FindS.mem mem0)) (.no rfl) rfl ?_)
    intro x28
    refine ja_take 8 rfl (by decide +kernel) (v_build1 _ rfl b83) (.no rfl) rfl ?_
    refine ja_one (i := 9) (by decide +kernel) (jn_q rfl (q_lit1 (K := cellK) (cs[k]) rfl Cells.agg Try.runUnderlying35 Try.sizeOf83 Try.zeroValue83 rfl (by decide) (by decide) (cell_R FindS.mem)) (.no rfl) rfl ?_)
    intro v30
    refine ja_one (i := 10) (by decide +kernel) (jn_x rfl (by simp) (x_append rfl rfl (fun _ => Hole.put _) FindR.row Try.runUnderlying35 Try.sizeOf83 Try.zeroValue83 rfl Try.typeInfo83 (by decide) (by decide) (by subst hd; simp; omega)) (.no rfl) rfl ?_)
    intro v31
    refine ja_take 11 rfl (by decide +kernel) (v_assign rfl) (.no rfl) rfl ?_
    refine ja_nil (by decide +kernel) ?_
    refine je_block ?_
    refine je_next ?_
    refine j_region ?_
    refine jv (v_move rfl) (.no rfl) rfl ?_
    refine jv (v_add rfl rfl (by omega) (by omega)) (.no rfl) rfl ?_
    refine jv (v_assign rfl) (.no rfl) rfl ?_
    refine jo_nil ?_
    refine je_round (k + 1, _, _) (by simp only; refine ⟨by omega, ?_⟩; rw [List.take_succ_eq_append_getElem hkl, hd]) (by first | omega | (dsimp only; omega)) (lsub rfl (lsub rfl (lsub rfl (lsub rfl lsub0)))) (fun _ h => ((h).del .head).sub fun p hp => (List.mem_append_right _ (List.mem_append_right _ (List.mem_append_right _ hp))))
  · first | (with_reducible replace h1 := of_decide_eq_false h1) | skip
    refine j_exit ?_
    refine je_then (by simp) ?_
    refine je_then (by simp) ?_
    refine je_hit ?_
    refine je_next ?_
    refine j_seq ?_
    have hkl : k = cs.length := by omega
    have he : ds = cs := by rw [hd, hkl, List.take_length]
    refine j_region ?_
    refine jv (v_move rfl) (.no rfl) rfl ?_
    refine jv (v_field (k' := 0) rfl Try.runUnderlying26 rfl Try.sizeOf24 (by decide) rfl) (.no rfl) rfl ?_
    refine jv (v_field (k' := 1) rfl Try.runUnderlying24 rfl Try.sizeOf3 (by decide) rfl) (.no rfl) rfl ?_
    refine jv (v_loadc rfl Try.isAgg3 rfl) (.no rfl) rfl ?_
    refine jv (v_field (k' := 2) rfl Try.runUnderlying26 rfl Try.sizeOf3 (by decide) rfl) (.no rfl) rfl ?_
    refine jv (v_loadc rfl Try.isAgg3 rfl) (.no rfl) rfl ?_
    refine jv (v_build1 _ rfl b37) (.no rfl) rfl ?_
    refine jx (x_storec (cs' := [_, _, _]) rfl rfl rfl Try.sizeOf37 rfl rfl) (.no rfl) rfl ?_
    intro _
    refine jo_nil ?_
    refine je_next ?_
    refine j_ret ?_
    refine je_ret rfl rfl rfl rfl rfl (rvs := [.cell 2 37]) rfl (.cons (.agg (vs := [_, _, _]) rfl FindB.mem Try.isAgg37 Try.sizeOf37 rfl rfl) .nil) u ?_ (fun w h => (h.freeze0 .head).fin (by rw [he]; exact memc FindS.mem mem0)) (.inl rfl)
    rfl

theorem f40_spec {v : Value} {cs : List Cell} {last serial : Int} : Spec Try.prog 40 [stA v last serial] [] [sl cellK v cs] Unit (fun _ => .bool (rightL cs last serial)) (fun _ => []) (fun _ => []) := by
  refine spec_of Try.func40 rfl Try.ntmps40 (by simp) fun ok w => ?_
  refine j_seq ?_
  refine j_region ?_
  refine jx (x_boxc rfl) (.no rfl) rfl ?_
  intro B1
  refine jv (v_assign rfl) (.no rfl) rfl ?_
  refine jo_nil ?_
  refine je_next ?_
  refine j_seq ?_
  refine j_region ?_
  refine jv (v_loadAc (vs := [_, _, _]) rfl Try.isAgg26 Try.sizeOf26 rfl rfl) (.no rfl) rfl ?_
  refine jq (q_callP (f78_spec) Try.call78 (by rfl) rfl (memc FindS.mem mem0)) (.no rfl) rfl ?_
  intro x4
  refine jv (v_move rfl) (.no rfl) rfl ?_
  refine j_split 5 rfl (fun r1 => ?_) (fun r1 => ?_)
  · first | (with_reducible replace r1 := of_decide_eq_true r1) | skip
    refine jv (v_field (k' := 2) rfl Try.runUnderlying26 rfl Try.sizeOf3 (by decide) rfl) (.yes rfl rfl rfl) rfl ?_
    refine jv (v_loadc rfl Try.isAgg3 rfl) (.yes rfl rfl rfl) rfl ?_
    refine jv (v_lss rfl rfl) (.yes rfl rfl rfl) rfl ?_
    refine jv (v_pickt rfl rfl) (.no rfl) rfl ?_
    refine jv (v_move rfl) (.no rfl) rfl ?_
    refine j_split 10 rfl (fun r2 => ?_) (fun r2 => ?_)
    · first | (with_reducible replace r2 := of_decide_eq_true r2) | skip
      have hn := small_le r1
      refine jv (v_loadAc (vs := [_, _, _]) rfl Try.isAgg26 Try.sizeOf26 rfl rfl) (.yes rfl rfl rfl) rfl ?_
      refine jq (q_callP (f42_spec (by omega)) Try.call42 (by rfl) rfl (memc FindS.mem mem0)) (.yes rfl rfl rfl) rfl ?_
      intro u12
      refine jq (q_callP (f21_spec (by omega)) Try.call21 (by rfl) rfl (memc FindS.mem mem0)) (.yes rfl rfl rfl) rfl ?_
      intro x13
      refine jv (v_pickt rfl rfl) (.no rfl) rfl ?_
      refine jv (v_assign rfl) (.no rfl) rfl ?_
      refine jo_nil ?_
      refine je_next ?_
      refine j_ret ?_
      refine je_ret rfl rfl rfl rfl rfl (rvs := [.tmp 2]) rfl (.cons (.tmp rfl) .nil) () ?_ (fun w h => h.fin mem0) (.inl rfl)
      first | (simp_all [resVal, rightL]; done) | (simp [resVal, rightL, *]; done) | (simp [resVal, rightL, *]; intros; omega)
    · first | (with_reducible replace r2 := of_decide_eq_false r2) | skip
      refine j_off rfl rfl rfl (by decide) rfl ?_
      refine j_off rfl rfl rfl (by decide) rfl ?_
      refine j_off rfl rfl rfl (by decide) rfl ?_
      refine jv (v_pickf rfl rfl) (.no rfl) rfl ?_
      refine jv (v_assign rfl) (.no rfl) rfl ?_
      refine jo_nil ?_
      refine je_next ?_
      refine j_ret ?_
      refine je_ret rfl rfl rfl rfl rfl (rvs := [.tmp 2]) rfl (.cons (.tmp rfl) .nil) () ?_ (fun w h => h.fin mem0) (.inl rfl)
      first | (simp_all [resVal, rightL]; done) | (simp [resVal, rightL, *]; done) | (simp [resVal, rightL, *]; intros; omega)
  · first | (with_reducible replace r1 := of_decide_eq_false r1) | skip
    refine j_off rfl rfl rfl (by decide) rfl ?_
    refine j_off rfl rfl rfl (by decide) rfl ?_
    refine j_off rfl rfl rfl (by decide) rfl ?_
    refine jv (v_pickf rfl rfl) (.no rfl) rfl ?_
    refine jv (v_move rfl) (.no rfl) rfl ?_
    refine j_off rfl rfl rfl (by decide) rfl ?_
    refine j_off rfl rfl rfl (by decide) rfl ?_
    refine j_off rfl rfl rfl (by decide) rfl ?_
    refine jv (v_pickf rfl rfl) (.no rfl) rfl ?_
    refine jv (v_assign rfl) (.no rfl) rfl ?_
    refine jo_nil ?_
    refine je_next ?_
    refine j_ret ?_
    refine je_ret rfl rfl rfl rfl rfl (rvs := [.tmp 2]) rfl (.cons (.tmp rfl) .nil) () ?_ (fun w h => h.fin mem0) (.inl rfl)
    first | (simp_all [resVal, rightL]; done) | (simp [resVal, rightL, *]; done) | (simp [resVal, rightL, *]; intros; omega)

end Go.Proofs.Ytjgacbopccfecaa
