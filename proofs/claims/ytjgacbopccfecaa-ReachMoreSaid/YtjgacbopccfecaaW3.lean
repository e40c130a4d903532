/-
  Walks: function 24, function 19, function 18, function 59, function 56, function 58.
-/
import Derived.Test.YtjgacbopccfecaaN
import Derived.Test.YtjgacbopccfecaaW1
import Derived.Test.YtjgacbopccfecaaW2
set_option maxRecDepth 100000
set_option linter.unusedVariables false
set_option linter.unusedSimpArgs false
namespace Go.Proofs.Ytjgacbopccfecaa

theorem f24_spec {v : Value} {cs : List Cell} {last serial : Int} : Spec Try.prog 24 [stA v last serial] [] [sl cellK v cs] Unit (fun _ => .bool (smallB cs)) (fun _ => []) (fun _ => []) := by
  refine spec_of Try.func24 rfl Try.ntmps24 (by simp) fun ok w => ?_
  refine j_len v fun hlx => ?_
  refine j_seq ?_
  refine j_region ?_
  refine jx (x_boxc rfl) (.no rfl) rfl ?_
  intro B1
  refine jv (v_assign rfl) (.no rfl) rfl ?_
  refine jo_nil ?_
  refine je_next ?_
  refine j_seq ?_
  refine j_seq ?_
  refine j_region ?_
  refine jv (v_assign rfl) (.no rfl) rfl ?_
  refine jo_nil ?_
  refine je_next ?_
  refine j_block ?_
  refine j_loopS (G := Nat) [(1, _)] (fun k t => (3, iV ((k : Nat) : Int)) :: t) (fun k t => t) (fun k => k ≤ cs.length ∧ ∀ c ∈ cs.take k, c.val.fields.length ≤ 10) (fun k => cs.length - k) 0 (by simp) (lsub rfl (lsub rfl lsub0)) rfl (fun k ⟨hk, hk2⟩ => ?_)   -- dead: [2]
  refine j_seq ?_
  refine j_seq ?_
  refine j_region ?_
  refine jv (v_move rfl) (.no rfl) rfl ?_
  refine jv (v_field (k' := 0) rfl Try.runUnderlying26 rfl Try.sizeOf24 (by decide) rfl) (.no rfl) rfl ?_
  refine jv (v_field (k' := 0) rfl Try.runUnderlying24 rfl Try.sizeOf22 (by decide) rfl) (.no rfl) rfl ?_
  refine jv (v_loadc rfl Try.isAgg22 rfl) (.no rfl) rfl ?_
  refine jv (v_len rfl FindR.row Try.runUnderlying22) (.no rfl) rfl ?_
  refine jv (v_lss rfl rfl) (.no rfl) rfl ?_
  refine jv (v_move rfl) (.no rfl) rfl ?_
  refine j_split 10 rfl (fun h1 => ?_) (fun h1 => ?_)
  · first | (with_reducible replace h1 := of_decide_eq_true h1) | skip
    refine jv (v_move rfl) (.yes rfl rfl rfl) rfl ?_
    refine jv (v_lss rfl rfl) (.yes rfl rfl rfl) rfl ?_
    refine jv (v_pickt rfl rfl) (.no rfl) rfl ?_
    refine jo_nil ?_
    refine je_next ?_
    refine j_if rfl (fun h2 => ?_) (fun h2 => ?_)
    · first | (with_reducible replace h2 := of_decide_eq_true h2) | skip
      refine j_skip ?_
      refine je_next ?_
      refine j_seq ?_
      refine j_block ?_
      refine j_seq ?_
      have hkl : k < cs.length := by omega
      refine j_region ?_
      refine jv (v_field (k' := 0) rfl Try.runUnderlying26 rfl Try.sizeOf24 (by decide) rfl) (.no rfl) rfl ?_
      refine jv (v_field (k' := 0) rfl Try.runUnderlying24 rfl Try.sizeOf22 (by decide) rfl) (.no rfl) rfl ?_
      refine jv (v_loadc rfl Try.isAgg22 rfl) (.no rfl) rfl ?_
      refine jv (v_move rfl) (.no rfl) rfl ?_
      refine jv (v_index rfl rfl FindR.row Try.runUnderlying22 Try.sizeOf81 (by omega) (by omega)) (.no rfl) rfl ?_
      refine jv (v_efield (k' := 2) rfl FindR.row (by omega) Try.runUnderlying81 rfl Try.sizeOf29 (by decide) rfl) (.no rfl) rfl ?_
      refine jv (v_efield (k' := 7) rfl FindR.row (by omega) Try.runUnderlying29 rfl Try.sizeOf27 (by decide) rfl) (.no rfl) rfl ?_
      refine jq (OpL.q (l_eload1 rfl FindR.row (at_k hkl) (by decide) Try.isAgg27 (fun _ _ _ h => cell_f h))) (.no rfl) rfl ?_
      intro v23
      refine jv (v_len rfl FindR.row Try.runUnderlying27) (.no rfl) rfl ?_
      refine jv (v_gtr rfl rfl) (.no rfl) rfl ?_
      refine jo_nil ?_
      refine je_next ?_
      refine j_if rfl (fun h3 => ?_) (fun h3 => ?_)
      · first | (with_reducible replace h3 := of_decide_eq_true h3) | skip
        refine j_seq ?_
        refine j_region ?_
        refine jv (v_assign rfl) (.no rfl) rfl ?_
        refine jo_nil ?_
        refine je_next ?_
        refine j_ret ?_
        refine je_blockr ?_
        refine je_then (by simp) ?_
        refine je_then (by simp) ?_
        refine je_blockr ?_
        refine je_then (by simp) ?_
        refine je_ret rfl rfl rfl rfl rfl (rvs := [.tmp 2]) rfl (.cons (.tmp rfl) .nil) () ?_ (fun w h => h.fin mem0) (.inl rfl)
        first | exact congrArg Value.bool (small_no hkl h3) | exact congrArg Value.bool (small_yes (by omega) hk2)
      · first | (with_reducible replace h3 := of_decide_eq_false h3) | skip
        refine j_skip ?_
        refine je_block ?_
        refine je_next ?_
        refine j_region ?_
        refine jv (v_move rfl) (.no rfl) rfl ?_
        refine jv (v_add rfl rfl (by omega) (by omega)) (.no rfl) rfl ?_
        refine jv (v_assign rfl) (.no rfl) rfl ?_
        refine jo_nil ?_
        refine je_round (k + 1) (⟨by omega, take_mem hkl hk2 (by omega)⟩) (by first | omega | (dsimp only; omega)) (lsub rfl (lsub rfl lsub0)) (fun _ h => (h).sub fun p hp => (List.mem_append_right _ hp))
    · first | (with_reducible replace h2 := of_decide_eq_false h2) | skip
      refine j_exit ?_
      refine je_then (by simp) ?_
      refine je_then (by simp) ?_
      refine je_hit ?_
      refine je_next ?_
      refine j_seq ?_
      refine j_region ?_
      refine jv (v_field (k' := 0) rfl Try.runUnderlying26 rfl Try.sizeOf24 (by decide) rfl) (.no rfl) rfl ?_
      refine jv (v_field (k' := 0) rfl Try.runUnderlying24 rfl Try.sizeOf22 (by decide) rfl) (.no rfl) rfl ?_
      refine jv (v_loadc rfl Try.isAgg22 rfl) (.no rfl) rfl ?_
      refine jv (v_len rfl FindR.row Try.runUnderlying22) (.no rfl) rfl ?_
      refine jv (v_leq rfl rfl) (.no rfl) rfl ?_
      refine jv (v_assign rfl) (.no rfl) rfl ?_
      refine jo_nil ?_
      refine je_next ?_
      refine j_ret ?_
      refine je_ret rfl rfl rfl rfl rfl (rvs := [.tmp 2]) rfl (.cons (.tmp rfl) .nil) () ?_ (fun w h => h.fin mem0) (.inl rfl)
      first | exact congrArg Value.bool (small_no hkl h3) | exact congrArg Value.bool (small_yes (by omega) hk2)
  · first | (with_reducible replace h1 := of_decide_eq_false h1) | skip
    refine j_off rfl rfl rfl (by decide) rfl ?_
    refine j_off rfl rfl rfl (by decide) rfl ?_
    refine jv (v_pickf rfl rfl) (.no rfl) rfl ?_
    refine jo_nil ?_
    refine je_next ?_
    refine j_iff rfl ?_
    refine j_exit ?_
    refine je_then (by simp) ?_
    refine je_then (by simp) ?_
    refine je_hit ?_
    refine je_next ?_
    refine j_seq ?_
    refine j_region ?_
    refine jv (v_field (k' := 0) rfl Try.runUnderlying26 rfl Try.sizeOf24 (by decide) rfl) (.no rfl) rfl ?_
    refine jv (v_field (k' := 0) rfl Try.runUnderlying24 rfl Try.sizeOf22 (by decide) rfl) (.no rfl) rfl ?_
    refine jv (v_loadc rfl Try.isAgg22 rfl) (.no rfl) rfl ?_
    refine jv (v_len rfl FindR.row Try.runUnderlying22) (.no rfl) rfl ?_
    refine jv (v_leq rfl rfl) (.no rfl) rfl ?_
    refine jv (v_assign rfl) (.no rfl) rfl ?_
    refine jo_nil ?_
    refine je_next ?_
    refine j_ret ?_
    refine je_ret rfl rfl rfl rfl rfl (rvs := [.tmp 2]) rfl (.cons (.tmp rfl) .nil) () ?_ (fun w h => h.fin mem0) (.inl rfl)
    first | exact congrArg Value.bool (small_no hkl h3) | exact congrArg Value.bool (small_yes (by omega) hk2)

theorem f19_spec {o : Obj} {f : Value} : Spec Try.prog 19 [objA o f] [] [sl intK f o.fields] Unit (fun _ => objA o f) (fun _ => []) (fun _ => []) := by
  refine spec_of Try.func19 rfl Try.ntmps19 (by simp) fun ok w => ?_
  refine j_seq ?_
  refine j_region ?_
  refine jx (x_boxc rfl) (.no rfl) rfl ?_
  intro B1
  refine jx (x_alloc Try.zeroValue41 Cells.agg) (.no rfl) rfl ?_
  intro B2
  refine jo_nil ?_
  refine je_next ?_
  refine j_seq ?_
  refine j_region ?_
  refine jv (v_field (k' := 0) rfl Try.runUnderlying29 rfl Try.sizeOf3 (by decide) rfl) (.no rfl) rfl ?_
  refine jv (v_loadc rfl Try.isAgg3 rfl) (.no rfl) rfl ?_
  refine jv (v_field (k' := 1) rfl Try.runUnderlying29 rfl Try.sizeOf3 (by decide) rfl) (.no rfl) rfl ?_
  refine jv (v_loadc rfl Try.isAgg3 rfl) (.no rfl) rfl ?_
  refine jv (v_field (k' := 2) rfl Try.runUnderlying29 rfl Try.sizeOf3 (by decide) rfl) (.no rfl) rfl ?_
  refine jv (v_loadc rfl Try.isAgg3 rfl) (.no rfl) rfl ?_
  refine jv (v_field (k' := 3) rfl Try.runUnderlying29 rfl Try.sizeOf3 (by decide) rfl) (.no rfl) rfl ?_
  refine jv (v_loadc rfl Try.isAgg3 rfl) (.no rfl) rfl ?_
  refine jv (v_field (k' := 4) rfl Try.runUnderlying29 rfl Try.sizeOf4 (by decide) rfl) (.no rfl) rfl ?_
  refine jv (v_loadc rfl Try.isAgg4 rfl) (.no rfl) rfl ?_
  refine jv (v_field (k' := 5) rfl Try.runUnderlying29 rfl Try.sizeOf27 (by decide) rfl) (.no rfl) rfl ?_
  refine jv (v_loadc rfl Try.isAgg27 rfl) (.no rfl) rfl ?_
  refine jv (v_build1 _ rfl b41) (.no rfl) rfl ?_
  refine jx (x_storec (cs' := [_, _, _, _, _, _]) rfl rfl rfl Try.sizeOf41 rfl rfl) (.no rfl) rfl ?_
  intro _
  refine jo_nil ?_
  refine je_next ?_
  refine j_ret ?_
  refine je_ret rfl rfl rfl rfl rfl (rvs := [.cell 2 41]) rfl (.cons (.agg (vs := [_, _, _, _, _, _]) rfl FindB.mem Try.isAgg41 Try.sizeOf41 rfl rfl) .nil) () ?_ (fun w h => h.fin mem0) (.inl rfl)
  rfl

theorem f18_spec {v : Value} {cs : List Cell} {last serial : Int} (hn : cs.length ≤ 1000) : Spec Try.prog 18 [stA v last serial] [] [sl cellK v cs] Value (fun v' => stA v' last serial) (fun _ => []) (fun v' => [sl cellK v' cs]) := by
  refine spec_of Try.func18 rfl Try.ntmps18 (by simp) fun ok w => ?_
  refine j_seq ?_
  refine j_region ?_
  refine jx (x_boxc rfl) (.no rfl) rfl ?_
  intro B1
  refine jx (x_alloc Try.zeroValue37 Cells.agg) (.no rfl) rfl ?_
  intro B2
  refine jo_nil ?_
  refine je_next ?_
  refine j_seq ?_
  refine j_region ?_
  refine jx (x_lit0 cellK rfl Try.runUnderlying35 Try.sizeOf83) (.no rfl) rfl ?_
  intro v6
  refine jv (v_assign rfl) (.no rfl) rfl ?_
  refine jo_nil ?_
  refine je_next ?_
  refine j_seq ?_
  refine j_seq ?_
  refine j_region ?_
  refine jv (v_assign rfl) (.no rfl) rfl ?_
  refine jo_nil ?_
  refine je_next ?_
  refine j_block ?_
  refine j_loopS (G := Nat × Value × List Cell) [(1, _), (2, _)] (fun k t => (3, k.2.1) :: (4, iV ((k.1 : Nat) : Int)) :: t) (fun k t => .own cellK k.2.1 83 k.2.2 :: t) (fun k => k.1 ≤ cs.length ∧ k.2.2 = cs.take k.1) (fun k => cs.length - k.1) (0, _, []) (by simp) (lsub rfl (lsub rfl (lsub rfl (lsub rfl lsub0)))) rfl (fun ⟨k, u, ds⟩ ⟨hk, hd⟩ => ?_)
  simp only at hk hd
  refine j_seq ?_
  refine j_seq ?_
  refine j_region ?_
  refine jv (v_move rfl) (.no rfl) rfl ?_
  refine jv (v_field (k' := 0) rfl Try.runUnderlying26 rfl Try.sizeOf24 (by decide) rfl) (.no rfl) rfl ?_
  refine jv (v_field (k' := 0) rfl Try.runUnderlying24 rfl Try.sizeOf22 (by decide) rfl) (.no rfl) rfl ?_
  refine jv (v_loadc rfl Try.isAgg22 rfl) (.no rfl) rfl ?_
  refine jv (v_len rfl FindR.row Try.runUnderlying22) (.no rfl) rfl ?_
  refine jv (v_lss rfl rfl) (.no rfl) rfl ?_
  refine jo_nil ?_
  refine je_next ?_
  refine j_if rfl (fun h1 => ?_) (fun h1 => ?_)
  · first | (with_reducible replace h1 := of_decide_eq_true h1) | skip
    refine j_skip ?_
    refine je_next ?_
    refine j_seq ?_
    refine j_block ?_
    refine j_seq ?_
    have hkl : k < cs.length := by omega
    refine j_region ?_
    refine jv (v_field (k' := 0) rfl Try.runUnderlying26 rfl Try.sizeOf24 (by decide) rfl) (.no rfl) rfl ?_
    refine jv (v_field (k' := 0) rfl Try.runUnderlying24 rfl Try.sizeOf22 (by decide) rfl) (.no rfl) rfl ?_
    refine jv (v_loadc rfl Try.isAgg22 rfl) (.no rfl) rfl ?_
    refine jv (v_move rfl) (.no rfl) rfl ?_
    refine jv (v_index rfl rfl FindR.row Try.runUnderlying22 Try.sizeOf81 (by omega) (by omega)) (.no rfl) rfl ?_
    refine jq (OpL.q (l_eload rfl FindR.row (at_k hkl) (by decide) Try.isAgg81 Try.sizeOf81 (fun _ _ _ h => cell_all h))) (.no rfl) rfl ?_
    intro v20
    refine jx (x_alloc Try.zeroValue81 Cells.agg) (.no rfl) rfl ?_
    intro B5
    refine jx (x_storec (cs' := [_, _, _, _, _, _, _, _]) rfl rfl rfl Try.sizeOf81 rfl rfl) (.no rfl) rfl ?_
    intro _
    refine jo_nil ?_
    refine je_next ?_
    refine j_draw [10] mixed ?_
    refine ja_take 0 rfl (by decide +kernel) (v_move rfl) (.no rfl) rfl ?_
    refine ja_take 1 rfl (by decide +kernel) (v_field (k' := 0) rfl Try.runUnderlying81 rfl Try.sizeOf3 (by decide) rfl) (.no rfl) rfl ?_
    refine ja_take 2 rfl (by decide +kernel) (v_loadc rfl Try.isAgg3 rfl) (.no rfl) rfl ?_
    refine ja_take 3 rfl (by decide +kernel) (v_field (k' := 1) rfl Try.runUnderlying81 rfl Try.sizeOf3 (by decide) rfl) (.no rfl) rfl ?_
    refine ja_take 4 rfl (by decide +kernel) (v_loadc rfl Try.isAgg3 rfl) (.no rfl) rfl ?_
    refine ja_take 5 rfl (by decide +kernel) (v_field (k' := 2) rfl Try.runUnderlying81 rfl Try.sizeOf29 (by decide) rfl) (.no rfl) rfl ?_
    refine ja_take 6 rfl (by decide +kernel) (v_loadAc (vs := [_, _, _, _, _, _]) rfl Try.isAgg29 Try.sizeOf29 rfl rfl) (.no rfl) rfl ?_
    refine ja_one (i := 7) (by decide +kernel) (jn_q rfl (q_callP (f19_spec) Try.call19 (by rfl) rfl (memc FindS.mem mem0)) (.no rfl) rfl ?_)
    intro x28
    refine ja_take 8 rfl (by decide +kernel) (v_build1 _ rfl b83) (.no rfl) rfl ?_
    refine ja_one (i := 9) (by decide +kernel) (jn_q rfl (q_lit1 (K := cellK) (cs[k]) rfl Cells.agg Try.runUnderlying35 Try.sizeOf83 Try.zeroValue83 rfl (by decide) (by decide) (cell_R FindS.mem)) (.no rfl) rfl ?_)
    intro v30
    refine ja_one (i := 10) (by decide +kernel) (jn_x rfl (by simp) (x_append rfl rfl (fun _ => Hole.put _) FindR.row Try.runUnderlying35 Try.sizeOf83 Try.zeroValue83 rfl Try.typeInfo83 (by decide) (by decide) (by subst hd; simp; omega)) (.no rfl) rfl ?_)
    intro v31
    refine ja_take 11 rfl (by decide +kernel) (v_assign rfl) (.no rfl) rfl ?_
    refine ja_nil (by decide +kernel) ?_
    refine je_block ?_
    refine je_next ?_
    refine j_region ?_
    refine jv (v_move rfl) (.no rfl) rfl ?_
    refine jv (v_add rfl rfl (by omega) (by omega)) (.no rfl) rfl ?_
    refine jv (v_assign rfl) (.no rfl) rfl ?_
    refine jo_nil ?_
    refine je_round (k + 1, _, _) (by simp only; refine ⟨by omega, ?_⟩; rw [List.take_succ_eq_append_getElem hkl, hd]) (by first | omega | (dsimp only; omega)) (lsub rfl (lsub rfl (lsub rfl (lsub rfl lsub0)))) (fun _ h => ((h).del .head).sub fun p hp => (List.mem_append_right _ (List.mem_append_right _ (List.mem_append_right _ hp))))
  · first | (with_reducible replace h1 := of_decide_eq_false h1) | skip
    refine j_exit ?_
    refine je_then (by simp) ?_
    refine je_then (by simp) ?_
    refine je_hit ?_
    refine je_next ?_
    refine j_seq ?_
    have hkl : k = cs.length := by omega
    have he : ds = cs := by rw [hd, hkl, List.take_length]
    refine j_region ?_
    refine jv (v_move rfl) (.no rfl) rfl ?_
    refine jv (v_field (k' := 0) rfl Try.runUnderlying26 rfl Try.sizeOf24 (by decide) rfl) (.no rfl) rfl ?_
    refine jv (v_field (k' := 1) rfl Try.runUnderlying24 rfl Try.sizeOf3 (by decide) rfl) (.no rfl) rfl ?_
    refine jv (v_loadc rfl Try.isAgg3 rfl) (.no rfl) rfl ?_
    refine jv (v_field (k' := 2) rfl Try.runUnderlying26 rfl Try.sizeOf3 (by decide) rfl) (.no rfl) rfl ?_
    refine jv (v_loadc rfl Try.isAgg3 rfl) (.no rfl) rfl ?_
    refine jv (v_build1 _ rfl b37) (.no rfl) rfl ?_
    refine jx (x_storec (cs' := [_, _, _]) rfl rfl rfl Try.sizeOf37 rfl rfl) (.no rfl) rfl ?_
    intro _
    refine jo_nil ?_
    refine je_next ?_
    refine j_ret ?_
    refine je_ret rfl rfl rfl rfl rfl (rvs := [.cell 2 37]) rfl (.cons (.agg (vs := [_, _, _]) rfl FindB.mem Try.isAgg37 Try.sizeOf37 rfl rfl) .nil) u ?_ (fun w h => (h.freeze0 .head).fin (by rw [he]; exact memc FindS.mem mem0)) (.inl rfl)
    rfl

theorem f59_spec {c : Cell} {f : Value} : Spec Try.prog 59 [.agg (cellV c f).toArray] [] [sl intK f c.val.fields] Unit (fun _ => .bool (there c)) (fun _ => []) (fun _ => []) := by
  refine spec_of Try.func59 rfl Try.ntmps59 (by simp) fun ok w => ?_
  refine j_seq ?_
  refine j_region ?_
  refine jx (x_boxc rfl) (.no rfl) rfl ?_
  intro B1
  refine jv (v_assign rfl) (.no rfl) rfl ?_
  refine jo_nil ?_
  refine je_next ?_
  refine j_seq ?_
  refine j_region ?_
  refine jv (v_field (k' := 0) rfl Try.runUnderlying83 rfl Try.sizeOf3 (by decide) rfl) (.no rfl) rfl ?_
  refine jv (v_loadc rfl Try.isAgg3 rfl) (.no rfl) rfl ?_
  refine jv (v_eql rfl rfl) (.no rfl) rfl ?_
  refine jv (v_move rfl) (.no rfl) rfl ?_
  refine j_split 6 rfl (fun h1 => ?_) (fun h1 => ?_)
  · first | (with_reducible replace h1 := of_decide_eq_true h1) | skip
    refine j_off rfl rfl rfl (by decide) rfl ?_
    refine j_off rfl rfl rfl (by decide) rfl ?_
    refine j_off rfl rfl rfl (by decide) rfl ?_
    refine jv (v_pickt rfl rfl) (.no rfl) rfl ?_
    refine jv (v_assign rfl) (.no rfl) rfl ?_
    refine jo_nil ?_
    refine je_next ?_
    refine j_ret ?_
    refine je_ret rfl rfl rfl rfl rfl (rvs := [.tmp 2]) rfl (.cons (.tmp rfl) .nil) () ?_ (fun w h => h.fin mem0) (.inl rfl)
    simp [resVal, there, *]
  · first | (with_reducible replace h1 := of_decide_eq_false h1) | skip
    refine jv (v_field (k' := 0) rfl Try.runUnderlying83 rfl Try.sizeOf3 (by decide) rfl) (.yes rfl rfl rfl) rfl ?_
    refine jv (v_loadc rfl Try.isAgg3 rfl) (.yes rfl rfl rfl) rfl ?_
    refine jv (v_eql rfl rfl) (.yes rfl rfl rfl) rfl ?_
    refine jv (v_pickf rfl rfl) (.no rfl) rfl ?_
    refine jv (v_assign rfl) (.no rfl) rfl ?_
    refine jo_nil ?_
    refine je_next ?_
    refine j_ret ?_
    refine je_ret rfl rfl rfl rfl rfl (rvs := [.tmp 2]) rfl (.cons (.tmp rfl) .nil) () ?_ (fun w h => h.fin mem0) (.inl rfl)
    simp [resVal, there, *]

theorem f56_spec {v : Value} {cs : List Cell} {last serial : Int} (hn : cs.length ≤ 1000) : Spec Try.prog 56 [stA v last serial] [] [sl cellK v cs] Value (fun v' => slabA v' last) (fun _ => []) (fun v' => [sl c3K v' (plainC cs)]) := by
  refine spec_of Try.func56 rfl Try.ntmps56 (by simp) fun ok w => ?_
  refine j_seq ?_
  refine j_region ?_
  refine jx (x_boxc rfl) (.no rfl) rfl ?_
  intro B1
  refine jx (x_alloc Try.zeroValue77 Cells.agg) (.no rfl) rfl ?_
  intro B2
  refine jo_nil ?_
  refine je_next ?_
  refine j_seq ?_
  refine j_region ?_
  refine jv (v_field (k' := 1) rfl Try.runUnderlying37 rfl Try.sizeOf3 (by decide) rfl) (.no rfl) rfl ?_
  refine jv (v_loadc rfl Try.isAgg3 rfl) (.no rfl) rfl ?_
  refine jv (v_build rfl b77b) (.no rfl) rfl ?_
  refine jx (x_alloc Try.zeroValue77 Cells.agg) (.no rfl) rfl ?_
  intro B3
  refine jx (x_storec (cs' := [_, _]) rfl rfl rfl Try.sizeOf77 rfl rfl) (.no rfl) rfl ?_
  intro _
  refine jo_nil ?_
  refine je_next ?_
  refine j_seq ?_
  refine j_seq ?_
  refine j_region ?_
  refine jv (v_assign rfl) (.no rfl) rfl ?_
  refine jo_nil ?_
  refine je_next ?_
  refine j_block ?_
  refine j_to (fun _ _ h => h) (fun w h => h.own_nil c3K 119 (A := none)) ?_
  refine j_loopS (G := Nat × Value × List C3) [(1, _), (2, _), (3, _)] (fun k t => (4, iV ((k.1 : Nat) : Int)) :: t) (fun k t => .own c3K k.2.1 119 k.2.2 :: .blk B3 [k.2.1, iV last] 77 :: t) (fun k => k.1 ≤ cs.length ∧ k.2.2 = (plainC cs).take k.1) (fun k => cs.length - k.1) (0, .slice none 0 0, []) (by simp) (lsub rfl (lsub rfl (lsub rfl (lsub rfl lsub0)))) rfl (fun ⟨k, u, ds⟩ ⟨hk, hd⟩ => ?_)
  simp only at hk hd
  refine j_seq ?_
  refine j_seq ?_
  refine j_region ?_
  refine jv (v_move rfl) (.no rfl) rfl ?_
  refine jv (v_field (k' := 0) rfl Try.runUnderlying37 rfl Try.sizeOf35 (by decide) rfl) (.no rfl) rfl ?_
  refine jv (v_loadc rfl Try.isAgg35 rfl) (.no rfl) rfl ?_
  refine jv (v_len rfl FindR.row Try.runUnderlying35) (.no rfl) rfl ?_
  refine jv (v_lss rfl rfl) (.no rfl) rfl ?_
  refine jo_nil ?_
  refine je_next ?_
  refine j_if rfl (fun h1 => ?_) (fun h1 => ?_)
  · first | (with_reducible replace h1 := of_decide_eq_true h1) | skip
    refine j_skip ?_
    refine je_next ?_
    refine j_seq ?_
    refine j_block ?_
    have hkl : k < cs.length := by omega
    refine j_draw [17, 19] mixed ?_
    refine ja_take 0 rfl (by decide +kernel) (v_field (k' := 0) rfl Try.runUnderlying77 rfl Try.sizeOf75 (by decide) rfl) (.no rfl) rfl ?_
    refine ja_take 1 rfl (by decide +kernel) (v_loadc rfl Try.isAgg75 rfl) (.no rfl) rfl ?_
    refine ja_take 2 rfl (by decide +kernel) (v_field (k' := 0) rfl Try.runUnderlying37 rfl Try.sizeOf35 (by decide) rfl) (.no rfl) rfl ?_
    refine ja_take 3 rfl (by decide +kernel) (v_loadc rfl Try.isAgg35 rfl) (.no rfl) rfl ?_
    refine ja_take 4 rfl (by decide +kernel) (v_move rfl) (.no rfl) rfl ?_
    refine ja_take 5 rfl (by decide +kernel) (v_index rfl rfl FindR.row Try.runUnderlying35 Try.sizeOf83 (by omega) (by omega)) (.no rfl) rfl ?_
    refine ja_take 6 rfl (by decide +kernel) (v_efield (k' := 0) rfl FindR.row (by omega) Try.runUnderlying83 rfl Try.sizeOf3 (by decide) rfl) (.no rfl) rfl ?_
    refine ja_take 7 rfl (by decide +kernel) (v_eload rfl FindR.row (at_k hkl) (by decide) Try.isAgg3 (fun _ _ _ h => (cell_at h).elim fun _ h => by rw [h.1]; rfl)) (.no rfl) rfl ?_
    refine ja_take 8 rfl (by decide +kernel) (v_field (k' := 0) rfl Try.runUnderlying37 rfl Try.sizeOf35 (by decide) rfl) (.no rfl) rfl ?_
    refine ja_take 9 rfl (by decide +kernel) (v_loadc rfl Try.isAgg35 rfl) (.no rfl) rfl ?_
    refine ja_take 10 rfl (by decide +kernel) (v_move rfl) (.no rfl) rfl ?_
    refine ja_take 11 rfl (by decide +kernel) (v_index rfl rfl FindR.row Try.runUnderlying35 Try.sizeOf83 (by omega) (by omega)) (.no rfl) rfl ?_
    refine ja_take 12 rfl (by decide +kernel) (v_efield (k' := 1) rfl FindR.row (by omega) Try.runUnderlying83 rfl Try.sizeOf3 (by decide) rfl) (.no rfl) rfl ?_
    refine ja_take 13 rfl (by decide +kernel) (v_eload rfl FindR.row (at_k hkl) (by decide) Try.isAgg3 (fun _ _ _ h => (cell_at h).elim fun _ h => by rw [h.1]; rfl)) (.no rfl) rfl ?_
    refine ja_take 14 rfl (by decide +kernel) (v_move rfl) (.no rfl) rfl ?_
    refine ja_take 15 rfl (by decide +kernel) (v_build rfl b119) (.no rfl) rfl ?_
    refine ja_one (i := 16) (by decide +kernel) (jn_q rfl (q_lit1 (K := c3K) (plainF k cs[k]) rfl Cells.agg Try.runUnderlying75 Try.sizeOf119 Try.zeroValue119 rfl (by decide) (by decide) (fun _ _ _ => rfl)) (.no rfl) rfl ?_)
    intro v31
    refine ja_one (i := 17) (by decide +kernel) (jn_x rfl (by simp) (x_append rfl rfl (fun _ => Hole.put _) FindR.row Try.runUnderlying75 Try.sizeOf119 Try.zeroValue119 rfl Try.typeInfo119 (by decide) (by decide) (by subst hd; simp [plainC_len]; omega)) (.no rfl) rfl ?_)
    intro v32
    refine ja_take 18 rfl (by decide +kernel) (v_field (k' := 0) rfl Try.runUnderlying77 rfl Try.sizeOf75 (by decide) rfl) (.no rfl) rfl ?_
    refine ja_one (i := 19) (by decide +kernel) (jn_x rfl (by simp) (x_storec (cs' := [_, _]) rfl rfl rfl Try.sizeOf75 rfl rfl) (.no rfl) rfl ?_)
    intro _
    refine ja_nil (by decide +kernel) ?_
    refine je_block ?_
    refine je_next ?_
    refine j_region ?_
    refine jv (v_move rfl) (.no rfl) rfl ?_
    refine jv (v_add rfl rfl (by omega) (by omega)) (.no rfl) rfl ?_
    refine jv (v_assign rfl) (.no rfl) rfl ?_
    refine jo_nil ?_
    refine je_round (k + 1, _, _) (by simp only; refine ⟨by omega, ?_⟩; rw [plainC_take hkl, hd]) (by first | omega | (dsimp only; omega)) (lsub rfl (lsub rfl (lsub rfl (lsub rfl lsub0)))) (fun _ h => (h).sub fun p hp => (List.mem_append_right _ hp))
  · first | (with_reducible replace h1 := of_decide_eq_false h1) | skip
    refine j_exit ?_
    refine je_then (by simp) ?_
    refine je_then (by simp) ?_
    refine je_hit ?_
    refine je_next ?_
    refine j_seq ?_
    have hkl : k = cs.length := by omega
    have he : ds = plainC cs := by rw [hd, hkl, ← plainC_len cs, List.take_length]
    refine j_region ?_
    refine jv (v_loadAc (vs := [_, _]) rfl Try.isAgg77 Try.sizeOf77 rfl rfl) (.no rfl) rfl ?_
    refine jx (x_storec (cs' := [_, _]) rfl rfl rfl Try.sizeOf77 rfl rfl) (.no rfl) rfl ?_
    intro _
    refine jo_nil ?_
    refine je_next ?_
    refine j_ret ?_
    refine je_ret rfl rfl rfl rfl rfl (rvs := [.cell 2 77]) rfl (.cons (.agg (vs := [_, _]) rfl FindB.mem Try.isAgg77 Try.sizeOf77 rfl rfl) .nil) u ?_ (fun w h => (h.freeze0 .head).fin (by rw [he]; exact memc FindS.mem mem0)) (.inl rfl)
    rfl

theorem f58_spec {v : Value} {cs : List C3} {last : Int} : Spec Try.prog 58 [slabA v last] [] [sl c3K v cs] Unit (fun _ => .bool (right3 cs last)) (fun _ => []) (fun _ => []) := by
  refine spec_of Try.func58 rfl Try.ntmps58 (by simp) fun ok w => ?_
  refine j_len v fun hlx => ?_
  refine j_seq ?_
  refine j_region ?_
  refine jx (x_boxc rfl) (.no rfl) rfl ?_
  intro B1
  refine jv (v_assign rfl) (.no rfl) rfl ?_
  refine jo_nil ?_
  refine je_next ?_
  refine j_seq ?_
  refine j_seq ?_
  refine j_region ?_
  refine jv (v_field (k' := 0) rfl Try.runUnderlying77 rfl Try.sizeOf75 (by decide) rfl) (.no rfl) rfl ?_
  refine jv (v_loadc rfl Try.isAgg75 rfl) (.no rfl) rfl ?_
  refine jv (v_len rfl FindR.row Try.runUnderlying75) (.no rfl) rfl ?_
  refine jv (v_gtr rfl rfl) (.no rfl) rfl ?_
  refine jv (v_move rfl) (.no rfl) rfl ?_
  refine j_split 9 rfl (fun a1 => ?_) (fun a1 => ?_)
  · first | (with_reducible replace a1 := of_decide_eq_true a1) | skip
    refine j_off rfl rfl rfl (by decide) rfl ?_
    refine j_off rfl rfl rfl (by decide) rfl ?_
    refine j_off rfl rfl rfl (by decide) rfl ?_
    refine jv (v_pickt rfl rfl) (.no rfl) rfl ?_
    refine jv (v_move rfl) (.no rfl) rfl ?_
    refine j_off rfl rfl rfl (by decide) rfl ?_
    refine j_off rfl rfl rfl (by decide) rfl ?_
    refine j_off rfl rfl rfl (by decide) rfl ?_
    refine jv (v_pickt rfl rfl) (.no rfl) rfl ?_
    refine jo_nil ?_
    refine je_next ?_
    refine j_ift rfl ?_
    refine j_seq ?_
    refine j_region ?_
    refine jv (v_assign rfl) (.no rfl) rfl ?_
    refine jo_nil ?_
    refine je_next ?_
    refine j_ret ?_
    refine je_then (by simp) ?_
    refine je_ret rfl rfl rfl rfl rfl (rvs := [.tmp 2]) rfl (.cons (.tmp rfl) .nil) () ?_ (fun w h => h.fin mem0) (.inl rfl)
    first | exact congrArg Value.bool (right3_no hkl (by simp [okC3]; omega)) | exact congrArg Value.bool (right3_yes (by omega) (by omega) (by omega) (by omega) hk2) | (simp [resVal, right3]; omega)
  · first | (with_reducible replace a1 := of_decide_eq_false a1) | skip
    refine jv (v_field (k' := 1) rfl Try.runUnderlying77 rfl Try.sizeOf3 (by decide) rfl) (.yes rfl rfl rfl) rfl ?_
    refine jv (v_loadc rfl Try.isAgg3 rfl) (.yes rfl rfl rfl) rfl ?_
    refine jv (v_lss rfl rfl) (.yes rfl rfl rfl) rfl ?_
    refine jv (v_pickf rfl rfl) (.no rfl) rfl ?_
    refine jv (v_move rfl) (.no rfl) rfl ?_
    refine j_split 14 rfl (fun a2 => ?_) (fun a2 => ?_)
    · first | (with_reducible replace a2 := of_decide_eq_true a2) | skip
      refine j_off rfl rfl rfl (by decide) rfl ?_
      refine j_off rfl rfl rfl (by decide) rfl ?_
      refine j_off rfl rfl rfl (by decide) rfl ?_
      refine jv (v_pickt rfl rfl) (.no rfl) rfl ?_
      refine jo_nil ?_
      refine je_next ?_
      refine j_ift rfl ?_
      refine j_seq ?_
      refine j_region ?_
      refine jv (v_assign rfl) (.no rfl) rfl ?_
      refine jo_nil ?_
      refine je_next ?_
      refine j_ret ?_
      refine je_then (by simp) ?_
      refine je_ret rfl rfl rfl rfl rfl (rvs := [.tmp 2]) rfl (.cons (.tmp rfl) .nil) () ?_ (fun w h => h.fin mem0) (.inl rfl)
      first | exact congrArg Value.bool (right3_no hkl (by simp [okC3]; omega)) | exact congrArg Value.bool (right3_yes (by omega) (by omega) (by omega) (by omega) hk2) | (simp [resVal, right3]; omega)
    · first | (with_reducible replace a2 := of_decide_eq_false a2) | skip
      refine jv (v_field (k' := 1) rfl Try.runUnderlying77 rfl Try.sizeOf3 (by decide) rfl) (.yes rfl rfl rfl) rfl ?_
      refine jv (v_loadc rfl Try.isAgg3 rfl) (.yes rfl rfl rfl) rfl ?_
      refine jv (v_gtr rfl rfl) (.yes rfl rfl rfl) rfl ?_
      refine jv (v_pickf rfl rfl) (.no rfl) rfl ?_
      refine jo_nil ?_
      refine je_next ?_
      refine j_if rfl (fun a3 => ?_) (fun a3 => ?_)
      · first | (with_reducible replace a3 := of_decide_eq_true a3) | skip
        refine j_seq ?_
        refine j_region ?_
        refine jv (v_assign rfl) (.no rfl) rfl ?_
        refine jo_nil ?_
        refine je_next ?_
        refine j_ret ?_
        refine je_then (by simp) ?_
        refine je_ret rfl rfl rfl rfl rfl (rvs := [.tmp 2]) rfl (.cons (.tmp rfl) .nil) () ?_ (fun w h => h.fin mem0) (.inl rfl)
        first | exact congrArg Value.bool (right3_no hkl (by simp [okC3]; omega)) | exact congrArg Value.bool (right3_yes (by omega) (by omega) (by omega) (by omega) hk2) | (simp [resVal, right3]; omega)
      · first | (with_reducible replace a3 := of_decide_eq_false a3) | skip
        refine j_skip ?_
        refine je_next ?_
        refine j_seq ?_
        refine j_seq ?_
        refine j_region ?_
        refine jv (v_assign rfl) (.no rfl) rfl ?_
        refine jo_nil ?_
        refine je_next ?_
        refine j_block ?_
        refine j_loopS (G := Nat) [(1, _)] (fun k t => (3, iV ((k : Nat) : Int)) :: t) (fun k t => t) (fun k => k ≤ cs.length ∧ ∀ c ∈ cs.take k, okC3 last c = true) (fun k => cs.length - k) 0 (by simp) (lsub rfl (lsub rfl lsub0)) rfl (fun k ⟨hk, hk2⟩ => ?_)   -- dead: [2]
        refine j_seq ?_
        refine j_seq ?_
        refine j_region ?_
        refine jv (v_move rfl) (.no rfl) rfl ?_
        refine jv (v_field (k' := 0) rfl Try.runUnderlying77 rfl Try.sizeOf75 (by decide) rfl) (.no rfl) rfl ?_
        refine jv (v_loadc rfl Try.isAgg75 rfl) (.no rfl) rfl ?_
        refine jv (v_len rfl FindR.row Try.runUnderlying75) (.no rfl) rfl ?_
        refine jv (v_lss rfl rfl) (.no rfl) rfl ?_
        refine jo_nil ?_
        refine je_next ?_
        refine j_if rfl (fun c1 => ?_) (fun c1 => ?_)
        · first | (with_reducible replace c1 := of_decide_eq_true c1) | skip
          refine j_skip ?_
          refine je_next ?_
          refine j_seq ?_
          refine j_block ?_
          refine j_seq ?_
          have hkl : k < cs.length := by omega
          refine j_region ?_
          refine jv (v_field (k' := 0) rfl Try.runUnderlying77 rfl Try.sizeOf75 (by decide) rfl) (.no rfl) rfl ?_
          refine jv (v_loadc rfl Try.isAgg75 rfl) (.no rfl) rfl ?_
          refine jv (v_move rfl) (.no rfl) rfl ?_
          refine jv (v_index rfl rfl FindR.row Try.runUnderlying75 Try.sizeOf119 (by omega) (by omega)) (.no rfl) rfl ?_
          refine jq (OpL.q (l_eload rfl FindR.row (at_k hkl) (by decide) Try.isAgg119 Try.sizeOf119 (fun _ _ _ h => c3_all h))) (.no rfl) rfl ?_
          intro v30
          refine jx (x_alloc Try.zeroValue119 Cells.agg) (.no rfl) rfl ?_
          intro B4
          refine jx (x_storec (cs' := [_, _, _]) rfl rfl rfl Try.sizeOf119 rfl rfl) (.no rfl) rfl ?_
          intro _
          refine jo_nil ?_
          refine je_next ?_
          refine j_seq ?_
          refine j_region ?_
          refine jv (v_field (k' := 0) rfl Try.runUnderlying119 rfl Try.sizeOf3 (by decide) rfl) (.no rfl) rfl ?_
          refine jv (v_loadc rfl Try.isAgg3 rfl) (.no rfl) rfl ?_
          refine jv (v_lss rfl rfl) (.no rfl) rfl ?_
          refine jv (v_move rfl) (.no rfl) rfl ?_
          refine j_split 34 rfl (fun c2 => ?_) (fun c2 => ?_)
          · first | (with_reducible replace c2 := of_decide_eq_true c2) | skip
            refine j_off rfl rfl rfl (by decide) rfl ?_
            refine j_off rfl rfl rfl (by decide) rfl ?_
            refine j_off rfl rfl rfl (by decide) rfl ?_
            refine jv (v_pickt rfl rfl) (.no rfl) rfl ?_
            refine jv (v_move rfl) (.no rfl) rfl ?_
            refine j_off rfl rfl rfl (by decide) rfl ?_
            refine j_off rfl rfl rfl (by decide) rfl ?_
            refine j_off rfl rfl rfl (by decide) rfl ?_
            refine jv (v_pickt rfl rfl) (.no rfl) rfl ?_
            refine jv (v_move rfl) (.no rfl) rfl ?_
            refine j_off rfl rfl rfl (by decide) rfl ?_
            refine j_off rfl rfl rfl (by decide) rfl ?_
            refine j_off rfl rfl rfl (by decide) rfl ?_
            refine j_off rfl rfl rfl (by decide) rfl ?_
            refine j_off rfl rfl rfl (by decide) rfl ?_
            refine jv (v_pickt rfl rfl) (.no rfl) rfl ?_
            refine jo_nil ?_
            refine je_next ?_
            refine j_ift rfl ?_
            refine j_seq ?_
            refine j_region ?_
            refine jv (v_assign rfl) (.no rfl) rfl ?_
            refine jo_nil ?_
            refine je_next ?_
            refine j_ret ?_
            refine je_blockr ?_
            refine je_then (by simp) ?_
            refine je_then (by simp) ?_
            refine je_blockr ?_
            refine je_then (by simp) ?_
            refine je_ret rfl rfl rfl rfl rfl (rvs := [.tmp 2]) rfl (.cons (.tmp rfl) .nil) () ?_ (fun w h => h.fin mem0) (.inl rfl)
            first | exact congrArg Value.bool (right3_no hkl (by simp [okC3]; omega)) | exact congrArg Value.bool (right3_yes (by omega) (by omega) (by omega) (by omega) hk2) | (simp [resVal, right3]; omega)
          · first | (with_reducible replace c2 := of_decide_eq_false c2) | skip
            refine jv (v_field (k' := 0) rfl Try.runUnderlying119 rfl Try.sizeOf3 (by decide) rfl) (.yes rfl rfl rfl) rfl ?_
            refine jv (v_loadc rfl Try.isAgg3 rfl) (.yes rfl rfl rfl) rfl ?_
            refine jv (v_gtr rfl rfl) (.yes rfl rfl rfl) rfl ?_
            refine jv (v_pickf rfl rfl) (.no rfl) rfl ?_
            refine jv (v_move rfl) (.no rfl) rfl ?_
            refine j_split 39 rfl (fun c3 => ?_) (fun c3 => ?_)
            · first | (with_reducible replace c3 := of_decide_eq_true c3) | skip
              refine j_off rfl rfl rfl (by decide) rfl ?_
              refine j_off rfl rfl rfl (by decide) rfl ?_
              refine j_off rfl rfl rfl (by decide) rfl ?_
              refine jv (v_pickt rfl rfl) (.no rfl) rfl ?_
              refine jv (v_move rfl) (.no rfl) rfl ?_
              refine j_off rfl rfl rfl (by decide) rfl ?_
              refine j_off rfl rfl rfl (by decide) rfl ?_
              refine j_off rfl rfl rfl (by decide) rfl ?_
              refine j_off rfl rfl rfl (by decide) rfl ?_
              refine j_off rfl rfl rfl (by decide) rfl ?_
              refine jv (v_pickt rfl rfl) (.no rfl) rfl ?_
              refine jo_nil ?_
              refine je_next ?_
              refine j_ift rfl ?_
              refine j_seq ?_
              refine j_region ?_
              refine jv (v_assign rfl) (.no rfl) rfl ?_
              refine jo_nil ?_
              refine je_next ?_
              refine j_ret ?_
              refine je_blockr ?_
              refine je_then (by simp) ?_
              refine je_then (by simp) ?_
              refine je_blockr ?_
              refine je_then (by simp) ?_
              refine je_ret rfl rfl rfl rfl rfl (rvs := [.tmp 2]) rfl (.cons (.tmp rfl) .nil) () ?_ (fun w h => h.fin mem0) (.inl rfl)
              first | exact congrArg Value.bool (right3_no hkl (by simp [okC3]; omega)) | exact congrArg Value.bool (right3_yes (by omega) (by omega) (by omega) (by omega) hk2) | (simp [resVal, right3]; omega)
            · first | (with_reducible replace c3 := of_decide_eq_false c3) | skip
              refine jv (v_field (k' := 1) rfl Try.runUnderlying119 rfl Try.sizeOf3 (by decide) rfl) (.yes rfl rfl rfl) rfl ?_
              refine jv (v_loadc rfl Try.isAgg3 rfl) (.yes rfl rfl rfl) rfl ?_
              refine jv (v_lss rfl rfl) (.yes rfl rfl rfl) rfl ?_
              refine jv (v_pickf rfl rfl) (.no rfl) rfl ?_
              refine jv (v_move rfl) (.no rfl) rfl ?_
              refine j_split 44 rfl (fun c4 => ?_) (fun c4 => ?_)
              · first | (with_reducible replace c4 := of_decide_eq_true c4) | skip
                refine j_off rfl rfl rfl (by decide) rfl ?_
                refine j_off rfl rfl rfl (by decide) rfl ?_
                refine j_off rfl rfl rfl (by decide) rfl ?_
                refine j_off rfl rfl rfl (by decide) rfl ?_
                refine j_off rfl rfl rfl (by decide) rfl ?_
                refine jv (v_pickt rfl rfl) (.no rfl) rfl ?_
                refine jo_nil ?_
                refine je_next ?_
                refine j_ift rfl ?_
                refine j_seq ?_
                refine j_region ?_
                refine jv (v_assign rfl) (.no rfl) rfl ?_
                refine jo_nil ?_
                refine je_next ?_
                refine j_ret ?_
                refine je_blockr ?_
                refine je_then (by simp) ?_
                refine je_then (by simp) ?_
                refine je_blockr ?_
                refine je_then (by simp) ?_
                refine je_ret rfl rfl rfl rfl rfl (rvs := [.tmp 2]) rfl (.cons (.tmp rfl) .nil) () ?_ (fun w h => h.fin mem0) (.inl rfl)
                first | exact congrArg Value.bool (right3_no hkl (by simp [okC3]; omega)) | exact congrArg Value.bool (right3_yes (by omega) (by omega) (by omega) (by omega) hk2) | (simp [resVal, right3]; omega)
              · first | (with_reducible replace c4 := of_decide_eq_false c4) | skip
                refine jv (v_field (k' := 1) rfl Try.runUnderlying119 rfl Try.sizeOf3 (by decide) rfl) (.yes rfl rfl rfl) rfl ?_
                refine jv (v_loadc rfl Try.isAgg3 rfl) (.yes rfl rfl rfl) rfl ?_
                refine jv (v_field (k' := 1) rfl Try.runUnderlying77 rfl Try.sizeOf3 (by decide) rfl) (.yes rfl rfl rfl) rfl ?_
                refine jv (v_loadc rfl Try.isAgg3 rfl) (.yes rfl rfl rfl) rfl ?_
                refine jv (v_gtr rfl rfl) (.yes rfl rfl rfl) rfl ?_
                refine jv (v_pickf rfl rfl) (.no rfl) rfl ?_
                refine jo_nil ?_
                refine je_next ?_
                refine j_if rfl (fun c5 => ?_) (fun c5 => ?_)
                · first | (with_reducible replace c5 := of_decide_eq_true c5) | skip
                  refine j_seq ?_
                  refine j_region ?_
                  refine jv (v_assign rfl) (.no rfl) rfl ?_
                  refine jo_nil ?_
                  refine je_next ?_
                  refine j_ret ?_
                  refine je_blockr ?_
                  refine je_then (by simp) ?_
                  refine je_then (by simp) ?_
                  refine je_blockr ?_
                  refine je_then (by simp) ?_
                  refine je_ret rfl rfl rfl rfl rfl (rvs := [.tmp 2]) rfl (.cons (.tmp rfl) .nil) () ?_ (fun w h => h.fin mem0) (.inl rfl)
                  first | exact congrArg Value.bool (right3_no hkl (by simp [okC3]; omega)) | exact congrArg Value.bool (right3_yes (by omega) (by omega) (by omega) (by omega) hk2) | (simp [resVal, right3]; omega)
                · first | (with_reducible replace c5 := of_decide_eq_false c5) | skip
                  refine j_skip ?_
                  refine je_block ?_
                  refine je_next ?_
                  refine j_region ?_
                  refine jv (v_move rfl) (.no rfl) rfl ?_
                  refine jv (v_add rfl rfl (by omega) (by omega)) (.no rfl) rfl ?_
                  refine jv (v_assign rfl) (.no rfl) rfl ?_
                  refine jo_nil ?_
                  refine je_round (k + 1) (⟨by omega, take_mem hkl hk2 (by simp [okC3]; omega)⟩) (by first | omega | (dsimp only; omega)) (lsub rfl (lsub rfl lsub0)) (fun _ h => ((h).del .head).sub fun p hp => (List.mem_append_right _ hp))
        · first | (with_reducible replace c1 := of_decide_eq_false c1) | skip
          refine j_exit ?_
          refine je_then (by simp) ?_
          refine je_then (by simp) ?_
          refine je_hit ?_
          refine je_next ?_
          refine j_seq ?_
          refine j_region ?_
          refine jv (v_assign rfl) (.no rfl) rfl ?_
          refine jo_nil ?_
          refine je_next ?_
          refine j_ret ?_
          refine je_ret rfl rfl rfl rfl rfl (rvs := [.tmp 2]) rfl (.cons (.tmp rfl) .nil) () ?_ (fun w h => h.fin mem0) (.inl rfl)
          first | exact congrArg Value.bool (right3_no hkl (by simp [okC3]; omega)) | exact congrArg Value.bool (right3_yes (by omega) (by omega) (by omega) (by omega) hk2) | (simp [resVal, right3]; omega)

end Go.Proofs.Ytjgacbopccfecaa
