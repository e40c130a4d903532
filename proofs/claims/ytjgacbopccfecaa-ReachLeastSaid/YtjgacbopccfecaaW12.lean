/-
  Walks: function 28.
-/
import Derived.Test.YtjgacbopccfecaaX
import Derived.Test.YtjgacbopccfecaaW1
import Derived.Test.YtjgacbopccfecaaW11
set_option maxRecDepth 100000
set_option linter.unusedVariables false
set_option linter.unusedSimpArgs false
namespace Go.Proofs.Ytjgacbopccfecaa

theorem f28_spec {v : Value} {cs : List Cell} {last serial : Int} (hn : cs.length ≤ 1000) (hI : ∀ c ∈ cs, InI c.gen) (hA : Apart cs) : Spec Try.prog 28 [stA v last serial] [] [sl cellK v cs] Value (fun v' => v') (fun _ => []) (fun v' => [sl intK v' (liveP cs)]) := by
  refine spec_of Try.func28 rfl Try.ntmps28 (by simp) fun ok w => ?_
  refine j_len v fun hlx => ?_
  refine j_seq ?_
  refine j_region ?_
  refine jx (x_boxc rfl) (.no rfl) rfl ?_
  intro B1
  refine jv (v_assign rfl) (.no rfl) rfl ?_
  refine jo_nil ?_
  refine je_next ?_
  refine j_seq ?_
  refine j_to (fun _ _ h => h) (fun w h => h.freezeB0 (B := B1) .head) ?_
  refine j_region ?_
  refine jv (v_assign rfl) (.no rfl) rfl ?_
  refine jo_nil ?_
  refine je_next ?_
  refine j_seq ?_
  refine j_seq ?_
  refine j_region ?_
  refine jv (v_field (k' := 0) rfl Try.runUnderlying26 rfl Try.sizeOf24 (by decide) rfl) (.no rfl) rfl ?_
  refine jv (v_field (k' := 0) rfl Try.runUnderlying24 rfl Try.sizeOf22 (by decide) rfl) (.no rfl) rfl ?_
  refine jv (v_loadc rfl Try.isAgg22 rfl) (.no rfl) rfl ?_
  refine jv (v_len rfl FindR.row Try.runUnderlying22) (.no rfl) rfl ?_
  refine jv (v_move rfl) (.no rfl) rfl ?_
  refine jo_nil ?_
  refine je_next ?_
  refine j_block ?_
  refine j_to (fun _ _ h => h) (fun w h => h.own_nil intK 3 (A := none)) ?_
  refine j_loopS (G := Nat × Value × List Int) [(1, _), (2, _), (10, _), (11, _)] (fun k t => (3, k.2.1) :: (12, iV ((k.1 : Nat) : Int)) :: t) (fun k t => .own intK k.2.1 3 k.2.2 :: t) (fun k => k.1 ≤ cs.length ∧ k.2.2 = (hits (stB cs 1) k.1).map fun (i : Nat) => (i : Int)) (fun k => cs.length - k.1) (0, .slice none 0 0, []) (⟨Nat.zero_le _, rfl⟩) (lsub rfl (lsub rfl (lsub rfl (lsub rfl (lsub rfl (lsub rfl lsub0)))))) rfl (fun ⟨k, u, ds⟩ ⟨hk, hd0⟩ => ?_)
  simp only at hk hd0
  refine j_seq ?_
  refine j_region ?_
  refine jv (v_lss rfl rfl) (.no rfl) rfl ?_
  refine jo_nil ?_
  refine je_next ?_
  refine j_seq ?_
  refine j_if rfl (fun hc => ?_) (fun hc => ?_)
  · first | (with_reducible replace hc := of_decide_eq_true hc) | skip
    refine j_skip ?_
    refine je_next ?_
    refine j_seq ?_
    refine j_block ?_
    refine j_seq ?_
    have hkl : k < cs.length := by omega
    refine j_region ?_
    refine jv (v_move rfl) (.no rfl) rfl ?_
    refine jv (v_index rfl rfl FindR.row Try.runUnderlying22 Try.sizeOf81 (by omega) (by omega)) (.no rfl) rfl ?_
    refine jq (OpL.q (l_eload rfl FindR.row (at_k hkl) (by decide) Try.isAgg81 Try.sizeOf81 (fun _ _ _ h => cell_all h))) (.no rfl) rfl ?_
    intro v16
    refine jx (x_alloc Try.zeroValue81 Cells.agg) (.no rfl) rfl ?_
    intro B5
    refine jv (v_assign rfl) (.no rfl) rfl ?_
    refine jx (x_storec (cs' := [_, _, _, _, _, _, _, _]) rfl rfl rfl Try.sizeOf81 rfl rfl) (.no rfl) rfl ?_
    intro _
    refine jo_nil ?_
    refine je_next ?_
    refine j_seq ?_
    refine j_region ?_
    refine jv (v_field (k' := 0) rfl Try.runUnderlying81 rfl Try.sizeOf3 (by decide) rfl) (.no rfl) rfl ?_
    refine jv (v_loadc rfl Try.isAgg3 rfl) (.no rfl) rfl ?_
    refine jv (v_eql rfl rfl) (.no rfl) rfl ?_
    refine jo_nil ?_
    refine je_next ?_
    refine j_if rfl (fun s1 => ?_) (fun s1 => ?_)
    · first | (with_reducible replace s1 := of_decide_eq_true s1) | skip
      have hst : stB cs 1 k = true := by rw [stB_at hkl]; simpa using s1
      refine j_region ?_
      refine jv (v_move rfl) (.no rfl) rfl ?_
      refine jv (v_move rfl) (.no rfl) rfl ?_
      refine jq (q_lit1 (K := intK) ((k : Nat) : Int) rfl (Cells.one rfl) Try.runUnderlying27 Try.sizeOf3 Try.zeroValue3 rfl (by decide) (by decide) (fun _ _ _ => rfl)) (.no rfl) rfl ?_
      intro v22
      refine jx (x_append rfl rfl (fun _ => Hole.put _) FindR.row Try.runUnderlying27 Try.sizeOf3 Try.zeroValue3 rfl Try.typeInfo3 (by decide) (by decide) (by rw [hd0, List.length_map, List.length_singleton]; have := List.length_filter_le (stB cs 1) (List.range k); rw [List.length_range] at this; unfold hits; omega)) (.no rfl) rfl ?_
      intro v23
      refine jv (v_assign rfl) (.no rfl) rfl ?_
      refine jo_nil ?_
      refine je_block ?_
      refine je_next ?_
      refine j_region ?_
      refine jv (v_add rfl rfl (by omega) (by omega)) (.no rfl) rfl ?_
      refine jv (v_move rfl) (.no rfl) rfl ?_
      refine jo_nil ?_
      refine je_round (k + 1, _, _) (by simp only; refine ⟨by omega, ?_⟩; rw [hits_succ]; first | (rw [if_pos hst, List.map_append, hd0]; rfl) | (rw [if_neg (by rw [stB_at hkl]; simpa using s1), List.append_nil]; exact hd0)) (by first | omega | (dsimp only; omega)) (lsub rfl (lsub rfl (lsub rfl (lsub rfl (lsub rfl (lsub rfl lsub0)))))) (fun _ h => ((h).del .head).sub fun p hp => (List.mem_append_right _ (List.mem_append_right _ hp)))
    · first | (with_reducible replace s1 := of_decide_eq_false s1) | skip
      refine j_skip ?_
      refine je_block ?_
      refine je_next ?_
      refine j_region ?_
      refine jv (v_add rfl rfl (by omega) (by omega)) (.no rfl) rfl ?_
      refine jv (v_move rfl) (.no rfl) rfl ?_
      refine jo_nil ?_
      refine je_round (k + 1, _, _) (by simp only; refine ⟨by omega, ?_⟩; rw [hits_succ]; first | (rw [if_pos hst, List.map_append, hd0]; rfl) | (rw [if_neg (by rw [stB_at hkl]; simpa using s1), List.append_nil]; exact hd0)) (by first | omega | (dsimp only; omega)) (lsub rfl (lsub rfl (lsub rfl (lsub rfl (lsub rfl (lsub rfl lsub0)))))) (fun _ h => ((h).del .head).sub fun p hp => (List.mem_append_right _ hp))
  · first | (with_reducible replace hc := of_decide_eq_false hc) | skip
    refine j_exit ?_
    refine je_then (by simp) ?_
    refine je_then (by simp) ?_
    refine je_hit ?_
    refine je_next ?_
    refine j_seq ?_
    have hkl : k = cs.length := by omega
    have he : ds = (slots cs 1).map fun (i : Nat) => (i : Int) := by rw [hd0, hkl]; rfl
    subst he
    refine j_region ?_
    refine jv (v_move rfl) (.no rfl) rfl ?_
    refine jv (v_func rfl) (.no rfl) rfl ?_
    refine jx (x_callP1 (f65_live (vs := v) (last := last) (serial := serial) hA hn) Try.call65 (by rfl) rfl (memc FindM.mem (memc FindS.mem mem0)) (.cons .head .nil)) (.no rfl) rfl ?_
    intro _
    refine jo_nil ?_
    refine je_next ?_
    refine j_seq ?_
    refine j_seq ?_
    refine j_region ?_
    refine jv (v_move rfl) (.no rfl) rfl ?_
    refine jv (v_len rfl FindR.row Try.runUnderlying27) (.no rfl) rfl ?_
    refine jv (v_move rfl) (.no rfl) rfl ?_
    refine jo_nil ?_
    refine je_next ?_
    refine j_block ?_
    refine j_loopS (G := Nat × List Int) [(1, _), (2, _), (3, _), (28, _), (29, _)] (fun k t => (30, iV ((k.1 : Nat) : Int)) :: t) (fun k t => .own intK u 3 k.2 :: t) (fun k => k.1 ≤ (liveI cs).length ∧ k.2 = mixL cs k.1) (fun k => (liveI cs).length - k.1) (0, _) (⟨Nat.zero_le _, (mix_0 cs).symm⟩) (lsub rfl (lsub rfl (lsub rfl (lsub rfl (lsub rfl (lsub rfl lsub0)))))) rfl (fun ⟨m, ls⟩ ⟨hm, hl⟩ => ?_)
    simp only at hm hl
    refine j_seq ?_
    refine j_region ?_
    refine jv (v_lss rfl rfl) (.no rfl) rfl ?_
    refine jo_nil ?_
    refine je_next ?_
    refine j_seq ?_
    refine j_if rfl (fun hc2 => ?_) (fun hc2 => ?_)
    · first | (with_reducible replace hc2 := of_decide_eq_true hc2) | skip
      refine j_skip ?_
      refine je_next ?_
      refine j_seq ?_
      refine j_block ?_
      refine j_seq ?_
      rw [List.length_map] at hc2
      have hkk : m < (liveI cs).length := by omega
      have hil := live_lt hkk
      have hlc := slots_len cs 1
      rw [← liveI_len] at hlc
      refine j_region ?_
      refine jv (v_move rfl) (.no rfl) rfl ?_
      refine jv (v_index rfl rfl FindR.row Try.runUnderlying27 Try.sizeOf3 (by omega) (by rw [hl, mix_len]; omega)) (.no rfl) rfl ?_
      refine jv (v_eload rfl FindR.row (by rw [hl]; exact mix_at hkk) (by decide) Try.isAgg3 (fun _ _ _ h => int_at h)) (.no rfl) rfl ?_
      refine jv (v_assign rfl) (.no rfl) rfl ?_
      refine jv (v_assign rfl) (.no rfl) rfl ?_
      refine jo_nil ?_
      refine je_next ?_
      refine j_region ?_
      refine jv (v_move rfl) (.no rfl) rfl ?_
      refine jv (v_move rfl) (.no rfl) rfl ?_
      refine jv (v_move rfl) (.no rfl) rfl ?_
      refine jv (v_field (k' := 0) rfl Try.runUnderlying26 rfl Try.sizeOf24 (by decide) rfl) (.no rfl) rfl ?_
      refine jv (v_field (k' := 0) rfl Try.runUnderlying24 rfl Try.sizeOf22 (by decide) rfl) (.no rfl) rfl ?_
      refine jv (v_loadc rfl Try.isAgg22 rfl) (.no rfl) rfl ?_
      refine jv (v_move rfl) (.no rfl) rfl ?_
      refine jv (v_index rfl rfl FindR.row Try.runUnderlying22 Try.sizeOf81 (by omega) (by omega)) (.no rfl) rfl ?_
      refine jv (v_efield (k' := 1) rfl FindR.row (by omega) Try.runUnderlying81 rfl Try.sizeOf3 (by decide) rfl) (.no rfl) rfl ?_
      refine jv (v_eload rfl FindR.row (at_k hil) (by decide) Try.isAgg3 (fun _ _ _ h => (cell_at h).elim fun _ h => by rw [h.1]; rfl)) (.no rfl) rfl ?_
      refine jq (q_callP (f68_spec (by unfold InI; omega) (hI _ (List.getElem_mem hil))) Try.call68 (by rfl) rfl mem0) (.no rfl) rfl ?_
      intro x45
      refine jv (v_index rfl rfl FindR.row Try.runUnderlying27 Try.sizeOf3 (by omega) (by rw [hl, mix_len]; omega)) (.no rfl) rfl ?_
      refine jx (x_storeE (e' := (pack ((liveI cs)[m] : Nat) (cs[(liveI cs)[m]]'hil).gen)) rfl rfl (by rw [hl]; exact mix_at hkk) (Hole.put _) Try.sizeOf3 rfl (by decide) (fun ok h c _ h => by rw [show c = _ from h]; rfl)) (.no rfl) rfl ?_
      intro _
      refine jo_nil ?_
      refine je_block ?_
      refine je_next ?_
      refine j_region ?_
      refine jv (v_add rfl rfl (by omega) (by omega)) (.no rfl) rfl ?_
      refine jv (v_move rfl) (.no rfl) rfl ?_
      refine jo_nil ?_
      refine je_round (m + 1, _) (by simp only; refine ⟨by omega, ?_⟩; rw [hl, hd_eq hil]; exact mix_set hkk) (by first | omega | (dsimp only; omega)) (lsub rfl (lsub rfl (lsub rfl (lsub rfl (lsub rfl (lsub rfl lsub0)))))) (fun _ h => (h).sub fun p hp => (List.mem_append_right _ hp))
    · first | (with_reducible replace hc2 := of_decide_eq_false hc2) | skip
      refine j_exit ?_
      refine je_then (by simp) ?_
      refine je_then (by simp) ?_
      refine je_hit ?_
      refine je_next ?_
      refine j_seq ?_
      rw [List.length_map] at hc2
      have he2 : ls = liveP cs := by rw [hl, mix_all (by omega)]
      refine j_region ?_
      refine jv (v_move rfl) (.no rfl) rfl ?_
      refine jv (v_assign rfl) (.no rfl) rfl ?_
      refine jo_nil ?_
      refine je_next ?_
      refine j_ret ?_
      refine je_ret rfl rfl rfl rfl rfl (rvs := [.tmp 2]) rfl (.cons (.tmp rfl) .nil) u ?_ (fun w h => (h.freeze0 .head).fin (by rw [he2]; exact memc FindS.mem mem0)) (.inl rfl)
      rfl

end Go.Proofs.Ytjgacbopccfecaa
