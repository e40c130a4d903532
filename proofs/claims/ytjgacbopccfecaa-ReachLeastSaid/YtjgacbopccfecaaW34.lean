/-
  Walks: function 84, function 81, function 114, function 135, function 113, function 82, function 44, function 46, function 48, function 50.
-/
import Derived.Test.YtjgacbopccfecaaN11
import Derived.Test.YtjgacbopccfecaaBk
import Derived.Test.YtjgacbopccfecaaW2
import Derived.Test.YtjgacbopccfecaaW3
import Derived.Test.YtjgacbopccfecaaW4
import Derived.Test.YtjgacbopccfecaaW22
set_option maxRecDepth 100000
set_option linter.unusedVariables false
set_option linter.unusedSimpArgs false
namespace Go.Proofs.Ytjgacbopccfecaa

theorem f84_spec {v : Value} {l : List Int} {h : Int} : Spec Try.prog 84 [v, iV h] [] [sl intK v l] Unit (fun _ => .bool (hasP l h)) (fun _ => []) (fun _ => []) := by
  refine spec_of Try.func84 rfl Try.ntmps84 (by simp) fun ok w => ?_
  refine j_seq ?_
  refine j_region ?_
  refine jv (v_assign rfl) (.no rfl) rfl ?_
  refine jo_nil ?_
  refine je_next ?_
  refine j_seq ?_
  refine j_region ?_
  refine jv (v_move rfl) (.no rfl) rfl ?_
  refine jv (v_move rfl) (.no rfl) rfl ?_
  refine jq (q_callP (f51_spec) Try.call51 (by rfl) rfl (memc FindS.mem mem0)) (.no rfl) rfl ?_
  intro x7
  refine jv (v_gtr rfl rfl) (.no rfl) rfl ?_
  refine jv (v_assign rfl) (.no rfl) rfl ?_
  refine jo_nil ?_
  refine je_next ?_
  refine j_ret ?_
  refine je_ret rfl rfl rfl rfl rfl (rvs := [.tmp 4]) rfl (.cons (.tmp rfl) .nil) () ?_ (fun w h => h.fin mem0) (.inl rfl)
  rfl

theorem f81_spec {va vl : Value} {all l : List Int} {b : Bool} (hn : all.length ≤ 1000) : Spec Try.prog 81 [va, vl, .bool b] [] [sl intK va all, sl intK vl l] Value (fun v => v) (fun _ => []) (fun v => [sl intK v (thoseP all l b)]) := by
  refine spec_of Try.func81 rfl Try.ntmps81 (by simp) fun ok w => ?_
  refine j_seq ?_
  refine j_region ?_
  refine jv (v_assign rfl) (.no rfl) rfl ?_
  refine jo_nil ?_
  refine je_next ?_
  refine j_seq ?_
  refine j_region ?_
  refine jx (x_lit0 intK rfl Try.runUnderlying27 Try.sizeOf3) (.no rfl) rfl ?_
  intro v9
  refine jv (v_assign rfl) (.no rfl) rfl ?_
  refine jo_nil ?_
  refine je_next ?_
  refine j_seq ?_
  refine j_seq ?_
  refine j_region ?_
  refine jv (v_assign rfl) (.no rfl) rfl ?_
  refine jo_nil ?_
  refine je_next ?_
  refine j_block ?_
  refine j_loopS (G := Nat × Value × List Int) [(0, _), (1, _), (2, _), (6, _)] (fun k t => (7, k.2.1) :: (8, iV ((k.1 : Nat) : Int)) :: t) (fun k t => .own intK k.2.1 3 k.2.2 :: t) (fun k => k.1 ≤ all.length ∧ k.2.2 = (all.take k.1).filter (fun h => hasP l h == b)) (fun k => all.length - k.1) (0, _, []) (⟨Nat.zero_le _, rfl⟩) (lsub rfl (lsub rfl (lsub rfl (lsub rfl (lsub rfl (lsub rfl lsub0)))))) rfl (fun ⟨k, u, ds⟩ ⟨hk, hd0⟩ => ?_)
  simp only at hk hd0
  have hld : ds.length ≤ k := by rw [hd0]; exact Nat.le_trans (List.length_filter_le _ _) (by rw [List.length_take]; omega)
  refine j_seq ?_
  refine j_seq ?_
  refine j_region ?_
  refine jv (v_move rfl) (.no rfl) rfl ?_
  refine jv (v_move rfl) (.no rfl) rfl ?_
  refine jv (v_len rfl FindR.row Try.runUnderlying27) (.no rfl) rfl ?_
  refine jv (v_lss rfl rfl) (.no rfl) rfl ?_
  refine jo_nil ?_
  refine je_next ?_
  refine j_if rfl (fun hc => ?_) (fun hc => ?_)
  · first | (with_reducible replace hc := of_decide_eq_true hc) | skip
    refine j_skip ?_
    refine je_next ?_
    refine j_seq ?_
    refine j_block ?_
    refine j_seq ?_
    dsimp only at hc
    have hkl : k < all.length := by omega
    refine j_region ?_
    refine jv (v_move rfl) (.no rfl) rfl ?_
    refine jv (v_move rfl) (.no rfl) rfl ?_
    refine jv (v_move rfl) (.no rfl) rfl ?_
    refine jv (v_index rfl rfl FindR.row Try.runUnderlying27 Try.sizeOf3 (by omega) (by omega)) (.no rfl) rfl ?_
    refine jv (v_eload rfl FindR.row (at_k hkl) (by decide) Try.isAgg3 (fun _ _ _ h => int_at h)) (.no rfl) rfl ?_
    refine jq (q_callP (f84_spec) Try.call84 (by rfl) rfl (memc FindS.mem mem0)) (.no rfl) rfl ?_
    intro x21
    refine jv (v_move rfl) (.no rfl) rfl ?_
    refine jv (v_beql Try.underlying4 rfl rfl) (.no rfl) rfl ?_
    refine jo_nil ?_
    refine je_next ?_
    refine j_if rfl (fun z1 => ?_) (fun z1 => ?_)
    · first | (with_reducible replace z1 := of_decide_eq_true z1) | skip
      refine j_region ?_
      refine jv (v_move rfl) (.no rfl) rfl ?_
      refine jv (v_move rfl) (.no rfl) rfl ?_
      refine jv (v_move rfl) (.no rfl) rfl ?_
      refine jv (v_index rfl rfl FindR.row Try.runUnderlying27 Try.sizeOf3 (by omega) (by omega)) (.no rfl) rfl ?_
      refine jv (v_eload rfl FindR.row (at_k hkl) (by decide) Try.isAgg3 (fun _ _ _ h => int_at h)) (.no rfl) rfl ?_
      refine jq (q_lit1 (K := intK) all[k] rfl (Cells.one rfl) Try.runUnderlying27 Try.sizeOf3 Try.zeroValue3 rfl (by decide) (by decide) (fun _ _ _ => rfl)) (.no rfl) rfl ?_
      intro v29
      refine jx (x_append rfl rfl (fun _ => Hole.put _) FindR.row Try.runUnderlying27 Try.sizeOf3 Try.zeroValue3 rfl Try.typeInfo3 (by decide) (by decide) (by simp only [List.length_singleton]; omega)) (.no rfl) rfl ?_
      intro v30
      refine jv (v_assign rfl) (.no rfl) rfl ?_
      refine jo_nil ?_
      refine je_block ?_
      refine je_next ?_
      refine j_region ?_
      refine jv (v_move rfl) (.no rfl) rfl ?_
      refine jv (v_add rfl rfl (by omega) (by omega)) (.no rfl) rfl ?_
      refine jv (v_assign rfl) (.no rfl) rfl ?_
      refine jo_nil ?_
      refine je_round (k + 1, v30, ds ++ [all[k]]) (by dsimp only; refine ⟨by omega, ?_⟩; rw [filter_succ hkl, hd0]; first | (rw [if_pos (by rw [beq_iff_eq]; exact z1)]) | (rw [if_neg (by rw [beq_iff_eq]; exact z1), List.append_nil])) (by dsimp only; omega) (lsub rfl (lsub rfl (lsub rfl (lsub rfl (lsub rfl (lsub rfl lsub0)))))) (fun _ h => (h).sub fun p hp => (List.mem_append_right _ (List.mem_append_right _ hp)))
    · first | (with_reducible replace z1 := of_decide_eq_false z1) | skip
      refine j_skip ?_
      refine je_block ?_
      refine je_next ?_
      refine j_region ?_
      refine jv (v_move rfl) (.no rfl) rfl ?_
      refine jv (v_add rfl rfl (by omega) (by omega)) (.no rfl) rfl ?_
      refine jv (v_assign rfl) (.no rfl) rfl ?_
      refine jo_nil ?_
      refine je_round (k + 1, u, ds) (by dsimp only; refine ⟨by omega, ?_⟩; rw [filter_succ hkl, hd0]; first | (rw [if_pos (by rw [beq_iff_eq]; exact z1)]) | (rw [if_neg (by rw [beq_iff_eq]; exact z1), List.append_nil])) (by dsimp only; omega) (lsub rfl (lsub rfl (lsub rfl (lsub rfl (lsub rfl (lsub rfl lsub0)))))) (fun _ h => (h).sub fun p hp => (List.mem_append_right _ hp))
  · first | (with_reducible replace hc := of_decide_eq_false hc) | skip
    refine j_exit ?_
    refine je_then (by simp) ?_
    refine je_then (by simp) ?_
    refine je_hit ?_
    refine je_next ?_
    refine j_seq ?_
    refine j_region ?_
    refine jv (v_move rfl) (.no rfl) rfl ?_
    refine jv (v_assign rfl) (.no rfl) rfl ?_
    refine jo_nil ?_
    refine je_next ?_
    refine j_ret ?_
    dsimp only at hc
    have e : ds = thoseP all l b := by rw [hd0, List.take_of_length_le (by omega)]; rfl
    refine je_ret rfl rfl rfl rfl rfl (rvs := [.tmp 6]) rfl (.cons (.tmp rfl) .nil) u ?_ (fun w h => (h.freeze0 .head).fin (by rw [← e]; exact memc FindS.mem mem0)) (.inl rfl)
    rfl

theorem f114_spec {v : Value} {xs : List Int} (hn : xs.length ≤ 1000) : Spec Try.prog 114 [v] [] [sl intK v xs] Value (fun v => v) (fun _ => []) (fun v => [sl intK v (namesL xs)]) := by
  refine spec_of Try.func114 rfl Try.ntmps114 (by simp) fun ok w => ?_
  refine j_seq ?_
  refine j_region ?_
  refine jv (v_assign rfl) (.no rfl) rfl ?_
  refine jo_nil ?_
  refine je_next ?_
  refine j_seq ?_
  refine j_region ?_
  refine jx (x_lit0 intK rfl Try.runUnderlying27 Try.sizeOf3) (.no rfl) rfl ?_
  intro v5
  refine jv (v_assign rfl) (.no rfl) rfl ?_
  refine jo_nil ?_
  refine je_next ?_
  refine j_seq ?_
  refine j_seq ?_
  refine j_region ?_
  refine jv (v_assign rfl) (.no rfl) rfl ?_
  refine jo_nil ?_
  refine je_next ?_
  refine j_block ?_
  refine j_loopS (G := Nat × Value × List Int) [(0, _), (2, _)] (fun k t => (3, k.2.1) :: (4, iV ((k.1 : Nat) : Int)) :: t) (fun k t => .own intK k.2.1 3 k.2.2 :: t) (fun k => k.1 ≤ xs.length ∧ k.2.2 = namesL (xs.take k.1)) (fun k => xs.length - k.1) (0, _, []) (⟨Nat.zero_le _, rfl⟩) (lsub rfl (lsub rfl (lsub rfl (lsub rfl lsub0)))) rfl (fun ⟨k, u, ds⟩ ⟨hk, hd0⟩ => ?_)
  simp only at hk hd0
  have hld : ds.length ≤ k := by rw [hd0]; exact Nat.le_trans (names_le _) (by rw [List.length_take]; omega)
  refine j_seq ?_
  refine j_seq ?_
  refine j_region ?_
  refine jv (v_move rfl) (.no rfl) rfl ?_
  refine jv (v_move rfl) (.no rfl) rfl ?_
  refine jv (v_len rfl FindR.row Try.runUnderlying27) (.no rfl) rfl ?_
  refine jv (v_lss rfl rfl) (.no rfl) rfl ?_
  refine jo_nil ?_
  refine je_next ?_
  refine j_if rfl (fun hc => ?_) (fun hc => ?_)
  · first | (with_reducible replace hc := of_decide_eq_true hc) | skip
    refine j_skip ?_
    refine je_next ?_
    refine j_seq ?_
    refine j_block ?_
    refine j_seq ?_
    dsimp only at hc
    have hkl : k < xs.length := by omega
    refine j_region ?_
    refine jv (v_move rfl) (.no rfl) rfl ?_
    refine jv (v_move rfl) (.no rfl) rfl ?_
    refine jv (v_index rfl rfl FindR.row Try.runUnderlying27 Try.sizeOf3 (by omega) (by omega)) (.no rfl) rfl ?_
    refine jv (v_eload rfl FindR.row (at_k hkl) (by decide) Try.isAgg3 (fun _ _ _ h => int_at h)) (.no rfl) rfl ?_
    refine jv (v_neq rfl rfl) (.no rfl) rfl ?_
    refine jo_nil ?_
    refine je_next ?_
    refine j_if rfl (fun z1 => ?_) (fun z1 => ?_)
    · first | (with_reducible replace z1 := of_decide_eq_true z1) | skip
      refine j_region ?_
      refine jv (v_move rfl) (.no rfl) rfl ?_
      refine jv (v_move rfl) (.no rfl) rfl ?_
      refine jv (v_move rfl) (.no rfl) rfl ?_
      refine jv (v_index rfl rfl FindR.row Try.runUnderlying27 Try.sizeOf3 (by omega) (by omega)) (.no rfl) rfl ?_
      refine jv (v_eload rfl FindR.row (at_k hkl) (by decide) Try.isAgg3 (fun _ _ _ h => int_at h)) (.no rfl) rfl ?_
      refine jq (q_lit1 (K := intK) xs[k] rfl (Cells.one rfl) Try.runUnderlying27 Try.sizeOf3 Try.zeroValue3 rfl (by decide) (by decide) (fun _ _ _ => rfl)) (.no rfl) rfl ?_
      intro v22
      refine jx (x_append rfl rfl (fun _ => Hole.put _) FindR.row Try.runUnderlying27 Try.sizeOf3 Try.zeroValue3 rfl Try.typeInfo3 (by decide) (by decide) (by simp only [List.length_singleton]; omega)) (.no rfl) rfl ?_
      intro v23
      refine jv (v_assign rfl) (.no rfl) rfl ?_
      refine jo_nil ?_
      refine je_block ?_
      refine je_next ?_
      refine j_region ?_
      refine jv (v_move rfl) (.no rfl) rfl ?_
      refine jv (v_add rfl rfl (by omega) (by omega)) (.no rfl) rfl ?_
      refine jv (v_assign rfl) (.no rfl) rfl ?_
      refine jo_nil ?_
      refine je_round (k + 1, v23, ds ++ [xs[k]]) (by dsimp only; refine ⟨by omega, ?_⟩; rw [names_succ hkl, hd0]; first | (rw [if_pos z1]) | (rw [if_neg z1, List.append_nil])) (by dsimp only; omega) (lsub rfl (lsub rfl (lsub rfl (lsub rfl lsub0)))) (fun _ h => (h).sub fun p hp => (List.mem_append_right _ hp))
    · first | (with_reducible replace z1 := of_decide_eq_false z1) | skip
      refine j_skip ?_
      refine je_block ?_
      refine je_next ?_
      refine j_region ?_
      refine jv (v_move rfl) (.no rfl) rfl ?_
      refine jv (v_add rfl rfl (by omega) (by omega)) (.no rfl) rfl ?_
      refine jv (v_assign rfl) (.no rfl) rfl ?_
      refine jo_nil ?_
      refine je_round (k + 1, u, ds) (by dsimp only; refine ⟨by omega, ?_⟩; rw [names_succ hkl, hd0]; first | (rw [if_pos z1]) | (rw [if_neg z1, List.append_nil])) (by dsimp only; omega) (lsub rfl (lsub rfl (lsub rfl (lsub rfl lsub0)))) (fun _ h => (h).sub fun p hp => hp)
  · first | (with_reducible replace hc := of_decide_eq_false hc) | skip
    refine j_exit ?_
    refine je_then (by simp) ?_
    refine je_then (by simp) ?_
    refine je_hit ?_
    refine je_next ?_
    refine j_seq ?_
    refine j_region ?_
    refine jv (v_move rfl) (.no rfl) rfl ?_
    refine jv (v_assign rfl) (.no rfl) rfl ?_
    refine jo_nil ?_
    refine je_next ?_
    refine j_ret ?_
    dsimp only at hc
    have e : ds = namesL xs := by rw [hd0, List.take_of_length_le (by omega)]
    refine je_ret rfl rfl rfl rfl rfl (rvs := [.tmp 2]) rfl (.cons (.tmp rfl) .nil) u ?_ (fun w h => (h.freeze0 .head).fin (by rw [← e]; exact memc FindS.mem mem0)) (.inl rfl)
    rfl

theorem f135_spec {v : Value} {cs : List C3} {last h : Int} : Spec Try.prog 135 [slabA v last, iV h] [] [sl c3K v cs] Unit (fun _ => .tuple [iV (get3 cs h).1, iV (get3 cs h).2].toArray) (fun _ => []) (fun _ => []) := by
  refine spec_of Try.func135 rfl Try.ntmps135 (by simp) fun ok w => ?_
  refine j_seq ?_
  refine j_region ?_
  refine jx (x_boxc rfl) (.no rfl) rfl ?_
  intro B2
  refine jv (v_assign rfl) (.no rfl) rfl ?_
  refine jv (v_assign rfl) (.no rfl) rfl ?_
  refine jo_nil ?_
  refine je_next ?_
  refine j_seq ?_
  refine j_region ?_
  refine jv (v_loadAc (vs := [_, _]) rfl Try.isAgg77 Try.sizeOf77 rfl rfl) (.no rfl) rfl ?_
  refine jv (v_move rfl) (.no rfl) rfl ?_
  refine jq (q_callP (f55_spec) Try.call55 (by rfl) rfl (memc FindS.mem mem0)) (.no rfl) rfl ?_
  intro x11
  refine jv (v_move rfl) (.no rfl) rfl ?_
  refine jv (v_ext rfl rfl) (.no rfl) rfl ?_
  refine jv (v_ext rfl rfl) (.no rfl) rfl ?_
  refine jv (v_assign rfl) (.no rfl) rfl ?_
  refine jv (v_assign rfl) (.no rfl) rfl ?_
  refine jo_nil ?_
  refine je_next ?_
  refine j_seq ?_
  refine j_seq ?_
  refine j_region ?_
  refine jv (v_move rfl) (.no rfl) rfl ?_
  refine jv (v_neq rfl rfl) (.no rfl) rfl ?_
  refine jo_nil ?_
  refine je_next ?_
  refine j_if rfl (fun z1 => ?_) (fun z1 => ?_)
  · first | (with_reducible replace z1 := of_decide_eq_true z1) | skip
    refine j_seq ?_
    refine j_region ?_
    refine jv (v_move rfl) (.no rfl) rfl ?_
    refine jv (v_assign rfl) (.no rfl) rfl ?_
    refine jv (v_assign rfl) (.no rfl) rfl ?_
    refine jo_nil ?_
    refine je_next ?_
    refine j_ret ?_
    refine je_then (by simp) ?_
    refine je_ret rfl rfl rfl rfl rfl (rvs := [.tmp 4, .tmp 5]) rfl (.cons (.tmp rfl) (.cons (.tmp rfl) .nil)) () ?_ (fun w h => h.fin mem0) (.inl rfl)
    first | (rw [get3_no z1]; rfl) | (rw [get3_2 z1 hkl z2]; rfl) | (rw [get3_ok z1 hkl z2]; rfl)
  · first | (with_reducible replace z1 := of_decide_eq_false z1) | skip
    refine j_skip ?_
    refine je_next ?_
    refine j_seq ?_
    refine j_seq ?_
    have z1 : (find3 cs h).2 = 0 := by simpa using z1
    have hb := find3_bound cs h z1
    have hkl : (find3 cs h).1.toNat < cs.length := by omega
    refine j_region ?_
    refine jv (v_field (k' := 0) rfl Try.runUnderlying77 rfl Try.sizeOf75 (by decide) rfl) (.no rfl) rfl ?_
    refine jv (v_loadc rfl Try.isAgg75 rfl) (.no rfl) rfl ?_
    refine jv (v_move rfl) (.no rfl) rfl ?_
    refine jv (v_index rfl rfl FindR.row Try.runUnderlying75 Try.sizeOf119 (by omega) (by omega)) (.no rfl) rfl ?_
    refine jv (v_efield (k' := 0) rfl FindR.row (by omega) Try.runUnderlying119 rfl Try.sizeOf3 (by decide) rfl) (.no rfl) rfl ?_
    refine jv (v_eload rfl FindR.row (at_k hkl) (by decide) Try.isAgg3 (fun _ _ _ h => by rw [show _ = _ from h]; rfl)) (.no rfl) rfl ?_
    refine jv (v_eql rfl rfl) (.no rfl) rfl ?_
    refine jo_nil ?_
    refine je_next ?_
    refine j_if rfl (fun z2 => ?_) (fun z2 => ?_)
    · first | (with_reducible replace z2 := of_decide_eq_true z2) | skip
      refine j_seq ?_
      refine j_region ?_
      refine jv (v_assign rfl) (.no rfl) rfl ?_
      refine jv (v_assign rfl) (.no rfl) rfl ?_
      refine jo_nil ?_
      refine je_next ?_
      refine j_ret ?_
      refine je_then (by simp) ?_
      refine je_ret rfl rfl rfl rfl rfl (rvs := [.tmp 4, .tmp 5]) rfl (.cons (.tmp rfl) (.cons (.tmp rfl) .nil)) () ?_ (fun w h => h.fin mem0) (.inl rfl)
      first | (rw [get3_no z1]; rfl) | (rw [get3_2 z1 hkl z2]; rfl) | (rw [get3_ok z1 hkl z2]; rfl)
    · first | (with_reducible replace z2 := of_decide_eq_false z2) | skip
      refine j_skip ?_
      refine je_next ?_
      refine j_seq ?_
      refine j_region ?_
      refine jv (v_field (k' := 0) rfl Try.runUnderlying77 rfl Try.sizeOf75 (by decide) rfl) (.no rfl) rfl ?_
      refine jv (v_loadc rfl Try.isAgg75 rfl) (.no rfl) rfl ?_
      refine jv (v_move rfl) (.no rfl) rfl ?_
      refine jv (v_index rfl rfl FindR.row Try.runUnderlying75 Try.sizeOf119 (by omega) (by omega)) (.no rfl) rfl ?_
      refine jv (v_efield (k' := 2) rfl FindR.row (by omega) Try.runUnderlying119 rfl Try.sizeOf3 (by decide) rfl) (.no rfl) rfl ?_
      refine jv (v_eload rfl FindR.row (at_k hkl) (by decide) Try.isAgg3 (fun _ _ _ h => by rw [show _ = _ from h]; rfl)) (.no rfl) rfl ?_
      refine jv (v_assign rfl) (.no rfl) rfl ?_
      refine jv (v_assign rfl) (.no rfl) rfl ?_
      refine jo_nil ?_
      refine je_next ?_
      refine j_ret ?_
      refine je_ret rfl rfl rfl rfl rfl (rvs := [.tmp 4, .tmp 5]) rfl (.cons (.tmp rfl) (.cons (.tmp rfl) .nil)) () ?_ (fun w h => h.fin mem0) (.inl rfl)
      first | (rw [get3_no z1]; rfl) | (rw [get3_2 z1 hkl z2]; rfl) | (rw [get3_ok z1 hkl z2]; rfl)

theorem f113_spec {v : Value} {cs : List Cell} {last serial h : Int} (hG : Gens cs) : Spec Try.prog 113 [stA v last serial, iV h] [] [sl cellK v cs] Value (fun f => .tuple [objA (getP cs h).1 f, iV (getP cs h).2].toArray) (fun _ => []) (fun f => [sl intK f (getP cs h).1.fields]) := by
  refine spec_of Try.func113 rfl Try.ntmps113 (by simp) fun ok w => ?_
  have hn := hG.1
  obtain ⟨g1, g2⟩ := get3_same hG h
  refine j_seq ?_
  refine j_region ?_
  refine jx (x_boxc rfl) (.no rfl) rfl ?_
  intro B2
  refine jx (x_alloc Try.zeroValue41 Cells.agg) (.no rfl) rfl ?_
  intro B4
  refine jv (v_assign rfl) (.no rfl) rfl ?_
  refine jo_nil ?_
  refine je_next ?_
  refine j_seq ?_
  refine j_region ?_
  refine jv (v_loadAc (vs := [_, _, _]) rfl Try.isAgg37 Try.sizeOf37 rfl rfl) (.no rfl) rfl ?_
  refine jq (q_callP (f56_spec (by omega)) Try.call56 (by rfl) rfl (memc FindS.mem mem0)) (.no rfl) rfl ?_
  intro u10
  refine jv (v_move rfl) (.no rfl) rfl ?_
  refine jq (q_callP (f135_spec) Try.call135 (by rfl) rfl (memc FindS.mem mem0)) (.no rfl) rfl ?_
  intro x12
  refine jv (v_move rfl) (.no rfl) rfl ?_
  refine jv (v_ext rfl rfl) (.no rfl) rfl ?_
  refine jv (v_ext rfl rfl) (.no rfl) rfl ?_
  refine jv (v_assign rfl) (.no rfl) rfl ?_
  refine jv (v_assign rfl) (.no rfl) rfl ?_
  refine jo_nil ?_
  refine je_next ?_
  refine j_seq ?_
  refine j_seq ?_
  refine j_region ?_
  refine jv (v_move rfl) (.no rfl) rfl ?_
  refine jv (v_neq rfl rfl) (.no rfl) rfl ?_
  refine jo_nil ?_
  refine je_next ?_
  refine j_if rfl (fun z1 => ?_) (fun z1 => ?_)
  · first | (with_reducible replace z1 := of_decide_eq_true z1) | skip
    refine j_seq ?_
    refine j_region ?_
    refine jv (v_build (ps := []) rfl b41b) (.no rfl) rfl ?_
    refine jv (v_move rfl) (.no rfl) rfl ?_
    refine jx (x_storec (cs' := [_, _, _, _, _, _]) rfl rfl rfl Try.sizeOf41 rfl rfl) (.no rfl) rfl ?_
    intro _
    refine jv (v_assign rfl) (.no rfl) rfl ?_
    refine jo_nil ?_
    refine je_next ?_
    refine j_ret ?_
    refine je_then (by simp) ?_
    have e : getP cs h = (zeroObj, (get3 (plainC cs) h).2) := Prod.ext (getP_bad (by rw [← g1]; exact z1)) g1.symm
    refine je_ret rfl rfl rfl rfl rfl (rvs := [.cell 4 41, .tmp 5]) rfl (.cons (.agg (vs := [_, _, _, _, _, _]) rfl FindB.mem Try.isAgg41 Try.sizeOf41 rfl rfl) (.cons (.tmp rfl) .nil)) (.slice none 0 0) ?_ (fun w h => (h.nilS (A := none) intK).fin (by rw [e]; exact memc FindS.mem mem0)) (.inl rfl)
    rw [e]; rfl
  · first | (with_reducible replace z1 := of_decide_eq_false z1) | skip
    refine j_skip ?_
    refine je_next ?_
    refine j_seq ?_
    have z1 : (get3 (plainC cs) h).2 = 0 := by simpa using z1
    obtain ⟨g3, hkl, g4⟩ := g2 z1
    refine j_region ?_
    refine jv (v_field (k' := 0) rfl Try.runUnderlying37 rfl Try.sizeOf35 (by decide) rfl) (.no rfl) rfl ?_
    refine jv (v_loadc rfl Try.isAgg35 rfl) (.no rfl) rfl ?_
    refine jv (v_move rfl) (.no rfl) rfl ?_
    refine jv (v_index rfl rfl FindR.row Try.runUnderlying35 Try.sizeOf83 (by omega) (by omega)) (.no rfl) rfl ?_
    refine jv (v_efield (k' := 2) rfl FindR.row (by omega) Try.runUnderlying83 rfl Try.sizeOf41 (by decide) rfl) (.no rfl) rfl ?_
    refine jq (OpL.q (l_eload rfl FindR.row (at_k hkl) (by decide) Try.isAgg41 Try.sizeOf41 (fun _ _ _ h => cell_obj h))) (.no rfl) rfl ?_
    intro v24
    refine jx (x_storec (cs' := [_, _, _, _, _, _]) rfl rfl rfl Try.sizeOf41 rfl rfl) (.no rfl) rfl ?_
    intro _
    refine jv (v_assign rfl) (.no rfl) rfl ?_
    refine jo_nil ?_
    refine je_next ?_
    refine j_ret ?_
    refine je_ret rfl rfl rfl rfl rfl (rvs := [.cell 4 41, .tmp 5]) rfl (.cons (.agg (vs := [_, _, _, _, _, _]) rfl FindB.mem Try.isAgg41 Try.sizeOf41 rfl rfl) (.cons (.tmp rfl) .nil)) v24 ?_ (fun w h => h.fin (by rw [g4]; exact memc FindS.mem mem0)) (.inl rfl)
    rw [g4]; rfl

theorem f82_spec {v : Value} {cs : List Cell} {last serial h : Int} (hG : Gens cs) (hF : ∀ c ∈ cs, c.val.fields.length ≤ 1000) : Spec Try.prog 82 [stA v last serial, iV h] [] [sl cellK v cs] Value (fun v' => v') (fun _ => []) (fun v' => [sl intK v' (outP cs h)]) := by
  refine spec_of Try.func82 rfl Try.ntmps82 (by simp) fun ok w => ?_
  refine j_seq ?_
  refine j_region ?_
  refine jx (x_boxc rfl) (.no rfl) rfl ?_
  intro B2
  refine jv (v_assign rfl) (.no rfl) rfl ?_
  refine jo_nil ?_
  refine je_next ?_
  refine j_seq ?_
  refine j_region ?_
  refine jv (v_loadAc (vs := [_, _, _]) rfl Try.isAgg37 Try.sizeOf37 rfl rfl) (.no rfl) rfl ?_
  refine jv (v_move rfl) (.no rfl) rfl ?_
  refine jq (q_callP (f113_spec hG) Try.call113 (by rfl) rfl (memc FindS.mem mem0)) (.no rfl) rfl ?_
  intro f10
  refine jv (v_move rfl) (.no rfl) rfl ?_
  refine jv (v_ext rfl rfl) (.no rfl) rfl ?_
  refine jv (v_ext rfl rfl) (.no rfl) rfl ?_
  refine jx (x_alloc Try.zeroValue41 Cells.agg) (.no rfl) rfl ?_
  intro B5
  refine jx (x_storec (cs' := [_, _, _, _, _, _]) rfl rfl rfl Try.sizeOf41 rfl rfl) (.no rfl) rfl ?_
  intro _
  refine jv (v_assign rfl) (.no rfl) rfl ?_
  refine jo_nil ?_
  refine je_next ?_
  refine j_seq ?_
  refine j_seq ?_
  refine j_region ?_
  refine jv (v_move rfl) (.no rfl) rfl ?_
  refine jv (v_neq rfl rfl) (.no rfl) rfl ?_
  refine jo_nil ?_
  refine je_next ?_
  refine j_if rfl (fun z1 => ?_) (fun z1 => ?_)
  · first | (with_reducible replace z1 := of_decide_eq_true z1) | skip
    refine j_seq ?_
    refine j_region ?_
    refine jv (v_assign rfl) (.no rfl) rfl ?_
    refine jo_nil ?_
    refine je_next ?_
    refine j_ret ?_
    refine je_then (by simp) ?_
    have e : outP cs h = [] := by unfold outP; rw [getP_bad z1]; rfl
    refine je_ret rfl rfl rfl rfl rfl (rvs := [.tmp 4]) rfl (.cons (.tmp rfl) .nil) (.slice none 0 0) ?_ (fun w h => (h.nilS (A := none) intK).fin (by rw [e]; exact memc FindS.mem mem0)) (.inl rfl)
    rfl
  · first | (with_reducible replace z1 := of_decide_eq_false z1) | skip
    refine j_skip ?_
    refine je_next ?_
    refine j_seq ?_
    refine j_region ?_
    refine jv (v_field (k' := 5) rfl Try.runUnderlying41 rfl Try.sizeOf27 (by decide) rfl) (.no rfl) rfl ?_
    refine jv (v_loadc rfl Try.isAgg27 rfl) (.no rfl) rfl ?_
    refine jq (q_callP (f114_spec (getP_fields hF)) Try.call114 (by rfl) rfl (memc FindS.mem mem0)) (.no rfl) rfl ?_
    intro u17
    refine jv (v_assign rfl) (.no rfl) rfl ?_
    refine jo_nil ?_
    refine je_next ?_
    refine j_ret ?_
    refine je_ret rfl rfl rfl rfl rfl (rvs := [.tmp 4]) rfl (.cons (.tmp rfl) .nil) u17 ?_ (fun w h => h.fin (memc FindS.mem mem0)) (.inl rfl)
    rfl

theorem f44_spec {vs vl : Value} {cs : List Cell} {last serial : Int} {l : List Int} (hG : Gens cs) (hA : Apart cs) (hF : ∀ c ∈ cs, c.val.fields.length ≤ 1000) : Spec Try.prog 44 [stA vs last serial, vl] [] [sl cellK vs cs, sl intK vl l] Value (fun v' => v') (fun _ => []) (fun v' => [sl intK v' (fromR cs l)]) := by
  refine spec_of Try.func44 rfl Try.ntmps44 (by simp) fun ok w => ?_
  have hn := hG.1
  have hll := liveP_le cs
  refine j_seq ?_
  refine j_region ?_
  refine jx (x_boxc rfl) (.no rfl) rfl ?_
  intro B2
  refine jv (v_assign rfl) (.no rfl) rfl ?_
  refine jo_nil ?_
  refine je_next ?_
  refine j_seq ?_
  refine j_region ?_
  refine jv (v_loadAc (vs := [_, _, _]) rfl Try.isAgg37 Try.sizeOf37 rfl rfl) (.no rfl) rfl ?_
  refine jq (q_callP (f33_spec hG hA) Try.call33 (by rfl) rfl (memc FindS.mem mem0)) (.no rfl) rfl ?_
  intro u11
  refine jv (v_assign rfl) (.no rfl) rfl ?_
  refine jo_nil ?_
  refine je_next ?_
  refine j_seq ?_
  refine j_region ?_
  refine jv (v_move rfl) (.no rfl) rfl ?_
  refine jv (v_move rfl) (.no rfl) rfl ?_
  refine jq (q_callP (f81_spec (by omega)) Try.call81 (by rfl) rfl (memc FindS.mem (memc FindS.mem mem0))) (.no rfl) rfl ?_
  intro u14
  refine jv (v_assign rfl) (.no rfl) rfl ?_
  refine jo_nil ?_
  refine je_next ?_
  refine j_seq ?_
  refine j_seq ?_
  refine j_region ?_
  refine jv (v_assign rfl) (.no rfl) rfl ?_
  refine jo_nil ?_
  refine je_next ?_
  refine j_block ?_
  refine j_loopF (G := Nat × Value) [(2, _), (4, _), (5, _)] (fun k t => (6, k.2) :: (7, iV ((k.1 : Nat) : Int)) :: t) (fun k t => t) (fun k => [sl intK k.2 (iterR cs l k.1)]) (fun k => k.1 ≤ (liveP cs).length) (fun k => (liveP cs).length - k.1) (0, u14) (Nat.zero_le _) (lsub rfl (lsub rfl (lsub rfl (lsub rfl (lsub rfl lsub0))))) (fun _ h => h.sub fun p hp => (List.mem_append.1 hp).elim (fun h1 => by have e := List.mem_singleton.1 h1; rw [e]; exact (show sl intK u14 (thoseP (liveP cs) l true) ∈ _ from FindS.mem)) id) (fun ⟨i, u⟩ hi => ?_)
  simp only at hi
  have hil := iter_le cs l i
  refine j_seq ?_
  refine j_seq ?_
  refine j_region ?_
  refine jv (v_move rfl) (.no rfl) rfl ?_
  refine jv (v_move rfl) (.no rfl) rfl ?_
  refine jv (v_len rfl FindR.row Try.runUnderlying27) (.no rfl) rfl ?_
  refine jv (v_lss rfl rfl) (.no rfl) rfl ?_
  refine jo_nil ?_
  refine je_next ?_
  refine j_if rfl (fun hc => ?_) (fun hc => ?_)
  · first | (with_reducible replace hc := of_decide_eq_true hc) | skip
    refine j_skip ?_
    refine je_next ?_
    refine j_seq ?_
    refine j_block ?_
    refine j_seq ?_
    dsimp only at hc
    refine j_region ?_
    refine jx (x_lit0 intK rfl Try.runUnderlying27 Try.sizeOf3) (.no rfl) rfl ?_
    intro v21
    refine jv (v_move rfl) (.no rfl) rfl ?_
    refine jx (x_append rfl rfl (fun _ => Hole.put _) FindR.row Try.runUnderlying27 Try.sizeOf3 Try.zeroValue3 rfl Try.typeInfo3 (by decide) (by decide) (by simp only [List.length_nil]; omega)) (.no rfl) rfl ?_
    intro v23
    refine jv (v_assign rfl) (.no rfl) rfl ?_
    refine jo_nil ?_
    refine je_next ?_
    refine j_seq ?_
    refine j_seq ?_
    refine j_region ?_
    refine jv (v_assign rfl) (.no rfl) rfl ?_
    refine jo_nil ?_
    refine je_next ?_
    refine j_block ?_
    refine j_loopS (G := Nat × Value × List Int) [(2, _), (4, _), (5, _), (6, _), (7, _), (15, _), (16, _), (17, _), (18, _), (21, _), (22, _), (23, _)] (fun k t => (8, k.2.1) :: (9, iV ((k.1 : Nat) : Int)) :: t) (fun k t => .own intK k.2.1 3 k.2.2 :: t) (fun k => k.1 ≤ (iterR cs l i).length ∧ k.2.2 = iterR cs l i ++ ((iterR cs l i).take k.1).flatMap (outP cs)) (fun k => (iterR cs l i).length - k.1) (0, v23, [] ++ iterR cs l i) (⟨Nat.zero_le _, by simp⟩) (lsub rfl (lsub rfl (lsub rfl (lsub rfl (lsub rfl (lsub rfl (lsub rfl (lsub rfl (lsub rfl (lsub rfl (lsub rfl (lsub rfl (lsub rfl (lsub rfl lsub0)))))))))))))) rfl (fun ⟨j, um, ms⟩ ⟨hj, hms⟩ => ?_)
    simp only at hj hms
    have hml : ms.length ≤ 30000 := by rw [hms, List.length_append]; have h1 := flat_le hF ((iterR cs l i).take j); rw [List.length_take] at h1; omega
    refine j_seq ?_
    refine j_seq ?_
    refine j_region ?_
    refine jv (v_move rfl) (.no rfl) rfl ?_
    refine jv (v_move rfl) (.no rfl) rfl ?_
    refine jv (v_len rfl FindR.row Try.runUnderlying27) (.no rfl) rfl ?_
    refine jv (v_lss rfl rfl) (.no rfl) rfl ?_
    refine jo_nil ?_
    refine je_next ?_
    refine j_if rfl (fun hc2 => ?_) (fun hc2 => ?_)
    · first | (with_reducible replace hc2 := of_decide_eq_true hc2) | skip
      refine j_skip ?_
      refine je_next ?_
      refine j_seq ?_
      refine j_block ?_
      dsimp only at hc2
      have hjl : j < (iterR cs l i).length := by omega
      have hol := outP_len hF (iterR cs l i)[j]
      refine j_draw [7] mixed ?_
      refine ja_take 0 rfl (by decide +kernel) (v_move rfl) (.no rfl) rfl ?_
      refine ja_take 1 rfl (by decide +kernel) (v_loadAc (vs := [_, _, _]) rfl Try.isAgg37 Try.sizeOf37 rfl rfl) (.no rfl) rfl ?_
      refine ja_take 2 rfl (by decide +kernel) (v_move rfl) (.no rfl) rfl ?_
      refine ja_take 3 rfl (by decide +kernel) (v_move rfl) (.no rfl) rfl ?_
      refine ja_take 4 rfl (by decide +kernel) (v_index rfl rfl FindR.row Try.runUnderlying27 Try.sizeOf3 (by omega) (by dsimp only; omega)) (.no rfl) rfl ?_
      refine ja_take 5 rfl (by decide +kernel) (v_eload rfl FindR.row (at_k hjl) (by decide) Try.isAgg3 (fun _ _ _ h => int_at h)) (.no rfl) rfl ?_
      refine ja_one (i := 6) (by decide +kernel) (jn_q rfl (q_callP (f82_spec hG hF) Try.call82 (by rfl) rfl (memc FindS.mem mem0)) (.no rfl) rfl ?_)
      intro u36
      refine ja_one (i := 7) (by decide +kernel) (jn_x rfl (by simp) (x_append rfl rfl (fun _ => Hole.put _) FindR.row Try.runUnderlying27 Try.sizeOf3 Try.zeroValue3 rfl Try.typeInfo3 (by decide) (by decide) (by dsimp only; omega)) (.no rfl) rfl ?_)
      intro v37
      refine ja_take 8 rfl (by decide +kernel) (v_assign rfl) (.no rfl) rfl ?_
      refine ja_nil (by decide +kernel) ?_
      refine je_block ?_
      refine je_next ?_
      refine j_region ?_
      refine jv (v_move rfl) (.no rfl) rfl ?_
      refine jv (v_add rfl rfl (by omega) (by omega)) (.no rfl) rfl ?_
      refine jv (v_assign rfl) (.no rfl) rfl ?_
      refine jo_nil ?_
      refine je_round (j + 1, v37, _) (by dsimp only; refine ⟨by omega, ?_⟩; rw [hms, flat_succ hjl, List.append_assoc]) (by dsimp only; omega) (lsub rfl (lsub rfl (lsub rfl (lsub rfl (lsub rfl (lsub rfl (lsub rfl (lsub rfl (lsub rfl (lsub rfl (lsub rfl (lsub rfl (lsub rfl (lsub rfl lsub0)))))))))))))) (fun _ h => (h).sub fun p hp => (List.mem_append_right _ hp))
    · first | (with_reducible replace hc2 := of_decide_eq_false hc2) | skip
      refine j_exit ?_
      refine je_then (by simp) ?_
      refine je_then (by simp) ?_
      refine je_hit ?_
      refine je_next ?_
      dsimp only at hc2
      rw [List.take_of_length_le (by omega)] at hms
      subst hms
      refine j_to (fun _ _ h => h) (fun w h => h.freeze0a .head) ?_
      refine j_region ?_
      refine jv (v_move rfl) (.no rfl) rfl ?_
      refine jv (v_move rfl) (.no rfl) rfl ?_
      refine jq (q_callP (f81_spec (by omega)) Try.call81 (by rfl) rfl (memc FindS.mem (memc FindS.mem mem0))) (.no rfl) rfl ?_
      intro u40
      refine jv (v_assign rfl) (.no rfl) rfl ?_
      refine jo_nil ?_
      refine je_block ?_
      refine je_next ?_
      refine j_region ?_
      refine jv (v_move rfl) (.no rfl) rfl ?_
      refine jv (v_add rfl rfl (by omega) (by omega)) (.no rfl) rfl ?_
      refine jv (v_assign rfl) (.no rfl) rfl ?_
      refine jo_nil ?_
      refine je_round (i + 1, u40) (by dsimp only; omega) (by dsimp only; omega) (lsub rfl (lsub rfl (lsub rfl (lsub rfl (lsub rfl lsub0))))) (fun _ h => (h).sub fun p hp => (List.mem_append.1 hp).elim (fun h1 => by have e := List.mem_singleton.1 h1; rw [e]; exact (show sl intK u40 (thoseP (liveP cs) (iterR cs l i ++ (iterR cs l i).flatMap (outP cs)) true) ∈ _ from FindS.mem)) (fun h1 => (List.mem_append_right _ (List.mem_append_right _ (List.mem_append_right _ h1)))))
  · first | (with_reducible replace hc := of_decide_eq_false hc) | skip
    refine j_exit ?_
    refine je_then (by simp) ?_
    refine je_then (by simp) ?_
    refine je_hit ?_
    refine je_next ?_
    refine j_seq ?_
    refine j_region ?_
    refine jv (v_move rfl) (.no rfl) rfl ?_
    refine jv (v_assign rfl) (.no rfl) rfl ?_
    refine jo_nil ?_
    refine je_next ?_
    refine j_ret ?_
    dsimp only at hc
    have e : fromR cs l = iterR cs l i := by unfold fromR; congr 1; omega
    refine je_ret rfl rfl rfl rfl rfl (rvs := [.tmp 4]) rfl (.cons (.tmp rfl) .nil) u ?_ (fun w h => h.fin (by rw [e]; exact memc FindS.mem mem0)) (.inl rfl)
    rfl

theorem f46_spec {vs vl : Value} {cs : List Cell} {last serial : Int} {l : List Int} (hG : Gens cs) (hA : Apart cs) (hF : ∀ c ∈ cs, c.val.fields.length ≤ 1000) : Spec Try.prog 46 [stA vs last serial, vl] [] [sl cellK vs cs, sl intK vl l] Value (fun v' => v') (fun _ => []) (fun v' => [sl intK v' (lostR cs l)]) := by
  refine spec_of Try.func46 rfl Try.ntmps46 (by simp) fun ok w => ?_
  have hn := hG.1
  have hll := liveP_le cs
  refine j_seq ?_
  refine j_region ?_
  refine jx (x_boxc rfl) (.no rfl) rfl ?_
  intro B2
  refine jv (v_assign rfl) (.no rfl) rfl ?_
  refine jo_nil ?_
  refine je_next ?_
  refine j_seq ?_
  refine j_draw [] mixed ?_
  refine ja_take 0 rfl (by decide +kernel) (v_loadAc (vs := [_, _, _]) rfl Try.isAgg37 Try.sizeOf37 rfl rfl) (.no rfl) rfl ?_
  refine ja_take 2 rfl (by decide +kernel) (v_loadAc (vs := [_, _, _]) rfl Try.isAgg37 Try.sizeOf37 rfl rfl) (.no rfl) rfl ?_
  refine ja_take 3 rfl (by decide +kernel) (v_move rfl) (.no rfl) rfl ?_
  refine ja_one (i := 1) (by decide +kernel) (jn_q rfl (q_callP (f33_spec hG hA) Try.call33 (by rfl) rfl (memc FindS.mem mem0)) (.no rfl) rfl ?_)
  intro u6
  refine ja_one (i := 4) (by decide +kernel) (jn_q rfl (q_callP (f44_spec hG hA hF) Try.call44 (by rfl) rfl (memc FindS.mem (memc FindS.mem mem0))) (.no rfl) rfl ?_)
  intro u9
  refine ja_one (i := 5) (by decide +kernel) (jn_q rfl (q_callP (f81_spec (by omega)) Try.call81 (by rfl) rfl (memc FindS.mem (memc FindS.mem mem0))) (.no rfl) rfl ?_)
  intro u10
  refine ja_take 6 rfl (by decide +kernel) (v_assign rfl) (.no rfl) rfl ?_
  refine ja_nil (by decide +kernel) ?_
  refine je_next ?_
  refine j_ret ?_
  refine je_ret rfl rfl rfl rfl rfl (rvs := [.tmp 4]) rfl (.cons (.tmp rfl) .nil) u10 ?_ (fun w h => h.fin (memc (show sl intK u10 (thoseP (liveP cs) (fromR cs l) false) ∈ _ from FindS.mem) mem0)) (.inl rfl)
  rfl

theorem f48_spec {vs : Value} {cs : List Cell} {last serial a b : Int} (hG : Gens cs) (hA : Apart cs) (hF : ∀ c ∈ cs, c.val.fields.length ≤ 1000) : Spec Try.prog 48 [stA vs last serial, iV a, iV b] [] [sl cellK vs cs] Unit (fun _ => .bool (hasP (fromR cs [a]) b)) (fun _ => []) (fun _ => []) := by
  refine spec_of Try.func48 rfl Try.ntmps48 (by simp) fun ok w => ?_
  refine j_seq ?_
  refine j_region ?_
  refine jx (x_boxc rfl) (.no rfl) rfl ?_
  intro B3
  refine jv (v_assign rfl) (.no rfl) rfl ?_
  refine jo_nil ?_
  refine je_next ?_
  refine j_seq ?_
  refine j_region ?_
  refine jv (v_loadAc (vs := [_, _, _]) rfl Try.isAgg37 Try.sizeOf37 rfl rfl) (.no rfl) rfl ?_
  refine jv (v_move rfl) (.no rfl) rfl ?_
  refine jq (q_lit1 (K := intK) a rfl (Cells.one rfl) Try.runUnderlying27 Try.sizeOf3 Try.zeroValue3 rfl (by decide) (by decide) (fun _ _ _ => rfl)) (.no rfl) rfl ?_
  intro v9
  refine jq (q_callP (f44_spec hG hA hF) Try.call44 (by rfl) rfl (memc FindS.mem (memc FindS.mem mem0))) (.no rfl) rfl ?_
  intro u10
  refine jv (v_move rfl) (.no rfl) rfl ?_
  refine jq (q_callP (f84_spec) Try.call84 (by rfl) rfl (memc FindS.mem mem0)) (.no rfl) rfl ?_
  intro x12
  refine jv (v_assign rfl) (.no rfl) rfl ?_
  refine jo_nil ?_
  refine je_next ?_
  refine j_ret ?_
  refine je_ret rfl rfl rfl rfl rfl (rvs := [.tmp 6]) rfl (.cons (.tmp rfl) .nil) () ?_ (fun w h => h.fin mem0) (.inl rfl)
  rfl

theorem f50_spec {vs vl : Value} {cs : List Cell} {last serial : Int} {l : List Int} (hG : Gens cs) (hA : Apart cs) (hF : ∀ c ∈ cs, c.val.fields.length ≤ 1000) : Spec Try.prog 50 [stA vs last serial, vl] [] [sl cellK vs cs, sl intK vl l] Unit (fun _ => .bool (closedR cs l)) (fun _ => []) (fun _ => []) := by
  refine spec_of Try.func50 rfl Try.ntmps50 (by simp) fun ok w => ?_
  have hn := hG.1
  have hll := liveP_le cs
  have hin := those_le (liveP cs) l true
  refine j_seq ?_
  refine j_region ?_
  refine jx (x_boxc rfl) (.no rfl) rfl ?_
  intro B2
  refine jv (v_assign rfl) (.no rfl) rfl ?_
  refine jo_nil ?_
  refine je_next ?_
  refine j_seq ?_
  refine j_region ?_
  refine jv (v_loadAc (vs := [_, _, _]) rfl Try.isAgg37 Try.sizeOf37 rfl rfl) (.no rfl) rfl ?_
  refine jq (q_callP (f33_spec hG hA) Try.call33 (by rfl) rfl (memc FindS.mem mem0)) (.no rfl) rfl ?_
  intro u11
  refine jv (v_assign rfl) (.no rfl) rfl ?_
  refine jo_nil ?_
  refine je_next ?_
  refine j_seq ?_
  refine j_region ?_
  refine jv (v_move rfl) (.no rfl) rfl ?_
  refine jv (v_move rfl) (.no rfl) rfl ?_
  refine jq (q_callP (f81_spec (by omega)) Try.call81 (by rfl) rfl (memc FindS.mem (memc FindS.mem mem0))) (.no rfl) rfl ?_
  intro u14
  refine jv (v_assign rfl) (.no rfl) rfl ?_
  refine jo_nil ?_
  refine je_next ?_
  refine j_seq ?_
  refine j_seq ?_
  refine j_region ?_
  refine jv (v_assign rfl) (.no rfl) rfl ?_
  refine jo_nil ?_
  refine je_next ?_
  refine j_block ?_
  refine j_loopS (G := Nat) [(1, _), (2, _), (5, _), (6, _)] (fun k t => (7, iV ((k : Nat) : Int)) :: t) (fun k t => t) (fun k => k ≤ (thoseP (liveP cs) l true).length ∧ ∀ h ∈ (thoseP (liveP cs) l true).take k, (fun h => (thoseP (liveP cs) (outP cs h) true).all fun x => hasP l x) h = true) (fun k => (thoseP (liveP cs) l true).length - k) 0 (⟨Nat.zero_le _, (fun h hh => by simp at hh)⟩) (lsub rfl (lsub rfl (lsub rfl (lsub rfl (lsub rfl lsub0))))) rfl (fun i ⟨hi, hi2⟩ => ?_)   -- dead: [4]
  refine j_seq ?_
  refine j_seq ?_
  refine j_region ?_
  refine jv (v_move rfl) (.no rfl) rfl ?_
  refine jv (v_move rfl) (.no rfl) rfl ?_
  refine jv (v_len rfl FindR.row Try.runUnderlying27) (.no rfl) rfl ?_
  refine jv (v_lss rfl rfl) (.no rfl) rfl ?_
  refine jo_nil ?_
  refine je_next ?_
  refine j_if rfl (fun hc => ?_) (fun hc => ?_)
  · first | (with_reducible replace hc := of_decide_eq_true hc) | skip
    refine j_skip ?_
    refine je_next ?_
    refine j_seq ?_
    refine j_block ?_
    refine j_seq ?_
    have hil : i < (thoseP (liveP cs) l true).length := by omega
    refine j_draw [] mixed ?_
    refine ja_take 0 rfl (by decide +kernel) (v_move rfl) (.no rfl) rfl ?_
    refine ja_take 1 rfl (by decide +kernel) (v_loadAc (vs := [_, _, _]) rfl Try.isAgg37 Try.sizeOf37 rfl rfl) (.no rfl) rfl ?_
    refine ja_take 2 rfl (by decide +kernel) (v_move rfl) (.no rfl) rfl ?_
    refine ja_take 3 rfl (by decide +kernel) (v_move rfl) (.no rfl) rfl ?_
    refine ja_take 4 rfl (by decide +kernel) (v_index rfl rfl FindR.row Try.runUnderlying27 Try.sizeOf3 (by omega) (by omega)) (.no rfl) rfl ?_
    refine ja_take 5 rfl (by decide +kernel) (v_eload rfl FindR.row (at_k hil) (by decide) Try.isAgg3 (fun _ _ _ h => int_at h)) (.no rfl) rfl ?_
    refine ja_one (i := 6) (by decide +kernel) (jn_q rfl (q_callP (f82_spec hG hF) Try.call82 (by rfl) rfl (memc FindS.mem mem0)) (.no rfl) rfl ?_)
    intro u27
    refine ja_one (i := 7) (by decide +kernel) (jn_q rfl (q_callP (f81_spec (by omega)) Try.call81 (by rfl) rfl (memc FindS.mem (memc FindS.mem mem0))) (.no rfl) rfl ?_)
    intro u28
    refine ja_take 8 rfl (by decide +kernel) (v_assign rfl) (.no rfl) rfl ?_
    refine ja_nil (by decide +kernel) ?_
    refine je_next ?_
    refine j_seq ?_
    refine j_region ?_
    refine jv (v_assign rfl) (.no rfl) rfl ?_
    refine jo_nil ?_
    refine je_next ?_
    refine j_block ?_
    refine j_loopS (G := Nat) [(1, _), (2, _), (5, _), (6, _), (7, _), (8, _), (15, _), (16, _), (17, _), (18, _), (21, _), (22, _), (23, _), (24, _), (25, _), (26, _), (27, _), (28, _)] (fun k t => (9, iV ((k : Nat) : Int)) :: t) (fun k t => t) (fun k => k ≤ (thoseP (liveP cs) (outP cs (thoseP (liveP cs) l true)[i]) true).length ∧ ∀ x ∈ (thoseP (liveP cs) (outP cs (thoseP (liveP cs) l true)[i]) true).take k, hasP l x = true) (fun k => (thoseP (liveP cs) (outP cs (thoseP (liveP cs) l true)[i]) true).length - k) 0 (⟨Nat.zero_le _, (fun h hh => by simp at hh)⟩) (lsub rfl (lsub rfl (lsub rfl (lsub rfl (lsub rfl (lsub rfl (lsub rfl (lsub rfl (lsub rfl (lsub rfl (lsub rfl (lsub rfl (lsub rfl (lsub rfl (lsub rfl (lsub rfl (lsub rfl (lsub rfl (lsub rfl lsub0))))))))))))))))))) rfl (fun j ⟨hj, hj2⟩ => ?_)
    have hnl := those_le (liveP cs) (outP cs (thoseP (liveP cs) l true)[i]) true
    refine j_seq ?_
    refine j_seq ?_
    refine j_region ?_
    refine jv (v_move rfl) (.no rfl) rfl ?_
    refine jv (v_move rfl) (.no rfl) rfl ?_
    refine jv (v_len rfl FindR.row Try.runUnderlying27) (.no rfl) rfl ?_
    refine jv (v_lss rfl rfl) (.no rfl) rfl ?_
    refine jo_nil ?_
    refine je_next ?_
    refine j_if rfl (fun hc2 => ?_) (fun hc2 => ?_)
    · first | (with_reducible replace hc2 := of_decide_eq_true hc2) | skip
      refine j_skip ?_
      refine je_next ?_
      refine j_seq ?_
      refine j_block ?_
      refine j_seq ?_
      have hjl : j < (thoseP (liveP cs) (outP cs (thoseP (liveP cs) l true)[i]) true).length := by omega
      refine j_region ?_
      refine jv (v_move rfl) (.no rfl) rfl ?_
      refine jv (v_move rfl) (.no rfl) rfl ?_
      refine jv (v_move rfl) (.no rfl) rfl ?_
      refine jv (v_index rfl rfl FindR.row Try.runUnderlying27 Try.sizeOf3 (by omega) (by omega)) (.no rfl) rfl ?_
      refine jv (v_eload rfl FindR.row (at_k hjl) (by decide) Try.isAgg3 (fun _ _ _ h => int_at h)) (.no rfl) rfl ?_
      refine jq (q_callP (f84_spec) Try.call84 (by rfl) rfl (memc FindS.mem mem0)) (.no rfl) rfl ?_
      intro x40
      refine jv (v_not rfl) (.no rfl) rfl ?_
      refine jo_nil ?_
      refine je_next ?_
      refine j_if rfl (fun z1 => ?_) (fun z1 => ?_)
      · first | (with_reducible replace z1 := of_decide_eq_true z1) | skip
        refine j_seq ?_
        refine j_region ?_
        refine jv (v_assign rfl) (.no rfl) rfl ?_
        refine jo_nil ?_
        refine je_next ?_
        refine j_ret ?_
        refine je_blockr ?_
        refine je_then (by simp) ?_
        refine je_then (by simp) ?_
        refine je_blockr ?_
        refine je_blockr ?_
        refine je_then (by simp) ?_
        refine je_then (by simp) ?_
        refine je_blockr ?_
        refine je_then (by simp) ?_
        refine je_ret rfl rfl rfl rfl rfl (rvs := [.tmp 4]) rfl (.cons (.tmp rfl) .nil) () ?_ (fun w h => h.fin mem0) (.inl rfl)
        first | exact congrArg Value.bool (allT_no (p := (fun h => (thoseP (liveP cs) (outP cs h) true).all fun x => hasP l x)) hil (allT_no hjl (by simpa using z1))).symm | exact congrArg Value.bool (allT_yes (p := (fun h => (thoseP (liveP cs) (outP cs h) true).all fun x => hasP l x)) (by omega) hi2).symm
      · first | (with_reducible replace z1 := of_decide_eq_false z1) | skip
        refine j_skip ?_
        refine je_block ?_
        refine je_next ?_
        refine j_region ?_
        refine jv (v_move rfl) (.no rfl) rfl ?_
        refine jv (v_add rfl rfl (by omega) (by omega)) (.no rfl) rfl ?_
        refine jv (v_assign rfl) (.no rfl) rfl ?_
        refine jo_nil ?_
        refine je_round (j + 1) (⟨by omega, take_mem hjl hj2 (by simpa using z1)⟩) (by (try dsimp only); omega) (lsub rfl (lsub rfl (lsub rfl (lsub rfl (lsub rfl (lsub rfl (lsub rfl (lsub rfl (lsub rfl (lsub rfl (lsub rfl (lsub rfl (lsub rfl (lsub rfl (lsub rfl (lsub rfl (lsub rfl (lsub rfl (lsub rfl lsub0))))))))))))))))))) (fun _ h => (h).sub fun p hp => (List.mem_append_right _ hp))
    · first | (with_reducible replace hc2 := of_decide_eq_false hc2) | skip
      refine j_exit ?_
      refine je_then (by simp) ?_
      refine je_then (by simp) ?_
      refine je_hit ?_
      refine je_block ?_
      refine je_next ?_
      refine j_region ?_
      refine jv (v_move rfl) (.no rfl) rfl ?_
      refine jv (v_add rfl rfl (by omega) (by omega)) (.no rfl) rfl ?_
      refine jv (v_assign rfl) (.no rfl) rfl ?_
      refine jo_nil ?_
      refine je_round (i + 1) (⟨by omega, take_mem hil hi2 (allT_yes (by omega) hj2)⟩) (by (try dsimp only); omega) (lsub rfl (lsub rfl (lsub rfl (lsub rfl (lsub rfl lsub0))))) (fun _ h => (h).sub fun p hp => (List.mem_append_right _ (List.mem_append_right _ hp)))
  · first | (with_reducible replace hc := of_decide_eq_false hc) | skip
    refine j_exit ?_
    refine je_then (by simp) ?_
    refine je_then (by simp) ?_
    refine je_hit ?_
    refine je_next ?_
    refine j_seq ?_
    refine j_region ?_
    refine jv (v_assign rfl) (.no rfl) rfl ?_
    refine jo_nil ?_
    refine je_next ?_
    refine j_ret ?_
    refine je_ret rfl rfl rfl rfl rfl (rvs := [.tmp 4]) rfl (.cons (.tmp rfl) .nil) () ?_ (fun w h => h.fin mem0) (.inl rfl)
    first | exact congrArg Value.bool (allT_no (p := (fun h => (thoseP (liveP cs) (outP cs h) true).all fun x => hasP l x)) hil (allT_no hjl (by simpa using z1))).symm | exact congrArg Value.bool (allT_yes (p := (fun h => (thoseP (liveP cs) (outP cs h) true).all fun x => hasP l x)) (by omega) hi2).symm

end Go.Proofs.Ytjgacbopccfecaa
