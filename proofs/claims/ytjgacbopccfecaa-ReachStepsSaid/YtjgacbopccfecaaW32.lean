/-
  Walks: function 80.
-/
import Derived.Test.YtjgacbopccfecaaN10
import Derived.Test.YtjgacbopccfecaaBk
import Derived.Test.YtjgacbopccfecaaW7
import Derived.Test.YtjgacbopccfecaaW12
import Derived.Test.YtjgacbopccfecaaW20
import Derived.Test.YtjgacbopccfecaaW30
import Derived.Test.YtjgacbopccfecaaW31
set_option maxRecDepth 100000
set_option linter.unusedVariables false
set_option linter.unusedSimpArgs false
namespace Go.Proofs.Ytjgacbopccfecaa

theorem f80_spec {vs vl : Value} {cs : List Cell} {last serial : Int} {l : List Int} (hG : Gens cs) (hA : Apart cs) (hF : ∀ c ∈ cs, c.val.fields.length ≤ 1000) (hl : l.length ≤ 1000000) : Spec Try.prog 80 [stA vs last serial, vl] [] [sl cellK vs cs, sl intK vl l] (Value × Value) (fun p => .tuple [p.1, p.2].toArray) (fun _ => []) (fun p => [sl intK p.1 (fromR cs l), sl intK p.2 (lostR cs l)]) := by
  refine spec_of Try.func80 rfl Try.ntmps80 (by simp) fun ok w => ?_
  have hn := hG.1
  have hI := gensI hG
  have hll := liveP_le cs
  refine j_seq ?_
  refine j_region ?_
  refine jx (x_boxc rfl) (.no rfl) rfl ?_
  intro B2
  refine jv (v_assign rfl) (.no rfl) rfl ?_
  refine jv (v_assign rfl) (.no rfl) rfl ?_
  refine jo_nil ?_
  refine je_next ?_
  refine j_seq ?_
  refine j_region ?_
  refine jx x_mkmap (.no rfl) rfl ?_
  intro B18
  refine jx (x_alloc Try.zeroValue88 (Cells.one rfl)) (.no rfl) rfl ?_
  intro B6
  refine jx (x_storec (cs' := [_]) rfl rfl rfl Try.sizeOf88 rfl rfl) (.no rfl) rfl ?_
  intro _
  refine jo_nil ?_
  refine je_next ?_
  refine j_seq ?_
  refine j_region ?_
  refine jq (q_callP (f108_spec) Try.call108 (by rfl) rfl mem0) (.no rfl) rfl ?_
  intro x19
  refine jx (x_alloc Try.zeroValue133 Cells.agg) (.no rfl) rfl ?_
  intro B7
  refine jx (x_storec (cs' := [_, _]) rfl rfl rfl Try.sizeOf133 rfl rfl) (.no rfl) rfl ?_
  intro _
  refine jo_nil ?_
  refine je_next ?_
  refine j_seq ?_
  refine j_to (fun _ _ h => h) (fun w h => ((h.freezeB0 (B := B6) (.tail .head)).freezeB0 (B := B2) (.tail (.tail .head))).perm (.swap _ _ _)) ?_
  refine j_region ?_
  refine jv (v_func rfl) (.no rfl) rfl ?_
  refine jv (v_assign rfl) (.no rfl) rfl ?_
  refine jo_nil ?_
  refine je_next ?_
  refine j_seq ?_
  refine j_seq ?_
  refine j_region ?_
  refine jv (v_move rfl) (.no rfl) rfl ?_
  refine jv (v_len rfl FindR.row Try.runUnderlying27) (.no rfl) rfl ?_
  refine jv (v_move rfl) (.no rfl) rfl ?_
  refine jo_nil ?_
  refine je_next ?_
  refine j_block ?_
  refine j_loopF (G := Nat × Value × List Int × List Int) [(2, _), (4, _), (5, _), (6, _), (7, _), (8, _), (21, _), (22, _)] (fun k t => (23, iV ((k.1 : Nat) : Int)) :: t) (fun k t => .obj B18 (mp k.2.2.1) :: .blk B7 [k.2.1, iV 24] 133 :: t) (fun k => [sl intK k.2.1 k.2.2.2]) (fun k => k.1 ≤ l.length ∧ Srch cs l k.2.2.1 k.2.2.2 ∧ Shut cs k.2.2.1 k.2.2.2 ∧ ∀ x ∈ l.take k.1, x ∈ liveP cs → x ∈ k.2.2.1) (fun k => l.length - k.1) (0, .slice none 0 0, [], []) (⟨Nat.zero_le _, srch_nil cs l, (fun k hk => by cases hk), (fun x hx => by simp at hx)⟩) (lsub rfl (lsub rfl (lsub rfl (lsub rfl (lsub rfl (lsub rfl (lsub rfl (lsub rfl (lsub rfl lsub0))))))))) (fun w h => h.nilS (A := none) intK) (fun ⟨k, v, ks, q⟩ ⟨hk, hs, hsh, hls⟩ => ?_)
  simp only at hk hs hsh hls
  refine j_seq ?_
  refine j_region ?_
  refine jv (v_lss rfl rfl) (.no rfl) rfl ?_
  refine jo_nil ?_
  refine je_next ?_
  refine j_seq ?_
  refine j_if rfl (fun c0 => ?_) (fun c0 => ?_)
  · first | (with_reducible replace c0 := of_decide_eq_true c0) | skip
    refine j_skip ?_
    refine je_next ?_
    refine j_seq ?_
    refine j_block ?_
    refine j_seq ?_
    dsimp only at c0
    have hkl : k < l.length := by omega
    refine j_region ?_
    refine jv (v_index rfl rfl FindR.row Try.runUnderlying27 Try.sizeOf3 (by omega) (by omega)) (.no rfl) rfl ?_
    refine jv (v_eload rfl FindR.row (at_k hkl) (by decide) Try.isAgg3 (fun _ _ _ h => int_at h)) (.no rfl) rfl ?_
    refine jv (v_assign rfl) (.no rfl) rfl ?_
    refine jo_nil ?_
    refine je_next ?_
    refine j_region ?_
    refine jv (v_move rfl) (.no rfl) rfl ?_
    refine jv (v_move rfl) (.no rfl) rfl ?_
    refine jx (x_callcP2 (caps := [_, _, _]) (f109_spec (vs := vs) (cs := cs) (last := last) (serial := serial) (h := l[k]) (ks := ks) (q := q) (by omega) hI (fun a b => (srch_room hG hs a b).1)) Try.call109 (by rfl) rfl rfl rfl (memc FindM.mem (memc FindM.mem (memc FindS.mem (memc FindS.mem mem0)))) (.cons .head (.cons .head .nil))) (.no rfl) rfl ?_
    intro vn
    refine jo_nil ?_
    refine je_block ?_
    refine je_next ?_
    refine j_region ?_
    refine jv (v_add rfl rfl (by omega) (by omega)) (.no rfl) rfl ?_
    refine jv (v_move rfl) (.no rfl) rfl ?_
    refine jo_nil ?_
    refine je_round (k + 1, vn, _, _) (⟨by dsimp only; omega, srch_see hG hs (fun hl => .base (List.getElem_mem hkl) hl), shut_see hsh, fun x hx hv => by rw [List.take_succ_eq_append_getElem hkl] at hx; rcases List.mem_append.1 hx with hx | hx; exact see_sub.1 x (hls x hx hv); rw [List.mem_singleton] at hx; subst hx; exact see_sub.2.2.2 ((get_live hG).2 hv)⟩) (by dsimp only; omega) (lsub rfl (lsub rfl (lsub rfl (lsub rfl (lsub rfl (lsub rfl (lsub rfl (lsub rfl (lsub rfl lsub0))))))))) (fun _ h => (h).sub fun p hp => (List.mem_append.1 hp).elim (fun h1 => by have e := List.mem_singleton.1 h1; rw [e]; exact FindS.mem) (fun h1 => (List.mem_append_right _ (List.mem_append_right _ h1))))
  · first | (with_reducible replace c0 := of_decide_eq_false c0) | skip
    refine j_exit ?_
    refine je_then (by simp) ?_
    refine je_then (by simp) ?_
    refine je_hit ?_
    refine je_next ?_
    refine j_seq ?_
    refine j_block ?_
    rw [List.take_of_length_le (by dsimp only at c0; omega)] at hls
    refine j_loopF (G := Value × List Int × List Int) [(2, _), (4, _), (5, _), (6, _), (7, _), (8, _)] (fun k t => t) (fun k t => .obj B18 (mp k.2.1) :: .blk B7 [k.1, iV 24] 133 :: t) (fun k => [sl intK k.1 k.2.2]) (fun k => Srch cs l k.2.1 k.2.2 ∧ Shut cs k.2.1 k.2.2 ∧ ∀ x ∈ l, x ∈ liveP cs → x ∈ k.2.1) (fun k => left cs k.2.1 k.2.2) (v, ks, q) (⟨hs, hsh, hls⟩) (lsub rfl (lsub rfl (lsub rfl (lsub rfl (lsub rfl (lsub rfl lsub0)))))) (fun _ h => h.sub fun p hp => (List.mem_append.1 hp).elim (fun h1 => by have e := List.mem_singleton.1 h1; rw [e]; exact FindS.mem) id) (fun ⟨v, ks, q⟩ ⟨hs, hsh, hls⟩ => ?_)
    simp only at hs hsh hls
    refine j_seq ?_
    refine j_seq ?_
    refine j_region ?_
    refine jv (v_loadAc (vs := [_, _]) rfl Try.isAgg133 Try.sizeOf133 rfl rfl) (.no rfl) rfl ?_
    refine jq (q_callP (f111_spec) Try.call111 (by rfl) rfl (memc FindS.mem mem0)) (.no rfl) rfl ?_
    intro x32
    refine jv (v_gtr rfl rfl) (.no rfl) rfl ?_
    refine jo_nil ?_
    refine je_next ?_
    refine j_if rfl (fun c1 => ?_) (fun c1 => ?_)
    · first | (with_reducible replace c1 := of_decide_eq_true c1) | skip
      refine j_skip ?_
      refine je_next ?_
      refine j_block ?_
      refine j_seq ?_
      dsimp only at c1
      obtain ⟨h, t, rfl⟩ : ∃ h t, q = h :: t := by cases q with | nil => simp at c1 | cons h t => exact ⟨h, t, rfl⟩
      obtain ⟨hs2, hhm, hrh⟩ := srch_pop hs
      refine j_region ?_
      refine jv (v_loadAc (vs := [_, _]) rfl Try.isAgg133 Try.sizeOf133 rfl rfl) (.no rfl) rfl ?_
      refine jq (q_callP (f112_spec (h := h) (t := t)) Try.call112 (by rfl) rfl (memc FindS.mem mem0)) (.no rfl) rfl ?_
      intro u36
      refine jv (v_move rfl) (.no rfl) rfl ?_
      refine jv (v_ext rfl rfl) (.no rfl) rfl ?_
      refine jv (v_ext rfl rfl) (.no rfl) rfl ?_
      refine jv (v_ext rfl rfl) (.no rfl) rfl ?_
      refine jx (x_alloc Try.zeroValue133 Cells.agg) (.no rfl) rfl ?_
      intro B11
      refine jx (x_storec (cs' := [_, _]) rfl rfl rfl Try.sizeOf133 rfl rfl) (.no rfl) rfl ?_
      intro _
      refine jv (v_assign rfl) (.no rfl) rfl ?_
      refine jv (v_assign rfl) (.no rfl) rfl ?_
      refine jo_nil ?_
      refine je_next ?_
      refine j_seq ?_
      refine j_region ?_
      refine jv (v_loadAc (vs := [_, _]) rfl Try.isAgg133 Try.sizeOf133 rfl rfl) (.no rfl) rfl ?_
      refine jx (x_storec (cs' := [_, _]) rfl rfl rfl Try.sizeOf133 rfl rfl) (.no rfl) rfl ?_
      intro _
      refine jo_nil ?_
      refine je_next ?_
      refine j_seq ?_
      refine j_region ?_
      refine jv (v_loadAc (vs := [_, _, _]) rfl Try.isAgg26 Try.sizeOf26 rfl rfl) (.no rfl) rfl ?_
      refine jv (v_move rfl) (.no rfl) rfl ?_
      refine jq (q_callP (f35_spec (by omega) hI hF) Try.call35 (by rfl) rfl (memc FindS.mem mem0)) (.no rfl) rfl ?_
      intro u43
      refine jv (v_len rfl FindR.row Try.runUnderlying27) (.no rfl) rfl ?_
      refine jv (v_move rfl) (.no rfl) rfl ?_
      refine jo_nil ?_
      refine je_next ?_
      refine j_block ?_
      refine j_to (fun _ _ h => h) (fun w h => h.del .head) ?_
      refine j_loopF (G := Nat × Value × List Int × List Int) [(2, _), (4, _), (5, _), (6, _), (7, _), (8, _), (11, _), (12, _), (31, _), (32, _), (33, _), (34, _), (35, _), (36, _), (37, _), (38, _), (39, _), (40, _), (41, _), (42, _), (43, _), (44, _)] (fun k t => (45, iV ((k.1 : Nat) : Int)) :: t) (fun k t => .obj B18 (mp k.2.2.1) :: .blk B7 [k.2.1, iV 24] 133 :: t) (fun k => [sl intK k.2.1 k.2.2.2]) (fun k => k.1 ≤ (outP cs h).length ∧ Srch cs l k.2.2.1 k.2.2.2 ∧ ShutBut cs k.2.2.1 k.2.2.2 h ∧ (∀ x ∈ (outP cs h).take k.1, x ∈ liveP cs → x ∈ k.2.2.1) ∧ (∀ x ∈ l, x ∈ liveP cs → x ∈ k.2.2.1) ∧ left cs k.2.2.1 k.2.2.2 ≤ left cs ks t) (fun k => (outP cs h).length - k.1) (0, _, ks, t) (⟨Nat.zero_le _, hs2, shut_pop hsh, (fun x hx => by simp at hx), hls, Nat.le_refl _⟩) (lsub rfl (lsub rfl (lsub rfl (lsub rfl (lsub rfl (lsub rfl (lsub rfl (lsub rfl (lsub rfl (lsub rfl (lsub rfl (lsub rfl (lsub rfl (lsub rfl (lsub rfl (lsub rfl (lsub rfl (lsub rfl (lsub rfl (lsub rfl (lsub rfl (lsub rfl (lsub rfl lsub0))))))))))))))))))))))) (fun _ h => h.sub fun p hp => (List.mem_append.1 hp).elim (fun h1 => by have e := List.mem_singleton.1 h1; rw [e]; exact FindS.mem) id) (fun ⟨j, v, ks, q⟩ ⟨hj, hs, hsb, hj2, hls, hlf⟩ => ?_)
      simp only at hj hs hsb hj2 hls hlf
      have hol : (outP cs h).length ≤ 1000 := Nat.le_trans (names_le _) (getP_fields hF)
      refine j_seq ?_
      refine j_region ?_
      refine jv (v_lss rfl rfl) (.no rfl) rfl ?_
      refine jo_nil ?_
      refine je_next ?_
      refine j_seq ?_
      refine j_if rfl (fun c2 => ?_) (fun c2 => ?_)
      · first | (with_reducible replace c2 := of_decide_eq_true c2) | skip
        refine j_skip ?_
        refine je_next ?_
        refine j_seq ?_
        refine j_block ?_
        refine j_seq ?_
        dsimp only at c2
        have hjl : j < (outP cs h).length := by omega
        refine j_region ?_
        refine jv (v_index rfl rfl FindR.row Try.runUnderlying27 Try.sizeOf3 (by omega) (by omega)) (.no rfl) rfl ?_
        refine jv (v_eload rfl FindR.row (at_k hjl) (by decide) Try.isAgg3 (fun _ _ _ h => int_at h)) (.no rfl) rfl ?_
        refine jv (v_assign rfl) (.no rfl) rfl ?_
        refine jo_nil ?_
        refine je_next ?_
        refine j_region ?_
        refine jv (v_move rfl) (.no rfl) rfl ?_
        refine jv (v_move rfl) (.no rfl) rfl ?_
        refine jx (x_callcP2 (caps := [_, _, _]) (f109_spec (vs := vs) (cs := cs) (last := last) (serial := serial) (h := (outP cs h)[j]) (ks := ks) (q := q) (by omega) hI (fun a b => (srch_room hG hs a b).1)) Try.call109 (by rfl) rfl rfl rfl (memc FindM.mem (memc FindM.mem (memc FindS.mem (memc FindS.mem mem0)))) (.cons .head (.cons .head .nil))) (.no rfl) rfl ?_
        intro vn
        refine jo_nil ?_
        refine je_block ?_
        refine je_next ?_
        refine j_region ?_
        refine jv (v_add rfl rfl (by omega) (by omega)) (.no rfl) rfl ?_
        refine jv (v_move rfl) (.no rfl) rfl ?_
        refine jo_nil ?_
        refine je_round (j + 1, vn, _, _) (⟨by dsimp only; omega, srch_see hG hs (fun hl => .step hrh (List.getElem_mem hjl) hl), shutbut_see hsb, fun x hx hv => by rw [List.take_succ_eq_append_getElem hjl] at hx; rcases List.mem_append.1 hx with hx | hx; exact see_sub.1 x (hj2 x hx hv); rw [List.mem_singleton] at hx; subst hx; exact see_sub.2.2.2 ((get_live hG).2 hv), fun x hx hv => see_sub.1 x (hls x hx hv), Nat.le_trans (left_see hG hs _) hlf⟩) (by dsimp only; omega) (lsub rfl (lsub rfl (lsub rfl (lsub rfl (lsub rfl (lsub rfl (lsub rfl (lsub rfl (lsub rfl (lsub rfl (lsub rfl (lsub rfl (lsub rfl (lsub rfl (lsub rfl (lsub rfl (lsub rfl (lsub rfl (lsub rfl (lsub rfl (lsub rfl (lsub rfl (lsub rfl lsub0))))))))))))))))))))))) (fun _ h => (h).sub fun p hp => (List.mem_append.1 hp).elim (fun h1 => by have e := List.mem_singleton.1 h1; rw [e]; exact FindS.mem) (fun h1 => (List.mem_append_right _ (List.mem_append_right _ h1))))
      · first | (with_reducible replace c2 := of_decide_eq_false c2) | skip
        refine j_exit ?_
        refine je_then (by simp) ?_
        refine je_then (by simp) ?_
        refine je_hit ?_
        refine je_block ?_
        refine je_round (v, ks, q) (⟨hs, shut_done hsb (fun x hx hv => hj2 x (by rw [List.take_of_length_le (by dsimp only at c2; omega)]; exact hx) hv), hls⟩) (by dsimp only; unfold left at hlf ⊢; simp only [List.length_cons]; omega) (lsub rfl (lsub rfl (lsub rfl (lsub rfl (lsub rfl (lsub rfl lsub0)))))) (fun _ h => (h).sub fun p hp => (List.mem_append.1 hp).elim (fun h1 => by have e := List.mem_singleton.1 h1; rw [e]; exact FindS.mem) (fun h1 => (List.mem_append_right _ (List.mem_append_right _ (List.mem_append_right _ (List.mem_append_right _ (List.mem_append_right _ h1)))))))
    · first | (with_reducible replace c1 := of_decide_eq_false c1) | skip
      refine j_exit ?_
      refine je_then (by simp) ?_
      refine je_then (by simp) ?_
      refine je_hit ?_
      refine je_next ?_
      refine j_seq ?_
      refine j_seq ?_
      dsimp only at c1
      have hq0 : q = [] := List.eq_nil_of_length_eq_zero (by omega)
      subst hq0
      have hend := srch_end hs hsh hls
      refine j_region ?_
      refine jv (v_loadAc (vs := [_, _, _]) rfl Try.isAgg26 Try.sizeOf26 rfl rfl) (.no rfl) rfl ?_
      refine jq (q_callP (f28_spec (by omega) hI hA) Try.call28 (by rfl) rfl (memc FindS.mem mem0)) (.no rfl) rfl ?_
      intro u54
      refine jv (v_len rfl FindR.row Try.runUnderlying27) (.no rfl) rfl ?_
      refine jv (v_move rfl) (.no rfl) rfl ?_
      refine jo_nil ?_
      refine je_next ?_
      refine j_block ?_
      refine j_to (fun _ _ h => h) (fun w h => (h.own_nil intK 3 (A := none)).own_nil intK 3 (A := none)) ?_
      refine j_loopS (G := Nat × Value × List Int × Value × List Int) [(6, _), (54, _), (55, _)] (fun k t => (4, k.2.1) :: (5, k.2.2.2.1) :: (56, iV ((k.1 : Nat) : Int)) :: t) (fun k t => .own intK k.2.1 3 k.2.2.1 :: .own intK k.2.2.2.1 3 k.2.2.2.2 :: t) (fun k => k.1 ≤ (liveP cs).length ∧ k.2.2.1 = ((liveP cs).take k.1).filter (fun x => decide (x ∈ ks)) ∧ k.2.2.2.2 = ((liveP cs).take k.1).filter (fun x => !decide (x ∈ ks))) (fun k => (liveP cs).length - k.1) (0, .slice none 0 0, [], .slice none 0 0, []) (⟨Nat.zero_le _, rfl, rfl⟩) (lsub rfl (lsub rfl (lsub rfl (lsub rfl (lsub rfl (lsub rfl lsub0)))))) rfl (fun ⟨k, va, xa, vb, xb⟩ ⟨hk, hxa, hxb⟩ => ?_)
      simp only at hk hxa hxb
      have hla : xa.length ≤ k := by rw [hxa]; exact Nat.le_trans (List.length_filter_le _ _) (by rw [List.length_take]; omega)
      have hlb : xb.length ≤ k := by rw [hxb]; exact Nat.le_trans (List.length_filter_le _ _) (by rw [List.length_take]; omega)
      refine j_seq ?_
      refine j_region ?_
      refine jv (v_lss rfl rfl) (.no rfl) rfl ?_
      refine jo_nil ?_
      refine je_next ?_
      refine j_seq ?_
      refine j_if rfl (fun c3 => ?_) (fun c3 => ?_)
      · first | (with_reducible replace c3 := of_decide_eq_true c3) | skip
        refine j_skip ?_
        refine je_next ?_
        refine j_seq ?_
        refine j_block ?_
        refine j_seq ?_
        dsimp only at c3
        have hkl : k < (liveP cs).length := by omega
        refine j_region ?_
        refine jv (v_index rfl rfl FindR.row Try.runUnderlying27 Try.sizeOf3 (by omega) (by omega)) (.no rfl) rfl ?_
        refine jv (v_eload rfl FindR.row (at_k hkl) (by decide) Try.isAgg3 (fun _ _ _ h => int_at h)) (.no rfl) rfl ?_
        refine jv (v_assign rfl) (.no rfl) rfl ?_
        refine jo_nil ?_
        refine je_next ?_
        refine j_seq ?_
        refine j_region ?_
        refine jv (v_loadc rfl Try.isAgg88 rfl) (.no rfl) rfl ?_
        refine jv (v_move rfl) (.no rfl) rfl ?_
        refine jv (v_has (ks := ks) rfl rfl (by simp) Try.runUnderlying88 Try.runUnderlying3 Try.zeroValue4) (.no rfl) rfl ?_
        refine jo_nil ?_
        refine je_next ?_
        refine j_if rfl (fun z3 => ?_) (fun z3 => ?_)
        · first | (with_reducible replace z3 := of_decide_eq_true z3) | skip
          refine j_region ?_
          refine jv (v_move rfl) (.no rfl) rfl ?_
          refine jv (v_move rfl) (.no rfl) rfl ?_
          refine jq (q_lit1 (K := intK) (liveP cs)[k] rfl (Cells.one rfl) Try.runUnderlying27 Try.sizeOf3 Try.zeroValue3 rfl (by decide) (by decide) (fun _ _ _ => rfl)) (.no rfl) rfl ?_
          intro v65
          refine jx (x_append rfl rfl (fun _ => Hole.put _) FindR.row Try.runUnderlying27 Try.sizeOf3 Try.zeroValue3 rfl Try.typeInfo3 (by decide) (by decide) (by simp only [List.length_singleton]; omega)) (.no rfl) rfl ?_
          intro v66
          refine jv (v_assign rfl) (.no rfl) rfl ?_
          refine jo_nil ?_
          refine je_block ?_
          refine je_next ?_
          refine j_region ?_
          refine jv (v_add rfl rfl (by omega) (by omega)) (.no rfl) rfl ?_
          refine jv (v_move rfl) (.no rfl) rfl ?_
          refine jo_nil ?_
          refine je_round (k + 1, v66, xa ++ [(liveP cs)[k]], vb, xb) (by dsimp only; refine ⟨by omega, ?_, ?_⟩ <;> rw [filter_succ hkl] <;> simp [z3, hxa, hxb]) (by dsimp only; omega) (lsub rfl (lsub rfl (lsub rfl (lsub rfl (lsub rfl (lsub rfl lsub0)))))) (fun _ h => (h).sub fun p hp => (List.mem_append_right _ hp))
        · first | (with_reducible replace z3 := of_decide_eq_false z3) | skip
          refine j_region ?_
          refine jv (v_move rfl) (.no rfl) rfl ?_
          refine jv (v_move rfl) (.no rfl) rfl ?_
          refine jq (q_lit1 (K := intK) (liveP cs)[k] rfl (Cells.one rfl) Try.runUnderlying27 Try.sizeOf3 Try.zeroValue3 rfl (by decide) (by decide) (fun _ _ _ => rfl)) (.no rfl) rfl ?_
          intro v69
          refine jx (x_append rfl rfl (fun _ => Hole.put _) FindR.row Try.runUnderlying27 Try.sizeOf3 Try.zeroValue3 rfl Try.typeInfo3 (by decide) (by decide) (by simp only [List.length_singleton]; omega)) (.no rfl) rfl ?_
          intro v70
          refine jv (v_assign rfl) (.no rfl) rfl ?_
          refine jo_nil ?_
          refine je_block ?_
          refine je_next ?_
          refine j_region ?_
          refine jv (v_add rfl rfl (by omega) (by omega)) (.no rfl) rfl ?_
          refine jv (v_move rfl) (.no rfl) rfl ?_
          refine jo_nil ?_
          refine je_round (k + 1, va, xa, v70, xb ++ [(liveP cs)[k]]) (by dsimp only; refine ⟨by omega, ?_, ?_⟩ <;> rw [filter_succ hkl] <;> simp [z3, hxa, hxb]) (by dsimp only; omega) (lsub rfl (lsub rfl (lsub rfl (lsub rfl (lsub rfl (lsub rfl lsub0)))))) (fun _ h => (h).sub fun p hp => (List.mem_append_right _ hp))
      · first | (with_reducible replace c3 := of_decide_eq_false c3) | skip
        refine j_exit ?_
        refine je_then (by simp) ?_
        refine je_then (by simp) ?_
        refine je_hit ?_
        refine je_next ?_
        refine j_seq ?_
        dsimp only at c3
        rw [List.take_of_length_le (by omega)] at hxa hxb
        refine j_region ?_
        refine jv (v_move rfl) (.no rfl) rfl ?_
        refine jv (v_move rfl) (.no rfl) rfl ?_
        refine jv (v_assign rfl) (.no rfl) rfl ?_
        refine jv (v_assign rfl) (.no rfl) rfl ?_
        refine jo_nil ?_
        refine je_next ?_
        refine j_ret ?_
        have ea : xa = fromR cs l := by rw [hxa]; exact from_filter hG fun x _ => by rw [decide_eq_true_iff]; exact hend x
        have eb : xb = lostR cs l := by rw [hxb]; exact lost_filter hG fun x _ => by rw [Bool.not_eq_true', decide_eq_false_iff_not]; exact not_congr (hend x)
        refine je_ret rfl rfl rfl rfl rfl (rvs := [.tmp 4, .tmp 5]) rfl (.cons (.tmp rfl) (.cons (.tmp rfl) .nil)) (va, vb) ?_ (fun w h => ((h.freeze0 .head).freeze0 .head).fin (by rw [← ea, ← eb]; exact memc FindS.mem (memc FindS.mem mem0))) (.inl rfl)
        rfl

end Go.Proofs.Ytjgacbopccfecaa
