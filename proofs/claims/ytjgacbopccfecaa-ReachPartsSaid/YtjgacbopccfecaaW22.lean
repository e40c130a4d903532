/-
  Walks: function 73, function 33.
-/
import Derived.Test.YtjgacbopccfecaaN8
import Derived.Test.YtjgacbopccfecaaW1
import Derived.Test.YtjgacbopccfecaaW3
import Derived.Test.YtjgacbopccfecaaW4
set_option maxRecDepth 100000
set_option linter.unusedVariables false
set_option linter.unusedSimpArgs false
namespace Go.Proofs.Ytjgacbopccfecaa

theorem f73_spec {v lv : Value} {cs : List Cell} {last serial : Int} {is : List Nat} (hG : Gens cs) (hL : LivesIn cs is) (hP : Parts (serN cs) is) (hl : is.length ≤ 1000) : Spec Try.prog 73 [stA v last serial, lv] [] [sl cellK v cs, sl intK lv (is.map (hd cs))] Value (fun v' => v') (fun _ => []) (fun v' => [sl intK v' ((sortI (serN cs) is).map (hd cs))]) := by
  refine spec_of Try.func73 rfl Try.ntmps73 (by simp) fun ok w => ?_
  have hn := hG.1
  refine j_seq ?_
  refine j_region ?_
  refine jx (x_boxc rfl) (.no rfl) rfl ?_
  intro B2
  refine jv (v_assign rfl) (.no rfl) rfl ?_
  refine jo_nil ?_
  refine je_next ?_
  refine j_seq ?_
  refine j_region ?_
  refine jx (x_lit0 intK rfl Try.runUnderlying27 Try.sizeOf3) (.no rfl) rfl ?_
  intro v13
  refine jv (v_move rfl) (.no rfl) rfl ?_
  refine jx (x_append rfl rfl (fun _ => Hole.put _) FindR.row Try.runUnderlying27 Try.sizeOf3 Try.zeroValue3 rfl Try.typeInfo3 (by decide) (by decide) (by simp; omega)) (.no rfl) rfl ?_
  intro v15
  refine jv (v_assign rfl) (.no rfl) rfl ?_
  refine jo_nil ?_
  refine je_next ?_
  refine j_seq ?_
  refine j_seq ?_
  refine j_region ?_
  refine jv (v_assign rfl) (.no rfl) rfl ?_
  refine jo_nil ?_
  refine je_next ?_
  refine j_block ?_
  refine j_loopS (G := Nat × List Nat × List Int) [(2, _), (4, _), (5, _)] (fun k t => (6, iV ((k.1 : Nat) : Int)) :: t) (fun k t => .own intK v15 3 k.2.2 :: t) (fun k => 1 ≤ k.1 ∧ k.2.1.Perm is ∧ SortedTo (serN cs) k.1 k.2.1 ∧ k.2.2 = k.2.1.map (hd cs)) (fun k => is.length - k.1) (1, is, _) (⟨Nat.le_refl _, .refl _, sorted_1 _ _, by simp⟩) (lsub rfl (lsub rfl (lsub rfl (lsub rfl lsub0)))) rfl (fun ⟨i, js, ls⟩ ⟨hi1, hp, hso, hls⟩ => ?_)
  simp only at hi1 hp hso hls
  have hpl := hp.length_eq
  have hll : ls.length = js.length := by rw [hls, List.length_map]
  refine j_seq ?_
  refine j_seq ?_
  refine j_region ?_
  refine jv (v_move rfl) (.no rfl) rfl ?_
  refine jv (v_move rfl) (.no rfl) rfl ?_
  refine jv (v_len rfl FindR.row Try.runUnderlying27) (.no rfl) rfl ?_
  refine jv (v_lss rfl rfl) (.no rfl) rfl ?_
  refine jo_nil ?_
  refine je_next ?_
  refine j_if rfl (fun hc => ?_) (fun hc => ?_)
  · first | (with_reducible replace hc := of_decide_eq_true hc) | skip
    refine j_skip ?_
    refine je_next ?_
    refine j_seq ?_
    refine j_block ?_
    refine j_seq ?_
    dsimp only at hc
    have hib : i < js.length := by rw [← hll]; omega
    refine j_region ?_
    refine jv (v_move rfl) (.no rfl) rfl ?_
    refine jv (v_assign rfl) (.no rfl) rfl ?_
    refine jo_nil ?_
    refine je_next ?_
    refine j_block ?_
    refine j_loopS (G := Int × List Nat × List Int) [(2, _), (4, _), (5, _), (6, _), (16, _), (17, _), (18, _), (19, _), (22, _)] (fun k t => (7, iV k.1) :: t) (fun k t => .own intK v15 3 k.2.2 :: t) (fun k => 0 ≤ k.1 ∧ k.1 ≤ (i : Int) ∧ k.2.1.Perm is ∧ AlmostTo (serN cs) i k.1.toNat k.2.1 ∧ k.2.2 = k.2.1.map (hd cs)) (fun k => k.1.toNat) ((i : Int), js, ls) (⟨by omega, by omega, hp, by simpa using almost_of hso, hls⟩) (lsub rfl (lsub rfl (lsub rfl (lsub rfl (lsub rfl (lsub rfl (lsub rfl (lsub rfl (lsub rfl (lsub rfl lsub0)))))))))) rfl (fun ⟨kz, js2, ls2⟩ ⟨hk0, hki, hp2, hal, hls2⟩ => ?_)
    simp only at hk0 hki hp2 hal hls2
    have hpl2 := hp2.length_eq
    have hll2 : ls2.length = js2.length := by rw [hls2, List.length_map]
    refine j_seq ?_
    refine j_seq ?_
    refine j_region ?_
    refine jv (v_move rfl) (.no rfl) rfl ?_
    refine jv (v_gtr rfl rfl) (.no rfl) rfl ?_
    refine jo_nil ?_
    refine je_next ?_
    refine j_if rfl (fun hc2 => ?_) (fun hc2 => ?_)
    · first | (with_reducible replace hc2 := of_decide_eq_true hc2) | skip
      refine j_skip ?_
      refine je_next ?_
      refine j_seq ?_
      refine j_block ?_
      refine j_seq ?_
      dsimp only at hc2
      obtain ⟨k, rfl⟩ : ∃ n : Nat, kz = (n : Int) + 1 := ⟨kz.toNat - 1, by omega⟩
      have hkl : k + 1 < js2.length := by omega
      obtain ⟨x, hx⟩ : ∃ x, js2[k]? = some x := ⟨_, List.getElem?_eq_getElem (by omega)⟩
      obtain ⟨y, hy⟩ : ∃ y, js2[k + 1]? = some y := ⟨_, List.getElem?_eq_getElem (by omega)⟩
      obtain ⟨hxl, hfx⟩ := find_hd hG hL hp2 hx
      obtain ⟨hyl, hfy⟩ := find_hd hG hL hp2 hy
      have e1 : ((k : Int) + 1 - 1).toNat = k := by omega
      have e2 : ((k : Int) + 1).toNat = k + 1 := by omega
      rw [e2] at hal
      refine j_draw [] mixed ?_
      refine ja_take 0 rfl (by decide +kernel) (v_loadAc (vs := [_, _, _]) rfl Try.isAgg37 Try.sizeOf37 rfl rfl) (.no rfl) rfl ?_
      refine ja_take 2 rfl (by decide +kernel) (v_move rfl) (.no rfl) rfl ?_
      refine ja_take 3 rfl (by decide +kernel) (v_move rfl) (.no rfl) rfl ?_
      refine ja_take 4 rfl (by decide +kernel) (v_sub rfl rfl (by omega) (by omega)) (.no rfl) rfl ?_
      refine ja_take 5 rfl (by decide +kernel) (v_index rfl rfl FindR.row Try.runUnderlying27 Try.sizeOf3 (by (try dsimp only); omega) (by (try dsimp only); (try rw [List.length_set]); omega)) (.no rfl) rfl ?_
      refine ja_take 6 rfl (by decide +kernel) (v_eload rfl FindR.row (by rw [hls2]; exact mapx hx e1) (by decide) Try.isAgg3 (fun _ _ _ h => int_at h)) (.no rfl) rfl ?_
      refine ja_one (i := 1) (by decide +kernel) (jn_q rfl (q_callP (f56_spec (by omega)) Try.call56 (by rfl) rfl (memc FindS.mem mem0)) (.no rfl) rfl ?_)
      intro u29
      refine ja_one (i := 7) (by decide +kernel) (jn_q rfl (q_callP (f55_at hfx) Try.call55 (by rfl) rfl (memc FindS.mem mem0)) (.no rfl) rfl ?_)
      intro x35
      refine ja_take 8 rfl (by decide +kernel) (v_move rfl) (.no rfl) rfl ?_
      refine ja_take 9 rfl (by decide +kernel) (v_ext rfl rfl) (.no rfl) rfl ?_
      refine ja_take 10 rfl (by decide +kernel) (v_ext rfl rfl) (.no rfl) rfl ?_
      refine ja_take 11 rfl (by decide +kernel) (v_assign rfl) (.no rfl) rfl ?_
      refine ja_take 12 rfl (by decide +kernel) (v_assign rfl) (.no rfl) rfl ?_
      refine ja_nil (by decide +kernel) ?_
      refine je_next ?_
      refine j_seq ?_
      refine j_draw [] mixed ?_
      refine ja_take 0 rfl (by decide +kernel) (v_loadAc (vs := [_, _, _]) rfl Try.isAgg37 Try.sizeOf37 rfl rfl) (.no rfl) rfl ?_
      refine ja_take 2 rfl (by decide +kernel) (v_move rfl) (.no rfl) rfl ?_
      refine ja_take 3 rfl (by decide +kernel) (v_move rfl) (.no rfl) rfl ?_
      refine ja_take 4 rfl (by decide +kernel) (v_index rfl rfl FindR.row Try.runUnderlying27 Try.sizeOf3 (by (try dsimp only); omega) (by (try dsimp only); (try rw [List.length_set]); omega)) (.no rfl) rfl ?_
      refine ja_take 5 rfl (by decide +kernel) (v_eload rfl FindR.row (by rw [hls2]; exact mapx hy e2) (by decide) Try.isAgg3 (fun _ _ _ h => int_at h)) (.no rfl) rfl ?_
      refine ja_one (i := 1) (by decide +kernel) (jn_q rfl (q_callP (f56_spec (by omega)) Try.call56 (by rfl) rfl (memc FindS.mem mem0)) (.no rfl) rfl ?_)
      intro u40
      refine ja_one (i := 6) (by decide +kernel) (jn_q rfl (q_callP (f55_at hfy) Try.call55 (by rfl) rfl (memc FindS.mem mem0)) (.no rfl) rfl ?_)
      intro x45
      refine ja_take 7 rfl (by decide +kernel) (v_move rfl) (.no rfl) rfl ?_
      refine ja_take 8 rfl (by decide +kernel) (v_ext rfl rfl) (.no rfl) rfl ?_
      refine ja_take 9 rfl (by decide +kernel) (v_ext rfl rfl) (.no rfl) rfl ?_
      refine ja_take 10 rfl (by decide +kernel) (v_assign rfl) (.no rfl) rfl ?_
      refine ja_take 11 rfl (by decide +kernel) (v_assign rfl) (.no rfl) rfl ?_
      refine ja_nil (by decide +kernel) ?_
      refine je_next ?_
      refine j_seq ?_
      refine j_seq ?_
      refine j_draw [] mixed ?_
      refine ja_take 0 rfl (by decide +kernel) (v_move rfl) (.no rfl) rfl ?_
      refine ja_take 1 rfl (by decide +kernel) (v_lss rfl rfl) (.no rfl) rfl ?_
      refine ja_take 2 rfl (by decide +kernel) (v_move rfl) (.no rfl) rfl ?_
      refine ja_split 50 rfl (fun n1 => ?_) (fun n1 => ?_)
      · first | (with_reducible replace n1 := of_decide_eq_true n1) | skip
        exact absurd n1 (by omega)
      · first | (with_reducible replace n1 := of_decide_eq_false n1) | skip
        refine ja_take 3 rfl (by decide +kernel) (v_move rfl) (.yes rfl rfl rfl) rfl ?_
        refine ja_take 4 rfl (by decide +kernel) (v_lss rfl rfl) (.yes rfl rfl rfl) rfl ?_
        refine ja_take 5 rfl (by decide +kernel) (v_pickf rfl rfl) (.no rfl) rfl ?_
        refine ja_take 6 rfl (by decide +kernel) (v_move rfl) (.no rfl) rfl ?_
        refine ja_split 54 rfl (fun n2 => ?_) (fun n2 => ?_)
        · first | (with_reducible replace n2 := of_decide_eq_true n2) | skip
          exact absurd n2 (by omega)
        · first | (with_reducible replace n2 := of_decide_eq_false n2) | skip
          refine ja_take 7 rfl (by decide +kernel) (v_field (k' := 0) rfl Try.runUnderlying37 rfl Try.sizeOf35 (by decide) rfl) (.yes rfl rfl rfl) rfl ?_
          refine ja_take 8 rfl (by decide +kernel) (v_loadc rfl Try.isAgg35 rfl) (.yes rfl rfl rfl) rfl ?_
          refine ja_take 9 rfl (by decide +kernel) (v_move rfl) (.yes rfl rfl rfl) rfl ?_
          refine ja_take 10 rfl (by decide +kernel) (v_index rfl rfl FindR.row Try.runUnderlying35 Try.sizeOf83 (by omega) (by omega)) (.yes rfl rfl rfl) rfl ?_
          refine ja_take 11 rfl (by decide +kernel) (v_efield (k' := 2) rfl FindR.row (by omega) Try.runUnderlying83 rfl Try.sizeOf41 (by decide) rfl) (.yes rfl rfl rfl) rfl ?_
          refine ja_take 12 rfl (by decide +kernel) (v_efield (k' := 2) rfl FindR.row (by omega) Try.runUnderlying41 rfl Try.sizeOf3 (by decide) rfl) (.yes rfl rfl rfl) rfl ?_
          refine ja_take 13 rfl (by decide +kernel) (v_eload rfl FindR.row (at_k hxl) (by decide) Try.isAgg3 (fun _ _ _ h => (cell_at h).elim fun _ h => by rw [h.1]; rfl)) (.yes rfl rfl rfl) rfl ?_
          refine ja_take 14 rfl (by decide +kernel) (v_field (k' := 0) rfl Try.runUnderlying37 rfl Try.sizeOf35 (by decide) rfl) (.yes rfl rfl rfl) rfl ?_
          refine ja_take 15 rfl (by decide +kernel) (v_loadc rfl Try.isAgg35 rfl) (.yes rfl rfl rfl) rfl ?_
          refine ja_take 16 rfl (by decide +kernel) (v_move rfl) (.yes rfl rfl rfl) rfl ?_
          refine ja_take 17 rfl (by decide +kernel) (v_index rfl rfl FindR.row Try.runUnderlying35 Try.sizeOf83 (by omega) (by omega)) (.yes rfl rfl rfl) rfl ?_
          refine ja_take 18 rfl (by decide +kernel) (v_efield (k' := 2) rfl FindR.row (by omega) Try.runUnderlying83 rfl Try.sizeOf41 (by decide) rfl) (.yes rfl rfl rfl) rfl ?_
          refine ja_take 19 rfl (by decide +kernel) (v_efield (k' := 2) rfl FindR.row (by omega) Try.runUnderlying41 rfl Try.sizeOf3 (by decide) rfl) (.yes rfl rfl rfl) rfl ?_
          refine ja_take 20 rfl (by decide +kernel) (v_eload rfl FindR.row (at_k hyl) (by decide) Try.isAgg3 (fun _ _ _ h => (cell_at h).elim fun _ h => by rw [h.1]; rfl)) (.yes rfl rfl rfl) rfl ?_
          refine ja_take 21 rfl (by decide +kernel) (v_leq rfl rfl) (.yes rfl rfl rfl) rfl ?_
          refine ja_take 22 rfl (by decide +kernel) (v_pickf rfl rfl) (.no rfl) rfl ?_
          refine ja_nil (by decide +kernel) ?_
          refine je_next ?_
          refine j_if rfl (fun br => ?_) (fun br => ?_)
          · first | (with_reducible replace br := of_decide_eq_true br) | skip
            refine j_exit ?_
            refine je_then (by simp) ?_
            refine je_miss (by decide) ?_
            refine je_then (by simp) ?_
            refine je_then (by simp) ?_
            refine je_hit ?_
            refine je_block ?_
            refine je_next ?_
            refine j_region ?_
            refine jv (v_move rfl) (.no rfl) rfl ?_
            refine jv (v_add rfl rfl (by omega) (by omega)) (.no rfl) rfl ?_
            refine jv (v_assign rfl) (.no rfl) rfl ?_
            refine jo_nil ?_
            refine je_round (i + 1, js2, ls2) (by first | exact ⟨by omega, hp2, almost_0 hal (by omega), hls2⟩ | exact ⟨by omega, hp2, almost_stop hal (by omega) hx hy (by rw [serN_eq hxl, serN_eq hyl]; exact br), hls2⟩) (by first | omega | (dsimp only; omega)) (lsub rfl (lsub rfl (lsub rfl (lsub rfl lsub0)))) (fun _ h => (h).sub fun p hp => (List.mem_append_right _ (List.mem_append_right _ (List.mem_append_right _ (List.mem_append_right _ hp)))))
          · first | (with_reducible replace br := of_decide_eq_false br) | skip
            refine j_skip ?_
            refine je_next ?_
            refine j_seq ?_
            refine j_region ?_
            refine jv (v_move rfl) (.no rfl) rfl ?_
            refine jv (v_move rfl) (.no rfl) rfl ?_
            refine jv (v_index rfl rfl FindR.row Try.runUnderlying27 Try.sizeOf3 (by (try dsimp only); omega) (by (try dsimp only); (try rw [List.length_set]); omega)) (.no rfl) rfl ?_
            refine jv (v_eload rfl FindR.row (by rw [hls2]; exact mapx hy e2) (by decide) Try.isAgg3 (fun _ _ _ h => int_at h)) (.no rfl) rfl ?_
            refine jv (v_assign rfl) (.no rfl) rfl ?_
            refine jo_nil ?_
            refine je_next ?_
            refine j_seq ?_
            refine j_region ?_
            refine jv (v_move rfl) (.no rfl) rfl ?_
            refine jv (v_move rfl) (.no rfl) rfl ?_
            refine jv (v_move rfl) (.no rfl) rfl ?_
            refine jv (v_move rfl) (.no rfl) rfl ?_
            refine jv (v_sub rfl rfl (by omega) (by omega)) (.no rfl) rfl ?_
            refine jv (v_index rfl rfl FindR.row Try.runUnderlying27 Try.sizeOf3 (by (try dsimp only); omega) (by (try dsimp only); (try rw [List.length_set]); omega)) (.no rfl) rfl ?_
            refine jv (v_eload rfl FindR.row (by rw [hls2]; exact mapx hx e1) (by decide) Try.isAgg3 (fun _ _ _ h => int_at h)) (.no rfl) rfl ?_
            refine jv (v_index rfl rfl FindR.row Try.runUnderlying27 Try.sizeOf3 (by (try dsimp only); omega) (by (try dsimp only); (try rw [List.length_set]); omega)) (.no rfl) rfl ?_
            refine jx (x_storeE (e' := hd cs x) rfl rfl (by rw [hls2]; exact mapx hy e2) (Hole.put _) Try.sizeOf3 rfl (by decide) (fun ok h c _ h => by rw [show c = _ from h]; rfl)) (.no rfl) rfl ?_
            intro _
            refine jo_nil ?_
            refine je_next ?_
            refine j_region ?_
            refine jv (v_move rfl) (.no rfl) rfl ?_
            refine jv (v_move rfl) (.no rfl) rfl ?_
            refine jv (v_sub rfl rfl (by omega) (by omega)) (.no rfl) rfl ?_
            refine jv (v_move rfl) (.no rfl) rfl ?_
            refine jv (v_index rfl rfl FindR.row Try.runUnderlying27 Try.sizeOf3 (by (try dsimp only); omega) (by (try dsimp only); (try rw [List.length_set]); omega)) (.no rfl) rfl ?_
            refine jx (x_storeE (e' := hd cs y) rfl rfl (by rw [List.getElem?_set_ne (by omega), hls2]; exact mapx hx e1) (Hole.put _) Try.sizeOf3 rfl (by decide) (fun ok h c _ h => by rw [show c = _ from h]; rfl)) (.no rfl) rfl ?_
            intro _
            refine jo_nil ?_
            refine je_block ?_
            refine je_next ?_
            refine j_region ?_
            refine jv (v_move rfl) (.no rfl) rfl ?_
            refine jv (v_sub rfl rfl (by omega) (by omega)) (.no rfl) rfl ?_
            refine jv (v_assign rfl) (.no rfl) rfl ?_
            refine jo_nil ?_
            refine je_round ((k : Int) + 1 - 1, swp2 js2 k x y, _) (⟨by dsimp only; omega, by dsimp only; omega, (swp2_perm hx hy).trans hp2, by dsimp only; rw [e1]; exact almost_swap hal (by omega) (by omega) hx hy (by rw [serN_eq hxl, serN_eq hyl]; exact br), by dsimp only; rw [hls2, e1, e2]; exact map_swp⟩) (by dsimp only; omega) (lsub rfl (lsub rfl (lsub rfl (lsub rfl (lsub rfl (lsub rfl (lsub rfl (lsub rfl (lsub rfl (lsub rfl lsub0)))))))))) (fun _ h => (h).sub fun p hp => (List.mem_append_right _ (List.mem_append_right _ (List.mem_append_right _ (List.mem_append_right _ hp)))))
    · first | (with_reducible replace hc2 := of_decide_eq_false hc2) | skip
      refine j_exit ?_
      refine je_then (by simp) ?_
      refine je_then (by simp) ?_
      refine je_hit ?_
      refine je_block ?_
      refine je_next ?_
      refine j_region ?_
      refine jv (v_move rfl) (.no rfl) rfl ?_
      refine jv (v_add rfl rfl (by omega) (by omega)) (.no rfl) rfl ?_
      refine jv (v_assign rfl) (.no rfl) rfl ?_
      refine jo_nil ?_
      refine je_round (i + 1, js2, ls2) (by first | exact ⟨by omega, hp2, almost_0 hal (by omega), hls2⟩ | exact ⟨by omega, hp2, almost_stop hal (by omega) hx hy (by rw [serN_eq hxl, serN_eq hyl]; exact br), hls2⟩) (by first | omega | (dsimp only; omega)) (lsub rfl (lsub rfl (lsub rfl (lsub rfl lsub0)))) (fun _ h => (h).sub fun p hp => hp)
  · first | (with_reducible replace hc := of_decide_eq_false hc) | skip
    refine j_exit ?_
    refine je_then (by simp) ?_
    refine je_then (by simp) ?_
    refine je_hit ?_
    refine je_next ?_
    refine j_seq ?_
    refine j_region ?_
    refine jv (v_move rfl) (.no rfl) rfl ?_
    refine jv (v_assign rfl) (.no rfl) rfl ?_
    refine jo_nil ?_
    refine je_next ?_
    refine j_ret ?_
    dsimp only at hc
    have e := sortI_unique hp (sorted_all hso (by omega)) hP
    refine je_ret rfl rfl rfl rfl rfl (rvs := [.tmp 4]) rfl (.cons (.tmp rfl) .nil) v15 ?_ (fun w h => (h.freeze0 .head).fin (by rw [hls, e]; exact memc FindS.mem mem0)) (.inl rfl)
    rfl

theorem f33_spec {v : Value} {cs : List Cell} {last serial : Int} (hG : Gens cs) (hA : Apart cs) : Spec Try.prog 33 [stA v last serial] [] [sl cellK v cs] Value (fun v' => v') (fun _ => []) (fun v' => [sl intK v' (liveP cs)]) := by
  refine spec_of Try.func33 rfl Try.ntmps33 (by simp) fun ok w => ?_
  have hn := hG.1
  refine j_len v fun hlx => ?_
  refine j_seq ?_
  refine j_region ?_
  refine jx (x_boxc rfl) (.no rfl) rfl ?_
  intro B1
  refine jv (v_assign rfl) (.no rfl) rfl ?_
  refine jo_nil ?_
  refine je_next ?_
  refine j_seq ?_
  refine j_region ?_
  refine jx (x_lit0 intK rfl Try.runUnderlying27 Try.sizeOf3) (.no rfl) rfl ?_
  intro v5
  refine jv (v_assign rfl) (.no rfl) rfl ?_
  refine jo_nil ?_
  refine je_next ?_
  refine j_seq ?_
  refine j_seq ?_
  refine j_region ?_
  refine jv (v_assign rfl) (.no rfl) rfl ?_
  refine jo_nil ?_
  refine je_next ?_
  refine j_block ?_
  refine j_loopS (G := Nat × Value × List Int) [(1, _), (2, _)] (fun k t => (3, k.2.1) :: (4, iV ((k.1 : Nat) : Int)) :: t) (fun k t => .own intK k.2.1 3 k.2.2 :: t) (fun k => k.1 ≤ cs.length ∧ k.2.2 = (hits (stB cs 1) k.1).map (hd cs)) (fun k => cs.length - k.1) (0, _, []) (⟨Nat.zero_le _, rfl⟩) (lsub rfl (lsub rfl (lsub rfl (lsub rfl lsub0)))) rfl (fun ⟨k, u, ds⟩ ⟨hk, hd0⟩ => ?_)
  simp only at hk hd0
  have hhl := List.length_filter_le (stB cs 1) (List.range k)
  rw [List.length_range] at hhl
  refine j_seq ?_
  refine j_seq ?_
  refine j_region ?_
  refine jv (v_move rfl) (.no rfl) rfl ?_
  refine jv (v_field (k' := 0) rfl Try.runUnderlying37 rfl Try.sizeOf35 (by decide) rfl) (.no rfl) rfl ?_
  refine jv (v_loadc rfl Try.isAgg35 rfl) (.no rfl) rfl ?_
  refine jv (v_len rfl FindR.row Try.runUnderlying35) (.no rfl) rfl ?_
  refine jv (v_lss rfl rfl) (.no rfl) rfl ?_
  refine jo_nil ?_
  refine je_next ?_
  refine j_if rfl (fun hc => ?_) (fun hc => ?_)
  · first | (with_reducible replace hc := of_decide_eq_true hc) | skip
    refine j_skip ?_
    refine je_next ?_
    refine j_seq ?_
    refine j_block ?_
    refine j_seq ?_
    have hkl : k < cs.length := by omega
    refine j_region ?_
    refine jv (v_field (k' := 0) rfl Try.runUnderlying37 rfl Try.sizeOf35 (by decide) rfl) (.no rfl) rfl ?_
    refine jv (v_loadc rfl Try.isAgg35 rfl) (.no rfl) rfl ?_
    refine jv (v_move rfl) (.no rfl) rfl ?_
    refine jv (v_index rfl rfl FindR.row Try.runUnderlying35 Try.sizeOf83 (by omega) (by omega)) (.no rfl) rfl ?_
    refine jv (v_efield (k' := 0) rfl FindR.row (by omega) Try.runUnderlying83 rfl Try.sizeOf3 (by decide) rfl) (.no rfl) rfl ?_
    refine jv (v_eload rfl FindR.row (at_k hkl) (by decide) Try.isAgg3 (fun _ _ _ h => (cell_at h).elim fun _ h => by rw [h.1]; rfl)) (.no rfl) rfl ?_
    refine jv (v_eql rfl rfl) (.no rfl) rfl ?_
    refine jo_nil ?_
    refine je_next ?_
    refine j_if rfl (fun s1 => ?_) (fun s1 => ?_)
    · first | (with_reducible replace s1 := of_decide_eq_true s1) | skip
      have hst : stB cs 1 k = true := by rw [stB_at hkl]; simpa using s1
      refine j_region ?_
      refine jv (v_move rfl) (.no rfl) rfl ?_
      refine jv (v_move rfl) (.no rfl) rfl ?_
      refine jv (v_field (k' := 0) rfl Try.runUnderlying37 rfl Try.sizeOf35 (by decide) rfl) (.no rfl) rfl ?_
      refine jv (v_loadc rfl Try.isAgg35 rfl) (.no rfl) rfl ?_
      refine jv (v_move rfl) (.no rfl) rfl ?_
      refine jv (v_index rfl rfl FindR.row Try.runUnderlying35 Try.sizeOf83 (by omega) (by omega)) (.no rfl) rfl ?_
      refine jv (v_efield (k' := 1) rfl FindR.row (by omega) Try.runUnderlying83 rfl Try.sizeOf3 (by decide) rfl) (.no rfl) rfl ?_
      refine jv (v_eload rfl FindR.row (at_k hkl) (by decide) Try.isAgg3 (fun _ _ _ h => (cell_at h).elim fun _ h => by rw [h.1]; rfl)) (.no rfl) rfl ?_
      refine jq (q_callP (f72_spec) Try.call72 (by rfl) rfl mem0) (.no rfl) rfl ?_
      intro x28
      refine jq (q_lit1 (K := intK) (pack k cs[k].gen) rfl (Cells.one rfl) Try.runUnderlying27 Try.sizeOf3 Try.zeroValue3 rfl (by decide) (by decide) (fun _ _ _ => rfl)) (.no rfl) rfl ?_
      intro v29
      refine jx (x_append rfl rfl (fun _ => Hole.put _) FindR.row Try.runUnderlying27 Try.sizeOf3 Try.zeroValue3 rfl Try.typeInfo3 (by decide) (by decide) (by rw [hd0, List.length_map, List.length_singleton]; unfold hits; omega)) (.no rfl) rfl ?_
      intro v30
      refine jv (v_assign rfl) (.no rfl) rfl ?_
      refine jo_nil ?_
      refine je_block ?_
      refine je_next ?_
      refine j_region ?_
      refine jv (v_move rfl) (.no rfl) rfl ?_
      refine jv (v_add rfl rfl (by omega) (by omega)) (.no rfl) rfl ?_
      refine jv (v_assign rfl) (.no rfl) rfl ?_
      refine jo_nil ?_
      refine je_round (k + 1, _, _) (by simp only; refine ⟨by omega, ?_⟩; rw [hits_succ]; first | (rw [if_pos hst, List.map_append, hd0, hd_eq2 hkl]; rfl) | (rw [if_neg (by rw [stB_at hkl]; simpa using s1), List.append_nil]; exact hd0)) (by first | omega | (dsimp only; omega)) (lsub rfl (lsub rfl (lsub rfl (lsub rfl lsub0)))) (fun _ h => (h).sub fun p hp => (List.mem_append_right _ (List.mem_append_right _ hp)))
    · first | (with_reducible replace s1 := of_decide_eq_false s1) | skip
      refine j_skip ?_
      refine je_block ?_
      refine je_next ?_
      refine j_region ?_
      refine jv (v_move rfl) (.no rfl) rfl ?_
      refine jv (v_add rfl rfl (by omega) (by omega)) (.no rfl) rfl ?_
      refine jv (v_assign rfl) (.no rfl) rfl ?_
      refine jo_nil ?_
      refine je_round (k + 1, _, _) (by simp only; refine ⟨by omega, ?_⟩; rw [hits_succ]; first | (rw [if_pos hst, List.map_append, hd0, hd_eq2 hkl]; rfl) | (rw [if_neg (by rw [stB_at hkl]; simpa using s1), List.append_nil]; exact hd0)) (by first | omega | (dsimp only; omega)) (lsub rfl (lsub rfl (lsub rfl (lsub rfl lsub0)))) (fun _ h => (h).sub fun p hp => hp)
  · first | (with_reducible replace hc := of_decide_eq_false hc) | skip
    refine j_exit ?_
    refine je_then (by simp) ?_
    refine je_then (by simp) ?_
    refine je_hit ?_
    refine je_next ?_
    refine j_seq ?_
    have hkl : k = cs.length := by omega
    have he : ds = (slots cs 1).map (hd cs) := by rw [hd0, hkl]; rfl
    subst he
    refine j_to (fun _ _ h => h) (fun w h => h.freeze0 .head) ?_
    refine j_region ?_
    refine jv (v_loadAc (vs := [_, _, _]) rfl Try.isAgg37 Try.sizeOf37 rfl rfl) (.no rfl) rfl ?_
    refine jv (v_move rfl) (.no rfl) rfl ?_
    refine jq (q_callP (f73_spec hG (lives_slots cs) hA (by have := slots_len cs 1; omega)) Try.call73 (by rfl) rfl (memc FindS.mem (memc FindS.mem mem0))) (.no rfl) rfl ?_
    intro u33
    refine jv (v_assign rfl) (.no rfl) rfl ?_
    refine jo_nil ?_
    refine je_next ?_
    refine j_ret ?_
    refine je_ret rfl rfl rfl rfl rfl (rvs := [.tmp 2]) rfl (.cons (.tmp rfl) .nil) u33 ?_ (fun w h => h.fin (memc FindS.mem mem0)) (.inl rfl)
    rfl

end Go.Proofs.Ytjgacbopccfecaa
