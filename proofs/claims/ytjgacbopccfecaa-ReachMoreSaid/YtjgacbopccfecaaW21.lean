/-
  Walks: function it107, function 76, function 36, function 37, function 38.
-/
import Derived.Test.YtjgacbopccfecaaN7
import Derived.Test.YtjgacbopccfecaaBi
import Derived.Test.YtjgacbopccfecaaW7
import Derived.Test.YtjgacbopccfecaaW12
set_option maxRecDepth 100000
set_option linter.unusedVariables false
set_option linter.unusedSimpArgs false
namespace Go.Proofs.Ytjgacbopccfecaa

theorem it107_spec {v : Value} {cs : List Cell} {last serial : Int} {B1 : Nat} (hG : Gens cs) (hA : Apart cs) (hF : ∀ c ∈ cs, c.val.fields.length ≤ 1000) {G : Type} {M : G → Opq} {good : Nat → G → Prop} {stop : G → Prop} {L : Nat} (hy : ∀ k g (hk : k < (i2 (edgesP cs)).length), good k g → YieldC Try.prog L (i2 (edgesP cs))[k] (M g) (YX good stop (k + 1)) (fun x => x.1.1) (fun x => M x.1.2)) (g0 : G) (h0 : good 0 g0) : Spec Try.prog 107 [.func (.yield L) #[] #[], ptr B1 0] [.opq (M g0)] [ro B1 [v, iV last, iV serial] 26, sl cellK v cs] { g // good (i2 (edgesP cs)).length g ∨ stop g } (fun _ => .tuple #[]) (fun g => [.opq (M g.1)]) (fun _ => []) := by
  refine spec_of Try.func107 rfl Try.ntmps107 (by simp) fun ok w => ?_
  refine j_len v fun hlx => ?_
  have hn := hG.1
  have hI := gensI hG
  have hll := liveP_le cs
  refine j_scope rfl ?_
  refine j_seq ?_
  refine j_label ?_
  refine je_next ?_
  refine j_seq ?_
  refine j_region ?_
  refine jv (v_loadAc (vs := [_, _, _]) rfl Try.isAgg26 Try.sizeOf26 rfl rfl) (.no rfl) rfl ?_
  refine jq (q_callP (f28_spec (by omega) hI hA) Try.call28 (by rfl) rfl (memc FindS.mem mem0)) (.no rfl) rfl ?_
  intro u10
  refine jv (v_len rfl FindR.row Try.runUnderlying27) (.no rfl) rfl ?_
  refine jv (v_move rfl) (.no rfl) rfl ?_
  refine jo_nil ?_
  refine je_next ?_
  refine j_block ?_
  refine j_loopS (G := Nat × G) [(0, _), (1, _), (10, _), (11, _)] (fun k t => (12, iV ((k.1 : Nat) : Int)) :: t) (fun k t => .opq (M k.2) :: t) (fun k => k.1 ≤ (liveP cs).length ∧ good (edgesK cs k.1).length k.2) (fun k => (liveP cs).length - k.1) (0, g0) (⟨Nat.zero_le _, h0⟩) (lsub rfl (lsub rfl (lsub rfl (lsub rfl (lsub rfl lsub0))))) rfl (fun ⟨k, g⟩ ⟨hk, hg⟩ => ?_)
  simp only at hk hg
  refine j_seq ?_
  refine j_region ?_
  refine jv (v_lss rfl rfl) (.no rfl) rfl ?_
  refine jo_nil ?_
  refine je_next ?_
  refine j_seq ?_
  refine j_if rfl (fun hc => ?_) (fun hc => ?_)
  · first | (with_reducible replace hc := of_decide_eq_true hc) | skip
    refine j_skip ?_
    refine je_next ?_
    refine j_seq ?_
    refine j_block ?_
    refine j_seq ?_
    have hkl : k < (liveP cs).length := by omega
    obtain ⟨hil, hgk⟩ := live_get hG hkl
    refine j_region ?_
    refine jv (v_index rfl rfl FindR.row Try.runUnderlying27 Try.sizeOf3 (by omega) (by omega)) (.no rfl) rfl ?_
    refine jv (v_eload rfl FindR.row (at_k hkl) (by decide) Try.isAgg3 (fun _ _ _ h => int_at h)) (.no rfl) rfl ?_
    refine jv (v_assign rfl) (.no rfl) rfl ?_
    refine jo_nil ?_
    refine je_next ?_
    refine j_seq ?_
    refine j_region ?_
    refine jv (v_loadAc (vs := [_, _, _]) rfl Try.isAgg26 Try.sizeOf26 rfl rfl) (.no rfl) rfl ?_
    refine jv (v_move rfl) (.no rfl) rfl ?_
    refine jq (q_callP (f22_spec (by omega) hI) Try.call22 (by rfl) rfl (memc FindS.mem mem0)) (.no rfl) rfl ?_
    intro f19
    refine jv (v_move rfl) (.no rfl) rfl ?_
    refine jv (v_ext rfl rfl) (.no rfl) rfl ?_
    refine jv (v_ext rfl rfl) (.no rfl) rfl ?_
    refine jx (x_alloc Try.zeroValue29 Cells.agg) (.no rfl) rfl ?_
    intro B5
    refine jx (x_storec (cs' := [_, _, _, _, _, _]) rfl rfl rfl Try.sizeOf29 rfl rfl) (.no rfl) rfl ?_
    intro _
    refine jv (v_assign rfl) (.no rfl) rfl ?_
    refine jo_nil ?_
    refine je_next ?_
    refine j_seq ?_
    refine j_seq ?_
    refine j_region ?_
    refine jv (v_move rfl) (.no rfl) rfl ?_
    refine jv (v_neq rfl rfl) (.no rfl) rfl ?_
    refine jo_nil ?_
    refine je_next ?_
    refine j_if rfl (fun z1 => ?_) (fun z1 => ?_)
    · first | (with_reducible replace z1 := of_decide_eq_true z1) | skip
      exact absurd (by rw [hgk]) z1
    · first | (with_reducible replace z1 := of_decide_eq_false z1) | skip
      refine j_skip ?_
      refine je_next ?_
      refine j_seq ?_
      refine j_region ?_
      refine jv (v_field (k' := 5) rfl Try.runUnderlying29 rfl Try.sizeOf27 (by decide) rfl) (.no rfl) rfl ?_
      refine jv (v_loadc rfl Try.isAgg27 rfl) (.no rfl) rfl ?_
      refine jv (v_len rfl FindR.row Try.runUnderlying27) (.no rfl) rfl ?_
      refine jv (v_move rfl) (.no rfl) rfl ?_
      refine jo_nil ?_
      refine je_next ?_
      refine j_block ?_
      refine j_to (fun _ _ h => h) (fun w h => h.del .head) ?_
      refine j_len f19 fun hlf => ?_
      refine j_loopS (G := Nat × G) [(0, _), (1, _), (4, _), (5, _), (6, _), (10, _), (11, _), (12, _), (13, _), (14, _), (15, _), (16, _), (17, _), (18, _), (19, _), (20, _), (21, _), (22, _), (23, _), (24, _), (25, _), (26, _)] (fun j t => (27, iV ((j.1 : Nat) : Int)) :: t) (fun j t => .opq (M j.2) :: t) (fun j => j.1 ≤ (getP cs (liveP cs)[k]).1.fields.length ∧ good ((edgesK cs k).length + (namesL ((getP cs (liveP cs)[k]).1.fields.take j.1)).length) j.2) (fun j => (getP cs (liveP cs)[k]).1.fields.length - j.1) (0, g) (⟨Nat.zero_le _, hg⟩) (lsub rfl (lsub rfl (lsub rfl (lsub rfl (lsub rfl (lsub rfl (lsub rfl (lsub rfl (lsub rfl (lsub rfl (lsub rfl (lsub rfl (lsub rfl (lsub rfl (lsub rfl (lsub rfl (lsub rfl (lsub rfl (lsub rfl (lsub rfl (lsub rfl (lsub rfl (lsub rfl lsub0))))))))))))))))))))))) rfl (fun ⟨j, g2⟩ ⟨hj, hg2⟩ => ?_)
      simp only at hj hg2
      refine j_seq ?_
      refine j_region ?_
      refine jv (v_lss rfl rfl) (.no rfl) rfl ?_
      refine jo_nil ?_
      refine je_next ?_
      refine j_seq ?_
      refine j_if rfl (fun hc2 => ?_) (fun hc2 => ?_)
      · first | (with_reducible replace hc2 := of_decide_eq_true hc2) | skip
        refine j_skip ?_
        refine je_next ?_
        refine j_seq ?_
        refine j_block ?_
        refine j_seq ?_
        have hjl : j < (getP cs (liveP cs)[k]).1.fields.length := by omega
        refine j_region ?_
        refine jv (v_index rfl rfl FindR.row Try.runUnderlying27 Try.sizeOf3 (by omega) (by omega)) (.no rfl) rfl ?_
        refine jv (v_eload rfl FindR.row (at_k hjl) (by decide) Try.isAgg3 (fun _ _ _ h => int_at h)) (.no rfl) rfl ?_
        refine jv (v_assign rfl) (.no rfl) rfl ?_
        refine jo_nil ?_
        refine je_next ?_
        refine j_seq ?_
        refine j_region ?_
        refine jv (v_move rfl) (.no rfl) rfl ?_
        refine jv (v_neq rfl rfl) (.no rfl) rfl ?_
        refine jv (v_move rfl) (.no rfl) rfl ?_
        refine j_split 33 rfl (fun s1 => ?_) (fun s1 => ?_)
        · first | (with_reducible replace s1 := of_decide_eq_true s1) | skip
          refine jv (v_move rfl) (.yes rfl rfl rfl) rfl ?_
          refine jv (v_move rfl) (.yes rfl rfl rfl) rfl ?_
          refine jv (v_move rfl) (.yes rfl rfl rfl) rfl ?_
          have hnz : (getP cs (liveP cs)[k]).1.fields[j] ≠ 0 := by simpa using s1
          obtain ⟨hlen, hix⟩ := edge_at (j := j) hkl hjl hnz
          have hY := hy _ g2 hlen hg2
          rw [hix] at hY
          refine jx (x_yield hY rfl rfl (.cons .head .nil)) (.yes rfl rfl rfl) rfl ?_
          intro y
          refine jv (v_not rfl) (.yes rfl rfl rfl) rfl ?_
          refine jv (v_pickt rfl rfl) (.no rfl) rfl ?_
          refine jo_nil ?_
          refine je_next ?_
          refine j_if rfl (fun yb => ?_) (fun yb => ?_)
          · first | (with_reducible replace yb := of_decide_eq_true yb) | skip
            refine j_exit ?_
            refine je_miss (by decide) ?_
            refine je_then (by simp) ?_
            refine je_then (by simp) ?_
            refine je_miss (by decide) ?_
            refine je_miss (by decide) ?_
            refine je_then (by simp) ?_
            refine je_then (by simp) ?_
            refine je_hit ?_
            refine je_scopeN ?_
            refine je_ret rfl rfl rfl rfl rfl (rvs := []) rfl .nil (⟨y.1.2, .inr (yx_stop y (by simpa using yb))⟩ : { g // good (i2 (edgesP cs)).length g ∨ stop g }) ?_ (fun w h => (h).sub mem0) (.inr rfl)
            rfl
          · first | (with_reducible replace yb := of_decide_eq_false yb) | skip
            refine j_skip ?_
            refine je_block ?_
            refine je_next ?_
            refine j_region ?_
            refine jv (v_add rfl rfl (by omega) (by omega)) (.no rfl) rfl ?_
            refine jv (v_move rfl) (.no rfl) rfl ?_
            refine jo_nil ?_
            refine je_round (j + 1, y.1.2) (by simp only; refine ⟨by omega, ?_⟩; rw [names_succ hjl]; first | (rw [if_pos hnz, List.length_append]; exact yx_go y (by simpa using yb)) | (rw [if_neg (by simpa using s1)]; simpa using hg2)) (by first | omega | (dsimp only; omega)) (lsub rfl (lsub rfl (lsub rfl (lsub rfl (lsub rfl (lsub rfl (lsub rfl (lsub rfl (lsub rfl (lsub rfl (lsub rfl (lsub rfl (lsub rfl (lsub rfl (lsub rfl (lsub rfl (lsub rfl (lsub rfl (lsub rfl (lsub rfl (lsub rfl (lsub rfl (lsub rfl lsub0))))))))))))))))))))))) (fun _ h => (h).sub fun p hp => hp)
        · first | (with_reducible replace s1 := of_decide_eq_false s1) | skip
          refine j_off rfl rfl rfl (by decide) rfl ?_
          refine j_off rfl rfl rfl (by decide) rfl ?_
          refine j_off rfl rfl rfl (by decide) rfl ?_
          refine j_off rfl rfl rfl (by decide) rfl ?_
          refine j_off rfl rfl rfl (by decide) rfl ?_
          refine jv (v_pickf rfl rfl) (.no rfl) rfl ?_
          refine jo_nil ?_
          refine je_next ?_
          refine j_iff rfl ?_
          refine j_skip ?_
          refine je_block ?_
          refine je_next ?_
          refine j_region ?_
          refine jv (v_add rfl rfl (by omega) (by omega)) (.no rfl) rfl ?_
          refine jv (v_move rfl) (.no rfl) rfl ?_
          refine jo_nil ?_
          refine je_round (j + 1, g2) (by simp only; refine ⟨by omega, ?_⟩; rw [names_succ hjl]; first | (rw [if_pos hnz, List.length_append]; exact yx_go y (by simpa using yb)) | (rw [if_neg (by simpa using s1)]; simpa using hg2)) (by first | omega | (dsimp only; omega)) (lsub rfl (lsub rfl (lsub rfl (lsub rfl (lsub rfl (lsub rfl (lsub rfl (lsub rfl (lsub rfl (lsub rfl (lsub rfl (lsub rfl (lsub rfl (lsub rfl (lsub rfl (lsub rfl (lsub rfl (lsub rfl (lsub rfl (lsub rfl (lsub rfl (lsub rfl (lsub rfl lsub0))))))))))))))))))))))) (fun _ h => (h).sub fun p hp => hp)
      · first | (with_reducible replace hc2 := of_decide_eq_false hc2) | skip
        refine j_exit ?_
        refine je_then (by simp) ?_
        refine je_then (by simp) ?_
        refine je_hit ?_
        refine je_block ?_
        refine je_next ?_
        have hjl : j = (getP cs (liveP cs)[k]).1.fields.length := by omega
        rw [hjl, List.take_length] at hg2
        refine j_region ?_
        refine jv (v_add rfl rfl (by omega) (by omega)) (.no rfl) rfl ?_
        refine jv (v_move rfl) (.no rfl) rfl ?_
        refine jo_nil ?_
        refine je_round (k + 1, g2) (by simp only; refine ⟨by omega, ?_⟩; rw [edgesK_succ hkl, List.length_append, outE_len]; exact hg2) (by first | omega | (dsimp only; omega)) (lsub rfl (lsub rfl (lsub rfl (lsub rfl (lsub rfl lsub0))))) (fun _ h => (h).sub fun p hp => (List.mem_append_right _ hp))
  · first | (with_reducible replace hc := of_decide_eq_false hc) | skip
    refine j_exit ?_
    refine je_then (by simp) ?_
    refine je_then (by simp) ?_
    refine je_hit ?_
    refine je_scopeN ?_
    have e := edgesK_all (cs := cs) (k := k) (by omega)
    rw [e, ← i2_len] at hg
    refine je_ret rfl rfl rfl rfl rfl (rvs := []) rfl .nil (⟨g, .inl hg⟩ : { g // good (i2 (edgesP cs)).length g ∨ stop g }) ?_ (fun w h => (h).sub mem0) (.inr rfl)
    rfl

theorem it107 {v : Value} {cs : List Cell} {last serial : Int} {B1 : Nat} (hG : Gens cs) (hA : Apart cs) (hF : ∀ c ∈ cs, c.val.fields.length ≤ 1000) : Iter Try.prog 107 [ptr B1 0] [ro B1 [v, iV last, iV serial] 26, sl cellK v cs] (i2 (edgesP cs)) := fun G M good stop L hy g0 h0 => it107_spec hG hA hF hy g0 h0
theorem f76_spec {v : Value} {cs : List Cell} {last serial : Int} : Spec Try.prog 76 [stA v last serial] [] [sl cellK v cs] Nat (fun b => .func (.func 107) #[] [ptr b 0].toArray) (fun _ => []) (fun b => [ro b [v, iV last, iV serial] 26]) := by
  refine spec_of Try.func76 rfl Try.ntmps76 (by simp) fun ok w => ?_
  refine j_seq ?_
  refine j_region ?_
  refine jx (x_boxc rfl) (.no rfl) rfl ?_
  intro B1
  refine jv (v_assign rfl) (.no rfl) rfl ?_
  refine jo_nil ?_
  refine je_next ?_
  refine j_seq ?_
  refine j_region ?_
  refine jv (v_func rfl) (.no rfl) rfl ?_
  refine jv (v_assign rfl) (.no rfl) rfl ?_
  refine jo_nil ?_
  refine je_next ?_
  refine j_ret ?_
  refine je_ret rfl rfl rfl rfl rfl (rvs := [.tmp 2]) rfl (.cons (.tmp rfl) .nil) B1 ?_ (fun w h => (h.freezeB0 .head).fin (memc FindM.mem mem0)) (.inl rfl)
  rfl

theorem f36_spec {v : Value} {cs : List Cell} {last serial : Int} {h : Int} (hG : Gens cs) (hA : Apart cs) (hF : ∀ c ∈ cs, c.val.fields.length ≤ 1000) (hE : (edgesP cs).length ≤ 100000) : Spec Try.prog 36 [stA v last serial, iV h] [] [sl cellK v cs] Unit (fun _ => iV (inE h (edgesP cs))) (fun _ => []) (fun _ => []) := by
  refine spec_ofM Try.func36 rfl Try.ntmps36 (by simp) fun ok w => ?_
  refine j_seq ?_
  refine j_region ?_
  refine jx (x_boxc rfl) (.no rfl) rfl ?_
  intro B2
  refine jx (x_boxc rfl) (.no rfl) rfl ?_
  intro B3
  refine jx (x_alloc Try.zeroValue3 (Cells.one rfl)) (.no rfl) rfl ?_
  intro B4
  refine jo_nil ?_
  refine je_next ?_
  refine j_seq ?_
  refine j_seq ?_
  refine j_region ?_
  refine jv (v_loadAc (vs := [_, _, _]) rfl Try.isAgg26 Try.sizeOf26 rfl rfl) (.no rfl) rfl ?_
  refine jq (q_callP (f76_spec) Try.call76 (by rfl) rfl (memc FindS.mem mem0)) (.no rfl) rfl ?_
  intro b8
  refine jo_nil ?_
  refine je_next ?_
  refine j_block ?_
  refine j_rangeS (it107 (v := v) (cs := cs) (last := last) (serial := serial) (B1 := b8) hG hA hF) Try.call107 (by rfl) rfl rfl (memc FindM.mem (memc FindS.mem mem0)) i2_hps rfl [(3, _), (4, _)] (lsub rfl (lsub rfl lsub0)) (fun x t => (6, x.getD 1 undef) :: t) (G := Int) (fun g t => .blk B4 [iV g] 3 :: t) (fun g => []) (fun k g => g = inE h ((edgesP cs).take k)) (fun g c => False) 0 rfl rfl rfl ?_ ?_ ?_ ?_
  · intro x hx g L D ob ok w
    obtain ⟨i, _, rfl⟩ := List.mem_map.1 hx
    refine j_region ?_
    refine jv (v_assign rfl) (.no rfl) rfl ?_
    refine jo_nil ?_
    exact je_asg (lsub rfl (lsub rfl (lsub rfl lsub0)))
  · intro k g hk hg L D1 ob ob' ok w
    obtain ⟨hkl, hxk⟩ := i2_get hk
    rw [hxk]
    show J _ _ _ ((6, iV (edgesP cs)[k].2) :: _) _ _
    have hb := inE_lo h ((edgesP cs).take k)
    rw [List.length_take, ← hg] at hb
    refine j_block ?_
    refine j_seq ?_
    refine j_region ?_
    refine jv (v_move rfl) (.no rfl) rfl ?_
    refine jv (v_loadc rfl Try.isAgg3 rfl) (.no rfl) rfl ?_
    refine jv (v_eql rfl rfl) (.no rfl) rfl ?_
    refine jo_nil ?_
    refine je_next ?_
    refine j_if rfl (fun h2 => ?_) (fun h2 => ?_)
    · first | (with_reducible replace h2 := of_decide_eq_true h2) | skip
      refine j_region ?_
      refine jv (v_loadc rfl Try.isAgg3 rfl) (.no rfl) rfl ?_
      refine jv (v_add rfl rfl (by omega) (by omega)) (.no rfl) rfl ?_
      refine jx (x_storec (cs' := [_]) rfl rfl rfl Try.sizeOf3 rfl rfl) (.no rfl) rfl ?_
      intro _
      refine jo_nil ?_
      refine je_block ?_
      exact je_rpost _ rfl rfl rfl (by show _ = _; rw [inE_succ hkl, ← hg]; simp_all) (fun _ h => (h).sub fun p hp => hp)
    · first | (with_reducible replace h2 := of_decide_eq_false h2) | skip
      refine j_skip ?_
      refine je_block ?_
      exact je_rpost _ rfl rfl rfl (by show _ = _; rw [inE_succ hkl, ← hg]; simp_all) (fun _ h => (h).sub fun p hp => hp)
  · intro g D1 hg
    rw [i2_len, List.take_length] at hg
    refine je_block ?_
    refine je_next ?_
    refine j_seq ?_
    refine j_region ?_
    refine jv (v_loadc rfl Try.isAgg3 rfl) (.no rfl) rfl ?_
    refine jx (x_storec (cs' := [_]) rfl rfl rfl Try.sizeOf3 rfl rfl) (.no rfl) rfl ?_
    intro _
    refine jo_nil ?_
    refine je_next ?_
    refine j_ret ?_
    refine je_retM rfl rfl rfl rfl [D1] rfl (.cons .head .nil) (rvs := [.cell 4 3]) rfl (.cons (.cell rfl FindB.mem Try.isAgg3 rfl) .nil) () ?_ (fun w h => h.fin mem0) (.inl rfl)
    rw [← hg]; rfl
  · intro _ c D1 hg
    exact hg.elim

theorem f37_spec {v : Value} {cs : List Cell} {last serial : Int} (hG : Gens cs) (hA : Apart cs) (hF : ∀ c ∈ cs, c.val.fields.length ≤ 1000) (hE : (edgesP cs).length ≤ 100000) : Spec Try.prog 37 [stA v last serial] [] [sl cellK v cs] Value (fun v' => v') (fun _ => []) (fun v' => [sl intK v' (danE cs (edgesP cs))]) := by
  refine spec_ofM Try.func37 rfl Try.ntmps37 (by simp) fun ok w => ?_
  have hn := hG.1
  have hI := gensI hG
  refine j_seq ?_
  refine j_region ?_
  refine jx (x_boxc rfl) (.no rfl) rfl ?_
  intro B1
  refine jx (x_alloc Try.zeroValue27 (Cells.one rfl)) (.no rfl) rfl ?_
  intro B2
  refine jo_nil ?_
  refine je_next ?_
  refine j_seq ?_
  refine j_seq ?_
  refine j_region ?_
  refine jv (v_loadAc (vs := [_, _, _]) rfl Try.isAgg26 Try.sizeOf26 rfl rfl) (.no rfl) rfl ?_
  refine jq (q_callP (f76_spec) Try.call76 (by rfl) rfl (memc FindS.mem mem0)) (.no rfl) rfl ?_
  intro b8
  refine jo_nil ?_
  refine je_next ?_
  refine j_block ?_
  refine j_to (fun _ _ h => h) (fun w h => h.own_nil intK 3 (A := none)) ?_
  refine j_rangeS (it107 (v := v) (cs := cs) (last := last) (serial := serial) (B1 := b8) hG hA hF) Try.call107 (by rfl) rfl rfl (memc FindM.mem (memc FindS.mem mem0)) i2_hps rfl [(1, _), (2, _)] (lsub rfl (lsub rfl lsub0)) (fun x t => (4, x.getD 1 undef) :: t) (G := Value × List Int) (fun g t => .own intK g.1 3 g.2 :: .blk B2 [g.1] 27 :: t) (fun g => []) (fun k g => g.2 = danE cs ((edgesP cs).take k)) (fun g c => False) (.slice none 0 0, []) rfl rfl rfl ?_ ?_ ?_ ?_
  · intro x hx g L D ob ok w
    obtain ⟨i, _, rfl⟩ := List.mem_map.1 hx
    refine j_region ?_
    refine jv (v_assign rfl) (.no rfl) rfl ?_
    refine jo_nil ?_
    exact je_asg (lsub rfl (lsub rfl (lsub rfl lsub0)))
  · intro k ⟨u, ds⟩ hk hg L D1 ob ob' ok w
    obtain ⟨hkl, hxk⟩ := i2_get hk
    rw [hxk]
    show J _ _ _ ((4, iV (edgesP cs)[k].2) :: _) _ _
    simp only at hg
    have hb := danE_le cs ((edgesP cs).take k)
    rw [List.length_take, ← hg] at hb
    refine j_block ?_
    refine j_seq ?_
    refine j_region ?_
    refine jv (v_loadAc (vs := [_, _, _]) rfl Try.isAgg26 Try.sizeOf26 rfl rfl) (.no rfl) rfl ?_
    refine jv (v_move rfl) (.no rfl) rfl ?_
    refine jq (q_callP (f22_spec (by omega) hI) Try.call22 (by rfl) rfl (memc FindS.mem mem0)) (.no rfl) rfl ?_
    intro f14
    refine jv (v_move rfl) (.no rfl) rfl ?_
    refine jv (v_ext rfl rfl) (.no rfl) rfl ?_
    refine jv (v_ext rfl rfl) (.no rfl) rfl ?_
    refine jx (x_alloc Try.zeroValue29 Cells.agg) (.no rfl) rfl ?_
    intro B5
    refine jx (x_storec (cs' := [_, _, _, _, _, _]) rfl rfl rfl Try.sizeOf29 rfl rfl) (.no rfl) rfl ?_
    intro _
    refine jv (v_assign rfl) (.no rfl) rfl ?_
    refine jo_nil ?_
    refine je_next ?_
    refine j_seq ?_
    refine j_region ?_
    refine jv (v_move rfl) (.no rfl) rfl ?_
    refine jv (v_neq rfl rfl) (.no rfl) rfl ?_
    refine jo_nil ?_
    refine je_next ?_
    refine j_if rfl (fun z1 => ?_) (fun z1 => ?_)
    · first | (with_reducible replace z1 := of_decide_eq_true z1) | skip
      refine j_region ?_
      refine jv (v_loadc rfl Try.isAgg27 rfl) (.no rfl) rfl ?_
      refine jv (v_move rfl) (.no rfl) rfl ?_
      refine jq (q_lit1 (K := intK) (edgesP cs)[k].2 rfl (Cells.one rfl) Try.runUnderlying27 Try.sizeOf3 Try.zeroValue3 rfl (by decide) (by decide) (fun _ _ _ => rfl)) (.no rfl) rfl ?_
      intro v21
      refine jx (x_append rfl rfl (fun _ => Hole.put _) FindR.row Try.runUnderlying27 Try.sizeOf3 Try.zeroValue3 rfl Try.typeInfo3 (by decide) (by decide) (by simp only [List.length_singleton]; omega)) (.no rfl) rfl ?_
      intro v22
      refine jx (x_storec (cs' := [_]) rfl rfl rfl Try.sizeOf27 rfl rfl) (.no rfl) rfl ?_
      intro _
      refine jo_nil ?_
      refine je_block ?_
      exact je_rpost (v22, _) rfl rfl rfl (by show _ = _; rw [danE_succ hkl, if_pos z1, hg]) (fun _ h => ((h).del .head).sub fun p hp => (List.mem_append_right _ (List.mem_append_right _ hp)))
    · first | (with_reducible replace z1 := of_decide_eq_false z1) | skip
      refine j_skip ?_
      refine je_block ?_
      exact je_rpost (u, ds) rfl rfl rfl (by show _ = _; rw [danE_succ hkl, if_neg z1, hg, List.append_nil]) (fun _ h => ((h).del .head).sub fun p hp => (List.mem_append_right _ hp))
  · intro ⟨u, ds⟩ D1 hg
    simp only at hg
    rw [i2_len, List.take_length] at hg
    refine je_block ?_
    refine je_next ?_
    refine j_seq ?_
    refine j_region ?_
    refine jv (v_loadc rfl Try.isAgg27 rfl) (.no rfl) rfl ?_
    refine jx (x_storec (cs' := [_]) rfl rfl rfl Try.sizeOf27 rfl rfl) (.no rfl) rfl ?_
    intro _
    refine jo_nil ?_
    refine je_next ?_
    refine j_ret ?_
    refine je_retM rfl rfl rfl rfl [D1] rfl (.cons .head .nil) (rvs := [.cell 2 27]) rfl (.cons (.cell rfl FindB.mem Try.isAgg27 rfl) .nil) u ?_ (fun w h => (h.freeze0 (.tail .head)).fin (by rw [hg]; exact memc FindS.mem mem0)) (.inl rfl)
    rfl
  · intro _ c D1 hg
    exact hg.elim

theorem f38_spec {v : Value} {cs : List Cell} {last serial : Int} {h : Int} (hG : Gens cs) (hA : Apart cs) (hF : ∀ c ∈ cs, c.val.fields.length ≤ 1000) (hE : (edgesP cs).length ≤ 100000) : Spec Try.prog 38 [stA v last serial, iV h] [] [sl cellK v cs] Value (fun v' => v') (fun _ => []) (fun v' => [sl intK v' (byE h (edgesP cs)).1]) := by
  refine spec_ofM Try.func38 rfl Try.ntmps38 (by simp) fun ok w => ?_
  refine j_seq ?_
  refine j_region ?_
  refine jx (x_boxc rfl) (.no rfl) rfl ?_
  intro B2
  refine jx (x_boxc rfl) (.no rfl) rfl ?_
  intro B3
  refine jx (x_alloc Try.zeroValue27 (Cells.one rfl)) (.no rfl) rfl ?_
  intro B4
  refine jo_nil ?_
  refine je_next ?_
  refine j_seq ?_
  refine j_region ?_
  refine jx (x_alloc Try.zeroValue3 (Cells.one rfl)) (.no rfl) rfl ?_
  intro B5
  refine jx (x_storec (cs' := [_]) rfl rfl rfl Try.sizeOf3 rfl rfl) (.no rfl) rfl ?_
  intro _
  refine jo_nil ?_
  refine je_next ?_
  refine j_seq ?_
  refine j_seq ?_
  refine j_region ?_
  refine jv (v_loadAc (vs := [_, _, _]) rfl Try.isAgg26 Try.sizeOf26 rfl rfl) (.no rfl) rfl ?_
  refine jq (q_callP (f76_spec) Try.call76 (by rfl) rfl (memc FindS.mem mem0)) (.no rfl) rfl ?_
  intro b9
  refine jo_nil ?_
  refine je_next ?_
  refine j_block ?_
  refine j_to (fun _ _ h => h) (fun w h => h.own_nil intK 3 (A := none)) ?_
  refine j_rangeS (it107 (v := v) (cs := cs) (last := last) (serial := serial) (B1 := b9) hG hA hF) Try.call107 (by rfl) rfl rfl (memc FindM.mem (memc FindS.mem mem0)) i2_hps rfl [(3, _), (4, _), (5, _)] (lsub rfl (lsub rfl (lsub rfl lsub0))) (fun x t => (6, x.headD undef) :: (7, x.getD 1 undef) :: t) (G := Value × List Int × Int) (fun g t => .own intK g.1 3 g.2.1 :: .blk B5 [iV g.2.2] 3 :: .blk B4 [g.1] 27 :: t) (fun g => []) (fun k g => (g.2.1, g.2.2) = byE h ((edgesP cs).take k)) (fun g c => False) (.slice none 0 0, [], 0) rfl rfl rfl ?_ ?_ ?_ ?_
  · intro x hx g L D ob ok w
    obtain ⟨i, _, rfl⟩ := List.mem_map.1 hx
    refine j_seq ?_
    refine j_region ?_
    refine jv (v_assign rfl) (.no rfl) rfl ?_
    refine jo_nil ?_
    refine je_next ?_
    refine j_region ?_
    refine jv (v_assign rfl) (.no rfl) rfl ?_
    refine jo_nil ?_
    exact je_asg (lsub rfl (lsub rfl (lsub rfl (lsub rfl (lsub rfl lsub0)))))
  · intro k ⟨u, ds, lt⟩ hk hg L D1 ob ob' ok w
    obtain ⟨hkl, hxk⟩ := i2_get hk
    rw [hxk]
    show J _ _ _ ((6, iV (edgesP cs)[k].1) :: (7, iV (edgesP cs)[k].2) :: _) _ _
    simp only at hg
    have hb := byE_le h ((edgesP cs).take k)
    rw [List.length_take, ← hg] at hb
    refine j_block ?_
    refine j_seq ?_
    refine j_region ?_
    refine jv (v_move rfl) (.no rfl) rfl ?_
    refine jv (v_loadc rfl Try.isAgg3 rfl) (.no rfl) rfl ?_
    refine jv (v_eql rfl rfl) (.no rfl) rfl ?_
    refine jv (v_move rfl) (.no rfl) rfl ?_
    refine j_split 15 rfl (fun a1 => ?_) (fun a1 => ?_)
    · first | (with_reducible replace a1 := of_decide_eq_true a1) | skip
      refine jv (v_move rfl) (.yes rfl rfl rfl) rfl ?_
      refine jv (v_loadc rfl Try.isAgg3 rfl) (.yes rfl rfl rfl) rfl ?_
      refine jv (v_neq rfl rfl) (.yes rfl rfl rfl) rfl ?_
      refine jv (v_pickt rfl rfl) (.no rfl) rfl ?_
      refine jo_nil ?_
      refine je_next ?_
      refine j_if rfl (fun a2 => ?_) (fun a2 => ?_)
      · first | (with_reducible replace a2 := of_decide_eq_true a2) | skip
        refine j_seq ?_
        refine j_region ?_
        refine jv (v_loadc rfl Try.isAgg27 rfl) (.no rfl) rfl ?_
        refine jv (v_move rfl) (.no rfl) rfl ?_
        refine jq (q_lit1 (K := intK) (edgesP cs)[k].1 rfl (Cells.one rfl) Try.runUnderlying27 Try.sizeOf3 Try.zeroValue3 rfl (by decide) (by decide) (fun _ _ _ => rfl)) (.no rfl) rfl ?_
        intro v22
        refine jx (x_append rfl rfl (fun _ => Hole.put _) FindR.row Try.runUnderlying27 Try.sizeOf3 Try.zeroValue3 rfl Try.typeInfo3 (by decide) (by decide) (by simp only [List.length_singleton]; simp only at hb; omega)) (.no rfl) rfl ?_
        intro v23
        refine jx (x_storec (cs' := [_]) rfl rfl rfl Try.sizeOf27 rfl rfl) (.no rfl) rfl ?_
        intro _
        refine jo_nil ?_
        refine je_next ?_
        refine j_region ?_
        refine jv (v_move rfl) (.no rfl) rfl ?_
        refine jx (x_storec (cs' := [_]) rfl rfl rfl Try.sizeOf3 rfl rfl) (.no rfl) rfl ?_
        intro _
        refine jo_nil ?_
        refine je_block ?_
        exact je_rpost (v23, _, _) rfl rfl rfl (by show (_, _) = _; rw [byE_succ hkl, ← hg]; unfold byF; rw [if_pos ⟨a1, a2⟩]) (fun _ h => (h).sub fun p hp => (List.mem_append_right _ hp))
      · first | (with_reducible replace a2 := of_decide_eq_false a2) | skip
        refine j_skip ?_
        refine je_block ?_
        exact je_rpost (u, ds, lt) rfl rfl rfl (by show (_, _) = _; rw [byE_succ hkl, ← hg]; unfold byF; rw [if_neg (by simp_all)]) (fun _ h => (h).sub fun p hp => hp)
    · first | (with_reducible replace a1 := of_decide_eq_false a1) | skip
      refine j_off rfl rfl rfl (by decide) rfl ?_
      refine j_off rfl rfl rfl (by decide) rfl ?_
      refine j_off rfl rfl rfl (by decide) rfl ?_
      refine jv (v_pickf rfl rfl) (.no rfl) rfl ?_
      refine jo_nil ?_
      refine je_next ?_
      refine j_iff rfl ?_
      refine j_skip ?_
      refine je_block ?_
      exact je_rpost (u, ds, lt) rfl rfl rfl (by show (_, _) = _; rw [byE_succ hkl, ← hg]; unfold byF; rw [if_neg (by simp_all)]) (fun _ h => (h).sub fun p hp => hp)
  · intro ⟨u, ds, lt⟩ D1 hg
    simp only at hg
    rw [i2_len, List.take_length] at hg
    refine je_block ?_
    refine je_next ?_
    refine j_seq ?_
    refine j_region ?_
    refine jv (v_loadc rfl Try.isAgg27 rfl) (.no rfl) rfl ?_
    refine jx (x_storec (cs' := [_]) rfl rfl rfl Try.sizeOf27 rfl rfl) (.no rfl) rfl ?_
    intro _
    refine jo_nil ?_
    refine je_next ?_
    refine j_ret ?_
    refine je_retM rfl rfl rfl rfl [D1] rfl (.cons .head .nil) (rvs := [.cell 4 27]) rfl (.cons (.cell rfl FindB.mem Try.isAgg27 rfl) .nil) u ?_ (fun w h => (h.freeze0 (.tail .head)).fin (by rw [← hg]; exact memc FindS.mem mem0)) (.inl rfl)
    rfl
  · intro _ c D1 hg
    exact hg.elim

end Go.Proofs.Ytjgacbopccfecaa
