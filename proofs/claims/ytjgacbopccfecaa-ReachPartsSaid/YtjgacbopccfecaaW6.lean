/-
  Walks: function it129, function 102, function 93.
-/
import Derived.Test.YtjgacbopccfecaaN
import Derived.Test.YtjgacbopccfecaaW1
import Derived.Test.YtjgacbopccfecaaW2
set_option maxRecDepth 100000
set_option linter.unusedVariables false
set_option linter.unusedSimpArgs false
namespace Go.Proofs.Ytjgacbopccfecaa

theorem it129_spec {v : Value} {cs : List Cell} {last key : Int} {B1 B2 : Nat} {G : Type} {M : G → Opq} {good : Nat → G → Prop} {stop : G → Prop} {L : Nat} (hy : ∀ k g (hk : k < (idx cs key).length), good k g → YieldC Try.prog L (idx cs key)[k] (M g) (YX good stop (k + 1)) (fun x => x.1.1) (fun x => M x.1.2)) (g0 : G) (h0 : good 0 g0) : Spec Try.prog 129 [.func (.yield L) #[] #[], ptr B1 0, ptr B2 0] [.opq (M g0)] [ro B1 [v, iV last] 24, ro B2 [iV key] 3, sl cellK v cs] { g // good (idx cs key).length g ∨ stop g } (fun _ => .tuple #[]) (fun g => [.opq (M g.1)]) (fun _ => []) := by
  refine spec_of Try.func129 rfl Try.ntmps129 (by simp) fun ok w => ?_
  refine j_len v fun hlx => ?_
  refine j_seq ?_
  refine j_region ?_
  refine jv (v_field (k' := 0) rfl Try.runUnderlying24 rfl Try.sizeOf22 (by decide) rfl) (.no rfl) rfl ?_
  refine jv (v_loadc rfl Try.isAgg22 rfl) (.no rfl) rfl ?_
  refine jv (v_len rfl FindR.row Try.runUnderlying22) (.no rfl) rfl ?_
  refine jv (v_move rfl) (.no rfl) rfl ?_
  refine jo_nil ?_
  refine je_next ?_
  refine j_block ?_
  refine j_loopS (G := Nat × G) [(0, _), (2, _), (7, _), (8, _)] (fun k t => (9, iV ((k.1 : Nat) : Int)) :: t) (fun k t => .opq (M k.2) :: t) (fun k => k.1 ≤ cs.length ∧ good (hits (stB cs key) k.1).length k.2) (fun k => cs.length - k.1) (0, g0) (⟨Nat.zero_le _, h0⟩) (lsub rfl (lsub rfl (lsub rfl (lsub rfl (lsub rfl lsub0))))) rfl (fun ⟨k, g⟩ ⟨hk, hg⟩ => ?_)
  simp only at hk hg
  refine j_seq ?_
  refine j_region ?_
  refine jv (v_lss rfl rfl) (.no rfl) rfl ?_
  refine jo_nil ?_
  refine je_next ?_
  refine j_seq ?_
  refine j_if rfl (fun h1 => ?_) (fun h1 => ?_)
  · first | (with_reducible replace h1 := of_decide_eq_true h1) | skip
    refine j_skip ?_
    refine je_next ?_
    refine j_seq ?_
    refine j_block ?_
    refine j_seq ?_
    have hkl : k < cs.length := by omega
    refine j_region ?_
    refine jv (v_move rfl) (.no rfl) rfl ?_
    refine jv (v_index rfl rfl FindR.row Try.runUnderlying22 Try.sizeOf81 (by omega) (by omega)) (.no rfl) rfl ?_
    refine jq (OpL.q (l_eload rfl FindR.row (at_k hkl) (by decide) Try.isAgg81 Try.sizeOf81 (fun _ _ _ h => cell_all h))) (.no rfl) rfl ?_
    intro v13
    refine jx (x_alloc Try.zeroValue81 Cells.agg) (.no rfl) rfl ?_
    intro B5
    refine jv (v_assign rfl) (.no rfl) rfl ?_
    refine jx (x_storec (cs' := [_, _, _, _, _, _, _, _]) rfl rfl rfl Try.sizeOf81 rfl rfl) (.no rfl) rfl ?_
    intro _
    refine jo_nil ?_
    refine je_next ?_
    refine j_seq ?_
    refine j_region ?_
    refine jv (v_field (k' := 0) rfl Try.runUnderlying81 rfl Try.sizeOf3 (by decide) rfl) (.no rfl) rfl ?_
    refine jv (v_loadc rfl Try.isAgg3 rfl) (.no rfl) rfl ?_
    refine jv (v_loadc rfl Try.isAgg3 rfl) (.no rfl) rfl ?_
    refine jv (v_eql rfl rfl) (.no rfl) rfl ?_
    refine jv (v_move rfl) (.no rfl) rfl ?_
    refine j_split 18 rfl (fun s1 => ?_) (fun s1 => ?_)
    · first | (with_reducible replace s1 := of_decide_eq_true s1) | skip
      refine jv (v_move rfl) (.yes rfl rfl rfl) rfl ?_
      refine jv (v_move rfl) (.yes rfl rfl rfl) rfl ?_
      have hst : stB cs key k = true := by rw [stB_at hkl]; simpa using s1
      obtain ⟨hlen, hix⟩ := idx_at hkl hst
      have hY := hy _ g hlen hg
      rw [hix] at hY
      refine jx (x_yield hY rfl rfl (.cons (.tail .head) .nil)) (.yes rfl rfl rfl) rfl ?_
      intro y
      refine jv (v_not rfl) (.yes rfl rfl rfl) rfl ?_
      refine jv (v_pickt rfl rfl) (.no rfl) rfl ?_
      refine jo_nil ?_
      refine je_next ?_
      refine j_if rfl (fun yb => ?_) (fun yb => ?_)
      · first | (with_reducible replace yb := of_decide_eq_true yb) | skip
        refine j_ret ?_
        refine je_blockr ?_
        refine je_then (by simp) ?_
        refine je_then (by simp) ?_
        refine je_blockr ?_
        refine je_ret rfl rfl rfl rfl rfl (rvs := []) rfl .nil (⟨y.1.2, .inr (yx_stop y (by simpa using yb))⟩ : { g // good (idx cs key).length g ∨ stop g }) ?_ (fun w h => ((h).del (.tail .head)).sub mem0) (.inl rfl)
        rfl
      · first | (with_reducible replace yb := of_decide_eq_false yb) | skip
        refine j_skip ?_
        refine je_block ?_
        refine je_next ?_
        refine j_region ?_
        refine jv (v_add rfl rfl (by omega) (by omega)) (.no rfl) rfl ?_
        refine jv (v_move rfl) (.no rfl) rfl ?_
        refine jo_nil ?_
        refine je_round (k + 1, y.1.2) (by simp only; refine ⟨by omega, ?_⟩; rw [hits_succ]; first | (rw [if_pos hst, List.length_append]; exact yx_go y (by simpa using yb)) | (rw [if_neg (by rw [stB_at hkl]; simpa using s1)]; simpa using hg)) (by first | omega | (dsimp only; omega)) (lsub rfl (lsub rfl (lsub rfl (lsub rfl (lsub rfl lsub0))))) (fun _ h => ((h).del (.tail .head)).sub fun p hp => (List.mem_append_right _ hp))
    · first | (with_reducible replace s1 := of_decide_eq_false s1) | skip
      refine j_off rfl rfl rfl (by decide) rfl ?_
      refine j_off rfl rfl rfl (by decide) rfl ?_
      refine j_off rfl rfl rfl (by decide) rfl ?_
      refine j_off rfl rfl rfl (by decide) rfl ?_
      refine jv (v_pickf rfl rfl) (.no rfl) rfl ?_
      refine jo_nil ?_
      refine je_next ?_
      refine j_iff rfl ?_
      refine j_skip ?_
      refine je_block ?_
      refine je_next ?_
      refine j_region ?_
      refine jv (v_add rfl rfl (by omega) (by omega)) (.no rfl) rfl ?_
      refine jv (v_move rfl) (.no rfl) rfl ?_
      refine jo_nil ?_
      refine je_round (k + 1, g) (by simp only; refine ⟨by omega, ?_⟩; rw [hits_succ]; first | (rw [if_pos hst, List.length_append]; exact yx_go y (by simpa using yb)) | (rw [if_neg (by rw [stB_at hkl]; simpa using s1)]; simpa using hg)) (by first | omega | (dsimp only; omega)) (lsub rfl (lsub rfl (lsub rfl (lsub rfl (lsub rfl lsub0))))) (fun _ h => ((h).del .head).sub fun p hp => (List.mem_append_right _ hp))
  · first | (with_reducible replace h1 := of_decide_eq_false h1) | skip
    refine j_exit ?_
    refine je_then (by simp) ?_
    refine je_then (by simp) ?_
    refine je_hit ?_
    refine je_ret rfl rfl rfl rfl rfl (rvs := []) rfl .nil (⟨g, .inl (by rw [idx_len, ← show k = cs.length from (by simp only at h1; omega)]; exact hg)⟩ : { g // good (idx cs key).length g ∨ stop g }) ?_ (fun w h => (h).sub mem0) (.inr rfl)
    rfl

theorem it129 {v : Value} {cs : List Cell} {last key : Int} {B1 B2 : Nat} : Iter Try.prog 129 [ptr B1 0, ptr B2 0] [ro B1 [v, iV last] 24, ro B2 [iV key] 3, sl cellK v cs] (idx cs key) := fun G M good stop L hy g0 h0 => it129_spec hy g0 h0
theorem f102_spec {v : Value} {cs : List Cell} {last key : Int} : Spec Try.prog 102 [slabA v last, iV key] [] [sl cellK v cs] (Nat × Nat) (fun b => .func (.func 129) #[] [ptr b.1 0, ptr b.2 0].toArray) (fun _ => []) (fun b => [ro b.1 [v, iV last] 24, ro b.2 [iV key] 3]) := by
  refine spec_of Try.func102 rfl Try.ntmps102 (by simp) fun ok w => ?_
  refine j_seq ?_
  refine j_region ?_
  refine jx (x_boxc rfl) (.no rfl) rfl ?_
  intro B2
  refine jx (x_boxc rfl) (.no rfl) rfl ?_
  intro B3
  refine jv (v_assign rfl) (.no rfl) rfl ?_
  refine jo_nil ?_
  refine je_next ?_
  refine j_seq ?_
  refine j_region ?_
  refine jv (v_func rfl) (.no rfl) rfl ?_
  refine jv (v_assign rfl) (.no rfl) rfl ?_
  refine jo_nil ?_
  refine je_next ?_
  refine j_ret ?_
  refine je_ret rfl rfl rfl rfl rfl (rvs := [.tmp 4]) rfl (.cons (.tmp rfl) .nil) (B2, B3) ?_ (fun w h => ((h.freezeB0 .head).freezeB0 .head).fin (memc FindM.mem (memc FindM.mem mem0))) (.inl rfl)
  rfl

theorem f93_spec {v : Value} {cs : List Cell} {last h : Int} (hn : cs.length ≤ 1000) (hI : ∀ c ∈ cs, InI c.gen) : Spec Try.prog 93 [slabA v last, iV h] [] [sl cellK v cs] Unit (fun _ => .tuple [iV (findP cs h).1, iV (findP cs h).2].toArray) (fun _ => []) (fun _ => []) := by
  refine spec_ofM Try.func93 rfl Try.ntmps93 (by simp) fun ok w => ?_
  refine j_seq ?_
  refine j_region ?_
  refine jx (x_boxc rfl) (.no rfl) rfl ?_
  intro B2
  refine jx (x_boxc rfl) (.no rfl) rfl ?_
  intro B3
  refine jx (x_alloc Try.zeroValue3 (Cells.one rfl)) (.no rfl) rfl ?_
  intro B4
  refine jx (x_alloc Try.zeroValue32 (Cells.one rfl)) (.no rfl) rfl ?_
  intro B5
  refine jo_nil ?_
  refine je_next ?_
  refine j_seq ?_
  refine j_seq ?_
  refine j_region ?_
  refine jv (v_loadc rfl Try.isAgg3 rfl) (.no rfl) rfl ?_
  refine jv (v_eql rfl rfl) (.no rfl) rfl ?_
  refine jo_nil ?_
  refine je_next ?_
  refine j_if rfl (fun z1 => ?_) (fun z1 => ?_)
  · first | (with_reducible replace z1 := of_decide_eq_true z1) | skip
    refine j_seq ?_
    refine j_region ?_
    refine jx (x_storec (cs' := [_]) rfl rfl rfl Try.sizeOf3 rfl rfl) (.no rfl) rfl ?_
    intro _
    refine jx (x_storec (cs' := [_]) rfl rfl rfl Try.sizeOf32 rfl rfl) (.no rfl) rfl ?_
    intro _
    refine jo_nil ?_
    refine je_next ?_
    refine j_ret ?_
    refine je_then (by simp) ?_
    refine je_retM rfl rfl rfl rfl [] rfl .nil (rvs := [.cell 4 3, .cell 5 32]) rfl (.cons (.cell rfl FindB.mem Try.isAgg3 rfl) (.cons (.cell rfl FindB.mem Try.isAgg32 rfl) .nil)) () ?_ (fun w h => h.fin mem0) (.inl rfl)
    first | (rw [findP_0 z1]; rfl) | (rw [findP_3 z1 hno1 hno2]; rfl) | (rw [findP_2 z1 hno1 hf]; rfl) | (rw [findP_1 z1 hf]; rfl)
  · first | (with_reducible replace z1 := of_decide_eq_false z1) | skip
    refine j_skip ?_
    refine je_next ?_
    refine j_seq ?_
    refine j_seq ?_
    refine j_region ?_
    refine jv (v_build rfl b144) (.no rfl) rfl ?_
    refine jv (v_move rfl) (.no rfl) rfl ?_
    refine jo_nil ?_
    refine je_next ?_
    refine j_block ?_
    refine j_loopN 3 ?_
    refine jr_succ ?_
    refine j_seq ?_
    refine j_region ?_
    refine jv (v_lss rfl rfl) (.no rfl) rfl ?_
    refine jo_nil ?_
    refine je_next ?_
    refine j_seq ?_
    refine j_ift rfl ?_
    refine j_skip ?_
    refine je_next ?_
    refine j_seq ?_
    refine j_block ?_
    refine j_seq ?_
    refine j_region ?_
    refine jv (v_aindex (cs := [_, _]) rfl rfl Try.runUnderlying144 Try.sizeOf3 Try.isAgg3 (by omega) (by omega) rfl) (.no rfl) rfl ?_
    refine jv (v_assign rfl) (.no rfl) rfl ?_
    refine jo_nil ?_
    refine je_next ?_
    refine j_seq ?_
    refine j_region ?_
    refine jv (v_loadAc (vs := [_, _]) rfl Try.isAgg24 Try.sizeOf24 rfl rfl) (.no rfl) rfl ?_
    refine jv (v_move rfl) (.no rfl) rfl ?_
    refine jq (q_callP (f102_spec) Try.call102 (by rfl) rfl (memc FindS.mem mem0)) (.no rfl) rfl ?_
    intro b17
    refine jo_nil ?_
    refine je_next ?_
    refine j_block ?_
    refine j_rangeS (it129 (v := v) (cs := cs) (last := last) (key := 1)) Try.call129 (by rfl) rfl rfl (memc FindM.mem (memc FindM.mem (memc FindM.mem mem0))) (by intro x hx; obtain ⟨i, _, rfl⟩ := List.mem_map.1 hx; rfl) rfl [(2, _), (3, _), (4, _), (5, _)] (lsub rfl (lsub rfl (lsub rfl (lsub rfl lsub0)))) (fun x t => (8, x.headD undef) :: t) (G := Option Nat) (fun g t => .blk B5 [iV 0] 32 :: .blk B4 [match g with | some i => iV (i : Int) | none => iV 0] 3 :: t) (fun g => []) (fun k g => g = none ∧ ((slots cs 1).take k).find? (isAt cs h) = none) (fun g c => c = .ret ∧ ∃ i, g = some i ∧ findIn cs 1 h = some i) none (⟨rfl, rfl⟩) rfl rfl ?_ ?_ ?_ ?_
    · intro x hx g L D ob ok w
      obtain ⟨i, _, rfl⟩ := List.mem_map.1 hx
      refine j_region ?_
      refine jv (v_assign rfl) (.no rfl) rfl ?_
      refine jo_nil ?_
      exact je_asg (lsub rfl (lsub rfl (lsub rfl (lsub rfl (lsub rfl lsub0)))))
    · intro k gg hk hg L D2 ob ob' ok w
      obtain ⟨rfl, hno⟩ := hg
      obtain ⟨i, hik, hix, hil, _⟩ := idx_get hk
      rw [hix]
      show J _ _ _ ((8, iV (i : Int)) :: _) _ _
      refine j_block ?_
      refine j_seq ?_
      refine j_draw [] mixed ?_
      refine ja_take 0 rfl (by decide +kernel) (v_move rfl) (.no rfl) rfl ?_
      refine ja_take 1 rfl (by decide +kernel) (v_field (k' := 0) rfl Try.runUnderlying24 rfl Try.sizeOf22 (by decide) rfl) (.no rfl) rfl ?_
      refine ja_take 2 rfl (by decide +kernel) (v_loadc rfl Try.isAgg22 rfl) (.no rfl) rfl ?_
      refine ja_take 3 rfl (by decide +kernel) (v_move rfl) (.no rfl) rfl ?_
      refine ja_take 4 rfl (by decide +kernel) (v_index rfl rfl FindR.row Try.runUnderlying22 Try.sizeOf81 (by omega) (by omega)) (.no rfl) rfl ?_
      refine ja_take 5 rfl (by decide +kernel) (v_efield (k' := 1) rfl FindR.row (by omega) Try.runUnderlying81 rfl Try.sizeOf3 (by decide) rfl) (.no rfl) rfl ?_
      refine ja_take 6 rfl (by decide +kernel) (v_eload rfl FindR.row (at_k hil) (by decide) Try.isAgg3 (fun _ _ _ h => (cell_at h).elim fun _ h => by rw [h.1]; rfl)) (.no rfl) rfl ?_
      refine ja_take 8 rfl (by decide +kernel) (v_loadc rfl Try.isAgg3 rfl) (.no rfl) rfl ?_
      refine ja_one (i := 7) (by decide +kernel) (jn_q rfl (q_callP (f68_spec (by unfold InI; omega) (hI _ (List.getElem_mem hil))) Try.call68 (by rfl) rfl mem0) (.no rfl) rfl ?_)
      intro x26
      refine ja_take 9 rfl (by decide +kernel) (v_eql rfl rfl) (.no rfl) rfl ?_
      refine ja_nil (by decide +kernel) ?_
      refine je_next ?_
      refine j_if rfl (fun hq => ?_) (fun hq => ?_)
      · first | (with_reducible replace hq := of_decide_eq_true hq) | skip
        refine j_seq ?_
        refine j_region ?_
        refine jv (v_move rfl) (.no rfl) rfl ?_
        refine jx (x_storec (cs' := [_]) rfl rfl rfl Try.sizeOf3 rfl rfl) (.no rfl) rfl ?_
        intro _
        refine jx (x_storec (cs' := [_]) rfl rfl rfl Try.sizeOf32 rfl rfl) (.no rfl) rfl ?_
        intro _
        refine jo_nil ?_
        refine je_next ?_
        refine j_ret ?_
        refine je_blockr ?_
        exact je_rret (some i) rfl rfl rfl ⟨rfl, i, rfl, find_hit hno hik (by rw [isAt_eq hil]; exact decide_eq_true hq)⟩ (fun _ h => (h).sub fun p hp => (List.mem_append_right _ hp))
      · first | (with_reducible replace hq := of_decide_eq_false hq) | skip
        refine j_skip ?_
        refine je_block ?_
        exact je_rpost none rfl rfl rfl ⟨rfl, find_step hno hik (by rw [isAt_eq hil]; exact decide_eq_false hq)⟩ (fun _ h => (h).sub fun p hp => (List.mem_append_right _ hp))
    · intro gg D2 hg
      obtain ⟨rfl, hno⟩ := hg
      have hno1 := find_done hno
      refine je_block ?_
      refine je_block ?_
      refine je_next ?_
      refine j_region ?_
      refine jv (v_add rfl rfl (by omega) (by omega)) (.no rfl) rfl ?_
      refine jv (v_move rfl) (.no rfl) rfl ?_
      refine jo_nil ?_
      refine je_again ?_
      refine jr_succ ?_
      refine j_seq ?_
      refine j_region ?_
      refine jv (v_lss rfl rfl) (.no rfl) rfl ?_
      refine jo_nil ?_
      refine je_next ?_
      refine j_seq ?_
      refine j_ift rfl ?_
      refine j_skip ?_
      refine je_next ?_
      refine j_seq ?_
      refine j_block ?_
      refine j_seq ?_
      refine j_region ?_
      refine jv (v_aindex (cs := [_, _]) rfl rfl Try.runUnderlying144 Try.sizeOf3 Try.isAgg3 (by omega) (by omega) rfl) (.no rfl) rfl ?_
      refine jv (v_assign rfl) (.no rfl) rfl ?_
      refine jo_nil ?_
      refine je_next ?_
      refine j_seq ?_
      refine j_region ?_
      refine jv (v_loadAc (vs := [_, _]) rfl Try.isAgg24 Try.sizeOf24 rfl rfl) (.no rfl) rfl ?_
      refine jv (v_move rfl) (.no rfl) rfl ?_
      refine jq (q_callP (f102_spec) Try.call102 (by rfl) rfl (memc FindS.mem mem0)) (.no rfl) rfl ?_
      intro b17
      refine jo_nil ?_
      refine je_next ?_
      refine j_block ?_
      refine j_to (fun _ _ h => h) (fun w h => h.perm (perm3 _ _ _ _)) ?_
      refine j_rangeS (it129 (v := v) (cs := cs) (last := last) (key := 2)) Try.call129 (by rfl) rfl rfl (memc FindM.mem (memc FindM.mem (memc FindM.mem mem0))) (by intro x hx; obtain ⟨i, _, rfl⟩ := List.mem_map.1 hx; rfl) rfl [(2, _), (3, _), (4, _), (5, _)] (lsub rfl (lsub rfl (lsub rfl (lsub rfl lsub0)))) (fun x t => (8, x.headD undef) :: t) (G := Option Nat) (fun g t => .blk B5 [iV 0] 32 :: .blk B4 [match g with | some i => iV (i : Int) | none => iV 0] 3 :: t) (fun g => []) (fun k g => g = none ∧ ((slots cs 2).take k).find? (isAt cs h) = none) (fun g c => c = .ret ∧ ∃ i, g = some i ∧ findIn cs 2 h = some i) none (⟨rfl, rfl⟩) rfl rfl ?_ ?_ ?_ ?_
      · intro x hx g L D ob ok w
        obtain ⟨i, _, rfl⟩ := List.mem_map.1 hx
        refine j_region ?_
        refine jv (v_assign rfl) (.no rfl) rfl ?_
        refine jo_nil ?_
        exact je_asg (lsub rfl (lsub rfl (lsub rfl (lsub rfl (lsub rfl lsub0)))))
      · intro k gg hk hg L D4 ob ob' ok w
        obtain ⟨rfl, hno⟩ := hg
        obtain ⟨i, hik, hix, hil, _⟩ := idx_get hk
        rw [hix]
        show J _ _ _ ((8, iV (i : Int)) :: _) _ _
        refine j_block ?_
        refine j_seq ?_
        refine j_draw [] mixed ?_
        refine ja_take 0 rfl (by decide +kernel) (v_move rfl) (.no rfl) rfl ?_
        refine ja_take 1 rfl (by decide +kernel) (v_field (k' := 0) rfl Try.runUnderlying24 rfl Try.sizeOf22 (by decide) rfl) (.no rfl) rfl ?_
        refine ja_take 2 rfl (by decide +kernel) (v_loadc rfl Try.isAgg22 rfl) (.no rfl) rfl ?_
        refine ja_take 3 rfl (by decide +kernel) (v_move rfl) (.no rfl) rfl ?_
        refine ja_take 4 rfl (by decide +kernel) (v_index rfl rfl FindR.row Try.runUnderlying22 Try.sizeOf81 (by omega) (by omega)) (.no rfl) rfl ?_
        refine ja_take 5 rfl (by decide +kernel) (v_efield (k' := 1) rfl FindR.row (by omega) Try.runUnderlying81 rfl Try.sizeOf3 (by decide) rfl) (.no rfl) rfl ?_
        refine ja_take 6 rfl (by decide +kernel) (v_eload rfl FindR.row (at_k hil) (by decide) Try.isAgg3 (fun _ _ _ h => (cell_at h).elim fun _ h => by rw [h.1]; rfl)) (.no rfl) rfl ?_
        refine ja_take 8 rfl (by decide +kernel) (v_loadc rfl Try.isAgg3 rfl) (.no rfl) rfl ?_
        refine ja_one (i := 7) (by decide +kernel) (jn_q rfl (q_callP (f68_spec (by unfold InI; omega) (hI _ (List.getElem_mem hil))) Try.call68 (by rfl) rfl mem0) (.no rfl) rfl ?_)
        intro x26
        refine ja_take 9 rfl (by decide +kernel) (v_eql rfl rfl) (.no rfl) rfl ?_
        refine ja_nil (by decide +kernel) ?_
        refine je_next ?_
        refine j_if rfl (fun hq => ?_) (fun hq => ?_)
        · first | (with_reducible replace hq := of_decide_eq_true hq) | skip
          refine j_seq ?_
          refine j_region ?_
          refine jv (v_move rfl) (.no rfl) rfl ?_
          refine jx (x_storec (cs' := [_]) rfl rfl rfl Try.sizeOf3 rfl rfl) (.no rfl) rfl ?_
          intro _
          refine jx (x_storec (cs' := [_]) rfl rfl rfl Try.sizeOf32 rfl rfl) (.no rfl) rfl ?_
          intro _
          refine jo_nil ?_
          refine je_next ?_
          refine j_ret ?_
          refine je_blockr ?_
          exact je_rret (some i) rfl rfl rfl ⟨rfl, i, rfl, find_hit hno hik (by rw [isAt_eq hil]; exact decide_eq_true hq)⟩ (fun _ h => (h).sub fun p hp => (List.mem_append_right _ hp))
        · first | (with_reducible replace hq := of_decide_eq_false hq) | skip
          refine j_skip ?_
          refine je_block ?_
          exact je_rpost none rfl rfl rfl ⟨rfl, find_step hno hik (by rw [isAt_eq hil]; exact decide_eq_false hq)⟩ (fun _ h => (h).sub fun p hp => (List.mem_append_right _ hp))
      · intro gg D4 hg
        obtain ⟨rfl, hno⟩ := hg
        have hno2 := find_done hno
        refine je_block ?_
        refine je_block ?_
        refine je_next ?_
        refine j_region ?_
        refine jv (v_add rfl rfl (by omega) (by omega)) (.no rfl) rfl ?_
        refine jv (v_move rfl) (.no rfl) rfl ?_
        refine jo_nil ?_
        refine je_again ?_
        refine jr_succ ?_
        refine j_seq ?_
        refine j_region ?_
        refine jv (v_lss rfl rfl) (.no rfl) rfl ?_
        refine jo_nil ?_
        refine je_next ?_
        refine j_seq ?_
        refine j_iff rfl ?_
        refine j_exit ?_
        refine je_then (by simp) ?_
        refine je_then (by simp) ?_
        refine je_hit ?_
        refine je_next ?_
        refine j_seq ?_
        refine j_region ?_
        refine jx (x_storec (cs' := [_]) rfl rfl rfl Try.sizeOf3 rfl rfl) (.no rfl) rfl ?_
        intro _
        refine jx (x_storec (cs' := [_]) rfl rfl rfl Try.sizeOf32 rfl rfl) (.no rfl) rfl ?_
        intro _
        refine jo_nil ?_
        refine je_next ?_
        refine j_ret ?_
        refine je_retM rfl rfl rfl rfl [D4, D2] rfl (.cons .head (.cons (.tail (.tail (.tail .head))) .nil)) (rvs := [.cell 4 3, .cell 5 32]) rfl (.cons (.cell rfl FindB.mem Try.isAgg3 rfl) (.cons (.cell rfl FindB.mem Try.isAgg32 rfl) .nil)) () ?_ (fun w h => h.fin mem0) (.inl rfl)
        first | (rw [findP_0 z1]; rfl) | (rw [findP_3 z1 hno1 hno2]; rfl) | (rw [findP_2 z1 hno1 hf]; rfl) | (rw [findP_1 z1 hf]; rfl)
      · intro gg c D4 hg
        obtain ⟨rfl, i, rfl, hf⟩ := hg
        refine j_ret ?_
        refine je_blockr ?_
        refine je_blockr ?_
        refine je_then (by simp) ?_
        refine je_then (by simp) ?_
        refine je_blockr ?_
        refine je_then (by simp) ?_
        refine je_retM rfl rfl rfl rfl [D4, D2] rfl (.cons .head (.cons (.tail (.tail (.tail .head))) .nil)) (rvs := [.cell 4 3, .cell 5 32]) rfl (.cons (.cell rfl FindB.mem Try.isAgg3 rfl) (.cons (.cell rfl FindB.mem Try.isAgg32 rfl) .nil)) () ?_ (fun w h => h.fin mem0) (.inl rfl)
        first | (rw [findP_0 z1]; rfl) | (rw [findP_3 z1 hno1 hno2]; rfl) | (rw [findP_2 z1 hno1 hf]; rfl) | (rw [findP_1 z1 hf]; rfl)
    · intro gg c D2 hg
      obtain ⟨rfl, i, rfl, hf⟩ := hg
      refine j_ret ?_
      refine je_blockr ?_
      refine je_blockr ?_
      refine je_then (by simp) ?_
      refine je_then (by simp) ?_
      refine je_blockr ?_
      refine je_then (by simp) ?_
      refine je_retM rfl rfl rfl rfl [D2] rfl (.cons .head .nil) (rvs := [.cell 4 3, .cell 5 32]) rfl (.cons (.cell rfl FindB.mem Try.isAgg3 rfl) (.cons (.cell rfl FindB.mem Try.isAgg32 rfl) .nil)) () ?_ (fun w h => h.fin mem0) (.inl rfl)
      first | (rw [findP_0 z1]; rfl) | (rw [findP_3 z1 hno1 hno2]; rfl) | (rw [findP_2 z1 hno1 hf]; rfl) | (rw [findP_1 z1 hf]; rfl)

end Go.Proofs.Ytjgacbopccfecaa
