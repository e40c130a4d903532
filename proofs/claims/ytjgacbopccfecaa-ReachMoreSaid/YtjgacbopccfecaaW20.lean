/-
  Walks: function it132, function 106, function 131, function 105, function 75, function 77, function 39, function 35.
-/
import Derived.Test.YtjgacbopccfecaaN7
import Derived.Test.YtjgacbopccfecaaW7
set_option maxRecDepth 100000
set_option linter.unusedVariables false
set_option linter.unusedSimpArgs false
namespace Go.Proofs.Ytjgacbopccfecaa

theorem it132_spec {v : Value} {xs : List Int} {B1 : Nat} {G : Type} {M : G → Opq} {good : Nat → G → Prop} {stop : G → Prop} {L : Nat} (hy : ∀ k g (hk : k < (yl xs).length), good k g → YieldC Try.prog L (yl xs)[k] (M g) (YX good stop (k + 1)) (fun x => x.1.1) (fun x => M x.1.2)) (g0 : G) (h0 : good 0 g0) : Spec Try.prog 132 [.func (.yield L) #[] #[], ptr B1 0] [.opq (M g0)] [ro B1 [v] 27, sl intK v xs] { g // good (yl xs).length g ∨ stop g } (fun _ => .tuple #[]) (fun g => [.opq (M g.1)]) (fun _ => []) := by
  refine spec_of Try.func132 rfl Try.ntmps132 (by simp) fun ok w => ?_
  refine j_len v fun hlx => ?_
  refine j_seq ?_
  refine j_region ?_
  refine jv (v_loadc rfl Try.isAgg27 rfl) (.no rfl) rfl ?_
  refine jv (v_len rfl FindR.row Try.runUnderlying27) (.no rfl) rfl ?_
  refine jv (v_move rfl) (.no rfl) rfl ?_
  refine jo_nil ?_
  refine je_next ?_
  refine j_block ?_
  refine j_loopS (G := Nat × G) [(0, _), (5, _), (6, _)] (fun k t => (7, iV ((k.1 : Nat) : Int)) :: t) (fun k t => .opq (M k.2) :: t) (fun k => k.1 ≤ xs.length ∧ good (namesL (xs.take k.1)).length k.2) (fun k => xs.length - k.1) (0, g0) (⟨Nat.zero_le _, h0⟩) (lsub rfl (lsub rfl (lsub rfl (lsub rfl lsub0)))) rfl (fun ⟨k, g⟩ ⟨hk, hg⟩ => ?_)
  simp only at hk hg
  refine j_seq ?_
  refine j_region ?_
  refine jv (v_lss rfl rfl) (.no rfl) rfl ?_
  refine jo_nil ?_
  refine je_next ?_
  refine j_seq ?_
  refine j_if rfl (fun h1 => ?_) (fun h1 => ?_)
  · first | (with_reducible replace h1 := of_decide_eq_true h1) | skip
    refine j_skip ?_
    refine je_next ?_
    refine j_seq ?_
    refine j_block ?_
    refine j_seq ?_
    have hkl : k < xs.length := by omega
    refine j_region ?_
    refine jv (v_index rfl rfl FindR.row Try.runUnderlying27 Try.sizeOf3 (by omega) (by omega)) (.no rfl) rfl ?_
    refine jv (v_eload rfl FindR.row (at_k hkl) (by decide) Try.isAgg3 (fun _ _ _ h => int_at h)) (.no rfl) rfl ?_
    refine jv (v_assign rfl) (.no rfl) rfl ?_
    refine jo_nil ?_
    refine je_next ?_
    refine j_seq ?_
    refine j_region ?_
    refine jv (v_move rfl) (.no rfl) rfl ?_
    refine jv (v_neq rfl rfl) (.no rfl) rfl ?_
    refine jv (v_move rfl) (.no rfl) rfl ?_
    refine j_split 13 rfl (fun s1 => ?_) (fun s1 => ?_)
    · first | (with_reducible replace s1 := of_decide_eq_true s1) | skip
      refine jv (v_move rfl) (.yes rfl rfl rfl) rfl ?_
      refine jv (v_move rfl) (.yes rfl rfl rfl) rfl ?_
      have hnz : xs[k] ≠ 0 := by simpa using s1
      obtain ⟨hlen, hix⟩ := names_at hkl hnz
      have hY := hy _ g hlen hg
      rw [hix] at hY
      refine jx (x_yield hY rfl rfl (.cons .head .nil)) (.yes rfl rfl rfl) rfl ?_
      intro y
      refine jv (v_not rfl) (.yes rfl rfl rfl) rfl ?_
      refine jv (v_pickt rfl rfl) (.no rfl) rfl ?_
      refine jo_nil ?_
      refine je_next ?_
      refine j_if rfl (fun yb => ?_) (fun yb => ?_)
      · first | (with_reducible replace yb := of_decide_eq_true yb) | skip
        refine j_ret ?_
        refine je_blockr ?_
        refine je_then (by simp) ?_
        refine je_then (by simp) ?_
        refine je_blockr ?_
        refine je_ret rfl rfl rfl rfl rfl (rvs := []) rfl .nil (⟨y.1.2, .inr (yx_stop y (by simpa using yb))⟩ : { g // good (yl xs).length g ∨ stop g }) ?_ (fun w h => (h).sub mem0) (.inl rfl)
        rfl
      · first | (with_reducible replace yb := of_decide_eq_false yb) | skip
        refine j_skip ?_
        refine je_block ?_
        refine je_next ?_
        refine j_region ?_
        refine jv (v_add rfl rfl (by omega) (by omega)) (.no rfl) rfl ?_
        refine jv (v_move rfl) (.no rfl) rfl ?_
        refine jo_nil ?_
        refine je_round (k + 1, y.1.2) (by simp only; refine ⟨by omega, ?_⟩; rw [names_succ hkl]; first | (rw [if_pos hnz, List.length_append]; exact yx_go y (by simpa using yb)) | (rw [if_neg (by simpa using s1)]; simpa using hg)) (by first | omega | (dsimp only; omega)) (lsub rfl (lsub rfl (lsub rfl (lsub rfl lsub0)))) (fun _ h => (h).sub fun p hp => hp)
    · first | (with_reducible replace s1 := of_decide_eq_false s1) | skip
      refine j_off rfl rfl rfl (by decide) rfl ?_
      refine j_off rfl rfl rfl (by decide) rfl ?_
      refine j_off rfl rfl rfl (by decide) rfl ?_
      refine j_off rfl rfl rfl (by decide) rfl ?_
      refine jv (v_pickf rfl rfl) (.no rfl) rfl ?_
      refine jo_nil ?_
      refine je_next ?_
      refine j_iff rfl ?_
      refine j_skip ?_
      refine je_block ?_
      refine je_next ?_
      refine j_region ?_
      refine jv (v_add rfl rfl (by omega) (by omega)) (.no rfl) rfl ?_
      refine jv (v_move rfl) (.no rfl) rfl ?_
      refine jo_nil ?_
      refine je_round (k + 1, g) (by simp only; refine ⟨by omega, ?_⟩; rw [names_succ hkl]; first | (rw [if_pos hnz, List.length_append]; exact yx_go y (by simpa using yb)) | (rw [if_neg (by simpa using s1)]; simpa using hg)) (by first | omega | (dsimp only; omega)) (lsub rfl (lsub rfl (lsub rfl (lsub rfl lsub0)))) (fun _ h => (h).sub fun p hp => hp)
  · first | (with_reducible replace h1 := of_decide_eq_false h1) | skip
    refine j_exit ?_
    refine je_then (by simp) ?_
    refine je_then (by simp) ?_
    refine je_hit ?_
    have e : k = xs.length := by (simp only at h1; omega)
    rw [e, List.take_length, ← yl_len] at hg
    refine je_ret rfl rfl rfl rfl rfl (rvs := []) rfl .nil (⟨g, .inl hg⟩ : { g // good (yl xs).length g ∨ stop g }) ?_ (fun w h => (h).sub mem0) (.inr rfl)
    rfl

theorem it132 {v : Value} {xs : List Int} {B1 : Nat} : Iter Try.prog 132 [ptr B1 0] [ro B1 [v] 27, sl intK v xs] (yl xs) := fun G M good stop L hy g0 h0 => it132_spec hy g0 h0
theorem it132' {v : Value} {xs : List Int} {B1 : Nat} : Iter Try.prog 132 [ptr B1 0] [ro B1 [v] 27, sl intK v xs] (i1 (namesL xs)) := it132
theorem f106_spec {v : Value} {xs : List Int} : Spec Try.prog 106 [v] [] [sl intK v xs] Nat (fun b => .func (.func 132) #[] [ptr b 0].toArray) (fun _ => []) (fun b => [ro b [v] 27]) := by
  refine spec_of Try.func106 rfl Try.ntmps106 (by simp) fun ok w => ?_
  refine j_seq ?_
  refine j_region ?_
  refine jx (x_boxc rfl) (.no rfl) rfl ?_
  intro B1
  refine jv (v_assign rfl) (.no rfl) rfl ?_
  refine jo_nil ?_
  refine je_next ?_
  refine j_seq ?_
  refine j_region ?_
  refine jv (v_func rfl) (.no rfl) rfl ?_
  refine jv (v_assign rfl) (.no rfl) rfl ?_
  refine jo_nil ?_
  refine je_next ?_
  refine j_ret ?_
  refine je_ret rfl rfl rfl rfl rfl (rvs := [.tmp 2]) rfl (.cons (.tmp rfl) .nil) B1 ?_ (fun w h => (h.freezeB0 .head).fin (memc FindM.mem mem0)) (.inl rfl)
  rfl

theorem f131_spec {gf : FuncId} {lb : List Value} {Γ0 : List PP} {xs : List Int} (hit : Iter Try.prog gf lb Γ0 (i1 xs)) (hc : ∀ args w, (callFunc gf args).run Try.prog w = .ok (.enter gf args) w) (hn : xs.length ≤ 100000) : Spec Try.prog 131 [.slice none 0 0, .func (.func gf) #[] lb.toArray] [] Γ0 Value (fun v => v) (fun _ => []) (fun v => [sl intK v xs]) := by
  refine spec_ofM Try.func131 rfl Try.ntmps131 (by simp) fun ok w => ?_
  refine j_seq ?_
  refine j_region ?_
  refine jx (x_boxc rfl) (.no rfl) rfl ?_
  intro B2
  refine jv (v_assign rfl) (.no rfl) rfl ?_
  refine jo_nil ?_
  refine je_next ?_
  refine j_seq ?_
  refine j_seq ?_
  refine j_region ?_
  refine jv (v_move rfl) (.no rfl) rfl ?_
  refine jo_nil ?_
  refine je_next ?_
  refine j_block ?_
  refine j_to (fun _ _ h => h) (fun w h => h.own_nil intK 3 (A := none)) ?_
  refine j_rangeS hit hc (by rfl) rfl rfl (fun p hp => hp) i1_hps rfl [(2, _)] (lsub rfl lsub0) (fun x t => (5, x.headD undef) :: t) (G := Value × List Int) (fun g t => .own intK g.1 3 g.2 :: .blk B2 [g.1] 27 :: t) (fun g => []) (fun k g => g.2 = xs.take k) (fun g c => False) (.slice none 0 0, []) rfl rfl rfl ?_ ?_ ?_ ?_
  · intro x hx g L D ob ok w
    obtain ⟨i, _, rfl⟩ := List.mem_map.1 hx
    refine j_region ?_
    refine jv (v_assign rfl) (.no rfl) rfl ?_
    refine jo_nil ?_
    exact je_asg (lsub rfl (lsub rfl lsub0))
  · intro k ⟨u, ds⟩ hk hg L D1 ob ob' ok w
    obtain ⟨hkl, hxk⟩ := i1_get hk
    rw [hxk]
    show J _ _ _ ((5, iV xs[k]) :: _) _ _
    simp only at hg
    refine j_block ?_
    refine j_region ?_
    refine jv (v_loadc rfl Try.isAgg27 rfl) (.no rfl) rfl ?_
    refine jv (v_move rfl) (.no rfl) rfl ?_
    refine jq (q_lit1 (K := intK) xs[k] rfl (Cells.one rfl) Try.runUnderlying27 Try.sizeOf3 Try.zeroValue3 rfl (by decide) (by decide) (fun _ _ _ => rfl)) (.no rfl) rfl ?_
    intro v10
    refine jx (x_append rfl rfl (fun _ => Hole.put _) FindR.row Try.runUnderlying27 Try.sizeOf3 Try.zeroValue3 rfl Try.typeInfo3 (by decide) (by decide) (by rw [hg, List.length_take, List.length_singleton]; omega)) (.no rfl) rfl ?_
    intro v11
    refine jx (x_storec (cs' := [_]) rfl rfl rfl Try.sizeOf27 rfl rfl) (.no rfl) rfl ?_
    intro _
    refine jo_nil ?_
    refine je_block ?_
    exact je_rpost (v11, _) rfl rfl rfl (by show _ ++ _ = _; rw [hg, ← List.take_succ_eq_append_getElem hkl]) (fun _ h => (h).sub fun p hp => (List.mem_append_right _ hp))
  · intro ⟨u, ds⟩ D1 hg
    simp only at hg
    rw [i1_len, List.take_length] at hg
    refine je_block ?_
    refine je_next ?_
    refine j_seq ?_
    refine j_region ?_
    refine jv (v_loadc rfl Try.isAgg27 rfl) (.no rfl) rfl ?_
    refine jv (v_assign rfl) (.no rfl) rfl ?_
    refine jo_nil ?_
    refine je_next ?_
    refine j_ret ?_
    refine je_retM rfl rfl rfl rfl [D1] rfl (.cons .head .nil) (rvs := [.tmp 4]) rfl (.cons (.tmp rfl) .nil) u ?_ (fun w h => (h.freeze0 (.tail .head)).fin (by rw [hg]; exact memc FindS.mem mem0)) (.inl rfl)
    rfl
  · intro _ c D1 hg
    exact hg.elim

theorem f105_spec {gf : FuncId} {lb : List Value} {Γ0 : List PP} {xs : List Int} (hit : Iter Try.prog gf lb Γ0 (i1 xs)) (hc : ∀ args w, (callFunc gf args).run Try.prog w = .ok (.enter gf args) w) (hn : xs.length ≤ 100000) : Spec Try.prog 105 [.func (.func gf) #[] lb.toArray] [] Γ0 Value (fun v => v) (fun _ => []) (fun v => [sl intK v xs]) := by
  refine spec_of Try.func105 rfl Try.ntmps105 (by simp) fun ok w => ?_
  refine j_seq ?_
  refine j_region ?_
  refine jv (v_assign rfl) (.no rfl) rfl ?_
  refine jo_nil ?_
  refine je_next ?_
  refine j_seq ?_
  refine j_region ?_
  refine jv (v_move rfl) (.no rfl) rfl ?_
  refine jq (q_callP (f131_spec hit hc hn) Try.call131 (by rfl) rfl (fun p hp => hp)) (.no rfl) rfl ?_
  intro u4
  refine jv (v_assign rfl) (.no rfl) rfl ?_
  refine jo_nil ?_
  refine je_next ?_
  refine j_ret ?_
  refine je_ret rfl rfl rfl rfl rfl (rvs := [.tmp 2]) rfl (.cons (.tmp rfl) .nil) u4 ?_ (fun w h => h.fin (memc FindS.mem mem0)) (.inl rfl)
  rfl

theorem f75_spec {v : Value} {xs : List Int} (hn : xs.length ≤ 100000) : Spec Try.prog 75 [v] [] [sl intK v xs] Value (fun v => v) (fun _ => []) (fun v => [sl intK v (namesL xs)]) := by
  refine spec_of Try.func75 rfl Try.ntmps75 (by simp) fun ok w => ?_
  refine j_seq ?_
  refine j_region ?_
  refine jv (v_assign rfl) (.no rfl) rfl ?_
  refine jo_nil ?_
  refine je_next ?_
  refine j_seq ?_
  refine j_region ?_
  refine jv (v_move rfl) (.no rfl) rfl ?_
  refine jq (q_callP (f106_spec) Try.call106 (by rfl) rfl (memc FindS.mem mem0)) (.no rfl) rfl ?_
  intro b4
  refine jq (q_callP (f105_spec (lb := [ptr b4 0]) (it132' (v := v) (xs := xs) (B1 := b4)) Try.call132 (by have := names_le xs; omega)) Try.call105 (by rfl) rfl (memc FindM.mem (memc FindS.mem mem0))) (.no rfl) rfl ?_
  intro u5
  refine jv (v_assign rfl) (.no rfl) rfl ?_
  refine jo_nil ?_
  refine je_next ?_
  refine j_ret ?_
  refine je_ret rfl rfl rfl rfl rfl (rvs := [.tmp 2]) rfl (.cons (.tmp rfl) .nil) u5 ?_ (fun w h => h.fin (memc FindS.mem mem0)) (.inl rfl)
  rfl

theorem f77_spec {v : Value} {xs : List Int} {h : Int} : Spec Try.prog 77 [v, iV h] [] [sl intK v xs] Unit (fun _ => iV (times xs h)) (fun _ => []) (fun _ => []) := by
  refine spec_ofM Try.func77 rfl Try.ntmps77 (by simp) fun ok w => ?_
  refine j_len v fun hlx => ?_
  refine j_seq ?_
  refine j_region ?_
  refine jx (x_boxc rfl) (.no rfl) rfl ?_
  intro B3
  refine jx (x_alloc Try.zeroValue3 (Cells.one rfl)) (.no rfl) rfl ?_
  intro B4
  refine jo_nil ?_
  refine je_next ?_
  refine j_seq ?_
  refine j_seq ?_
  refine j_region ?_
  refine jv (v_move rfl) (.no rfl) rfl ?_
  refine jq (q_callP (f106_spec) Try.call106 (by rfl) rfl (memc FindS.mem mem0)) (.no rfl) rfl ?_
  intro b7
  refine jo_nil ?_
  refine je_next ?_
  refine j_block ?_
  refine j_rangeS (it132' (v := v) (xs := xs) (B1 := b7)) Try.call132 (by rfl) rfl rfl (memc FindM.mem (memc FindS.mem mem0)) i1_hps rfl [(3, _), (4, _)] (lsub rfl (lsub rfl lsub0)) (fun x t => (5, x.headD undef) :: t) (G := Int) (fun g t => .blk B4 [iV g] 3 :: t) (fun g => []) (fun k g => g = cnt ((namesL xs).take k) h) (fun g c => False) 0 rfl rfl rfl ?_ ?_ ?_ ?_
  · intro x hx g L D ob ok w
    obtain ⟨i, _, rfl⟩ := List.mem_map.1 hx
    refine j_region ?_
    refine jv (v_assign rfl) (.no rfl) rfl ?_
    refine jo_nil ?_
    exact je_asg (lsub rfl (lsub rfl (lsub rfl lsub0)))
  · intro k g hk hg L D1 ob ob' ok w
    obtain ⟨hkl, hxk⟩ := i1_get hk
    rw [hxk]
    show J _ _ _ ((5, iV (namesL xs)[k]) :: _) _ _
    have hb := cnt_lo ((namesL xs).take k) h
    have hnl := names_le xs
    rw [List.length_take, ← hg] at hb
    refine j_block ?_
    refine j_seq ?_
    refine j_region ?_
    refine jv (v_move rfl) (.no rfl) rfl ?_
    refine jv (v_loadc rfl Try.isAgg3 rfl) (.no rfl) rfl ?_
    refine jv (v_eql rfl rfl) (.no rfl) rfl ?_
    refine jo_nil ?_
    refine je_next ?_
    refine j_if rfl (fun h1 => ?_) (fun h1 => ?_)
    · first | (with_reducible replace h1 := of_decide_eq_true h1) | skip
      refine j_region ?_
      refine jv (v_loadc rfl Try.isAgg3 rfl) (.no rfl) rfl ?_
      refine jv (v_add rfl rfl (by omega) (by omega)) (.no rfl) rfl ?_
      refine jx (x_storec (cs' := [_]) rfl rfl rfl Try.sizeOf3 rfl rfl) (.no rfl) rfl ?_
      intro _
      refine jo_nil ?_
      refine je_block ?_
      exact je_rpost _ rfl rfl rfl (by show _ = _; rw [cnt_succ hkl, ← hg]; simp_all) (fun _ h => (h).sub fun p hp => hp)
    · first | (with_reducible replace h1 := of_decide_eq_false h1) | skip
      refine j_skip ?_
      refine je_block ?_
      exact je_rpost _ rfl rfl rfl (by show _ = _; rw [cnt_succ hkl, ← hg]; simp_all) (fun _ h => (h).sub fun p hp => hp)
  · intro g D1 hg
    rw [i1_len, List.take_length, cnt_names] at hg
    refine je_block ?_
    refine je_next ?_
    refine j_seq ?_
    refine j_region ?_
    refine jv (v_loadc rfl Try.isAgg3 rfl) (.no rfl) rfl ?_
    refine jx (x_storec (cs' := [_]) rfl rfl rfl Try.sizeOf3 rfl rfl) (.no rfl) rfl ?_
    intro _
    refine jo_nil ?_
    refine je_next ?_
    refine j_ret ?_
    refine je_retM rfl rfl rfl rfl [D1] rfl (.cons .head .nil) (rvs := [.cell 4 3]) rfl (.cons (.cell rfl FindB.mem Try.isAgg3 rfl) .nil) () ?_ (fun w h => h.fin mem0) (.inl rfl)
    rw [← hg]; rfl
  · intro _ c D1 hg
    exact hg.elim

theorem f39_spec {v : Value} {xs : List Int} {h : Int} : Spec Try.prog 39 [v, iV h] [] [sl intK v xs] Unit (fun _ => iV (times xs h)) (fun _ => []) (fun _ => []) := by
  refine spec_of Try.func39 rfl Try.ntmps39 (by simp) fun ok w => ?_
  refine j_seq ?_
  refine j_region ?_
  refine jv (v_assign rfl) (.no rfl) rfl ?_
  refine jo_nil ?_
  refine je_next ?_
  refine j_seq ?_
  refine j_region ?_
  refine jv (v_move rfl) (.no rfl) rfl ?_
  refine jv (v_move rfl) (.no rfl) rfl ?_
  refine jq (q_callP (f77_spec) Try.call77 (by rfl) rfl (memc FindS.mem mem0)) (.no rfl) rfl ?_
  intro x7
  refine jv (v_assign rfl) (.no rfl) rfl ?_
  refine jo_nil ?_
  refine je_next ?_
  refine j_ret ?_
  refine je_ret rfl rfl rfl rfl rfl (rvs := [.tmp 4]) rfl (.cons (.tmp rfl) .nil) () ?_ (fun w h => h.fin mem0) (.inl rfl)
  rfl

theorem f35_spec {v : Value} {cs : List Cell} {last serial h : Int} (hn : cs.length ≤ 1000) (hI : ∀ c ∈ cs, InI c.gen) (hF : ∀ c ∈ cs, c.val.fields.length ≤ 1000) : Spec Try.prog 35 [stA v last serial, iV h] [] [sl cellK v cs] Value (fun v' => v') (fun _ => []) (fun v' => [sl intK v' (outP cs h)]) := by
  refine spec_of Try.func35 rfl Try.ntmps35 (by simp) fun ok w => ?_
  refine j_seq ?_
  refine j_region ?_
  refine jx (x_boxc rfl) (.no rfl) rfl ?_
  intro B2
  refine jv (v_assign rfl) (.no rfl) rfl ?_
  refine jo_nil ?_
  refine je_next ?_
  refine j_seq ?_
  refine j_seq ?_
  refine j_region ?_
  refine jv (v_loadAc (vs := [_, _, _]) rfl Try.isAgg26 Try.sizeOf26 rfl rfl) (.no rfl) rfl ?_
  refine jv (v_move rfl) (.no rfl) rfl ?_
  refine jq (q_callP (f22_spec hn hI) Try.call22 (by rfl) rfl (memc FindS.mem mem0)) (.no rfl) rfl ?_
  intro f10
  refine jv (v_move rfl) (.no rfl) rfl ?_
  refine jv (v_ext rfl rfl) (.no rfl) rfl ?_
  refine jv (v_ext rfl rfl) (.no rfl) rfl ?_
  refine jx (x_alloc Try.zeroValue29 Cells.agg) (.no rfl) rfl ?_
  intro B5
  refine jx (x_storec (cs' := [_, _, _, _, _, _]) rfl rfl rfl Try.sizeOf29 rfl rfl) (.no rfl) rfl ?_
  intro _
  refine jv (v_assign rfl) (.no rfl) rfl ?_
  refine jo_nil ?_
  refine je_next ?_
  refine j_seq ?_
  refine j_region ?_
  refine jv (v_move rfl) (.no rfl) rfl ?_
  refine jv (v_eql rfl rfl) (.no rfl) rfl ?_
  refine jo_nil ?_
  refine je_next ?_
  refine j_if rfl (fun z1 => ?_) (fun z1 => ?_)
  · first | (with_reducible replace z1 := of_decide_eq_true z1) | skip
    refine j_region ?_
    refine jv (v_field (k' := 5) rfl Try.runUnderlying29 rfl Try.sizeOf27 (by decide) rfl) (.no rfl) rfl ?_
    refine jv (v_loadc rfl Try.isAgg27 rfl) (.no rfl) rfl ?_
    refine jq (q_callP (f75_spec (by have := getP_fields (h := h) hF; omega)) Try.call75 (by rfl) rfl (memc FindS.mem mem0)) (.no rfl) rfl ?_
    intro u17
    refine jv (v_assign rfl) (.no rfl) rfl ?_
    refine jo_nil ?_
    refine je_next ?_
    refine j_seq ?_
    refine j_region ?_
    refine jv (v_move rfl) (.no rfl) rfl ?_
    refine jv (v_assign rfl) (.no rfl) rfl ?_
    refine jo_nil ?_
    refine je_next ?_
    refine j_ret ?_
    refine je_ret rfl rfl rfl rfl rfl (rvs := [.tmp 4]) rfl (.cons (.tmp rfl) .nil) u17 ?_ (fun w h => h.fin (memc FindS.mem mem0)) (.inl rfl)
    rfl
  · first | (with_reducible replace z1 := of_decide_eq_false z1) | skip
    refine j_skip ?_
    refine je_next ?_
    refine j_seq ?_
    refine j_region ?_
    refine jv (v_move rfl) (.no rfl) rfl ?_
    refine jv (v_assign rfl) (.no rfl) rfl ?_
    refine jo_nil ?_
    refine je_next ?_
    refine j_ret ?_
    have e : outP cs h = [] := by unfold outP; rw [getP_bad z1]; rfl
    refine je_ret rfl rfl rfl rfl rfl (rvs := [.tmp 4]) rfl (.cons (.tmp rfl) .nil) (.slice none 0 0) ?_ (fun w h => (h.nilS (A := none) intK).fin (by rw [e]; exact memc FindS.mem mem0)) (.inl rfl)
    rfl

end Go.Proofs.Ytjgacbopccfecaa
