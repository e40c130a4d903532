/-
  Walks: function 70, function 29, function 52, function 53.
-/
import Derived.Test.YtjgacbopccfecaaN
import Derived.Test.YtjgacbopccfecaaW1
import Derived.Test.YtjgacbopccfecaaW2
import Derived.Test.YtjgacbopccfecaaW6
import Derived.Test.YtjgacbopccfecaaW7
set_option maxRecDepth 100000
set_option linter.unusedVariables false
set_option linter.unusedSimpArgs false
namespace Go.Proofs.Ytjgacbopccfecaa

theorem f70_spec {v : Value} {cs : List Cell} {last : Int} {o : Obj} {f : Value} (hn : cs.length ≤ 1000) (hI : ∀ c ∈ cs, InI c.gen) : Spec Try.prog 70 [slabA v last, objA o f] [] [sl cellK v cs, sl intK f o.fields] Value (fun v' => .tuple [slabA v' last, iV (takeP cs o).2.1, iV (takeP cs o).2.2].toArray) (fun _ => []) (fun v' => [sl cellK v' (takeP cs o).1]) := by
  refine spec_ofM Try.func70 rfl Try.ntmps70 (by simp) fun ok w => ?_
  refine j_seq ?_
  refine j_region ?_
  refine jx (x_boxc rfl) (.no rfl) rfl ?_
  intro B2
  refine jx (x_boxc rfl) (.no rfl) rfl ?_
  intro B3
  refine jx (x_alloc Try.zeroValue24 Cells.agg) (.no rfl) rfl ?_
  intro B4
  refine jx (x_alloc Try.zeroValue3 (Cells.one rfl)) (.no rfl) rfl ?_
  intro B5
  refine jx (x_alloc Try.zeroValue32 (Cells.one rfl)) (.no rfl) rfl ?_
  intro B6
  refine jo_nil ?_
  refine je_next ?_
  refine j_seq ?_
  refine j_seq ?_
  refine j_to (fun _ _ h => h) (fun w h => h.freezeB0 (B := B3) (.tail (.tail (.tail .head)))) ?_
  refine j_region ?_
  refine jv (v_loadAc (vs := [_, _]) rfl Try.isAgg24 Try.sizeOf24 rfl rfl) (.no rfl) rfl ?_
  refine jq (q_callP (f102_spec) Try.call102 (by rfl) rfl (memc FindS.mem mem0)) (.no rfl) rfl ?_
  intro b10
  refine jo_nil ?_
  refine je_next ?_
  refine j_block ?_
  refine j_rangeS (it129 (v := v) (cs := cs) (last := last) (key := 0)) Try.call129 (by rfl) rfl rfl (memc FindM.mem (memc FindM.mem (memc FindM.mem mem0))) (by intro x hx; obtain ⟨i, _, rfl⟩ := List.mem_map.1 hx; rfl) rfl [(2, _), (3, _), (4, _), (5, _), (6, _)] (lsub rfl (lsub rfl (lsub rfl (lsub rfl (lsub rfl lsub0))))) (fun x t => (7, x.headD undef) :: t) (G := Option (Nat × Value × Int)) (fun g t => .blk B6 [iV 0] 32 :: .blk B5 [match g with | some p => iV p.2.2 | none => iV 0] 3 :: .blk B4 (match g with | some p => [p.2.1, iV last] | none => [.slice none 0 0, iV 0]) 24 :: t) (fun g => (match g with | some p => [sl cellK p.2.1 (turnC cs p.1 (makeT o))] | none => [])) (fun k g => g = none ∧ k = 0) (fun g c => c = .ret ∧ ∃ i v' x, g = some (i, v', x) ∧ (slots cs 0).head? = some i ∧ x = pack i (genAt cs i)) none (⟨rfl, rfl⟩) rfl rfl ?_ ?_ ?_ ?_
  · intro x hx g L D ob ok w
    obtain ⟨i, _, rfl⟩ := List.mem_map.1 hx
    refine j_region ?_
    refine jv (v_assign rfl) (.no rfl) rfl ?_
    refine jo_nil ?_
    exact je_asg (lsub rfl (lsub rfl (lsub rfl (lsub rfl (lsub rfl (lsub rfl lsub0))))))
  · intro k gg hk hg L D1 ob ob' ok w
    obtain ⟨rfl, rfl⟩ := hg
    obtain ⟨i, hik, hix, hil, _⟩ := idx_get hk
    rw [hix]
    have hhd : (slots cs 0).head? = some i := by rw [List.head?_eq_getElem?]; exact hik
    show J _ _ _ ((7, iV (i : Int)) :: _) _ _
    refine j_block ?_
    refine j_seq ?_
    refine j_region ?_
    refine jv (v_loadAc (vs := [_, _]) rfl Try.isAgg24 Try.sizeOf24 rfl rfl) (.no rfl) rfl ?_
    refine jv (v_move rfl) (.no rfl) rfl ?_
    refine jv (v_func rfl) (.no rfl) rfl ?_
    refine jq (q_callP (f103_spec (Γc := [ro B3 (objV o f) 29, sl intK f o.fields]) Try.call104 (fun v i hi => f104_spec hi) hn (by omega) (by omega)) Try.call103 (by rfl) rfl (memc FindM.mem (memc FindM.mem (memc FindM.mem mem0)))) (.no rfl) rfl ?_
    intro u15
    refine jx (x_alloc Try.zeroValue24 Cells.agg) (.no rfl) rfl ?_
    intro B8
    refine jx (x_storec (cs' := [_, _]) rfl rfl rfl Try.sizeOf24 rfl rfl) (.no rfl) rfl ?_
    intro _
    refine jo_nil ?_
    refine je_next ?_
    refine j_seq ?_
    refine j_draw [9, 10, 11] mixed ?_
    refine ja_take 0 rfl (by decide +kernel) (v_loadAc (vs := [_, _]) rfl Try.isAgg24 Try.sizeOf24 rfl rfl) (.no rfl) rfl ?_
    refine ja_take 1 rfl (by decide +kernel) (v_move rfl) (.no rfl) rfl ?_
    refine ja_take 2 rfl (by decide +kernel) (v_field (k' := 0) rfl Try.runUnderlying24 rfl Try.sizeOf22 (by decide) rfl) (.no rfl) rfl ?_
    refine ja_take 3 rfl (by decide +kernel) (v_loadc rfl Try.isAgg22 rfl) (.no rfl) rfl ?_
    refine ja_take 4 rfl (by decide +kernel) (v_move rfl) (.no rfl) rfl ?_
    refine ja_take 5 rfl (by decide +kernel) (v_index rfl rfl FindR.row Try.runUnderlying22 Try.sizeOf81 (by omega) (by omega)) (.no rfl) rfl ?_
    refine ja_take 6 rfl (by decide +kernel) (v_efield (k' := 1) rfl FindR.row (by omega) Try.runUnderlying81 rfl Try.sizeOf3 (by decide) rfl) (.no rfl) rfl ?_
    refine ja_take 7 rfl (by decide +kernel) (v_eload rfl FindR.row (at_k hil) (by decide) Try.isAgg3 (fun _ _ _ h => (cell_at h).elim fun _ h => by rw [h.1]; rfl)) (.no rfl) rfl ?_
    refine ja_one (i := 8) (by decide +kernel) (jn_q rfl (q_callP (f68_spec (by unfold InI; omega) (hI _ (List.getElem_mem hil))) Try.call68 (by rfl) rfl mem0) (.no rfl) rfl ?_)
    intro x24
    refine ja_one (i := 9) (by decide +kernel) (jn_x rfl (by simp) (x_storec (cs' := [_, _]) rfl rfl rfl Try.sizeOf24 rfl rfl) (.no rfl) rfl ?_)
    intro _
    refine ja_one (i := 10) (by decide +kernel) (jn_x rfl (by simp) (x_storec (cs' := [_]) rfl rfl rfl Try.sizeOf3 rfl rfl) (.no rfl) rfl ?_)
    intro _
    refine ja_one (i := 11) (by decide +kernel) (jn_x rfl (by simp) (x_storec (cs' := [_]) rfl rfl rfl Try.sizeOf32 rfl rfl) (.no rfl) rfl ?_)
    intro _
    refine ja_nil (by decide +kernel) ?_
    refine je_next ?_
    refine j_ret ?_
    refine je_blockr ?_
    exact je_rret (some (i, u15, pack i cs[i].gen)) rfl rfl rfl ⟨rfl, i, u15, _, rfl, hhd, by rw [genAt_eq hil]⟩ (fun _ h => ((h).del .head).sub fun p hp => (List.mem_append.1 hp).elim (fun h1 => by have e := List.mem_singleton.1 h1; rw [e]; exact FindS.mem) (fun h1 => (List.mem_append_right _ (List.mem_append_right _ (List.mem_append_right _ h1)))))
  · intro gg D1 hg
    obtain ⟨rfl, hno⟩ := hg
    have hhd : (slots cs 0).head? = none := by rw [List.head?_eq_getElem?]; exact List.getElem?_eq_none (by rw [← idx_len' cs 0, hno]; exact Nat.le_refl _)
    refine je_block ?_
    refine je_next ?_
    refine j_seq ?_
    refine j_region ?_
    refine jv (v_loadAc (vs := [_, _]) rfl Try.isAgg24 Try.sizeOf24 rfl rfl) (.no rfl) rfl ?_
    refine jx (x_storec (cs' := [_, _]) rfl rfl rfl Try.sizeOf24 rfl rfl) (.no rfl) rfl ?_
    intro _
    refine jx (x_storec (cs' := [_]) rfl rfl rfl Try.sizeOf3 rfl rfl) (.no rfl) rfl ?_
    intro _
    refine jx (x_storec (cs' := [_]) rfl rfl rfl Try.sizeOf32 rfl rfl) (.no rfl) rfl ?_
    intro _
    refine jo_nil ?_
    refine je_next ?_
    refine j_ret ?_
    refine je_retM rfl rfl rfl rfl [D1] rfl (.cons .head .nil) (rvs := [.cell 4 24, .cell 5 3, .cell 6 32]) rfl (.cons (.agg (vs := [_, _]) rfl FindB.mem Try.isAgg24 Try.sizeOf24 rfl rfl) (.cons (.cell rfl FindB.mem Try.isAgg3 rfl) (.cons (.cell rfl FindB.mem Try.isAgg32 rfl) .nil))) v ?_ (fun w h => h.fin (by rw [takeP_none hhd]; exact memc FindS.mem mem0)) (.inl rfl)
    rw [takeP_none hhd]; rfl
  · intro gg c D1 hg
    obtain ⟨rfl, i, v', x, rfl, hhd, hx⟩ := hg
    refine j_ret ?_
    refine je_blockr ?_
    refine je_then (by simp) ?_
    refine je_retM rfl rfl rfl rfl [D1] rfl (.cons .head .nil) (rvs := [.cell 4 24, .cell 5 3, .cell 6 32]) rfl (.cons (.agg (vs := [_, _]) rfl FindB.mem Try.isAgg24 Try.sizeOf24 rfl rfl) (.cons (.cell rfl FindB.mem Try.isAgg3 rfl) (.cons (.cell rfl FindB.mem Try.isAgg32 rfl) .nil))) v' ?_ (fun w h => h.fin (by rw [takeP_some hhd]; exact memc FindS.mem mem0)) (.inl rfl)
    rw [takeP_some hhd, hx]; rfl

theorem f29_spec {v : Value} {cs : List Cell} {last serial n prog : Int} (hn : cs.length ≤ 1000) (hI : ∀ c ∈ cs, InI c.gen) (hs0 : 0 ≤ serial) (hs1 : serial ≤ 2000000000) : Spec Try.prog 29 [stA v last serial, iV n, iV prog] [] [sl cellK v cs] Value (fun v' => .tuple [stA v' last (makeP cs serial n prog).2.1, iV (makeP cs serial n prog).2.2.1, iV (makeP cs serial n prog).2.2.2].toArray) (fun _ => []) (fun v' => [sl cellK v' (makeP cs serial n prog).1]) := by
  refine spec_of Try.func29 rfl Try.ntmps29 (by simp) fun ok w => ?_
  refine j_seq ?_
  refine j_region ?_
  refine jx (x_boxc rfl) (.no rfl) rfl ?_
  intro B3
  refine jx (x_alloc Try.zeroValue26 Cells.agg) (.no rfl) rfl ?_
  intro B6
  refine jv (v_assign rfl) (.no rfl) rfl ?_
  refine jv (v_assign rfl) (.no rfl) rfl ?_
  refine jo_nil ?_
  refine je_next ?_
  refine j_seq ?_
  refine j_region ?_
  refine jv (v_move rfl) (.no rfl) rfl ?_
  refine jq (q_callP (f69_spec) Try.call69 (by rfl) rfl mem0) (.no rfl) rfl ?_
  intro x15
  refine jv (v_move rfl) (.no rfl) rfl ?_
  refine jv (v_ext rfl rfl) (.no rfl) rfl ?_
  refine jv (v_ext rfl rfl) (.no rfl) rfl ?_
  refine jv (v_assign rfl) (.no rfl) rfl ?_
  refine jv (v_assign rfl) (.no rfl) rfl ?_
  refine jo_nil ?_
  refine je_next ?_
  refine j_seq ?_
  refine j_seq ?_
  refine j_region ?_
  refine jv (v_move rfl) (.no rfl) rfl ?_
  refine jv (v_eql rfl rfl) (.no rfl) rfl ?_
  refine jv (v_move rfl) (.no rfl) rfl ?_
  refine j_split 20 rfl (fun z1 => ?_) (fun z1 => ?_)
  · first | (with_reducible replace z1 := of_decide_eq_true z1) | skip
    refine jv (v_move rfl) (.yes rfl rfl rfl) rfl ?_
    refine jv (v_lss rfl rfl) (.yes rfl rfl rfl) rfl ?_
    refine jv (v_move rfl) (.yes rfl rfl rfl) rfl ?_
    refine j_split 23 rfl (fun z2 => ?_) (fun z2 => ?_)
    · first | (with_reducible replace z2 := of_decide_eq_true z2) | skip
      refine j_off rfl rfl rfl (by decide) rfl ?_
      refine j_off rfl rfl rfl (by decide) rfl ?_
      refine jv (v_pickt rfl rfl) (.yes rfl rfl rfl) rfl ?_
      refine jv (v_pickt rfl rfl) (.no rfl) rfl ?_
      refine jo_nil ?_
      refine je_next ?_
      refine j_ift rfl ?_
      refine j_region ?_
      refine jv (v_assign rfl) (.no rfl) rfl ?_
      refine jo_nil ?_
      refine je_next ?_
      refine j_seq ?_
      refine j_seq ?_
      refine j_region ?_
      refine jv (v_move rfl) (.no rfl) rfl ?_
      refine jv (v_neq rfl rfl) (.no rfl) rfl ?_
      refine jo_nil ?_
      refine je_next ?_
      refine j_ift rfl ?_
      refine j_seq ?_
      refine j_region ?_
      refine jv (v_loadAc (vs := [_, _, _]) rfl Try.isAgg26 Try.sizeOf26 rfl rfl) (.no rfl) rfl ?_
      refine jv (v_move rfl) (.no rfl) rfl ?_
      refine jx (x_storec (cs' := [_, _, _]) rfl rfl rfl Try.sizeOf26 rfl rfl) (.no rfl) rfl ?_
      intro _
      refine jv (v_assign rfl) (.no rfl) rfl ?_
      refine jv (v_assign rfl) (.no rfl) rfl ?_
      refine jo_nil ?_
      refine je_next ?_
      refine j_ret ?_
      refine je_then (by simp) ?_
      have hnn : 0 ≤ n ∧ n ≤ 4 := of_ite z1
      have e : makeP cs serial n prog = (cs, serial, 0, 13) := makeP_p hnn (by omega)
      refine je_ret rfl rfl rfl rfl rfl (rvs := [.cell 6 26, .tmp 7, .tmp 8]) rfl (.cons (.agg (vs := [_, _, _]) rfl FindB.mem Try.isAgg26 Try.sizeOf26 rfl rfl) (.cons (.tmp rfl) (.cons (.tmp rfl) .nil))) v ?_ (fun w h => h.fin (by rw [e]; exact memc FindS.mem mem0)) (.inl rfl)
      rw [e]; rfl
    · first | (with_reducible replace z2 := of_decide_eq_false z2) | skip
      refine jv (v_move rfl) (.yes rfl rfl rfl) rfl ?_
      refine jv (v_geq rfl rfl) (.yes rfl rfl rfl) rfl ?_
      refine jv (v_pickf rfl rfl) (.yes rfl rfl rfl) rfl ?_
      refine jv (v_pickt rfl rfl) (.no rfl) rfl ?_
      refine jo_nil ?_
      refine je_next ?_
      refine j_if rfl (fun z3 => ?_) (fun z3 => ?_)
      · first | (with_reducible replace z3 := of_decide_eq_true z3) | skip
        refine j_region ?_
        refine jv (v_assign rfl) (.no rfl) rfl ?_
        refine jo_nil ?_
        refine je_next ?_
        refine j_seq ?_
        refine j_seq ?_
        refine j_region ?_
        refine jv (v_move rfl) (.no rfl) rfl ?_
        refine jv (v_neq rfl rfl) (.no rfl) rfl ?_
        refine jo_nil ?_
        refine je_next ?_
        refine j_ift rfl ?_
        refine j_seq ?_
        refine j_region ?_
        refine jv (v_loadAc (vs := [_, _, _]) rfl Try.isAgg26 Try.sizeOf26 rfl rfl) (.no rfl) rfl ?_
        refine jv (v_move rfl) (.no rfl) rfl ?_
        refine jx (x_storec (cs' := [_, _, _]) rfl rfl rfl Try.sizeOf26 rfl rfl) (.no rfl) rfl ?_
        intro _
        refine jv (v_assign rfl) (.no rfl) rfl ?_
        refine jv (v_assign rfl) (.no rfl) rfl ?_
        refine jo_nil ?_
        refine je_next ?_
        refine j_ret ?_
        refine je_then (by simp) ?_
        have hnn : 0 ≤ n ∧ n ≤ 4 := of_ite z1
        have e : makeP cs serial n prog = (cs, serial, 0, 13) := makeP_p hnn (by omega)
        refine je_ret rfl rfl rfl rfl rfl (rvs := [.cell 6 26, .tmp 7, .tmp 8]) rfl (.cons (.agg (vs := [_, _, _]) rfl FindB.mem Try.isAgg26 Try.sizeOf26 rfl rfl) (.cons (.tmp rfl) (.cons (.tmp rfl) .nil))) v ?_ (fun w h => h.fin (by rw [e]; exact memc FindS.mem mem0)) (.inl rfl)
        rw [e]; rfl
      · first | (with_reducible replace z3 := of_decide_eq_false z3) | skip
        refine j_skip ?_
        refine je_next ?_
        refine j_seq ?_
        refine j_seq ?_
        refine j_region ?_
        refine jv (v_move rfl) (.no rfl) rfl ?_
        refine jv (v_neq rfl rfl) (.no rfl) rfl ?_
        refine jo_nil ?_
        refine je_next ?_
        refine j_if rfl (fun z4 => ?_) (fun z4 => ?_)
        · first | (with_reducible replace z4 := of_decide_eq_true z4) | skip
          exact absurd z1 z4
        · first | (with_reducible replace z4 := of_decide_eq_false z4) | skip
          have hnn : 0 ≤ n ∧ n ≤ 4 := of_ite z1
          refine j_skip ?_
          refine je_next ?_
          refine j_seq ?_
          refine j_region ?_
          refine jv (v_field (k' := 0) rfl Try.runUnderlying26 rfl Try.sizeOf24 (by decide) rfl) (.no rfl) rfl ?_
          refine jv (v_loadAc (vs := [_, _]) rfl Try.isAgg24 Try.sizeOf24 rfl rfl) (.no rfl) rfl ?_
          refine jv (v_field (k' := 2) rfl Try.runUnderlying26 rfl Try.sizeOf3 (by decide) rfl) (.no rfl) rfl ?_
          refine jv (v_loadc rfl Try.isAgg3 rfl) (.no rfl) rfl ?_
          refine jv (v_add rfl rfl (by omega) (by omega)) (.no rfl) rfl ?_
          refine jv (v_move rfl) (.no rfl) rfl ?_
          refine jv (v_move rfl) (.no rfl) rfl ?_
          refine jv (v_build1 _ rfl b29) (.no rfl) rfl ?_
          refine jq (q_callP (f70_spec (o := newO serial prog n) hn hI) Try.call70 (by rfl) rfl (memc FindS.mem (memc FindS.mem mem0))) (.no rfl) rfl ?_
          intro u41
          refine jv (v_move rfl) (.no rfl) rfl ?_
          refine jv (v_ext rfl rfl) (.no rfl) rfl ?_
          refine jv (v_ext rfl rfl) (.no rfl) rfl ?_
          refine jv (v_ext rfl rfl) (.no rfl) rfl ?_
          refine jx (x_alloc Try.zeroValue24 Cells.agg) (.no rfl) rfl ?_
          intro B11
          refine jx (x_storec (cs' := [_, _]) rfl rfl rfl Try.sizeOf24 rfl rfl) (.no rfl) rfl ?_
          intro _
          refine jv (v_assign rfl) (.no rfl) rfl ?_
          refine jv (v_assign rfl) (.no rfl) rfl ?_
          refine jo_nil ?_
          refine je_next ?_
          refine j_seq ?_
          refine j_seq ?_
          refine j_region ?_
          refine jv (v_move rfl) (.no rfl) rfl ?_
          refine jv (v_neq rfl rfl) (.no rfl) rfl ?_
          refine jo_nil ?_
          refine je_next ?_
          refine j_if rfl (fun z5 => ?_) (fun z5 => ?_)
          · first | (with_reducible replace z5 := of_decide_eq_true z5) | skip
            refine j_seq ?_
            refine j_region ?_
            refine jv (v_loadAc (vs := [_, _, _]) rfl Try.isAgg26 Try.sizeOf26 rfl rfl) (.no rfl) rfl ?_
            refine jv (v_move rfl) (.no rfl) rfl ?_
            refine jx (x_storec (cs' := [_, _, _]) rfl rfl rfl Try.sizeOf26 rfl rfl) (.no rfl) rfl ?_
            intro _
            refine jv (v_assign rfl) (.no rfl) rfl ?_
            refine jv (v_assign rfl) (.no rfl) rfl ?_
            refine jo_nil ?_
            refine je_next ?_
            refine j_ret ?_
            refine je_then (by simp) ?_
            have e := makeP_t (cs := cs) (serial := serial) hnn (by omega) z5
            refine je_ret rfl rfl rfl rfl rfl (rvs := [.cell 6 26, .tmp 7, .tmp 8]) rfl (.cons (.agg (vs := [_, _, _]) rfl FindB.mem Try.isAgg26 Try.sizeOf26 rfl rfl) (.cons (.tmp rfl) (.cons (.tmp rfl) .nil))) v ?_ (fun w h => h.fin (by rw [e]; exact memc FindS.mem mem0)) (.inl rfl)
            rw [e]; rfl
          · first | (with_reducible replace z5 := of_decide_eq_false z5) | skip
            have z5 : (takeP cs (newO serial prog n)).2.2 = 0 := by simpa using z5
            refine j_skip ?_
            refine je_next ?_
            refine j_seq ?_
            refine j_region ?_
            refine jv (v_loadAc (vs := [_, _]) rfl Try.isAgg24 Try.sizeOf24 rfl rfl) (.no rfl) rfl ?_
            refine jv (v_field (k' := 2) rfl Try.runUnderlying26 rfl Try.sizeOf3 (by decide) rfl) (.no rfl) rfl ?_
            refine jv (v_loadc rfl Try.isAgg3 rfl) (.no rfl) rfl ?_
            refine jv (v_add rfl rfl (by omega) (by omega)) (.no rfl) rfl ?_
            refine jv (v_build1 _ rfl b26) (.no rfl) rfl ?_
            refine jv (v_move rfl) (.no rfl) rfl ?_
            refine jv (v_move rfl) (.no rfl) rfl ?_
            refine jx (x_storec (cs' := [_, _, _]) rfl rfl rfl Try.sizeOf26 rfl rfl) (.no rfl) rfl ?_
            intro _
            refine jv (v_assign rfl) (.no rfl) rfl ?_
            refine jv (v_assign rfl) (.no rfl) rfl ?_
            refine jo_nil ?_
            refine je_next ?_
            refine j_ret ?_
            have e := makeP_ok (cs := cs) (serial := serial) hnn (by omega) z5
            refine je_ret rfl rfl rfl rfl rfl (rvs := [.cell 6 26, .tmp 7, .tmp 8]) rfl (.cons (.agg (vs := [_, _, _]) rfl FindB.mem Try.isAgg26 Try.sizeOf26 rfl rfl) (.cons (.tmp rfl) (.cons (.tmp rfl) .nil))) u41 ?_ (fun w h => h.fin (by rw [e]; exact memc FindS.mem mem0)) (.inl rfl)
            rw [e, z5]; rfl
  · first | (with_reducible replace z1 := of_decide_eq_false z1) | skip
    refine j_off rfl rfl rfl (by decide) rfl ?_
    refine j_off rfl rfl rfl (by decide) rfl ?_
    refine j_off rfl rfl rfl (by decide) rfl ?_
    refine j_offu rfl rfl rfl rfl ?_
    refine j_offu rfl rfl rfl rfl ?_
    refine j_off rfl rfl rfl (by decide) rfl ?_
    refine jv (v_pickf rfl rfl) (.no rfl) rfl ?_
    refine jo_nil ?_
    refine je_next ?_
    refine j_iff rfl ?_
    refine j_skip ?_
    refine je_next ?_
    refine j_seq ?_
    refine j_seq ?_
    refine j_region ?_
    refine jv (v_move rfl) (.no rfl) rfl ?_
    refine jv (v_neq rfl rfl) (.no rfl) rfl ?_
    refine jo_nil ?_
    refine je_next ?_
    refine j_if rfl (fun z4 => ?_) (fun z4 => ?_)
    · first | (with_reducible replace z4 := of_decide_eq_true z4) | skip
      refine j_seq ?_
      refine j_region ?_
      refine jv (v_loadAc (vs := [_, _, _]) rfl Try.isAgg26 Try.sizeOf26 rfl rfl) (.no rfl) rfl ?_
      refine jv (v_move rfl) (.no rfl) rfl ?_
      refine jx (x_storec (cs' := [_, _, _]) rfl rfl rfl Try.sizeOf26 rfl rfl) (.no rfl) rfl ?_
      intro _
      refine jv (v_assign rfl) (.no rfl) rfl ?_
      refine jv (v_assign rfl) (.no rfl) rfl ?_
      refine jo_nil ?_
      refine je_next ?_
      refine j_ret ?_
      refine je_then (by simp) ?_
      have hnn : ¬ (0 ≤ n ∧ n ≤ 4) := fun hc => z1 (if_pos hc)
      have e : makeP cs serial n prog = (cs, serial, 0, 1) := makeP_n hnn
      refine je_ret rfl rfl rfl rfl rfl (rvs := [.cell 6 26, .tmp 7, .tmp 8]) rfl (.cons (.agg (vs := [_, _, _]) rfl FindB.mem Try.isAgg26 Try.sizeOf26 rfl rfl) (.cons (.tmp rfl) (.cons (.tmp rfl) .nil))) v ?_ (fun w h => h.fin (by rw [e]; exact memc FindS.mem mem0)) (.inl rfl)
      rw [e, if_neg hnn]; rfl
    · first | (with_reducible replace z4 := of_decide_eq_false z4) | skip
      exact absurd (by simpa using z4) z1

theorem f52_spec {v : Value} {cs : List Cell} {last serial h i k : Int} (hn : cs.length ≤ 1000) (hI : ∀ c ∈ cs, InI c.gen) (hF : ∀ c ∈ cs, c.val.fields.length ≤ 1000) : Spec Try.prog 52 [stA v last serial, iV h, iV i, iV k] [] [sl cellK v cs] Value (fun v' => .tuple [stA v' last serial, iV (putP cs h i k).2].toArray) (fun _ => []) (fun v' => [sl cellK v' (putP cs h i k).1]) := by
  refine spec_of Try.func52 rfl Try.ntmps52 (by simp) fun ok w => ?_
  refine j_seq ?_
  refine j_region ?_
  refine jx (x_boxc rfl) (.no rfl) rfl ?_
  intro B4
  refine jx (x_alloc Try.zeroValue26 Cells.agg) (.no rfl) rfl ?_
  intro B8
  refine jv (v_assign rfl) (.no rfl) rfl ?_
  refine jo_nil ?_
  refine je_next ?_
  refine j_seq ?_
  refine j_region ?_
  refine jv (v_loadAc (vs := [_, _, _]) rfl Try.isAgg26 Try.sizeOf26 rfl rfl) (.no rfl) rfl ?_
  refine jv (v_move rfl) (.no rfl) rfl ?_
  refine jq (q_callP (f22_spec hn hI) Try.call22 (by rfl) rfl (memc FindS.mem mem0)) (.no rfl) rfl ?_
  intro f15
  refine jv (v_move rfl) (.no rfl) rfl ?_
  refine jv (v_ext rfl rfl) (.no rfl) rfl ?_
  refine jv (v_ext rfl rfl) (.no rfl) rfl ?_
  refine jx (x_alloc Try.zeroValue29 Cells.agg) (.no rfl) rfl ?_
  intro B10
  refine jx (x_storec (cs' := [_, _, _, _, _, _]) rfl rfl rfl Try.sizeOf29 rfl rfl) (.no rfl) rfl ?_
  intro _
  refine jv (v_assign rfl) (.no rfl) rfl ?_
  refine jo_nil ?_
  refine je_next ?_
  refine j_seq ?_
  refine j_seq ?_
  refine j_region ?_
  refine jv (v_move rfl) (.no rfl) rfl ?_
  refine jv (v_eql rfl rfl) (.no rfl) rfl ?_
  refine jo_nil ?_
  refine je_next ?_
  refine j_if rfl (fun z1 => ?_) (fun z1 => ?_)
  · first | (with_reducible replace z1 := of_decide_eq_true z1) | skip
    refine j_region ?_
    refine jv (v_field (k' := 5) rfl Try.runUnderlying29 rfl Try.sizeOf27 (by decide) rfl) (.no rfl) rfl ?_
    refine jv (v_loadc rfl Try.isAgg27 rfl) (.no rfl) rfl ?_
    refine jv (v_move rfl) (.no rfl) rfl ?_
    refine jv (v_move rfl) (.no rfl) rfl ?_
    refine jq (q_callP (f87_spec (by have := getP_fields (h := h) hF; omega)) Try.call87 (by rfl) rfl (memc FindS.mem mem0)) (.no rfl) rfl ?_
    intro x25
    refine jv (v_move rfl) (.no rfl) rfl ?_
    refine jv (v_ext rfl rfl) (.no rfl) rfl ?_
    refine jv (v_ext rfl rfl) (.no rfl) rfl ?_
    refine jv (v_field (k' := 5) rfl Try.runUnderlying29 rfl Try.sizeOf27 (by decide) rfl) (.no rfl) rfl ?_
    refine jx (x_storec (cs' := [_, _, _, _, _, _]) rfl rfl rfl Try.sizeOf27 rfl rfl) (.no rfl) rfl ?_
    intro _
    refine jv (v_assign rfl) (.no rfl) rfl ?_
    refine jo_nil ?_
    refine je_next ?_
    refine j_seq ?_
    refine j_seq ?_
    refine j_region ?_
    refine jv (v_move rfl) (.no rfl) rfl ?_
    refine jv (v_neq rfl rfl) (.no rfl) rfl ?_
    refine jo_nil ?_
    refine je_next ?_
    refine j_if rfl (fun z2 => ?_) (fun z2 => ?_)
    · first | (with_reducible replace z2 := of_decide_eq_true z2) | skip
      have hh2 : ¬ hasI (getP cs h).1.fields i = true := fun hc => z2 (if_pos hc)
      refine j_seq ?_
      refine j_region ?_
      refine jv (v_loadAc (vs := [_, _, _]) rfl Try.isAgg26 Try.sizeOf26 rfl rfl) (.no rfl) rfl ?_
      refine jv (v_move rfl) (.no rfl) rfl ?_
      refine jx (x_storec (cs' := [_, _, _]) rfl rfl rfl Try.sizeOf26 rfl rfl) (.no rfl) rfl ?_
      intro _
      refine jv (v_assign rfl) (.no rfl) rfl ?_
      refine jo_nil ?_
      refine je_next ?_
      refine j_ret ?_
      refine je_then (by simp) ?_
      have e : putP cs h i k = (cs, 5) := putP_5 z1 hh2
      have e5 : (if hasI (getP cs h).1.fields i = true then (0 : Int) else 5) = 5 := if_neg hh2
      refine je_ret rfl rfl rfl rfl rfl (rvs := [.cell 8 26, .tmp 9]) rfl (.cons (.agg (vs := [_, _, _]) rfl FindB.mem Try.isAgg26 Try.sizeOf26 rfl rfl) (.cons (.tmp rfl) .nil)) v ?_ (fun w h => h.fin (by rw [e]; exact memc FindS.mem mem0)) (.inl rfl)
      rw [e]; simp only [e5]; rfl
    · first | (with_reducible replace z2 := of_decide_eq_false z2) | skip
      have hh2 : hasI (getP cs h).1.fields i = true := of_ite5 z2
      refine j_skip ?_
      refine je_next ?_
      refine j_seq ?_
      refine j_region ?_
      refine jv (v_loadAc (vs := [_, _, _]) rfl Try.isAgg26 Try.sizeOf26 rfl rfl) (.no rfl) rfl ?_
      refine jv (v_move rfl) (.no rfl) rfl ?_
      refine jv (v_loadAc (vs := [_, _, _, _, _, _]) rfl Try.isAgg29 Try.sizeOf29 rfl rfl) (.no rfl) rfl ?_
      refine jq (q_callP (f16_spec (o := putO cs h i k) hn hI) Try.call16 (by rfl) rfl (memc FindS.mem (memc (FindS.mem (xs := withI (getP cs h).1.fields i k)) mem0))) (.no rfl) rfl ?_
      intro u36
      refine jv (v_ext rfl rfl) (.no rfl) rfl ?_
      refine jv (v_ext rfl rfl) (.no rfl) rfl ?_
      refine jx (x_storec (cs' := [_, _, _]) rfl rfl rfl Try.sizeOf26 rfl rfl) (.no rfl) rfl ?_
      intro _
      refine jv (v_assign rfl) (.no rfl) rfl ?_
      refine jo_nil ?_
      refine je_next ?_
      refine j_ret ?_
      have e := putP_ok (k := k) z1 hh2
      refine je_ret rfl rfl rfl rfl rfl (rvs := [.cell 8 26, .tmp 9]) rfl (.cons (.agg (vs := [_, _, _]) rfl FindB.mem Try.isAgg26 Try.sizeOf26 rfl rfl) (.cons (.tmp rfl) .nil)) u36 ?_ (fun w h => h.fin (by rw [e]; exact memc FindS.mem mem0)) (.inl rfl)
      rw [e]; rfl
  · first | (with_reducible replace z1 := of_decide_eq_false z1) | skip
    refine j_skip ?_
    refine je_next ?_
    refine j_seq ?_
    refine j_seq ?_
    refine j_region ?_
    refine jv (v_move rfl) (.no rfl) rfl ?_
    refine jv (v_neq rfl rfl) (.no rfl) rfl ?_
    refine jo_nil ?_
    refine je_next ?_
    refine j_if rfl (fun z2 => ?_) (fun z2 => ?_)
    · first | (with_reducible replace z2 := of_decide_eq_true z2) | skip
      refine j_seq ?_
      refine j_region ?_
      refine jv (v_loadAc (vs := [_, _, _]) rfl Try.isAgg26 Try.sizeOf26 rfl rfl) (.no rfl) rfl ?_
      refine jv (v_move rfl) (.no rfl) rfl ?_
      refine jx (x_storec (cs' := [_, _, _]) rfl rfl rfl Try.sizeOf26 rfl rfl) (.no rfl) rfl ?_
      intro _
      refine jv (v_assign rfl) (.no rfl) rfl ?_
      refine jo_nil ?_
      refine je_next ?_
      refine j_ret ?_
      refine je_then (by simp) ?_
      have e := putP_no (i := i) (k := k) z2
      refine je_ret rfl rfl rfl rfl rfl (rvs := [.cell 8 26, .tmp 9]) rfl (.cons (.agg (vs := [_, _, _]) rfl FindB.mem Try.isAgg26 Try.sizeOf26 rfl rfl) (.cons (.tmp rfl) .nil)) v ?_ (fun w h => h.fin (by rw [e]; exact memc FindS.mem mem0)) (.inl rfl)
      rw [e]; rfl
    · first | (with_reducible replace z2 := of_decide_eq_false z2) | skip
      exact absurd (by simpa using z2) z1

theorem f53_spec {v : Value} {cs : List Cell} {last serial h i : Int} (hn : cs.length ≤ 1000) (hI : ∀ c ∈ cs, InI c.gen) : Spec Try.prog 53 [stA v last serial, iV h, iV i] [] [sl cellK v cs] Unit (fun _ => .tuple [iV (fieldP cs h i).1, iV (fieldP cs h i).2].toArray) (fun _ => []) (fun _ => []) := by
  refine spec_of Try.func53 rfl Try.ntmps53 (by simp) fun ok w => ?_
  refine j_seq ?_
  refine j_region ?_
  refine jx (x_boxc rfl) (.no rfl) rfl ?_
  intro B3
  refine jv (v_assign rfl) (.no rfl) rfl ?_
  refine jv (v_assign rfl) (.no rfl) rfl ?_
  refine jo_nil ?_
  refine je_next ?_
  refine j_seq ?_
  refine j_region ?_
  refine jv (v_loadAc (vs := [_, _, _]) rfl Try.isAgg26 Try.sizeOf26 rfl rfl) (.no rfl) rfl ?_
  refine jv (v_move rfl) (.no rfl) rfl ?_
  refine jq (q_callP (f22_spec hn hI) Try.call22 (by rfl) rfl (memc FindS.mem mem0)) (.no rfl) rfl ?_
  intro f13
  refine jv (v_move rfl) (.no rfl) rfl ?_
  refine jv (v_ext rfl rfl) (.no rfl) rfl ?_
  refine jv (v_ext rfl rfl) (.no rfl) rfl ?_
  refine jx (x_alloc Try.zeroValue29 Cells.agg) (.no rfl) rfl ?_
  intro B8
  refine jx (x_storec (cs' := [_, _, _, _, _, _]) rfl rfl rfl Try.sizeOf29 rfl rfl) (.no rfl) rfl ?_
  intro _
  refine jv (v_assign rfl) (.no rfl) rfl ?_
  refine jo_nil ?_
  refine je_next ?_
  refine j_seq ?_
  refine j_seq ?_
  refine j_region ?_
  refine jv (v_move rfl) (.no rfl) rfl ?_
  refine jv (v_neq rfl rfl) (.no rfl) rfl ?_
  refine jo_nil ?_
  refine je_next ?_
  refine j_if rfl (fun z1 => ?_) (fun z1 => ?_)
  · first | (with_reducible replace z1 := of_decide_eq_true z1) | skip
    refine j_seq ?_
    refine j_region ?_
    refine jv (v_move rfl) (.no rfl) rfl ?_
    refine jv (v_assign rfl) (.no rfl) rfl ?_
    refine jv (v_assign rfl) (.no rfl) rfl ?_
    refine jo_nil ?_
    refine je_next ?_
    refine j_ret ?_
    refine je_then (by simp) ?_
    refine je_ret rfl rfl rfl rfl rfl (rvs := [.tmp 6, .tmp 7]) rfl (.cons (.tmp rfl) (.cons (.tmp rfl) .nil)) () ?_ (fun w h => h.fin mem0) (.inl rfl)
    first | (simp_all [resVal, fieldP]; done) | (simp [resVal, fieldP, z1]; done)
  · first | (with_reducible replace z1 := of_decide_eq_false z1) | skip
    refine j_skip ?_
    refine je_next ?_
    refine j_seq ?_
    refine j_region ?_
    refine jv (v_field (k' := 5) rfl Try.runUnderlying29 rfl Try.sizeOf27 (by decide) rfl) (.no rfl) rfl ?_
    refine jv (v_loadc rfl Try.isAgg27 rfl) (.no rfl) rfl ?_
    refine jv (v_move rfl) (.no rfl) rfl ?_
    refine jq (q_callP (f88_spec) Try.call88 (by rfl) rfl (memc FindS.mem mem0)) (.no rfl) rfl ?_
    intro x22
    refine jv (v_ext rfl rfl) (.no rfl) rfl ?_
    refine jv (v_ext rfl rfl) (.no rfl) rfl ?_
    refine jv (v_assign rfl) (.no rfl) rfl ?_
    refine jv (v_assign rfl) (.no rfl) rfl ?_
    refine jo_nil ?_
    refine je_next ?_
    refine j_ret ?_
    refine je_ret rfl rfl rfl rfl rfl (rvs := [.tmp 6, .tmp 7]) rfl (.cons (.tmp rfl) (.cons (.tmp rfl) .nil)) () ?_ (fun w h => h.fin mem0) (.inl rfl)
    first | (simp_all [resVal, fieldP]; done) | (simp [resVal, fieldP, z1]; done)

end Go.Proofs.Ytjgacbopccfecaa
