/-
  Walks: function 60, function 22, function 130, function 90, function 104, function 103, function 89, function 54, function 16.
-/
import Derived.Test.YtjgacbopccfecaaN
import Derived.Test.YtjgacbopccfecaaW1
import Derived.Test.YtjgacbopccfecaaW2
import Derived.Test.YtjgacbopccfecaaW6
set_option maxRecDepth 100000
set_option linter.unusedVariables false
set_option linter.unusedSimpArgs false
namespace Go.Proofs.Ytjgacbopccfecaa

theorem f60_spec {v : Value} {cs : List Cell} {last h : Int} (hn : cs.length ≤ 1000) (hI : ∀ c ∈ cs, InI c.gen) : Spec Try.prog 60 [slabA v last, iV h] [] [sl cellK v cs] Value (fun f => .tuple [objA (getP cs h).1 f, iV (getP cs h).2].toArray) (fun _ => []) (fun f => [sl intK f (getP cs h).1.fields]) := by
  refine spec_of Try.func60 rfl Try.ntmps60 (by simp) fun ok w => ?_
  refine j_seq ?_
  refine j_region ?_
  refine jx (x_boxc rfl) (.no rfl) rfl ?_
  intro B2
  refine jx (x_alloc Try.zeroValue29 Cells.agg) (.no rfl) rfl ?_
  intro B4
  refine jv (v_assign rfl) (.no rfl) rfl ?_
  refine jo_nil ?_
  refine je_next ?_
  refine j_seq ?_
  refine j_region ?_
  refine jv (v_loadAc (vs := [_, _]) rfl Try.isAgg24 Try.sizeOf24 rfl rfl) (.no rfl) rfl ?_
  refine jv (v_move rfl) (.no rfl) rfl ?_
  refine jq (q_callP (f93_spec hn hI) Try.call93 (by rfl) rfl (memc FindS.mem mem0)) (.no rfl) rfl ?_
  intro x10
  refine jv (v_move rfl) (.no rfl) rfl ?_
  refine jv (v_ext rfl rfl) (.no rfl) rfl ?_
  refine jv (v_ext rfl rfl) (.no rfl) rfl ?_
  refine jv (v_assign rfl) (.no rfl) rfl ?_
  refine jv (v_assign rfl) (.no rfl) rfl ?_
  refine jo_nil ?_
  refine je_next ?_
  refine j_seq ?_
  refine j_block ?_
  refine j_seq ?_
  refine j_region ?_
  refine jv (v_move rfl) (.no rfl) rfl ?_
  refine jv (v_neq rfl rfl) (.no rfl) rfl ?_
  refine jv (v_assign rfl) (.no rfl) rfl ?_
  refine jo_nil ?_
  refine je_next ?_
  refine j_if rfl (fun z1 => ?_) (fun z1 => ?_)
  · first | (with_reducible replace z1 := of_decide_eq_true z1) | skip
    refine j_seq ?_
    refine j_region ?_
    refine jv (v_loadAc (vs := [_, _, _, _, _, _]) rfl Try.isAgg29 Try.sizeOf29 rfl rfl) (.no rfl) rfl ?_
    refine jv (v_move rfl) (.no rfl) rfl ?_
    refine jx (x_storec (cs' := [_, _, _, _, _, _]) rfl rfl rfl Try.sizeOf29 rfl rfl) (.no rfl) rfl ?_
    intro _
    refine jv (v_assign rfl) (.no rfl) rfl ?_
    refine jo_nil ?_
    refine je_next ?_
    refine j_ret ?_
    refine je_blockr ?_
    refine je_then (by simp) ?_
    have hg := getP_no z1
    refine je_ret rfl rfl rfl rfl rfl (rvs := [.cell 4 29, .tmp 5]) rfl (.cons (.agg (vs := [_, _, _, _, _, _]) rfl FindB.mem Try.isAgg29 Try.sizeOf29 rfl rfl) (.cons (.tmp rfl) .nil)) (.slice none 0 0) ?_ (fun w h => (h.nilS (A := none) intK).fin (by rw [hg]; exact memc FindS.mem mem0)) (.inl rfl)
    rw [hg]; rfl
  · first | (with_reducible replace z1 := of_decide_eq_false z1) | skip
    have z1 : (findP cs h).2 = 0 := by simpa using z1
    have hb := findP_bound cs h z1
    have hkl : (findP cs h).1.toNat < cs.length := by omega
    refine j_seq ?_
    refine j_region ?_
    refine jv (v_field (k' := 0) rfl Try.runUnderlying24 rfl Try.sizeOf22 (by decide) rfl) (.no rfl) rfl ?_
    refine jv (v_loadc rfl Try.isAgg22 rfl) (.no rfl) rfl ?_
    refine jv (v_move rfl) (.no rfl) rfl ?_
    refine jv (v_index rfl rfl FindR.row Try.runUnderlying22 Try.sizeOf81 (by omega) (by omega)) (.no rfl) rfl ?_
    refine jv (v_efield (k' := 0) rfl FindR.row (by omega) Try.runUnderlying81 rfl Try.sizeOf3 (by decide) rfl) (.no rfl) rfl ?_
    refine jv (v_eload rfl FindR.row (List.getElem?_eq_getElem hkl) (by decide) Try.isAgg3 (fun _ _ _ h => (cell_at h).elim fun _ h => by rw [h.1]; rfl)) (.no rfl) rfl ?_
    refine jv (v_eql rfl rfl) (.no rfl) rfl ?_
    refine jv (v_assign rfl) (.no rfl) rfl ?_
    refine jo_nil ?_
    refine je_next ?_
    refine j_if rfl (fun z3 => ?_) (fun z3 => ?_)
    · first | (with_reducible replace z3 := of_decide_eq_true z3) | skip
      refine j_seq ?_
      refine j_region ?_
      refine jv (v_loadAc (vs := [_, _, _, _, _, _]) rfl Try.isAgg29 Try.sizeOf29 rfl rfl) (.no rfl) rfl ?_
      refine jx (x_storec (cs' := [_, _, _, _, _, _]) rfl rfl rfl Try.sizeOf29 rfl rfl) (.no rfl) rfl ?_
      intro _
      refine jv (v_assign rfl) (.no rfl) rfl ?_
      refine jo_nil ?_
      refine je_next ?_
      refine j_ret ?_
      refine je_blockr ?_
      refine je_then (by simp) ?_
      have hg := getP_2 z1 hkl z3
      refine je_ret rfl rfl rfl rfl rfl (rvs := [.cell 4 29, .tmp 5]) rfl (.cons (.agg (vs := [_, _, _, _, _, _]) rfl FindB.mem Try.isAgg29 Try.sizeOf29 rfl rfl) (.cons (.tmp rfl) .nil)) (.slice none 0 0) ?_ (fun w h => (h.nilS (A := none) intK).fin (by rw [hg]; exact memc FindS.mem mem0)) (.inl rfl)
      rw [hg]; rfl
    · first | (with_reducible replace z3 := of_decide_eq_false z3) | skip
      refine j_skip ?_
      refine je_block ?_
      refine je_next ?_
      refine j_seq ?_
      refine j_region ?_
      refine jv (v_field (k' := 0) rfl Try.runUnderlying24 rfl Try.sizeOf22 (by decide) rfl) (.no rfl) rfl ?_
      refine jv (v_loadc rfl Try.isAgg22 rfl) (.no rfl) rfl ?_
      refine jv (v_move rfl) (.no rfl) rfl ?_
      refine jv (v_index rfl rfl FindR.row Try.runUnderlying22 Try.sizeOf81 (by omega) (by omega)) (.no rfl) rfl ?_
      refine jv (v_efield (k' := 2) rfl FindR.row (by omega) Try.runUnderlying81 rfl Try.sizeOf29 (by decide) rfl) (.no rfl) rfl ?_
      refine jq (OpL.q (l_eload rfl FindR.row (List.getElem?_eq_getElem hkl) (by decide) Try.isAgg29 Try.sizeOf29 (fun _ _ _ h => cell_obj h))) (.no rfl) rfl ?_
      intro v32
      refine jv (v_move rfl) (.no rfl) rfl ?_
      refine jx (x_storec (cs' := [_, _, _, _, _, _]) rfl rfl rfl Try.sizeOf29 rfl rfl) (.no rfl) rfl ?_
      intro _
      refine jv (v_assign rfl) (.no rfl) rfl ?_
      refine jo_nil ?_
      refine je_next ?_
      refine j_ret ?_
      have hg := getP_ok z1 hkl z3
      refine je_ret rfl rfl rfl rfl rfl (rvs := [.cell 4 29, .tmp 5]) rfl (.cons (.agg (vs := [_, _, _, _, _, _]) rfl FindB.mem Try.isAgg29 Try.sizeOf29 rfl rfl) (.cons (.tmp rfl) .nil)) v32 ?_ (fun w h => h.fin (by rw [hg]; exact memc FindS.mem mem0)) (.inl rfl)
      rw [hg, z1]; rfl

theorem f22_spec {v : Value} {cs : List Cell} {last serial h : Int} (hn : cs.length ≤ 1000) (hI : ∀ c ∈ cs, InI c.gen) : Spec Try.prog 22 [stA v last serial, iV h] [] [sl cellK v cs] Value (fun f => .tuple [objA (getP cs h).1 f, iV (getP cs h).2].toArray) (fun _ => []) (fun f => [sl intK f (getP cs h).1.fields]) := by
  refine spec_of Try.func22 rfl Try.ntmps22 (by simp) fun ok w => ?_
  refine j_seq ?_
  refine j_region ?_
  refine jx (x_boxc rfl) (.no rfl) rfl ?_
  intro B2
  refine jx (x_alloc Try.zeroValue29 Cells.agg) (.no rfl) rfl ?_
  intro B4
  refine jv (v_assign rfl) (.no rfl) rfl ?_
  refine jo_nil ?_
  refine je_next ?_
  refine j_seq ?_
  refine j_region ?_
  refine jv (v_field (k' := 0) rfl Try.runUnderlying26 rfl Try.sizeOf24 (by decide) rfl) (.no rfl) rfl ?_
  refine jv (v_loadAc (vs := [_, _]) rfl Try.isAgg24 Try.sizeOf24 rfl rfl) (.no rfl) rfl ?_
  refine jv (v_move rfl) (.no rfl) rfl ?_
  refine jq (q_callP (f60_spec hn hI) Try.call60 (by rfl) rfl (memc FindS.mem mem0)) (.no rfl) rfl ?_
  intro f9
  refine jv (v_ext rfl rfl) (.no rfl) rfl ?_
  refine jv (v_ext rfl rfl) (.no rfl) rfl ?_
  refine jx (x_storec (cs' := [_, _, _, _, _, _]) rfl rfl rfl Try.sizeOf29 rfl rfl) (.no rfl) rfl ?_
  intro _
  refine jv (v_assign rfl) (.no rfl) rfl ?_
  refine jo_nil ?_
  refine je_next ?_
  refine j_ret ?_
  refine je_ret rfl rfl rfl rfl rfl (rvs := [.cell 4 29, .tmp 5]) rfl (.cons (.agg (vs := [_, _, _, _, _, _]) rfl FindB.mem Try.isAgg29 Try.sizeOf29 rfl rfl) (.cons (.tmp rfl) .nil)) f9 ?_ (fun w h => h.fin (memc FindS.mem mem0)) (.inl rfl)
  rfl

theorem f130_spec {v : Value} {cs : List Cell} (hn : cs.length ≤ 1000) : Spec Try.prog 130 [v] [] [sl cellK v cs] Value (fun v' => v') (fun v' => [.own cellK v' 81 cs]) (fun _ => []) := by
  refine spec_of Try.func130 rfl Try.ntmps130 (by simp) fun ok w => ?_
  refine j_seq ?_
  refine j_region ?_
  refine jv (v_assign rfl) (.no rfl) rfl ?_
  refine jo_nil ?_
  refine je_next ?_
  refine j_seq ?_
  refine j_seq ?_
  refine j_region ?_
  refine jv (v_move rfl) (.no rfl) rfl ?_
  refine jq (OpL.q (l_nil rfl FindR.row Try.runUnderlying22)) (.no rfl) rfl ?_
  intro b4
  refine jo_nil ?_
  refine je_next ?_
  refine j_if rfl (fun z1 => ?_) (fun z1 => ?_)
  · first | (with_reducible replace z1 := of_decide_eq_true z1) | skip
    have e := b4.2 z1
    subst e
    refine j_seq ?_
    refine j_region ?_
    refine jv (v_assign rfl) (.no rfl) rfl ?_
    refine jo_nil ?_
    refine je_next ?_
    refine j_ret ?_
    refine je_then (by simp) ?_
    refine je_ret rfl rfl rfl rfl rfl (rvs := [.tmp 2]) rfl (.cons (.tmp rfl) .nil) (.slice none 0 0) ?_ (fun w h => (h.own_nil cellK 81 (A := none)).sub mem0) (.inl rfl)
    rfl
  · first | (with_reducible replace z1 := of_decide_eq_false z1) | skip
    refine j_skip ?_
    refine je_next ?_
    refine j_seq ?_
    refine j_region ?_
    refine jx (x_lit0 cellK rfl Try.runUnderlying22 Try.sizeOf81) (.no rfl) rfl ?_
    intro v5
    refine jv (v_move rfl) (.no rfl) rfl ?_
    refine jx (x_append rfl rfl (fun _ => Hole.put _) FindR.row Try.runUnderlying22 Try.sizeOf81 Try.zeroValue81 rfl Try.typeInfo81 (by decide) (by decide) (by simp; omega)) (.no rfl) rfl ?_
    intro v7
    refine jv (v_assign rfl) (.no rfl) rfl ?_
    refine jo_nil ?_
    refine je_next ?_
    refine j_ret ?_
    refine je_ret rfl rfl rfl rfl rfl (rvs := [.tmp 2]) rfl (.cons (.tmp rfl) .nil) v7 ?_ (fun w h => h.sub mem0) (.inl rfl)
    rfl

theorem f90_spec {v : Value} {cs : List Cell} {i : Nat} {o : Obj} {f : Value} {B : Nat} (hi : i < cs.length) : Spec Try.prog 90 [eptr cellK.sz v i 0, ptr B 0] [.own cellK v 81 cs] [ro B (objV o f) 29, sl intK f o.fields] Unit (fun _ => .tuple #[]) (fun _ => [.own cellK v 81 (turnC cs i (setT o))]) (fun _ => []) := by
  refine spec_of Try.func90 rfl Try.ntmps90 (by simp) fun ok w => ?_
  refine j_region ?_
  refine jv (v_move rfl) (.no rfl) rfl ?_
  refine jv (v_loadAc (vs := [_, _, _, _, _, _]) rfl Try.isAgg29 Try.sizeOf29 rfl rfl) (.no rfl) rfl ?_
  refine jv (v_nilE rfl FindR.row (by omega)) (.no rfl) rfl ?_
  refine jv (v_efield (k' := 2) rfl FindR.row (by omega) Try.runUnderlying81 rfl Try.sizeOf29 (by decide) rfl) (.no rfl) rfl ?_
  refine jx (x_storeE (e' := setT o cs[i]) rfl rfl (List.getElem?_eq_getElem hi) (Hole.put _) Try.sizeOf29 rfl (by decide) (fun ok h c hp hr => ⟨_, by obtain ⟨_, rfl, _⟩ := hr; rfl, hp _ FindS.mem⟩)) (.no rfl) rfl ?_
  intro _
  refine jo_nil ?_
  refine je_ret rfl rfl rfl rfl rfl (rvs := []) rfl .nil () ?_ (fun w h => by rw [turnC_at hi]; exact h.sub mem0) (.inr rfl)
  rfl

theorem f104_spec {v : Value} {cs : List Cell} {i : Nat} {o : Obj} {f : Value} {B : Nat} (hi : i < cs.length) : Spec Try.prog 104 [eptr cellK.sz v i 0, ptr B 0] [.own cellK v 81 cs] [ro B (objV o f) 29, sl intK f o.fields] Unit (fun _ => .tuple #[]) (fun _ => [.own cellK v 81 (turnC cs i (makeT o))]) (fun _ => []) := by
  refine spec_of Try.func104 rfl Try.ntmps104 (by simp) fun ok w => ?_
  refine j_draw [5, 8] mixed ?_
  refine ja_take 0 rfl (by decide +kernel) (v_move rfl) (.no rfl) rfl ?_
  refine ja_take 3 rfl (by decide +kernel) (v_nilE rfl FindR.row (by omega)) (.no rfl) rfl ?_
  refine ja_take 4 rfl (by decide +kernel) (v_efield (k' := 0) rfl FindR.row (by omega) Try.runUnderlying81 rfl Try.sizeOf3 (by decide) rfl) (.no rfl) rfl ?_
  refine ja_three (i := 1) (j := 2) (k := 5) (by decide +kernel) ?_ ?_ ?_
  · skip
    refine jn_v rfl (v_move rfl) (.no rfl) rfl ?_
    refine ja_two (i := 2) (j := 5) (by decide +kernel) ?_ ?_
    · skip
      refine jn_v rfl (v_loadAc (vs := [_, _, _, _, _, _]) rfl Try.isAgg29 Try.sizeOf29 rfl rfl) (.no rfl) rfl ?_
      refine ja_one (i := 5) (by decide +kernel) (jn_x rfl (by simp) (x_storeE (e' := { cs[i] with state := 1 }) rfl rfl (List.getElem?_eq_getElem hi) (Hole.put _) Try.sizeOf3 rfl (by decide) (fun ok h c hp hr => by obtain ⟨f, rfl, hf⟩ := hr; exact ⟨f, rfl, hf⟩)) (.no rfl) rfl ?_)
      intro _
      refine ja_take 6 rfl (by decide +kernel) (v_nilE rfl FindR.row (by simpa using hi)) (.no rfl) rfl ?_
      refine ja_take 7 rfl (by decide +kernel) (v_efield (k' := 2) rfl FindR.row (by simpa using hi) Try.runUnderlying81 rfl Try.sizeOf29 (by decide) rfl) (.no rfl) rfl ?_
      refine ja_one (i := 8) (by decide +kernel) (jn_x rfl (by simp) (x_storeE (e' := makeT o cs[i]) rfl rfl (by rw [List.getElem?_set_self hi]) (Hole.put _) Try.sizeOf29 rfl (by decide) (fun ok h c hp hr => ⟨_, by obtain ⟨_, rfl, _⟩ := hr; rfl, hp _ FindS.mem⟩)) (.no rfl) rfl ?_)
      intro _
      refine ja_nil (by decide +kernel) ?_
      refine je_ret rfl rfl rfl rfl rfl (rvs := []) rfl .nil () ?_ (fun w h => by rw [turnC_at hi]; rw [List.set_set] at h; exact h.sub mem0) (.inr rfl)
      rfl
    · skip
      refine jn_x rfl (by simp) (x_storeE (e' := { cs[i] with state := 1 }) rfl rfl (List.getElem?_eq_getElem hi) (Hole.put _) Try.sizeOf3 rfl (by decide) (fun ok h c hp hr => by obtain ⟨f, rfl, hf⟩ := hr; exact ⟨f, rfl, hf⟩)) (.no rfl) rfl ?_
      intro _
      refine ja_take 2 rfl (by decide +kernel) (v_loadAc (vs := [_, _, _, _, _, _]) rfl Try.isAgg29 Try.sizeOf29 rfl rfl) (.no rfl) rfl ?_
      refine ja_take 6 rfl (by decide +kernel) (v_nilE rfl FindR.row (by simpa using hi)) (.no rfl) rfl ?_
      refine ja_take 7 rfl (by decide +kernel) (v_efield (k' := 2) rfl FindR.row (by simpa using hi) Try.runUnderlying81 rfl Try.sizeOf29 (by decide) rfl) (.no rfl) rfl ?_
      refine ja_one (i := 8) (by decide +kernel) (jn_x rfl (by simp) (x_storeE (e' := makeT o cs[i]) rfl rfl (by rw [List.getElem?_set_self hi]) (Hole.put _) Try.sizeOf29 rfl (by decide) (fun ok h c hp hr => ⟨_, by obtain ⟨_, rfl, _⟩ := hr; rfl, hp _ FindS.mem⟩)) (.no rfl) rfl ?_)
      intro _
      refine ja_nil (by decide +kernel) ?_
      refine je_ret rfl rfl rfl rfl rfl (rvs := []) rfl .nil () ?_ (fun w h => by rw [turnC_at hi]; rw [List.set_set] at h; exact h.sub mem0) (.inr rfl)
      rfl
  · skip
    refine jn_v rfl (v_loadAc (vs := [_, _, _, _, _, _]) rfl Try.isAgg29 Try.sizeOf29 rfl rfl) (.no rfl) rfl ?_
    refine ja_two (i := 1) (j := 5) (by decide +kernel) ?_ ?_
    · skip
      refine jn_v rfl (v_move rfl) (.no rfl) rfl ?_
      refine ja_one (i := 5) (by decide +kernel) (jn_x rfl (by simp) (x_storeE (e' := { cs[i] with state := 1 }) rfl rfl (List.getElem?_eq_getElem hi) (Hole.put _) Try.sizeOf3 rfl (by decide) (fun ok h c hp hr => by obtain ⟨f, rfl, hf⟩ := hr; exact ⟨f, rfl, hf⟩)) (.no rfl) rfl ?_)
      intro _
      refine ja_take 6 rfl (by decide +kernel) (v_nilE rfl FindR.row (by simpa using hi)) (.no rfl) rfl ?_
      refine ja_take 7 rfl (by decide +kernel) (v_efield (k' := 2) rfl FindR.row (by simpa using hi) Try.runUnderlying81 rfl Try.sizeOf29 (by decide) rfl) (.no rfl) rfl ?_
      refine ja_one (i := 8) (by decide +kernel) (jn_x rfl (by simp) (x_storeE (e' := makeT o cs[i]) rfl rfl (by rw [List.getElem?_set_self hi]) (Hole.put _) Try.sizeOf29 rfl (by decide) (fun ok h c hp hr => ⟨_, by obtain ⟨_, rfl, _⟩ := hr; rfl, hp _ FindS.mem⟩)) (.no rfl) rfl ?_)
      intro _
      refine ja_nil (by decide +kernel) ?_
      refine je_ret rfl rfl rfl rfl rfl (rvs := []) rfl .nil () ?_ (fun w h => by rw [turnC_at hi]; rw [List.set_set] at h; exact h.sub mem0) (.inr rfl)
      rfl
    · skip
      refine jn_x rfl (by simp) (x_storeE (e' := { cs[i] with state := 1 }) rfl rfl (List.getElem?_eq_getElem hi) (Hole.put _) Try.sizeOf3 rfl (by decide) (fun ok h c hp hr => by obtain ⟨f, rfl, hf⟩ := hr; exact ⟨f, rfl, hf⟩)) (.no rfl) rfl ?_
      intro _
      refine ja_take 1 rfl (by decide +kernel) (v_move rfl) (.no rfl) rfl ?_
      refine ja_take 6 rfl (by decide +kernel) (v_nilE rfl FindR.row (by simpa using hi)) (.no rfl) rfl ?_
      refine ja_take 7 rfl (by decide +kernel) (v_efield (k' := 2) rfl FindR.row (by simpa using hi) Try.runUnderlying81 rfl Try.sizeOf29 (by decide) rfl) (.no rfl) rfl ?_
      refine ja_one (i := 8) (by decide +kernel) (jn_x rfl (by simp) (x_storeE (e' := makeT o cs[i]) rfl rfl (by rw [List.getElem?_set_self hi]) (Hole.put _) Try.sizeOf29 rfl (by decide) (fun ok h c hp hr => ⟨_, by obtain ⟨_, rfl, _⟩ := hr; rfl, hp _ FindS.mem⟩)) (.no rfl) rfl ?_)
      intro _
      refine ja_nil (by decide +kernel) ?_
      refine je_ret rfl rfl rfl rfl rfl (rvs := []) rfl .nil () ?_ (fun w h => by rw [turnC_at hi]; rw [List.set_set] at h; exact h.sub mem0) (.inr rfl)
      rfl
  · skip
    refine jn_x rfl (by simp) (x_storeE (e' := { cs[i] with state := 1 }) rfl rfl (List.getElem?_eq_getElem hi) (Hole.put _) Try.sizeOf3 rfl (by decide) (fun ok h c hp hr => by obtain ⟨f, rfl, hf⟩ := hr; exact ⟨f, rfl, hf⟩)) (.no rfl) rfl ?_
    intro _
    refine ja_take 1 rfl (by decide +kernel) (v_move rfl) (.no rfl) rfl ?_
    refine ja_take 2 rfl (by decide +kernel) (v_loadAc (vs := [_, _, _, _, _, _]) rfl Try.isAgg29 Try.sizeOf29 rfl rfl) (.no rfl) rfl ?_
    refine ja_take 6 rfl (by decide +kernel) (v_nilE rfl FindR.row (by simpa using hi)) (.no rfl) rfl ?_
    refine ja_take 7 rfl (by decide +kernel) (v_efield (k' := 2) rfl FindR.row (by simpa using hi) Try.runUnderlying81 rfl Try.sizeOf29 (by decide) rfl) (.no rfl) rfl ?_
    refine ja_one (i := 8) (by decide +kernel) (jn_x rfl (by simp) (x_storeE (e' := makeT o cs[i]) rfl rfl (by rw [List.getElem?_set_self hi]) (Hole.put _) Try.sizeOf29 rfl (by decide) (fun ok h c hp hr => ⟨_, by obtain ⟨_, rfl, _⟩ := hr; rfl, hp _ FindS.mem⟩)) (.no rfl) rfl ?_)
    intro _
    refine ja_nil (by decide +kernel) ?_
    refine je_ret rfl rfl rfl rfl rfl (rvs := []) rfl .nil () ?_ (fun w h => by rw [turnC_at hi]; rw [List.set_set] at h; exact h.sub mem0) (.inr rfl)
    rfl

theorem f103_spec {v : Value} {cs : List Cell} {last i : Int} {fn : FuncId} {caps : List Value} {Γc : List PP} {T : Cell → Cell} (hc : ∀ args w, (callFunc fn args).run Try.prog w = .ok (.enter fn args) w) (hT : ∀ (v : Value) (i : Nat), i < cs.length → Spec Try.prog fn (eptr cellK.sz v i 0 :: caps) [.own cellK v 81 cs] Γc Unit (fun _ => .tuple #[]) (fun _ => [.own cellK v 81 (turnC cs i T)]) (fun _ => [])) (hn : cs.length ≤ 1000) (hi : 0 ≤ i) (hi2 : i < cs.length) : Spec Try.prog 103 [slabA v last, iV i, .func (.func fn) #[] caps.toArray] [] (sl cellK v cs :: Γc) Value (fun v' => slabA v' last) (fun _ => []) (fun v' => [sl cellK v' (turnC cs i.toNat T)]) := by
  refine spec_of Try.func103 rfl Try.ntmps103 (by simp) fun ok w => ?_
  refine j_seq ?_
  refine j_region ?_
  refine jx (x_boxc rfl) (.no rfl) rfl ?_
  intro B3
  refine jx (x_alloc Try.zeroValue24 Cells.agg) (.no rfl) rfl ?_
  intro B6
  refine jo_nil ?_
  refine je_next ?_
  refine j_seq ?_
  refine j_region ?_
  refine jv (v_field (k' := 0) rfl Try.runUnderlying24 rfl Try.sizeOf22 (by decide) rfl) (.no rfl) rfl ?_
  refine jv (v_loadc rfl Try.isAgg22 rfl) (.no rfl) rfl ?_
  refine jx (x_callP1 (f130_spec hn) Try.call130 (by rfl) rfl (memc FindS.mem mem0) .nil) (.no rfl) rfl ?_
  intro x9
  refine jv (v_field (k' := 0) rfl Try.runUnderlying24 rfl Try.sizeOf22 (by decide) rfl) (.no rfl) rfl ?_
  refine jx (x_storec (cs' := [_, _]) rfl rfl rfl Try.sizeOf22 rfl rfl) (.no rfl) rfl ?_
  intro _
  refine jo_nil ?_
  refine je_next ?_
  refine j_seq ?_
  refine j_region ?_
  refine jv (v_move rfl) (.no rfl) rfl ?_
  refine jv (v_field (k' := 0) rfl Try.runUnderlying24 rfl Try.sizeOf22 (by decide) rfl) (.no rfl) rfl ?_
  refine jv (v_loadc rfl Try.isAgg22 rfl) (.no rfl) rfl ?_
  refine jv (v_move rfl) (.no rfl) rfl ?_
  refine jv (v_index rfl rfl FindR.row Try.runUnderlying22 Try.sizeOf81 (by omega) (by omega)) (.no rfl) rfl ?_
  refine jx (x_callcP1 (hT x9 i.toNat (by omega)) hc (by rfl) rfl rfl rfl (fun p hp => List.mem_append_right _ (List.mem_cons_of_mem _ hp)) (.cons .head .nil)) (.no rfl) rfl ?_
  intro _
  refine jo_nil ?_
  refine je_next ?_
  refine j_seq ?_
  refine j_region ?_
  refine jv (v_loadAc (vs := [_, _]) rfl Try.isAgg24 Try.sizeOf24 rfl rfl) (.no rfl) rfl ?_
  refine jx (x_storec (cs' := [_, _]) rfl rfl rfl Try.sizeOf24 rfl rfl) (.no rfl) rfl ?_
  intro _
  refine jo_nil ?_
  refine je_next ?_
  refine j_ret ?_
  refine je_ret rfl rfl rfl rfl rfl (rvs := [.cell 6 24]) rfl (.cons (.agg (vs := [_, _]) rfl FindB.mem Try.isAgg24 Try.sizeOf24 rfl rfl) .nil) x9 ?_ (fun w h => (h.freeze0 .head).fin (memc FindS.mem mem0)) (.inl rfl)
  rfl

theorem f89_spec {v : Value} {cs : List Cell} {last h : Int} {fn : FuncId} {caps : List Value} {Γc : List PP} {T : Cell → Cell} (hc : ∀ args w, (callFunc fn args).run Try.prog w = .ok (.enter fn args) w) (hT : ∀ (v : Value) (i : Nat), i < cs.length → Spec Try.prog fn (eptr cellK.sz v i 0 :: caps) [.own cellK v 81 cs] Γc Unit (fun _ => .tuple #[]) (fun _ => [.own cellK v 81 (turnC cs i T)]) (fun _ => [])) (hn : cs.length ≤ 1000) (hI : ∀ c ∈ cs, InI c.gen) : Spec Try.prog 89 [slabA v last, iV h, .func (.func fn) #[] caps.toArray] [] (sl cellK v cs :: Γc) Value (fun v' => .tuple [slabA v' last, iV (findP cs h).2].toArray) (fun _ => []) (fun v' => [sl cellK v' (foundC cs h T)]) := by
  refine spec_of Try.func89 rfl Try.ntmps89 (by simp) fun ok w => ?_
  refine j_seq ?_
  refine j_region ?_
  refine jx (x_boxc rfl) (.no rfl) rfl ?_
  intro B3
  refine jx (x_alloc Try.zeroValue24 Cells.agg) (.no rfl) rfl ?_
  intro B6
  refine jv (v_assign rfl) (.no rfl) rfl ?_
  refine jo_nil ?_
  refine je_next ?_
  refine j_seq ?_
  refine j_region ?_
  refine jv (v_loadAc (vs := [_, _]) rfl Try.isAgg24 Try.sizeOf24 rfl rfl) (.no rfl) rfl ?_
  refine jv (v_move rfl) (.no rfl) rfl ?_
  refine jq (q_callP (f93_spec hn hI) Try.call93 (by rfl) rfl (memc FindS.mem mem0)) (.no rfl) rfl ?_
  intro x13
  refine jv (v_move rfl) (.no rfl) rfl ?_
  refine jv (v_ext rfl rfl) (.no rfl) rfl ?_
  refine jv (v_ext rfl rfl) (.no rfl) rfl ?_
  refine jv (v_assign rfl) (.no rfl) rfl ?_
  refine jv (v_assign rfl) (.no rfl) rfl ?_
  refine jo_nil ?_
  refine je_next ?_
  refine j_seq ?_
  refine j_seq ?_
  refine j_region ?_
  refine jv (v_move rfl) (.no rfl) rfl ?_
  refine jv (v_neq rfl rfl) (.no rfl) rfl ?_
  refine jo_nil ?_
  refine je_next ?_
  refine j_if rfl (fun z1 => ?_) (fun z1 => ?_)
  · first | (with_reducible replace z1 := of_decide_eq_true z1) | skip
    refine j_seq ?_
    refine j_region ?_
    refine jv (v_loadAc (vs := [_, _]) rfl Try.isAgg24 Try.sizeOf24 rfl rfl) (.no rfl) rfl ?_
    refine jv (v_move rfl) (.no rfl) rfl ?_
    refine jx (x_storec (cs' := [_, _]) rfl rfl rfl Try.sizeOf24 rfl rfl) (.no rfl) rfl ?_
    intro _
    refine jv (v_assign rfl) (.no rfl) rfl ?_
    refine jo_nil ?_
    refine je_next ?_
    refine j_ret ?_
    refine je_then (by simp) ?_
    refine je_ret rfl rfl rfl rfl rfl (rvs := [.cell 6 24, .tmp 7]) rfl (.cons (.agg (vs := [_, _]) rfl FindB.mem Try.isAgg24 Try.sizeOf24 rfl rfl) (.cons (.tmp rfl) .nil)) v ?_ (fun w h => h.fin (by unfold foundC; rw [if_neg z1]; exact memc FindS.mem mem0)) (.inl rfl)
    rfl
  · first | (with_reducible replace z1 := of_decide_eq_false z1) | skip
    have z1 : (findP cs h).2 = 0 := by simpa using z1
    have hb := findP_bound cs h z1
    refine j_skip ?_
    refine je_next ?_
    refine j_seq ?_
    refine j_region ?_
    refine jv (v_loadAc (vs := [_, _]) rfl Try.isAgg24 Try.sizeOf24 rfl rfl) (.no rfl) rfl ?_
    refine jv (v_move rfl) (.no rfl) rfl ?_
    refine jv (v_move rfl) (.no rfl) rfl ?_
    refine jq (q_callP (f103_spec hc hT hn hb.1 hb.2) Try.call103 (by rfl) rfl (memc FindS.mem fun p hp => List.mem_append_right _ (List.mem_cons_of_mem _ hp))) (.no rfl) rfl ?_
    intro u23
    refine jv (v_move rfl) (.no rfl) rfl ?_
    refine jx (x_storec (cs' := [_, _]) rfl rfl rfl Try.sizeOf24 rfl rfl) (.no rfl) rfl ?_
    intro _
    refine jv (v_assign rfl) (.no rfl) rfl ?_
    refine jo_nil ?_
    refine je_next ?_
    refine j_ret ?_
    refine je_ret rfl rfl rfl rfl rfl (rvs := [.cell 6 24, .tmp 7]) rfl (.cons (.agg (vs := [_, _]) rfl FindB.mem Try.isAgg24 Try.sizeOf24 rfl rfl) (.cons (.tmp rfl) .nil)) u23 ?_ (fun w h => h.fin (by unfold foundC; rw [if_pos z1]; exact memc FindS.mem mem0)) (.inl rfl)
    rfl

theorem f54_spec {v : Value} {cs : List Cell} {last h : Int} {o : Obj} {f : Value} (hn : cs.length ≤ 1000) (hI : ∀ c ∈ cs, InI c.gen) : Spec Try.prog 54 [slabA v last, iV h, objA o f] [] [sl cellK v cs, sl intK f o.fields] Value (fun v' => .tuple [slabA v' last, iV (findP cs h).2].toArray) (fun _ => []) (fun v' => [sl cellK v' (foundC cs h (setT o))]) := by
  refine spec_of Try.func54 rfl Try.ntmps54 (by simp) fun ok w => ?_
  refine j_seq ?_
  refine j_region ?_
  refine jx (x_boxc rfl) (.no rfl) rfl ?_
  intro B3
  refine jx (x_boxc rfl) (.no rfl) rfl ?_
  intro B5
  refine jx (x_alloc Try.zeroValue24 Cells.agg) (.no rfl) rfl ?_
  intro B6
  refine jv (v_assign rfl) (.no rfl) rfl ?_
  refine jo_nil ?_
  refine je_next ?_
  refine j_seq ?_
  refine j_to (fun _ _ h => h) (fun w h => h.freezeB0 (B := B5) (.tail .head)) ?_
  refine j_region ?_
  refine jv (v_loadAc (vs := [_, _]) rfl Try.isAgg24 Try.sizeOf24 rfl rfl) (.no rfl) rfl ?_
  refine jv (v_move rfl) (.no rfl) rfl ?_
  refine jv (v_func rfl) (.no rfl) rfl ?_
  refine jq (q_callP (f89_spec (Γc := [ro B5 (objV o f) 29, sl intK f o.fields]) Try.call90 (fun v i hi => f90_spec hi) hn hI) Try.call89 (by rfl) rfl (memc FindM.mem (memc FindM.mem (memc FindM.mem mem0)))) (.no rfl) rfl ?_
  intro u11
  refine jv (v_ext rfl rfl) (.no rfl) rfl ?_
  refine jv (v_ext rfl rfl) (.no rfl) rfl ?_
  refine jx (x_storec (cs' := [_, _]) rfl rfl rfl Try.sizeOf24 rfl rfl) (.no rfl) rfl ?_
  intro _
  refine jv (v_assign rfl) (.no rfl) rfl ?_
  refine jo_nil ?_
  refine je_next ?_
  refine j_ret ?_
  refine je_ret rfl rfl rfl rfl rfl (rvs := [.cell 6 24, .tmp 7]) rfl (.cons (.agg (vs := [_, _]) rfl FindB.mem Try.isAgg24 Try.sizeOf24 rfl rfl) (.cons (.tmp rfl) .nil)) u11 ?_ (fun w h => h.fin (memc FindS.mem mem0)) (.inl rfl)
  rfl

theorem f16_spec {v : Value} {cs : List Cell} {last serial h : Int} {o : Obj} {f : Value} (hn : cs.length ≤ 1000) (hI : ∀ c ∈ cs, InI c.gen) : Spec Try.prog 16 [stA v last serial, iV h, objA o f] [] [sl cellK v cs, sl intK f o.fields] Value (fun v' => .tuple [stA v' last serial, iV (findP cs h).2].toArray) (fun _ => []) (fun v' => [sl cellK v' (foundC cs h (setT o))]) := by
  refine spec_of Try.func16 rfl Try.ntmps16 (by simp) fun ok w => ?_
  refine j_seq ?_
  refine j_region ?_
  refine jx (x_boxc rfl) (.no rfl) rfl ?_
  intro B3
  refine jx (x_boxc rfl) (.no rfl) rfl ?_
  intro B5
  refine jx (x_alloc Try.zeroValue26 Cells.agg) (.no rfl) rfl ?_
  intro B6
  refine jv (v_assign rfl) (.no rfl) rfl ?_
  refine jo_nil ?_
  refine je_next ?_
  refine j_seq ?_
  refine j_region ?_
  refine jv (v_field (k' := 0) rfl Try.runUnderlying26 rfl Try.sizeOf24 (by decide) rfl) (.no rfl) rfl ?_
  refine jv (v_loadAc (vs := [_, _]) rfl Try.isAgg24 Try.sizeOf24 rfl rfl) (.no rfl) rfl ?_
  refine jv (v_move rfl) (.no rfl) rfl ?_
  refine jv (v_loadAc (vs := [_, _, _, _, _, _]) rfl Try.isAgg29 Try.sizeOf29 rfl rfl) (.no rfl) rfl ?_
  refine jq (q_callP (f54_spec hn hI) Try.call54 (by rfl) rfl (memc FindS.mem (memc FindS.mem mem0))) (.no rfl) rfl ?_
  intro u15
  refine jv (v_move rfl) (.no rfl) rfl ?_
  refine jv (v_ext rfl rfl) (.no rfl) rfl ?_
  refine jv (v_ext rfl rfl) (.no rfl) rfl ?_
  refine jx (x_alloc Try.zeroValue24 Cells.agg) (.no rfl) rfl ?_
  intro B8
  refine jx (x_storec (cs' := [_, _]) rfl rfl rfl Try.sizeOf24 rfl rfl) (.no rfl) rfl ?_
  intro _
  refine jv (v_assign rfl) (.no rfl) rfl ?_
  refine jo_nil ?_
  refine je_next ?_
  refine j_seq ?_
  refine j_region ?_
  refine jv (v_loadAc (vs := [_, _]) rfl Try.isAgg24 Try.sizeOf24 rfl rfl) (.no rfl) rfl ?_
  refine jv (v_field (k' := 0) rfl Try.runUnderlying26 rfl Try.sizeOf24 (by decide) rfl) (.no rfl) rfl ?_
  refine jx (x_storec (cs' := [_, _, _]) rfl rfl rfl Try.sizeOf24 rfl rfl) (.no rfl) rfl ?_
  intro _
  refine jo_nil ?_
  refine je_next ?_
  refine j_seq ?_
  refine j_region ?_
  refine jv (v_loadAc (vs := [_, _, _]) rfl Try.isAgg26 Try.sizeOf26 rfl rfl) (.no rfl) rfl ?_
  refine jv (v_move rfl) (.no rfl) rfl ?_
  refine jx (x_storec (cs' := [_, _, _]) rfl rfl rfl Try.sizeOf26 rfl rfl) (.no rfl) rfl ?_
  intro _
  refine jv (v_assign rfl) (.no rfl) rfl ?_
  refine jo_nil ?_
  refine je_next ?_
  refine j_ret ?_
  refine je_ret rfl rfl rfl rfl rfl (rvs := [.cell 6 26, .tmp 7]) rfl (.cons (.agg (vs := [_, _, _]) rfl FindB.mem Try.isAgg26 Try.sizeOf26 rfl rfl) (.cons (.tmp rfl) .nil)) u15 ?_ (fun w h => h.fin (memc FindS.mem mem0)) (.inl rfl)
  rfl

end Go.Proofs.Ytjgacbopccfecaa
