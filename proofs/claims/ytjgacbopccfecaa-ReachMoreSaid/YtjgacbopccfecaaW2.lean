/-
  Walks: function 117, function 69, function 87, function 88, function 30, function 51.
-/
import Derived.Test.YtjgacbopccfecaaL
set_option maxRecDepth 100000
set_option linter.unusedVariables false
set_option linter.unusedSimpArgs false
namespace Go.Proofs.Ytjgacbopccfecaa

theorem f117_spec {v : Value} {xs : List Int} {k : Int} : Spec Try.prog 117 [v, iV k] [] [sl intK v xs] Unit (fun _ => .bool (hasI xs k)) (fun _ => []) (fun _ => []) := by
  refine spec_of Try.func117 rfl Try.ntmps117 (by simp) fun ok w => ?_
  refine j_seq ?_
  refine j_region ?_
  refine jv (v_assign rfl) (.no rfl) rfl ?_
  refine jo_nil ?_
  refine je_next ?_
  refine j_seq ?_
  refine j_region ?_
  refine jv (v_move rfl) (.no rfl) rfl ?_
  refine jv (v_geq rfl rfl) (.no rfl) rfl ?_
  refine jv (v_move rfl) (.no rfl) rfl ?_
  refine j_split 7 rfl (fun h1 => ?_) (fun h1 => ?_)
  · first | (with_reducible replace h1 := of_decide_eq_true h1) | skip
    refine jv (v_move rfl) (.yes rfl rfl rfl) rfl ?_
    refine jv (v_move rfl) (.yes rfl rfl rfl) rfl ?_
    refine jv (v_len rfl FindR.row Try.runUnderlying27) (.yes rfl rfl rfl) rfl ?_
    refine jv (v_lss rfl rfl) (.yes rfl rfl rfl) rfl ?_
    refine jv (v_pickt rfl rfl) (.no rfl) rfl ?_
    refine jv (v_assign rfl) (.no rfl) rfl ?_
    refine jo_nil ?_
    refine je_next ?_
    refine j_ret ?_
    refine je_ret rfl rfl rfl rfl rfl (rvs := [.tmp 4]) rfl (.cons (.tmp rfl) .nil) () ?_ (fun w h => h.fin mem0) (.inl rfl)
    simp [resVal, hasI]; omega
  · first | (with_reducible replace h1 := of_decide_eq_false h1) | skip
    refine j_off rfl rfl rfl (by decide) rfl ?_
    refine j_off rfl rfl rfl (by decide) rfl ?_
    refine j_off rfl rfl rfl (by decide) rfl ?_
    refine j_off rfl rfl rfl (by decide) rfl ?_
    refine jv (v_pickf rfl rfl) (.no rfl) rfl ?_
    refine jv (v_assign rfl) (.no rfl) rfl ?_
    refine jo_nil ?_
    refine je_next ?_
    refine j_ret ?_
    refine je_ret rfl rfl rfl rfl rfl (rvs := [.tmp 4]) rfl (.cons (.tmp rfl) .nil) () ?_ (fun w h => h.fin mem0) (.inl rfl)
    simp [resVal, hasI]; omega

theorem f69_spec {n : Int} : Spec Try.prog 69 [iV n] [] [] Value (fun v => .tuple [v, iV (if 0 ≤ n ∧ n ≤ 4 then 0 else 1)].toArray) (fun _ => []) (fun v => [sl intK v (newI n)]) := by
  refine spec_of Try.func69 rfl Try.ntmps69 (by simp) fun ok w => ?_
  refine j_seq ?_
  refine j_region ?_
  refine jv (v_assign rfl) (.no rfl) rfl ?_
  refine jv (v_assign rfl) (.no rfl) rfl ?_
  refine jo_nil ?_
  refine je_next ?_
  refine j_seq ?_
  refine j_seq ?_
  refine j_region ?_
  refine jv (v_move rfl) (.no rfl) rfl ?_
  refine jv (v_lss rfl rfl) (.no rfl) rfl ?_
  refine jv (v_move rfl) (.no rfl) rfl ?_
  refine j_split 6 rfl (fun g1 => ?_) (fun g1 => ?_)
  · first | (with_reducible replace g1 := of_decide_eq_true g1) | skip
    refine j_off rfl rfl rfl (by decide) rfl ?_
    refine j_off rfl rfl rfl (by decide) rfl ?_
    refine jv (v_pickt rfl rfl) (.no rfl) rfl ?_
    refine jo_nil ?_
    refine je_next ?_
    refine j_ift rfl ?_
    refine j_seq ?_
    refine j_region ?_
    refine jv (v_assign rfl) (.no rfl) rfl ?_
    refine jv (v_assign rfl) (.no rfl) rfl ?_
    refine jo_nil ?_
    refine je_next ?_
    refine j_ret ?_
    refine je_then (by simp) ?_
    refine je_ret rfl rfl rfl rfl rfl (rvs := [.tmp 2, .tmp 3]) rfl (.cons (.tmp rfl) (.cons (.tmp rfl) .nil)) (.slice none 0 0) ?_ (fun w h => (h.nilS (A := none) intK).fin (by rw [show newI n = [] from if_neg (by omega)]; simp)) (.inl rfl)
    rw [show (if 0 ≤ n ∧ n ≤ 4 then (0 : Int) else 1) = 1 by simp; omega]; rfl
  · first | (with_reducible replace g1 := of_decide_eq_false g1) | skip
    refine jv (v_move rfl) (.yes rfl rfl rfl) rfl ?_
    refine jv (v_gtr rfl rfl) (.yes rfl rfl rfl) rfl ?_
    refine jv (v_pickf rfl rfl) (.no rfl) rfl ?_
    refine jo_nil ?_
    refine je_next ?_
    refine j_if rfl (fun g2 => ?_) (fun g2 => ?_)
    · first | (with_reducible replace g2 := of_decide_eq_true g2) | skip
      refine j_seq ?_
      refine j_region ?_
      refine jv (v_assign rfl) (.no rfl) rfl ?_
      refine jv (v_assign rfl) (.no rfl) rfl ?_
      refine jo_nil ?_
      refine je_next ?_
      refine j_ret ?_
      refine je_then (by simp) ?_
      refine je_ret rfl rfl rfl rfl rfl (rvs := [.tmp 2, .tmp 3]) rfl (.cons (.tmp rfl) (.cons (.tmp rfl) .nil)) (.slice none 0 0) ?_ (fun w h => (h.nilS (A := none) intK).fin (by rw [show newI n = [] from if_neg (by omega)]; simp)) (.inl rfl)
      rw [show (if 0 ≤ n ∧ n ≤ 4 then (0 : Int) else 1) = 1 by simp; omega]; rfl
    · first | (with_reducible replace g2 := of_decide_eq_false g2) | skip
      refine j_skip ?_
      refine je_next ?_
      refine j_seq ?_
      refine j_region ?_
      refine jv (v_move rfl) (.no rfl) rfl ?_
      refine jx (x_make (K := intK) 0 rfl rfl (by omega) (by omega) Try.runUnderlying27 Try.sizeOf3 Try.zeroValue3 (Cells.one rfl) Try.typeInfo3 (by decide) (by decide) (fun _ _ => rfl)) (.no rfl) rfl ?_
      intro v11
      refine jv (v_assign rfl) (.no rfl) rfl ?_
      refine jv (v_assign rfl) (.no rfl) rfl ?_
      refine jo_nil ?_
      refine je_next ?_
      refine j_ret ?_
      refine je_ret rfl rfl rfl rfl rfl (rvs := [.tmp 2, .tmp 3]) rfl (.cons (.tmp rfl) (.cons (.tmp rfl) .nil)) v11 ?_ (fun w h => (h.freeze0 .head).fin (by simp_all [newI])) (.inl rfl)
      rw [show (if 0 ≤ n ∧ n ≤ 4 then (0 : Int) else 1) = 0 by simp; omega]; rfl

theorem f87_spec {v : Value} {xs : List Int} {i k : Int} (hn : xs.length ≤ 1000000) : Spec Try.prog 87 [v, iV i, iV k] [] [sl intK v xs] Value (fun v' => .tuple [v', iV (if hasI xs i then 0 else 5)].toArray) (fun _ => []) (fun v' => [sl intK v' (withI xs i k)]) := by
  refine spec_of Try.func87 rfl Try.ntmps87 (by simp) fun ok w => ?_
  refine j_seq ?_
  refine j_region ?_
  refine jv (v_assign rfl) (.no rfl) rfl ?_
  refine jv (v_assign rfl) (.no rfl) rfl ?_
  refine jo_nil ?_
  refine je_next ?_
  refine j_seq ?_
  refine j_seq ?_
  refine j_region ?_
  refine jv (v_move rfl) (.no rfl) rfl ?_
  refine jv (v_move rfl) (.no rfl) rfl ?_
  refine jq (q_callP (f117_spec) Try.call117 (by rfl) rfl (memc FindS.mem mem0)) (.no rfl) rfl ?_
  intro x11
  refine jv (v_not rfl) (.no rfl) rfl ?_
  refine jo_nil ?_
  refine je_next ?_
  refine j_if rfl (fun h1 => ?_) (fun h1 => ?_)
  · first | (with_reducible replace h1 := of_decide_eq_true h1) | skip
    refine j_seq ?_
    refine j_region ?_
    refine jv (v_move rfl) (.no rfl) rfl ?_
    refine jv (v_assign rfl) (.no rfl) rfl ?_
    refine jv (v_assign rfl) (.no rfl) rfl ?_
    refine jo_nil ?_
    refine je_next ?_
    refine j_ret ?_
    refine je_then (by simp) ?_
    refine je_ret rfl rfl rfl rfl rfl (rvs := [.tmp 6, .tmp 7]) rfl (.cons (.tmp rfl) (.cons (.tmp rfl) .nil)) v ?_ (fun w h => h.fin (by simp_all [withI])) (.inl rfl)
    simp_all [resVal]
  · first | (with_reducible replace h1 := of_decide_eq_false h1) | skip
    have hi : hasI xs i = true := by simpa using h1
    have hi' := hi
    simp only [hasI, decide_eq_true_eq] at hi'
    refine j_skip ?_
    refine je_next ?_
    refine j_seq ?_
    refine j_region ?_
    refine jv (v_move rfl) (.no rfl) rfl ?_
    refine jv (v_len rfl FindR.row Try.runUnderlying27) (.no rfl) rfl ?_
    refine jx (x_make (K := intK) 0 rfl rfl (by omega) (by omega) Try.runUnderlying27 Try.sizeOf3 Try.zeroValue3 (Cells.one rfl) Try.typeInfo3 (by decide) (by decide) (fun _ _ => rfl)) (.no rfl) rfl ?_
    intro v16
    refine jv (v_assign rfl) (.no rfl) rfl ?_
    refine jo_nil ?_
    refine je_next ?_
    refine j_seq ?_
    refine j_region ?_
    refine jv (v_move rfl) (.no rfl) rfl ?_
    refine jv (v_move rfl) (.no rfl) rfl ?_
    refine jx (x_copy rfl rfl (Hole.put _) FindR.row (by simp) Try.runUnderlying27 Try.sizeOf3) (.no rfl) rfl ?_
    intro _
    refine jo_nil ?_
    refine je_next ?_
    refine j_seq ?_
    refine j_region ?_
    refine jv (v_move rfl) (.no rfl) rfl ?_
    refine jv (v_move rfl) (.no rfl) rfl ?_
    refine jv (v_move rfl) (.no rfl) rfl ?_
    refine jv (v_index rfl rfl FindR.row Try.runUnderlying27 Try.sizeOf3 (by omega) (by omega)) (.no rfl) rfl ?_
    refine jx (x_storeE (e' := k) rfl rfl (List.getElem?_eq_getElem (by omega)) (Hole.put _) Try.sizeOf3 rfl (by decide) (fun _ _ c _ h => by rw [show c = _ from h]; rfl)) (.no rfl) rfl ?_
    intro _
    refine jo_nil ?_
    refine je_next ?_
    refine j_seq ?_
    refine j_region ?_
    refine jv (v_move rfl) (.no rfl) rfl ?_
    refine jv (v_assign rfl) (.no rfl) rfl ?_
    refine jv (v_assign rfl) (.no rfl) rfl ?_
    refine jo_nil ?_
    refine je_next ?_
    refine j_ret ?_
    refine je_ret rfl rfl rfl rfl rfl (rvs := [.tmp 6, .tmp 7]) rfl (.cons (.tmp rfl) (.cons (.tmp rfl) .nil)) v16 ?_ (fun w h => (h.freeze0 .head).fin (by simp [withI, hi])) (.inl rfl)
    simp_all [resVal]

theorem f88_spec {v : Value} {xs : List Int} {i : Int} : Spec Try.prog 88 [v, iV i] [] [sl intK v xs] Unit (fun _ => .tuple [iV (atI xs i), iV (if hasI xs i then 0 else 5)].toArray) (fun _ => []) (fun _ => []) := by
  refine spec_of Try.func88 rfl Try.ntmps88 (by simp) fun ok w => ?_
  refine j_seq ?_
  refine j_region ?_
  refine jv (v_assign rfl) (.no rfl) rfl ?_
  refine jv (v_assign rfl) (.no rfl) rfl ?_
  refine jo_nil ?_
  refine je_next ?_
  refine j_seq ?_
  refine j_seq ?_
  refine j_region ?_
  refine jv (v_move rfl) (.no rfl) rfl ?_
  refine jv (v_move rfl) (.no rfl) rfl ?_
  refine jq (q_callP (f117_spec) Try.call117 (by rfl) rfl (memc FindS.mem mem0)) (.no rfl) rfl ?_
  intro x8
  refine jv (v_not rfl) (.no rfl) rfl ?_
  refine jo_nil ?_
  refine je_next ?_
  refine j_if rfl (fun h1 => ?_) (fun h1 => ?_)
  · first | (with_reducible replace h1 := of_decide_eq_true h1) | skip
    refine j_seq ?_
    refine j_region ?_
    refine jv (v_move rfl) (.no rfl) rfl ?_
    refine jv (v_assign rfl) (.no rfl) rfl ?_
    refine jv (v_assign rfl) (.no rfl) rfl ?_
    refine jo_nil ?_
    refine je_next ?_
    refine j_ret ?_
    refine je_then (by simp) ?_
    refine je_ret rfl rfl rfl rfl rfl (rvs := [.tmp 4, .tmp 5]) rfl (.cons (.tmp rfl) (.cons (.tmp rfl) .nil)) () ?_ (fun w h => h.fin mem0) (.inl rfl)
    first | (simp_all [resVal, atI]; done) | (simp [resVal, atI, hi]; rw [List.getElem?_eq_getElem (by omega)]; rfl)
  · first | (with_reducible replace h1 := of_decide_eq_false h1) | skip
    have hi : hasI xs i = true := by simpa using h1
    have hi' := hi
    simp only [hasI, decide_eq_true_eq] at hi'
    refine j_skip ?_
    refine je_next ?_
    refine j_seq ?_
    refine j_region ?_
    refine jv (v_move rfl) (.no rfl) rfl ?_
    refine jv (v_move rfl) (.no rfl) rfl ?_
    refine jv (v_index rfl rfl FindR.row Try.runUnderlying27 Try.sizeOf3 (by omega) (by omega)) (.no rfl) rfl ?_
    refine jv (v_eload rfl FindR.row (List.getElem?_eq_getElem (by omega)) (by decide) Try.isAgg3 (fun _ _ _ h => int_at h)) (.no rfl) rfl ?_
    refine jv (v_move rfl) (.no rfl) rfl ?_
    refine jv (v_assign rfl) (.no rfl) rfl ?_
    refine jv (v_assign rfl) (.no rfl) rfl ?_
    refine jo_nil ?_
    refine je_next ?_
    refine j_ret ?_
    refine je_ret rfl rfl rfl rfl rfl (rvs := [.tmp 4, .tmp 5]) rfl (.cons (.tmp rfl) (.cons (.tmp rfl) .nil)) () ?_ (fun w h => h.fin mem0) (.inl rfl)
    first | (simp_all [resVal, atI]; done) | (simp [resVal, atI, hi]; rw [List.getElem?_eq_getElem (by omega)]; rfl)

theorem f30_spec {va vb : Value} {xs ys : List Int} : Spec Try.prog 30 [va, vb] [] [sl intK va xs, sl intK vb ys] Unit (fun _ => .bool (decide (xs = ys))) (fun _ => []) (fun _ => []) := by
  refine spec_of Try.func30 rfl Try.ntmps30 (by simp) fun ok w => ?_
  refine j_len va fun hlx => ?_
  refine j_seq ?_
  refine j_region ?_
  refine jv (v_assign rfl) (.no rfl) rfl ?_
  refine jo_nil ?_
  refine je_next ?_
  refine j_seq ?_
  refine j_seq ?_
  refine j_region ?_
  refine jv (v_move rfl) (.no rfl) rfl ?_
  refine jv (v_len rfl FindR.row Try.runUnderlying27) (.no rfl) rfl ?_
  refine jv (v_move rfl) (.no rfl) rfl ?_
  refine jv (v_len rfl FindR.row Try.runUnderlying27) (.no rfl) rfl ?_
  refine jv (v_neq rfl rfl) (.no rfl) rfl ?_
  refine jo_nil ?_
  refine je_next ?_
  refine j_if rfl (fun hl => ?_) (fun hl => ?_)
  · first | (with_reducible replace hl := of_decide_eq_true hl) | skip
    refine j_seq ?_
    refine j_region ?_
    refine jv (v_assign rfl) (.no rfl) rfl ?_
    refine jo_nil ?_
    refine je_next ?_
    refine j_ret ?_
    refine je_then (by simp) ?_
    refine je_ret rfl rfl rfl rfl rfl (rvs := [.tmp 4]) rfl (.cons (.tmp rfl) .nil) () ?_ (fun w h => h.fin mem0) (.inl rfl)
    first | exact congrArg Value.bool (decide_eq_false (by intro e; subst e; first | omega | exact hd rfl)).symm | exact congrArg Value.bool (decide_eq_true (by have e := hk2; rw [List.take_of_length_le (by omega), List.take_of_length_le (by omega)] at e; exact e)).symm
  · first | (with_reducible replace hl := of_decide_eq_false hl) | skip
    refine j_skip ?_
    refine je_next ?_
    refine j_seq ?_
    refine j_seq ?_
    refine j_region ?_
    refine jv (v_assign rfl) (.no rfl) rfl ?_
    refine jo_nil ?_
    refine je_next ?_
    refine j_block ?_
    refine j_loopS (G := Nat) [(0, _), (1, _)] (fun k t => (5, iV ((k : Nat) : Int)) :: t) (fun k t => t) (fun k => k ≤ xs.length ∧ xs.take k = ys.take k) (fun k => xs.length - k) 0 (by simp) (lsub rfl (lsub rfl (lsub rfl lsub0))) rfl (fun k ⟨hk, hk2⟩ => ?_)   -- dead: [4]
    refine j_seq ?_
    refine j_seq ?_
    refine j_region ?_
    refine jv (v_move rfl) (.no rfl) rfl ?_
    refine jv (v_move rfl) (.no rfl) rfl ?_
    refine jv (v_len rfl FindR.row Try.runUnderlying27) (.no rfl) rfl ?_
    refine jv (v_lss rfl rfl) (.no rfl) rfl ?_
    refine jo_nil ?_
    refine je_next ?_
    refine j_if rfl (fun hc => ?_) (fun hc => ?_)
    · first | (with_reducible replace hc := of_decide_eq_true hc) | skip
      refine j_skip ?_
      refine je_next ?_
      refine j_seq ?_
      refine j_block ?_
      refine j_seq ?_
      refine j_draw [] mixed ?_
      refine ja_take 0 rfl (by decide +kernel) (v_move rfl) (.no rfl) rfl ?_
      refine ja_take 1 rfl (by decide +kernel) (v_move rfl) (.no rfl) rfl ?_
      refine ja_take 2 rfl (by decide +kernel) (v_index rfl rfl FindR.row Try.runUnderlying27 Try.sizeOf3 (by omega) (by omega)) (.no rfl) rfl ?_
      refine ja_take 3 rfl (by decide +kernel) (v_eload rfl FindR.row (List.getElem?_eq_getElem (by omega)) (by decide) Try.isAgg3 (fun _ _ _ h => int_at h)) (.no rfl) rfl ?_
      refine ja_take 4 rfl (by decide +kernel) (v_move rfl) (.no rfl) rfl ?_
      refine ja_take 5 rfl (by decide +kernel) (v_move rfl) (.no rfl) rfl ?_
      refine ja_take 6 rfl (by decide +kernel) (v_index rfl rfl FindR.row Try.runUnderlying27 Try.sizeOf3 (by omega) (by omega)) (.no rfl) rfl ?_
      refine ja_take 7 rfl (by decide +kernel) (v_eload rfl FindR.row (List.getElem?_eq_getElem (by omega)) (by decide) Try.isAgg3 (fun _ _ _ h => int_at h)) (.no rfl) rfl ?_
      refine ja_take 8 rfl (by decide +kernel) (v_neq rfl rfl) (.no rfl) rfl ?_
      refine ja_nil (by decide +kernel) ?_
      refine je_next ?_
      refine j_if rfl (fun hd => ?_) (fun hd => ?_)
      · first | (with_reducible replace hd := of_decide_eq_true hd) | skip
        refine j_seq ?_
        refine j_region ?_
        refine jv (v_assign rfl) (.no rfl) rfl ?_
        refine jo_nil ?_
        refine je_next ?_
        refine j_ret ?_
        refine je_blockr ?_
        refine je_then (by simp) ?_
        refine je_then (by simp) ?_
        refine je_blockr ?_
        refine je_then (by simp) ?_
        refine je_ret rfl rfl rfl rfl rfl (rvs := [.tmp 4]) rfl (.cons (.tmp rfl) .nil) () ?_ (fun w h => h.fin mem0) (.inl rfl)
        first | exact congrArg Value.bool (decide_eq_false (by intro e; subst e; first | omega | exact hd rfl)).symm | exact congrArg Value.bool (decide_eq_true (by have e := hk2; rw [List.take_of_length_le (by omega), List.take_of_length_le (by omega)] at e; exact e)).symm
      · first | (with_reducible replace hd := of_decide_eq_false hd) | skip
        refine j_skip ?_
        refine je_block ?_
        refine je_next ?_
        refine j_region ?_
        refine jv (v_move rfl) (.no rfl) rfl ?_
        refine jv (v_add rfl rfl (by omega) (by omega)) (.no rfl) rfl ?_
        refine jv (v_assign rfl) (.no rfl) rfl ?_
        refine jo_nil ?_
        refine je_round (k + 1) (by refine ⟨by omega, ?_⟩; rw [List.take_succ_eq_append_getElem (by omega), List.take_succ_eq_append_getElem (by omega), hk2]; exact congrArg (fun z => ys.take k ++ [z]) (by simpa using hd)) (by first | omega | (dsimp only; omega)) (lsub rfl (lsub rfl (lsub rfl lsub0))) (fun _ h => (h).sub fun p hp => hp)
    · first | (with_reducible replace hc := of_decide_eq_false hc) | skip
      refine j_exit ?_
      refine je_then (by simp) ?_
      refine je_then (by simp) ?_
      refine je_hit ?_
      refine je_next ?_
      refine j_seq ?_
      refine j_region ?_
      refine jv (v_assign rfl) (.no rfl) rfl ?_
      refine jo_nil ?_
      refine je_next ?_
      refine j_ret ?_
      refine je_ret rfl rfl rfl rfl rfl (rvs := [.tmp 4]) rfl (.cons (.tmp rfl) .nil) () ?_ (fun w h => h.fin mem0) (.inl rfl)
      first | exact congrArg Value.bool (decide_eq_false (by intro e; subst e; first | omega | exact hd rfl)).symm | exact congrArg Value.bool (decide_eq_true (by have e := hk2; rw [List.take_of_length_le (by omega), List.take_of_length_le (by omega)] at e; exact e)).symm

theorem f51_spec {v : Value} {xs : List Int} {c : Int} : Spec Try.prog 51 [v, iV c] [] [sl intK v xs] Unit (fun _ => iV (times xs c)) (fun _ => []) (fun _ => []) := by
  refine spec_of Try.func51 rfl Try.ntmps51 (by simp) fun ok w => ?_
  refine j_len v fun hlx => ?_
  refine j_seq ?_
  refine j_region ?_
  refine jv (v_assign rfl) (.no rfl) rfl ?_
  refine jo_nil ?_
  refine je_next ?_
  refine j_seq ?_
  refine j_region ?_
  refine jv (v_assign rfl) (.no rfl) rfl ?_
  refine jo_nil ?_
  refine je_next ?_
  refine j_seq ?_
  refine j_seq ?_
  refine j_region ?_
  refine jv (v_assign rfl) (.no rfl) rfl ?_
  refine jo_nil ?_
  refine je_next ?_
  refine j_block ?_
  refine j_loopS (G := Nat × Int) [(0, _), (1, _), (4, _)] (fun k t => (5, iV k.2) :: (6, iV ((k.1 : Nat) : Int)) :: t) (fun k t => t) (fun k => k.1 ≤ xs.length ∧ k.2 = times (xs.take k.1) c) (fun k => xs.length - k.1) (0, 0) (by simp [times]) (lsub rfl (lsub rfl (lsub rfl (lsub rfl (lsub rfl lsub0))))) rfl (fun ⟨k, t⟩ ⟨hk, ht⟩ => ?_)
  simp only at hk ht
  have hb := times_lo (xs.take k) c
  rw [← ht, List.length_take] at hb
  refine j_seq ?_
  refine j_seq ?_
  refine j_region ?_
  refine jv (v_move rfl) (.no rfl) rfl ?_
  refine jv (v_move rfl) (.no rfl) rfl ?_
  refine jv (v_len rfl FindR.row Try.runUnderlying27) (.no rfl) rfl ?_
  refine jv (v_lss rfl rfl) (.no rfl) rfl ?_
  refine jo_nil ?_
  refine je_next ?_
  refine j_if rfl (fun h1 => ?_) (fun h1 => ?_)
  · first | (with_reducible replace h1 := of_decide_eq_true h1) | skip
    refine j_skip ?_
    refine je_next ?_
    refine j_seq ?_
    refine j_block ?_
    refine j_seq ?_
    refine j_region ?_
    refine jv (v_move rfl) (.no rfl) rfl ?_
    refine jv (v_move rfl) (.no rfl) rfl ?_
    refine jv (v_index rfl rfl FindR.row Try.runUnderlying27 Try.sizeOf3 (by omega) (by omega)) (.no rfl) rfl ?_
    refine jv (v_eload rfl FindR.row (List.getElem?_eq_getElem (by omega)) (by decide) Try.isAgg3 (fun _ _ _ h => int_at h)) (.no rfl) rfl ?_
    refine jv (v_move rfl) (.no rfl) rfl ?_
    refine jv (v_eql rfl rfl) (.no rfl) rfl ?_
    refine jv (v_move rfl) (.no rfl) rfl ?_
    refine j_split 19 rfl (fun h2 => ?_) (fun h2 => ?_)
    · first | (with_reducible replace h2 := of_decide_eq_true h2) | skip
      refine jv (v_move rfl) (.yes rfl rfl rfl) rfl ?_
      refine jv (v_neq rfl rfl) (.yes rfl rfl rfl) rfl ?_
      refine jv (v_pickt rfl rfl) (.no rfl) rfl ?_
      refine jo_nil ?_
      refine je_next ?_
      refine j_if rfl (fun h3 => ?_) (fun h3 => ?_)
      · first | (with_reducible replace h3 := of_decide_eq_true h3) | skip
        refine j_region ?_
        refine jv (v_move rfl) (.no rfl) rfl ?_
        refine jv (v_add rfl rfl (by omega) (by omega)) (.no rfl) rfl ?_
        refine jv (v_assign rfl) (.no rfl) rfl ?_
        refine jo_nil ?_
        refine je_block ?_
        refine je_next ?_
        refine j_region ?_
        refine jv (v_move rfl) (.no rfl) rfl ?_
        refine jv (v_add rfl rfl (by omega) (by omega)) (.no rfl) rfl ?_
        refine jv (v_assign rfl) (.no rfl) rfl ?_
        refine jo_nil ?_
        refine je_round (k + 1, _) (by simp only; refine ⟨by omega, ?_⟩; rw [times_succ (by omega), ← ht]; simp_all) (by first | omega | (dsimp only; omega)) (lsub rfl (lsub rfl (lsub rfl (lsub rfl (lsub rfl lsub0))))) (fun _ h => (h).sub fun p hp => hp)
      · first | (with_reducible replace h3 := of_decide_eq_false h3) | skip
        refine j_skip ?_
        refine je_block ?_
        refine je_next ?_
        refine j_region ?_
        refine jv (v_move rfl) (.no rfl) rfl ?_
        refine jv (v_add rfl rfl (by omega) (by omega)) (.no rfl) rfl ?_
        refine jv (v_assign rfl) (.no rfl) rfl ?_
        refine jo_nil ?_
        refine je_round (k + 1, _) (by simp only; refine ⟨by omega, ?_⟩; rw [times_succ (by omega), ← ht]; simp_all) (by first | omega | (dsimp only; omega)) (lsub rfl (lsub rfl (lsub rfl (lsub rfl (lsub rfl lsub0))))) (fun _ h => (h).sub fun p hp => hp)
    · first | (with_reducible replace h2 := of_decide_eq_false h2) | skip
      refine j_off rfl rfl rfl (by decide) rfl ?_
      refine j_off rfl rfl rfl (by decide) rfl ?_
      refine jv (v_pickf rfl rfl) (.no rfl) rfl ?_
      refine jo_nil ?_
      refine je_next ?_
      refine j_iff rfl ?_
      refine j_skip ?_
      refine je_block ?_
      refine je_next ?_
      refine j_region ?_
      refine jv (v_move rfl) (.no rfl) rfl ?_
      refine jv (v_add rfl rfl (by omega) (by omega)) (.no rfl) rfl ?_
      refine jv (v_assign rfl) (.no rfl) rfl ?_
      refine jo_nil ?_
      refine je_round (k + 1, _) (by simp only; refine ⟨by omega, ?_⟩; rw [times_succ (by omega), ← ht]; simp_all) (by first | omega | (dsimp only; omega)) (lsub rfl (lsub rfl (lsub rfl (lsub rfl (lsub rfl lsub0))))) (fun _ h => (h).sub fun p hp => hp)
  · first | (with_reducible replace h1 := of_decide_eq_false h1) | skip
    refine j_exit ?_
    refine je_then (by simp) ?_
    refine je_then (by simp) ?_
    refine je_hit ?_
    refine je_next ?_
    refine j_seq ?_
    refine j_region ?_
    refine jv (v_move rfl) (.no rfl) rfl ?_
    refine jv (v_assign rfl) (.no rfl) rfl ?_
    refine jo_nil ?_
    refine je_next ?_
    refine j_ret ?_
    refine je_ret rfl rfl rfl rfl rfl (rvs := [.tmp 4]) rfl (.cons (.tmp rfl) .nil) () ?_ (fun w h => h.fin mem0) (.inl rfl)
    have e := ht; rw [List.take_of_length_le (by omega)] at e; simp [resVal, e]

end Go.Proofs.Ytjgacbopccfecaa
