/-
  Walks: function 23, function 20, function 55, function 57, function 17, function 64, function 27.
-/
import Derived.Test.YtjgacbopccfecaaN
import Derived.Test.YtjgacbopccfecaaW1
import Derived.Test.YtjgacbopccfecaaW2
import Derived.Test.YtjgacbopccfecaaW3
set_option maxRecDepth 100000
set_option linter.unusedVariables false
set_option linter.unusedSimpArgs false
namespace Go.Proofs.Ytjgacbopccfecaa

theorem f23_spec {a b : Obj} {fa fb : Value} : Spec Try.prog 23 [objA a fa, objA b fb] [] [sl intK fa a.fields, sl intK fb b.fields] Unit (fun _ => .bool (decide (a = b))) (fun _ => []) (fun _ => []) := by
  refine spec_of Try.func23 rfl Try.ntmps23 (by simp) fun ok w => ?_
  refine j_seq ?_
  refine j_region ?_
  refine jx (x_boxc rfl) (.no rfl) rfl ?_
  intro B2
  refine jx (x_boxc rfl) (.no rfl) rfl ?_
  intro B3
  refine jv (v_assign rfl) (.no rfl) rfl ?_
  refine jo_nil ?_
  refine je_next ?_
  refine j_seq ?_
  refine j_region ?_
  refine jv (v_field (k' := 0) rfl Try.runUnderlying41 rfl Try.sizeOf3 (by decide) rfl) (.no rfl) rfl ?_
  refine jv (v_loadc rfl Try.isAgg3 rfl) (.no rfl) rfl ?_
  refine jv (v_field (k' := 0) rfl Try.runUnderlying41 rfl Try.sizeOf3 (by decide) rfl) (.no rfl) rfl ?_
  refine jv (v_loadc rfl Try.isAgg3 rfl) (.no rfl) rfl ?_
  refine jv (v_eql rfl rfl) (.no rfl) rfl ?_
  refine jv (v_move rfl) (.no rfl) rfl ?_
  refine j_split 10 rfl (fun h1 => ?_) (fun h1 => ?_)
  · first | (with_reducible replace h1 := of_decide_eq_true h1) | skip
    refine jv (v_field (k' := 1) rfl Try.runUnderlying41 rfl Try.sizeOf3 (by decide) rfl) (.yes rfl rfl rfl) rfl ?_
    refine jv (v_loadc rfl Try.isAgg3 rfl) (.yes rfl rfl rfl) rfl ?_
    refine jv (v_field (k' := 1) rfl Try.runUnderlying41 rfl Try.sizeOf3 (by decide) rfl) (.yes rfl rfl rfl) rfl ?_
    refine jv (v_loadc rfl Try.isAgg3 rfl) (.yes rfl rfl rfl) rfl ?_
    refine jv (v_eql rfl rfl) (.yes rfl rfl rfl) rfl ?_
    refine jv (v_pickt rfl rfl) (.no rfl) rfl ?_
    refine jv (v_move rfl) (.no rfl) rfl ?_
    refine j_split 17 rfl (fun h2 => ?_) (fun h2 => ?_)
    · first | (with_reducible replace h2 := of_decide_eq_true h2) | skip
      refine jv (v_field (k' := 2) rfl Try.runUnderlying41 rfl Try.sizeOf3 (by decide) rfl) (.yes rfl rfl rfl) rfl ?_
      refine jv (v_loadc rfl Try.isAgg3 rfl) (.yes rfl rfl rfl) rfl ?_
      refine jv (v_field (k' := 2) rfl Try.runUnderlying41 rfl Try.sizeOf3 (by decide) rfl) (.yes rfl rfl rfl) rfl ?_
      refine jv (v_loadc rfl Try.isAgg3 rfl) (.yes rfl rfl rfl) rfl ?_
      refine jv (v_eql rfl rfl) (.yes rfl rfl rfl) rfl ?_
      refine jv (v_pickt rfl rfl) (.no rfl) rfl ?_
      refine jv (v_move rfl) (.no rfl) rfl ?_
      refine j_split 24 rfl (fun h3 => ?_) (fun h3 => ?_)
      · first | (with_reducible replace h3 := of_decide_eq_true h3) | skip
        refine jv (v_field (k' := 3) rfl Try.runUnderlying41 rfl Try.sizeOf3 (by decide) rfl) (.yes rfl rfl rfl) rfl ?_
        refine jv (v_loadc rfl Try.isAgg3 rfl) (.yes rfl rfl rfl) rfl ?_
        refine jv (v_field (k' := 3) rfl Try.runUnderlying41 rfl Try.sizeOf3 (by decide) rfl) (.yes rfl rfl rfl) rfl ?_
        refine jv (v_loadc rfl Try.isAgg3 rfl) (.yes rfl rfl rfl) rfl ?_
        refine jv (v_eql rfl rfl) (.yes rfl rfl rfl) rfl ?_
        refine jv (v_pickt rfl rfl) (.no rfl) rfl ?_
        refine jv (v_move rfl) (.no rfl) rfl ?_
        refine j_split 31 rfl (fun h4 => ?_) (fun h4 => ?_)
        · first | (with_reducible replace h4 := of_decide_eq_true h4) | skip
          refine jv (v_field (k' := 4) rfl Try.runUnderlying41 rfl Try.sizeOf4 (by decide) rfl) (.yes rfl rfl rfl) rfl ?_
          refine jv (v_loadc rfl Try.isAgg4 rfl) (.yes rfl rfl rfl) rfl ?_
          refine jv (v_field (k' := 4) rfl Try.runUnderlying41 rfl Try.sizeOf4 (by decide) rfl) (.yes rfl rfl rfl) rfl ?_
          refine jv (v_loadc rfl Try.isAgg4 rfl) (.yes rfl rfl rfl) rfl ?_
          refine jv (v_beql Try.underlying4 rfl rfl) (.yes rfl rfl rfl) rfl ?_
          refine jv (v_pickt rfl rfl) (.no rfl) rfl ?_
          refine jv (v_move rfl) (.no rfl) rfl ?_
          refine j_split 38 rfl (fun h5 => ?_) (fun h5 => ?_)
          · first | (with_reducible replace h5 := of_decide_eq_true h5) | skip
            refine jv (v_field (k' := 5) rfl Try.runUnderlying41 rfl Try.sizeOf27 (by decide) rfl) (.yes rfl rfl rfl) rfl ?_
            refine jv (v_loadc rfl Try.isAgg27 rfl) (.yes rfl rfl rfl) rfl ?_
            refine jv (v_field (k' := 5) rfl Try.runUnderlying41 rfl Try.sizeOf27 (by decide) rfl) (.yes rfl rfl rfl) rfl ?_
            refine jv (v_loadc rfl Try.isAgg27 rfl) (.yes rfl rfl rfl) rfl ?_
            refine jq (q_callP (f30_spec) Try.call30 (by rfl) rfl (memc FindS.mem (memc FindS.mem mem0))) (.yes rfl rfl rfl) rfl ?_
            intro x43
            refine jv (v_pickt rfl rfl) (.no rfl) rfl ?_
            refine jv (v_assign rfl) (.no rfl) rfl ?_
            refine jo_nil ?_
            refine je_next ?_
            refine j_ret ?_
            refine je_ret rfl rfl rfl rfl rfl (rvs := [.tmp 4]) rfl (.cons (.tmp rfl) .nil) () ?_ (fun w h => h.fin mem0) (.inl rfl)
            rw [alike_iff]; simp_all [resVal]
          · first | (with_reducible replace h5 := of_decide_eq_false h5) | skip
            refine j_off rfl rfl rfl (by decide) rfl ?_
            refine j_off rfl rfl rfl (by decide) rfl ?_
            refine j_off rfl rfl rfl (by decide) rfl ?_
            refine j_off rfl rfl rfl (by decide) rfl ?_
            refine j_off rfl rfl rfl (by decide) rfl ?_
            refine jv (v_pickf rfl rfl) (.no rfl) rfl ?_
            refine jv (v_assign rfl) (.no rfl) rfl ?_
            refine jo_nil ?_
            refine je_next ?_
            refine j_ret ?_
            refine je_ret rfl rfl rfl rfl rfl (rvs := [.tmp 4]) rfl (.cons (.tmp rfl) .nil) () ?_ (fun w h => h.fin mem0) (.inl rfl)
            rw [alike_iff]; simp_all [resVal]
        · first | (with_reducible replace h4 := of_decide_eq_false h4) | skip
          refine j_off rfl rfl rfl (by decide) rfl ?_
          refine j_off rfl rfl rfl (by decide) rfl ?_
          refine j_off rfl rfl rfl (by decide) rfl ?_
          refine j_off rfl rfl rfl (by decide) rfl ?_
          refine j_off rfl rfl rfl (by decide) rfl ?_
          refine jv (v_pickf rfl rfl) (.no rfl) rfl ?_
          refine jv (v_move rfl) (.no rfl) rfl ?_
          refine j_off rfl rfl rfl (by decide) rfl ?_
          refine j_off rfl rfl rfl (by decide) rfl ?_
          refine j_off rfl rfl rfl (by decide) rfl ?_
          refine j_off rfl rfl rfl (by decide) rfl ?_
          refine j_off rfl rfl rfl (by decide) rfl ?_
          refine jv (v_pickf rfl rfl) (.no rfl) rfl ?_
          refine jv (v_assign rfl) (.no rfl) rfl ?_
          refine jo_nil ?_
          refine je_next ?_
          refine j_ret ?_
          refine je_ret rfl rfl rfl rfl rfl (rvs := [.tmp 4]) rfl (.cons (.tmp rfl) .nil) () ?_ (fun w h => h.fin mem0) (.inl rfl)
          rw [alike_iff]; simp_all [resVal]
      · first | (with_reducible replace h3 := of_decide_eq_false h3) | skip
        refine j_off rfl rfl rfl (by decide) rfl ?_
        refine j_off rfl rfl rfl (by decide) rfl ?_
        refine j_off rfl rfl rfl (by decide) rfl ?_
        refine j_off rfl rfl rfl (by decide) rfl ?_
        refine j_off rfl rfl rfl (by decide) rfl ?_
        refine jv (v_pickf rfl rfl) (.no rfl) rfl ?_
        refine jv (v_move rfl) (.no rfl) rfl ?_
        refine j_off rfl rfl rfl (by decide) rfl ?_
        refine j_off rfl rfl rfl (by decide) rfl ?_
        refine j_off rfl rfl rfl (by decide) rfl ?_
        refine j_off rfl rfl rfl (by decide) rfl ?_
        refine j_off rfl rfl rfl (by decide) rfl ?_
        refine jv (v_pickf rfl rfl) (.no rfl) rfl ?_
        refine jv (v_move rfl) (.no rfl) rfl ?_
        refine j_off rfl rfl rfl (by decide) rfl ?_
        refine j_off rfl rfl rfl (by decide) rfl ?_
        refine j_off rfl rfl rfl (by decide) rfl ?_
        refine j_off rfl rfl rfl (by decide) rfl ?_
        refine j_off rfl rfl rfl (by decide) rfl ?_
        refine jv (v_pickf rfl rfl) (.no rfl) rfl ?_
        refine jv (v_assign rfl) (.no rfl) rfl ?_
        refine jo_nil ?_
        refine je_next ?_
        refine j_ret ?_
        refine je_ret rfl rfl rfl rfl rfl (rvs := [.tmp 4]) rfl (.cons (.tmp rfl) .nil) () ?_ (fun w h => h.fin mem0) (.inl rfl)
        rw [alike_iff]; simp_all [resVal]
    · first | (with_reducible replace h2 := of_decide_eq_false h2) | skip
      refine j_off rfl rfl rfl (by decide) rfl ?_
      refine j_off rfl rfl rfl (by decide) rfl ?_
      refine j_off rfl rfl rfl (by decide) rfl ?_
      refine j_off rfl rfl rfl (by decide) rfl ?_
      refine j_off rfl rfl rfl (by decide) rfl ?_
      refine jv (v_pickf rfl rfl) (.no rfl) rfl ?_
      refine jv (v_move rfl) (.no rfl) rfl ?_
      refine j_off rfl rfl rfl (by decide) rfl ?_
      refine j_off rfl rfl rfl (by decide) rfl ?_
      refine j_off rfl rfl rfl (by decide) rfl ?_
      refine j_off rfl rfl rfl (by decide) rfl ?_
      refine j_off rfl rfl rfl (by decide) rfl ?_
      refine jv (v_pickf rfl rfl) (.no rfl) rfl ?_
      refine jv (v_move rfl) (.no rfl) rfl ?_
      refine j_off rfl rfl rfl (by decide) rfl ?_
      refine j_off rfl rfl rfl (by decide) rfl ?_
      refine j_off rfl rfl rfl (by decide) rfl ?_
      refine j_off rfl rfl rfl (by decide) rfl ?_
      refine j_off rfl rfl rfl (by decide) rfl ?_
      refine jv (v_pickf rfl rfl) (.no rfl) rfl ?_
      refine jv (v_move rfl) (.no rfl) rfl ?_
      refine j_off rfl rfl rfl (by decide) rfl ?_
      refine j_off rfl rfl rfl (by decide) rfl ?_
      refine j_off rfl rfl rfl (by decide) rfl ?_
      refine j_off rfl rfl rfl (by decide) rfl ?_
      refine j_off rfl rfl rfl (by decide) rfl ?_
      refine jv (v_pickf rfl rfl) (.no rfl) rfl ?_
      refine jv (v_assign rfl) (.no rfl) rfl ?_
      refine jo_nil ?_
      refine je_next ?_
      refine j_ret ?_
      refine je_ret rfl rfl rfl rfl rfl (rvs := [.tmp 4]) rfl (.cons (.tmp rfl) .nil) () ?_ (fun w h => h.fin mem0) (.inl rfl)
      rw [alike_iff]; simp_all [resVal]
  · first | (with_reducible replace h1 := of_decide_eq_false h1) | skip
    refine j_off rfl rfl rfl (by decide) rfl ?_
    refine j_off rfl rfl rfl (by decide) rfl ?_
    refine j_off rfl rfl rfl (by decide) rfl ?_
    refine j_off rfl rfl rfl (by decide) rfl ?_
    refine j_off rfl rfl rfl (by decide) rfl ?_
    refine jv (v_pickf rfl rfl) (.no rfl) rfl ?_
    refine jv (v_move rfl) (.no rfl) rfl ?_
    refine j_off rfl rfl rfl (by decide) rfl ?_
    refine j_off rfl rfl rfl (by decide) rfl ?_
    refine j_off rfl rfl rfl (by decide) rfl ?_
    refine j_off rfl rfl rfl (by decide) rfl ?_
    refine j_off rfl rfl rfl (by decide) rfl ?_
    refine jv (v_pickf rfl rfl) (.no rfl) rfl ?_
    refine jv (v_move rfl) (.no rfl) rfl ?_
    refine j_off rfl rfl rfl (by decide) rfl ?_
    refine j_off rfl rfl rfl (by decide) rfl ?_
    refine j_off rfl rfl rfl (by decide) rfl ?_
    refine j_off rfl rfl rfl (by decide) rfl ?_
    refine j_off rfl rfl rfl (by decide) rfl ?_
    refine jv (v_pickf rfl rfl) (.no rfl) rfl ?_
    refine jv (v_move rfl) (.no rfl) rfl ?_
    refine j_off rfl rfl rfl (by decide) rfl ?_
    refine j_off rfl rfl rfl (by decide) rfl ?_
    refine j_off rfl rfl rfl (by decide) rfl ?_
    refine j_off rfl rfl rfl (by decide) rfl ?_
    refine j_off rfl rfl rfl (by decide) rfl ?_
    refine jv (v_pickf rfl rfl) (.no rfl) rfl ?_
    refine jv (v_move rfl) (.no rfl) rfl ?_
    refine j_off rfl rfl rfl (by decide) rfl ?_
    refine j_off rfl rfl rfl (by decide) rfl ?_
    refine j_off rfl rfl rfl (by decide) rfl ?_
    refine j_off rfl rfl rfl (by decide) rfl ?_
    refine j_off rfl rfl rfl (by decide) rfl ?_
    refine jv (v_pickf rfl rfl) (.no rfl) rfl ?_
    refine jv (v_assign rfl) (.no rfl) rfl ?_
    refine jo_nil ?_
    refine je_next ?_
    refine j_ret ?_
    refine je_ret rfl rfl rfl rfl rfl (rvs := [.tmp 4]) rfl (.cons (.tmp rfl) .nil) () ?_ (fun w h => h.fin mem0) (.inl rfl)
    rw [alike_iff]; simp_all [resVal]

theorem f20_spec {va vb : Value} {xs ys : List Cell} {la sa lb sb : Int} : Spec Try.prog 20 [stA va la sa, stA vb lb sb] [] [sl cellK va xs, sl cellK vb ys] Unit (fun _ => .bool (decide (xs = ys ∧ la = lb ∧ sa = sb))) (fun _ => []) (fun _ => []) := by
  refine spec_of Try.func20 rfl Try.ntmps20 (by simp) fun ok w => ?_
  refine j_len va fun hlx => ?_
  refine j_seq ?_
  refine j_region ?_
  refine jx (x_boxc rfl) (.no rfl) rfl ?_
  intro B2
  refine jx (x_boxc rfl) (.no rfl) rfl ?_
  intro B3
  refine jv (v_assign rfl) (.no rfl) rfl ?_
  refine jo_nil ?_
  refine je_next ?_
  refine j_seq ?_
  refine j_seq ?_
  refine j_region ?_
  refine jv (v_field (k' := 1) rfl Try.runUnderlying37 rfl Try.sizeOf3 (by decide) rfl) (.no rfl) rfl ?_
  refine jv (v_loadc rfl Try.isAgg3 rfl) (.no rfl) rfl ?_
  refine jv (v_field (k' := 1) rfl Try.runUnderlying37 rfl Try.sizeOf3 (by decide) rfl) (.no rfl) rfl ?_
  refine jv (v_loadc rfl Try.isAgg3 rfl) (.no rfl) rfl ?_
  refine jv (v_neq rfl rfl) (.no rfl) rfl ?_
  refine jv (v_move rfl) (.no rfl) rfl ?_
  refine j_split 11 rfl (fun h1 => ?_) (fun h1 => ?_)
  · first | (with_reducible replace h1 := of_decide_eq_true h1) | skip
    refine j_off rfl rfl rfl (by decide) rfl ?_
    refine j_off rfl rfl rfl (by decide) rfl ?_
    refine j_off rfl rfl rfl (by decide) rfl ?_
    refine j_off rfl rfl rfl (by decide) rfl ?_
    refine j_off rfl rfl rfl (by decide) rfl ?_
    refine jv (v_pickt rfl rfl) (.no rfl) rfl ?_
    refine jv (v_move rfl) (.no rfl) rfl ?_
    refine j_off rfl rfl rfl (by decide) rfl ?_
    refine j_off rfl rfl rfl (by decide) rfl ?_
    refine j_off rfl rfl rfl (by decide) rfl ?_
    refine j_off rfl rfl rfl (by decide) rfl ?_
    refine j_off rfl rfl rfl (by decide) rfl ?_
    refine j_off rfl rfl rfl (by decide) rfl ?_
    refine j_off rfl rfl rfl (by decide) rfl ?_
    refine jv (v_pickt rfl rfl) (.no rfl) rfl ?_
    refine jo_nil ?_
    refine je_next ?_
    refine j_ift rfl ?_
    refine j_seq ?_
    refine j_region ?_
    refine jv (v_assign rfl) (.no rfl) rfl ?_
    refine jo_nil ?_
    refine je_next ?_
    refine j_ret ?_
    refine je_then (by simp) ?_
    refine je_ret rfl rfl rfl rfl rfl (rvs := [.tmp 4]) rfl (.cons (.tmp rfl) .nil) () ?_ (fun w h => h.fin mem0) (.inl rfl)
    first | exact congrArg Value.bool (decide_eq_false (by rintro ⟨e1, e2, e3⟩; subst e1; subst e2; subst e3; simp_all; done)).symm | exact congrArg Value.bool (decide_eq_true (by have e := hk2; rw [List.take_of_length_le (by omega), List.take_of_length_le (by omega)] at e; exact ⟨e, by omega, by omega⟩)).symm
  · first | (with_reducible replace h1 := of_decide_eq_false h1) | skip
    refine jv (v_field (k' := 2) rfl Try.runUnderlying37 rfl Try.sizeOf3 (by decide) rfl) (.yes rfl rfl rfl) rfl ?_
    refine jv (v_loadc rfl Try.isAgg3 rfl) (.yes rfl rfl rfl) rfl ?_
    refine jv (v_field (k' := 2) rfl Try.runUnderlying37 rfl Try.sizeOf3 (by decide) rfl) (.yes rfl rfl rfl) rfl ?_
    refine jv (v_loadc rfl Try.isAgg3 rfl) (.yes rfl rfl rfl) rfl ?_
    refine jv (v_neq rfl rfl) (.yes rfl rfl rfl) rfl ?_
    refine jv (v_pickf rfl rfl) (.no rfl) rfl ?_
    refine jv (v_move rfl) (.no rfl) rfl ?_
    refine j_split 18 rfl (fun h2 => ?_) (fun h2 => ?_)
    · first | (with_reducible replace h2 := of_decide_eq_true h2) | skip
      refine j_off rfl rfl rfl (by decide) rfl ?_
      refine j_off rfl rfl rfl (by decide) rfl ?_
      refine j_off rfl rfl rfl (by decide) rfl ?_
      refine j_off rfl rfl rfl (by decide) rfl ?_
      refine j_off rfl rfl rfl (by decide) rfl ?_
      refine j_off rfl rfl rfl (by decide) rfl ?_
      refine j_off rfl rfl rfl (by decide) rfl ?_
      refine jv (v_pickt rfl rfl) (.no rfl) rfl ?_
      refine jo_nil ?_
      refine je_next ?_
      refine j_ift rfl ?_
      refine j_seq ?_
      refine j_region ?_
      refine jv (v_assign rfl) (.no rfl) rfl ?_
      refine jo_nil ?_
      refine je_next ?_
      refine j_ret ?_
      refine je_then (by simp) ?_
      refine je_ret rfl rfl rfl rfl rfl (rvs := [.tmp 4]) rfl (.cons (.tmp rfl) .nil) () ?_ (fun w h => h.fin mem0) (.inl rfl)
      first | exact congrArg Value.bool (decide_eq_false (by rintro ⟨e1, e2, e3⟩; subst e1; subst e2; subst e3; simp_all; done)).symm | exact congrArg Value.bool (decide_eq_true (by have e := hk2; rw [List.take_of_length_le (by omega), List.take_of_length_le (by omega)] at e; exact ⟨e, by omega, by omega⟩)).symm
    · first | (with_reducible replace h2 := of_decide_eq_false h2) | skip
      refine jv (v_field (k' := 0) rfl Try.runUnderlying37 rfl Try.sizeOf35 (by decide) rfl) (.yes rfl rfl rfl) rfl ?_
      refine jv (v_loadc rfl Try.isAgg35 rfl) (.yes rfl rfl rfl) rfl ?_
      refine jv (v_len rfl FindR.row Try.runUnderlying35) (.yes rfl rfl rfl) rfl ?_
      refine jv (v_field (k' := 0) rfl Try.runUnderlying37 rfl Try.sizeOf35 (by decide) rfl) (.yes rfl rfl rfl) rfl ?_
      refine jv (v_loadc rfl Try.isAgg35 rfl) (.yes rfl rfl rfl) rfl ?_
      refine jv (v_len rfl FindR.row Try.runUnderlying35) (.yes rfl rfl rfl) rfl ?_
      refine jv (v_neq rfl rfl) (.yes rfl rfl rfl) rfl ?_
      refine jv (v_pickf rfl rfl) (.no rfl) rfl ?_
      refine jo_nil ?_
      refine je_next ?_
      refine j_if rfl (fun h3 => ?_) (fun h3 => ?_)
      · first | (with_reducible replace h3 := of_decide_eq_true h3) | skip
        refine j_seq ?_
        refine j_region ?_
        refine jv (v_assign rfl) (.no rfl) rfl ?_
        refine jo_nil ?_
        refine je_next ?_
        refine j_ret ?_
        refine je_then (by simp) ?_
        refine je_ret rfl rfl rfl rfl rfl (rvs := [.tmp 4]) rfl (.cons (.tmp rfl) .nil) () ?_ (fun w h => h.fin mem0) (.inl rfl)
        first | exact congrArg Value.bool (decide_eq_false (by rintro ⟨e1, e2, e3⟩; subst e1; subst e2; subst e3; simp_all; done)).symm | exact congrArg Value.bool (decide_eq_true (by have e := hk2; rw [List.take_of_length_le (by omega), List.take_of_length_le (by omega)] at e; exact ⟨e, by omega, by omega⟩)).symm
      · first | (with_reducible replace h3 := of_decide_eq_false h3) | skip
        refine j_skip ?_
        refine je_next ?_
        refine j_seq ?_
        refine j_seq ?_
        refine j_region ?_
        refine jv (v_assign rfl) (.no rfl) rfl ?_
        refine jo_nil ?_
        refine je_next ?_
        refine j_block ?_
        have hll : xs.length = ys.length := by omega
        refine j_loopS (G := Nat) [(2, _), (3, _)] (fun k t => (5, iV ((k : Nat) : Int)) :: t) (fun k t => t) (fun k => k ≤ xs.length ∧ xs.take k = ys.take k) (fun k => xs.length - k) 0 (by simp) (lsub rfl (lsub rfl (lsub rfl lsub0))) rfl (fun k ⟨hk, hk2⟩ => ?_)   -- dead: [4]
        refine j_seq ?_
        refine j_seq ?_
        refine j_region ?_
        refine jv (v_move rfl) (.no rfl) rfl ?_
        refine jv (v_field (k' := 0) rfl Try.runUnderlying37 rfl Try.sizeOf35 (by decide) rfl) (.no rfl) rfl ?_
        refine jv (v_loadc rfl Try.isAgg35 rfl) (.no rfl) rfl ?_
        refine jv (v_len rfl FindR.row Try.runUnderlying35) (.no rfl) rfl ?_
        refine jv (v_lss rfl rfl) (.no rfl) rfl ?_
        refine jo_nil ?_
        refine je_next ?_
        refine j_if rfl (fun hc => ?_) (fun hc => ?_)
        · first | (with_reducible replace hc := of_decide_eq_true hc) | skip
          refine j_skip ?_
          refine je_next ?_
          refine j_seq ?_
          refine j_block ?_
          refine j_seq ?_
          have hkl : k < xs.length := by omega
          have hjl : k < ys.length := by omega
          refine j_draw [] mixed ?_
          refine ja_take 0 rfl (by decide +kernel) (v_field (k' := 0) rfl Try.runUnderlying37 rfl Try.sizeOf35 (by decide) rfl) (.no rfl) rfl ?_
          refine ja_take 1 rfl (by decide +kernel) (v_loadc rfl Try.isAgg35 rfl) (.no rfl) rfl ?_
          refine ja_take 2 rfl (by decide +kernel) (v_move rfl) (.no rfl) rfl ?_
          refine ja_take 3 rfl (by decide +kernel) (v_index rfl rfl FindR.row Try.runUnderlying35 Try.sizeOf83 (by omega) (by omega)) (.no rfl) rfl ?_
          refine ja_take 4 rfl (by decide +kernel) (v_efield (k' := 0) rfl FindR.row (by omega) Try.runUnderlying83 rfl Try.sizeOf3 (by decide) rfl) (.no rfl) rfl ?_
          refine ja_take 5 rfl (by decide +kernel) (v_eload rfl FindR.row (at_k hkl) (by decide) Try.isAgg3 (fun _ _ _ h => (cell_at h).elim fun _ h => by rw [h.1]; rfl)) (.no rfl) rfl ?_
          refine ja_take 6 rfl (by decide +kernel) (v_field (k' := 0) rfl Try.runUnderlying37 rfl Try.sizeOf35 (by decide) rfl) (.no rfl) rfl ?_
          refine ja_take 7 rfl (by decide +kernel) (v_loadc rfl Try.isAgg35 rfl) (.no rfl) rfl ?_
          refine ja_take 8 rfl (by decide +kernel) (v_move rfl) (.no rfl) rfl ?_
          refine ja_take 9 rfl (by decide +kernel) (v_index rfl rfl FindR.row Try.runUnderlying35 Try.sizeOf83 (by omega) (by omega)) (.no rfl) rfl ?_
          refine ja_take 10 rfl (by decide +kernel) (v_efield (k' := 0) rfl FindR.row (by omega) Try.runUnderlying83 rfl Try.sizeOf3 (by decide) rfl) (.no rfl) rfl ?_
          refine ja_take 11 rfl (by decide +kernel) (v_eload rfl FindR.row (at_k hjl) (by decide) Try.isAgg3 (fun _ _ _ h => (cell_at h).elim fun _ h => by rw [h.1]; rfl)) (.no rfl) rfl ?_
          refine ja_take 12 rfl (by decide +kernel) (v_neq rfl rfl) (.no rfl) rfl ?_
          refine ja_take 13 rfl (by decide +kernel) (v_move rfl) (.no rfl) rfl ?_
          refine ja_split 47 rfl (fun d1 => ?_) (fun d1 => ?_)
          · first | (with_reducible replace d1 := of_decide_eq_true d1) | skip
            refine ja_off 14 rfl (by decide +kernel) rfl rfl rfl (by decide) rfl ?_
            refine ja_off 15 rfl (by decide +kernel) rfl rfl rfl (by decide) rfl ?_
            refine ja_off 16 rfl (by decide +kernel) rfl rfl rfl (by decide) rfl ?_
            refine ja_off 17 rfl (by decide +kernel) rfl rfl rfl (by decide) rfl ?_
            refine ja_off 18 rfl (by decide +kernel) rfl rfl rfl (by decide) rfl ?_
            refine ja_off 19 rfl (by decide +kernel) rfl rfl rfl (by decide) rfl ?_
            refine ja_off 20 rfl (by decide +kernel) rfl rfl rfl (by decide) rfl ?_
            refine ja_off 21 rfl (by decide +kernel) rfl rfl rfl (by decide) rfl ?_
            refine ja_off 22 rfl (by decide +kernel) rfl rfl rfl (by decide) rfl ?_
            refine ja_off 23 rfl (by decide +kernel) rfl rfl rfl (by decide) rfl ?_
            refine ja_off 24 rfl (by decide +kernel) rfl rfl rfl (by decide) rfl ?_
            refine ja_off 25 rfl (by decide +kernel) rfl rfl rfl (by decide) rfl ?_
            refine ja_off 26 rfl (by decide +kernel) rfl rfl rfl (by decide) rfl ?_
            refine ja_take 27 rfl (by decide +kernel) (v_pickt rfl rfl) (.no rfl) rfl ?_
            refine ja_take 28 rfl (by decide +kernel) (v_move rfl) (.no rfl) rfl ?_
            refine ja_off 29 rfl (by decide +kernel) rfl rfl rfl (by decide) rfl ?_
            refine ja_off 30 rfl (by decide +kernel) rfl rfl rfl (by decide) rfl ?_
            refine ja_off 31 rfl (by decide +kernel) rfl rfl rfl (by decide) rfl ?_
            refine ja_off 32 rfl (by decide +kernel) rfl rfl rfl (by decide) rfl ?_
            refine ja_off 33 rfl (by decide +kernel) rfl rfl rfl (by decide) rfl ?_
            refine ja_off 34 rfl (by decide +kernel) rfl rfl rfl (by decide) rfl ?_
            refine ja_off 35 rfl (by decide +kernel) rfl rfl rfl (by decide) rfl ?_
            refine ja_off 36 rfl (by decide +kernel) rfl rfl rfl (by decide) rfl ?_
            refine ja_off 37 rfl (by decide +kernel) rfl rfl rfl (by decide) rfl ?_
            refine ja_off 38 rfl (by decide +kernel) rfl rfl rfl (by decide) rfl ?_
            refine ja_off 39 rfl (by decide +kernel) rfl rfl rfl (by decide) rfl ?_
            refine ja_off 40 rfl (by decide +kernel) rfl rfl rfl (by decide) rfl ?_
            refine ja_off 41 rfl (by decide +kernel) rfl rfl rfl (by decide) rfl ?_
            refine ja_off 42 rfl (by decide +kernel) rfl rfl rfl (by decide) rfl ?_
            refine ja_take 43 rfl (by decide +kernel) (v_pickt rfl rfl) (.no rfl) rfl ?_
            refine ja_nil (by decide +kernel) ?_
            refine je_next ?_
            refine j_ift rfl ?_
            refine j_seq ?_
            refine j_region ?_
            refine jv (v_assign rfl) (.no rfl) rfl ?_
            refine jo_nil ?_
            refine je_next ?_
            refine j_ret ?_
            refine je_blockr ?_
            refine je_then (by simp) ?_
            refine je_then (by simp) ?_
            refine je_blockr ?_
            refine je_then (by simp) ?_
            refine je_ret rfl rfl rfl rfl rfl (rvs := [.tmp 4]) rfl (.cons (.tmp rfl) .nil) () ?_ (fun w h => h.fin mem0) (.inl rfl)
            first | exact congrArg Value.bool (decide_eq_false (by rintro ⟨e1, e2, e3⟩; subst e1; subst e2; subst e3; simp_all; done)).symm | exact congrArg Value.bool (decide_eq_true (by have e := hk2; rw [List.take_of_length_le (by omega), List.take_of_length_le (by omega)] at e; exact ⟨e, by omega, by omega⟩)).symm
          · first | (with_reducible replace d1 := of_decide_eq_false d1) | skip
            refine ja_take 14 rfl (by decide +kernel) (v_field (k' := 0) rfl Try.runUnderlying37 rfl Try.sizeOf35 (by decide) rfl) (.yes rfl rfl rfl) rfl ?_
            refine ja_take 15 rfl (by decide +kernel) (v_loadc rfl Try.isAgg35 rfl) (.yes rfl rfl rfl) rfl ?_
            refine ja_take 16 rfl (by decide +kernel) (v_move rfl) (.yes rfl rfl rfl) rfl ?_
            refine ja_take 17 rfl (by decide +kernel) (v_index rfl rfl FindR.row Try.runUnderlying35 Try.sizeOf83 (by omega) (by omega)) (.yes rfl rfl rfl) rfl ?_
            refine ja_take 18 rfl (by decide +kernel) (v_efield (k' := 1) rfl FindR.row (by omega) Try.runUnderlying83 rfl Try.sizeOf3 (by decide) rfl) (.yes rfl rfl rfl) rfl ?_
            refine ja_take 19 rfl (by decide +kernel) (v_eload rfl FindR.row (at_k hkl) (by decide) Try.isAgg3 (fun _ _ _ h => (cell_at h).elim fun _ h => by rw [h.1]; rfl)) (.yes rfl rfl rfl) rfl ?_
            refine ja_take 20 rfl (by decide +kernel) (v_field (k' := 0) rfl Try.runUnderlying37 rfl Try.sizeOf35 (by decide) rfl) (.yes rfl rfl rfl) rfl ?_
            refine ja_take 21 rfl (by decide +kernel) (v_loadc rfl Try.isAgg35 rfl) (.yes rfl rfl rfl) rfl ?_
            refine ja_take 22 rfl (by decide +kernel) (v_move rfl) (.yes rfl rfl rfl) rfl ?_
            refine ja_take 23 rfl (by decide +kernel) (v_index rfl rfl FindR.row Try.runUnderlying35 Try.sizeOf83 (by omega) (by omega)) (.yes rfl rfl rfl) rfl ?_
            refine ja_take 24 rfl (by decide +kernel) (v_efield (k' := 1) rfl FindR.row (by omega) Try.runUnderlying83 rfl Try.sizeOf3 (by decide) rfl) (.yes rfl rfl rfl) rfl ?_
            refine ja_take 25 rfl (by decide +kernel) (v_eload rfl FindR.row (at_k hjl) (by decide) Try.isAgg3 (fun _ _ _ h => (cell_at h).elim fun _ h => by rw [h.1]; rfl)) (.yes rfl rfl rfl) rfl ?_
            refine ja_take 26 rfl (by decide +kernel) (v_neq rfl rfl) (.yes rfl rfl rfl) rfl ?_
            refine ja_take 27 rfl (by decide +kernel) (v_pickf rfl rfl) (.no rfl) rfl ?_
            refine ja_take 28 rfl (by decide +kernel) (v_move rfl) (.no rfl) rfl ?_
            refine ja_split 62 rfl (fun d2 => ?_) (fun d2 => ?_)
            · first | (with_reducible replace d2 := of_decide_eq_true d2) | skip
              refine ja_off 29 rfl (by decide +kernel) rfl rfl rfl (by decide) rfl ?_
              refine ja_off 30 rfl (by decide +kernel) rfl rfl rfl (by decide) rfl ?_
              refine ja_off 31 rfl (by decide +kernel) rfl rfl rfl (by decide) rfl ?_
              refine ja_off 32 rfl (by decide +kernel) rfl rfl rfl (by decide) rfl ?_
              refine ja_off 33 rfl (by decide +kernel) rfl rfl rfl (by decide) rfl ?_
              refine ja_off 34 rfl (by decide +kernel) rfl rfl rfl (by decide) rfl ?_
              refine ja_off 35 rfl (by decide +kernel) rfl rfl rfl (by decide) rfl ?_
              refine ja_off 36 rfl (by decide +kernel) rfl rfl rfl (by decide) rfl ?_
              refine ja_off 37 rfl (by decide +kernel) rfl rfl rfl (by decide) rfl ?_
              refine ja_off 38 rfl (by decide +kernel) rfl rfl rfl (by decide) rfl ?_
              refine ja_off 39 rfl (by decide +kernel) rfl rfl rfl (by decide) rfl ?_
              refine ja_off 40 rfl (by decide +kernel) rfl rfl rfl (by decide) rfl ?_
              refine ja_off 41 rfl (by decide +kernel) rfl rfl rfl (by decide) rfl ?_
              refine ja_off 42 rfl (by decide +kernel) rfl rfl rfl (by decide) rfl ?_
              refine ja_take 43 rfl (by decide +kernel) (v_pickt rfl rfl) (.no rfl) rfl ?_
              refine ja_nil (by decide +kernel) ?_
              refine je_next ?_
              refine j_ift rfl ?_
              refine j_seq ?_
              refine j_region ?_
              refine jv (v_assign rfl) (.no rfl) rfl ?_
              refine jo_nil ?_
              refine je_next ?_
              refine j_ret ?_
              refine je_blockr ?_
              refine je_then (by simp) ?_
              refine je_then (by simp) ?_
              refine je_blockr ?_
              refine je_then (by simp) ?_
              refine je_ret rfl rfl rfl rfl rfl (rvs := [.tmp 4]) rfl (.cons (.tmp rfl) .nil) () ?_ (fun w h => h.fin mem0) (.inl rfl)
              first | exact congrArg Value.bool (decide_eq_false (by rintro ⟨e1, e2, e3⟩; subst e1; subst e2; subst e3; simp_all; done)).symm | exact congrArg Value.bool (decide_eq_true (by have e := hk2; rw [List.take_of_length_le (by omega), List.take_of_length_le (by omega)] at e; exact ⟨e, by omega, by omega⟩)).symm
            · first | (with_reducible replace d2 := of_decide_eq_false d2) | skip
              refine ja_take 29 rfl (by decide +kernel) (v_field (k' := 0) rfl Try.runUnderlying37 rfl Try.sizeOf35 (by decide) rfl) (.yes rfl rfl rfl) rfl ?_
              refine ja_take 30 rfl (by decide +kernel) (v_loadc rfl Try.isAgg35 rfl) (.yes rfl rfl rfl) rfl ?_
              refine ja_take 31 rfl (by decide +kernel) (v_move rfl) (.yes rfl rfl rfl) rfl ?_
              refine ja_take 32 rfl (by decide +kernel) (v_index rfl rfl FindR.row Try.runUnderlying35 Try.sizeOf83 (by omega) (by omega)) (.yes rfl rfl rfl) rfl ?_
              refine ja_take 33 rfl (by decide +kernel) (v_efield (k' := 2) rfl FindR.row (by omega) Try.runUnderlying83 rfl Try.sizeOf41 (by decide) rfl) (.yes rfl rfl rfl) rfl ?_
              refine ja_takel 34 rfl (by decide +kernel) (l_eload rfl FindR.row (at_k hkl) (by decide) Try.isAgg41 Try.sizeOf41 (fun _ _ _ h => cell_obj h)) (.yes rfl rfl rfl) rfl ?_
              intro v68
              refine ja_take 35 rfl (by decide +kernel) (v_field (k' := 0) rfl Try.runUnderlying37 rfl Try.sizeOf35 (by decide) rfl) (.yes rfl rfl rfl) rfl ?_
              refine ja_take 36 rfl (by decide +kernel) (v_loadc rfl Try.isAgg35 rfl) (.yes rfl rfl rfl) rfl ?_
              refine ja_take 37 rfl (by decide +kernel) (v_move rfl) (.yes rfl rfl rfl) rfl ?_
              refine ja_take 38 rfl (by decide +kernel) (v_index rfl rfl FindR.row Try.runUnderlying35 Try.sizeOf83 (by omega) (by omega)) (.yes rfl rfl rfl) rfl ?_
              refine ja_take 39 rfl (by decide +kernel) (v_efield (k' := 2) rfl FindR.row (by omega) Try.runUnderlying83 rfl Try.sizeOf41 (by decide) rfl) (.yes rfl rfl rfl) rfl ?_
              refine ja_takel 40 rfl (by decide +kernel) (l_eload rfl FindR.row (at_k hjl) (by decide) Try.isAgg41 Try.sizeOf41 (fun _ _ _ h => cell_obj h)) (.yes rfl rfl rfl) rfl ?_
              intro v74
              refine ja_one (i := 41) (by decide +kernel) (jn_q rfl (q_callP (f23_spec) Try.call23 (by rfl) rfl (memc FindS.mem (memc FindS.mem mem0))) (.yes rfl rfl rfl) rfl ?_)
              intro x75
              refine ja_take 42 rfl (by decide +kernel) (v_not rfl) (.yes rfl rfl rfl) rfl ?_
              refine ja_take 43 rfl (by decide +kernel) (v_pickf rfl rfl) (.no rfl) rfl ?_
              refine ja_nil (by decide +kernel) ?_
              refine je_next ?_
              refine j_if rfl (fun d3 => ?_) (fun d3 => ?_)
              · first | (with_reducible replace d3 := of_decide_eq_true d3) | skip
                refine j_seq ?_
                refine j_region ?_
                refine jv (v_assign rfl) (.no rfl) rfl ?_
                refine jo_nil ?_
                refine je_next ?_
                refine j_ret ?_
                refine je_blockr ?_
                refine je_then (by simp) ?_
                refine je_then (by simp) ?_
                refine je_blockr ?_
                refine je_then (by simp) ?_
                refine je_ret rfl rfl rfl rfl rfl (rvs := [.tmp 4]) rfl (.cons (.tmp rfl) .nil) () ?_ (fun w h => h.fin mem0) (.inl rfl)
                first | exact congrArg Value.bool (decide_eq_false (by rintro ⟨e1, e2, e3⟩; subst e1; subst e2; subst e3; simp_all; done)).symm | exact congrArg Value.bool (decide_eq_true (by have e := hk2; rw [List.take_of_length_le (by omega), List.take_of_length_le (by omega)] at e; exact ⟨e, by omega, by omega⟩)).symm
              · first | (with_reducible replace d3 := of_decide_eq_false d3) | skip
                refine j_skip ?_
                refine je_block ?_
                refine je_next ?_
                have hce : xs[k] = ys[k] := cell_ext (by simpa using d1) (by simpa using d2) (by simpa using d3)
                refine j_region ?_
                refine jv (v_move rfl) (.no rfl) rfl ?_
                refine jv (v_add rfl rfl (by omega) (by omega)) (.no rfl) rfl ?_
                refine jv (v_assign rfl) (.no rfl) rfl ?_
                refine jo_nil ?_
                refine je_round (k + 1) (by refine ⟨by omega, ?_⟩; rw [List.take_succ_eq_append_getElem hkl, List.take_succ_eq_append_getElem hjl, hk2, hce]) (by first | omega | (dsimp only; omega)) (lsub rfl (lsub rfl (lsub rfl lsub0))) (fun _ h => (h).sub fun p hp => (List.mem_append_right _ (List.mem_append_right _ (List.mem_append_right _ hp))))
        · first | (with_reducible replace hc := of_decide_eq_false hc) | skip
          refine j_exit ?_
          refine je_then (by simp) ?_
          refine je_then (by simp) ?_
          refine je_hit ?_
          refine je_next ?_
          refine j_seq ?_
          refine j_region ?_
          refine jv (v_assign rfl) (.no rfl) rfl ?_
          refine jo_nil ?_
          refine je_next ?_
          refine j_ret ?_
          refine je_ret rfl rfl rfl rfl rfl (rvs := [.tmp 4]) rfl (.cons (.tmp rfl) .nil) () ?_ (fun w h => h.fin mem0) (.inl rfl)
          first | exact congrArg Value.bool (decide_eq_false (by rintro ⟨e1, e2, e3⟩; subst e1; subst e2; subst e3; simp_all; done)).symm | exact congrArg Value.bool (decide_eq_true (by have e := hk2; rw [List.take_of_length_le (by omega), List.take_of_length_le (by omega)] at e; exact ⟨e, by omega, by omega⟩)).symm

theorem f55_spec {v : Value} {cs : List C3} {last h : Int} : Spec Try.prog 55 [slabA v last, iV h] [] [sl c3K v cs] Unit (fun _ => .tuple [iV (find3 cs h).1, iV (find3 cs h).2].toArray) (fun _ => []) (fun _ => []) := by
  refine spec_of Try.func55 rfl Try.ntmps55 (by simp) fun ok w => ?_
  refine j_len v fun hlx => ?_
  refine j_seq ?_
  refine j_region ?_
  refine jx (x_boxc rfl) (.no rfl) rfl ?_
  intro B2
  refine jv (v_assign rfl) (.no rfl) rfl ?_
  refine jv (v_assign rfl) (.no rfl) rfl ?_
  refine jo_nil ?_
  refine je_next ?_
  refine j_seq ?_
  refine j_seq ?_
  refine j_region ?_
  refine jv (v_move rfl) (.no rfl) rfl ?_
  refine jv (v_eql rfl rfl) (.no rfl) rfl ?_
  refine jo_nil ?_
  refine je_next ?_
  refine j_if rfl (fun z1 => ?_) (fun z1 => ?_)
  · first | (with_reducible replace z1 := of_decide_eq_true z1) | skip
    refine j_seq ?_
    refine j_region ?_
    refine jv (v_assign rfl) (.no rfl) rfl ?_
    refine jv (v_assign rfl) (.no rfl) rfl ?_
    refine jo_nil ?_
    refine je_next ?_
    refine j_ret ?_
    refine je_then (by simp) ?_
    refine je_ret rfl rfl rfl rfl rfl (rvs := [.tmp 4, .tmp 5]) rfl (.cons (.tmp rfl) (.cons (.tmp rfl) .nil)) () ?_ (fun w h => h.fin mem0) (.inl rfl)
    first | (rw [z1, find3_0]; rfl) | (rw [find3_out z1 (by omega)]; rfl) | (rw [find3_bad z1 hs0 hkl (by omega)]; rfl) | (rw [find3_ok z1 hs0 hkl (by omega)]; rfl)
  · first | (with_reducible replace z1 := of_decide_eq_false z1) | skip
    refine j_skip ?_
    refine je_next ?_
    refine j_seq ?_
    refine j_region ?_
    refine jv (v_move rfl) (.no rfl) rfl ?_
    refine jq (q_callP (f91_spec) Try.call91 (by rfl) rfl mem0) (.no rfl) rfl ?_
    intro x11
    refine jv (v_assign rfl) (.no rfl) rfl ?_
    refine jo_nil ?_
    refine je_next ?_
    refine j_seq ?_
    refine j_seq ?_
    refine j_region ?_
    refine jv (v_move rfl) (.no rfl) rfl ?_
    refine jv (v_lss rfl rfl) (.no rfl) rfl ?_
    refine jv (v_move rfl) (.no rfl) rfl ?_
    refine j_split 14 rfl (fun z2 => ?_) (fun z2 => ?_)
    · first | (with_reducible replace z2 := of_decide_eq_true z2) | skip
      refine j_off rfl rfl rfl (by decide) rfl ?_
      refine j_off rfl rfl rfl (by decide) rfl ?_
      refine j_off rfl rfl rfl (by decide) rfl ?_
      refine j_off rfl rfl rfl (by decide) rfl ?_
      refine j_off rfl rfl rfl (by decide) rfl ?_
      refine jv (v_pickt rfl rfl) (.no rfl) rfl ?_
      refine jo_nil ?_
      refine je_next ?_
      refine j_ift rfl ?_
      refine j_seq ?_
      refine j_region ?_
      refine jv (v_assign rfl) (.no rfl) rfl ?_
      refine jv (v_assign rfl) (.no rfl) rfl ?_
      refine jo_nil ?_
      refine je_next ?_
      refine j_ret ?_
      refine je_then (by simp) ?_
      refine je_ret rfl rfl rfl rfl rfl (rvs := [.tmp 4, .tmp 5]) rfl (.cons (.tmp rfl) (.cons (.tmp rfl) .nil)) () ?_ (fun w h => h.fin mem0) (.inl rfl)
      first | (rw [z1, find3_0]; rfl) | (rw [find3_out z1 (by omega)]; rfl) | (rw [find3_bad z1 hs0 hkl (by omega)]; rfl) | (rw [find3_ok z1 hs0 hkl (by omega)]; rfl)
    · first | (with_reducible replace z2 := of_decide_eq_false z2) | skip
      refine jv (v_move rfl) (.yes rfl rfl rfl) rfl ?_
      refine jv (v_field (k' := 0) rfl Try.runUnderlying77 rfl Try.sizeOf75 (by decide) rfl) (.yes rfl rfl rfl) rfl ?_
      refine jv (v_loadc rfl Try.isAgg75 rfl) (.yes rfl rfl rfl) rfl ?_
      refine jv (v_len rfl FindR.row Try.runUnderlying75) (.yes rfl rfl rfl) rfl ?_
      refine jv (v_geq rfl rfl) (.yes rfl rfl rfl) rfl ?_
      refine jv (v_pickf rfl rfl) (.no rfl) rfl ?_
      refine jo_nil ?_
      refine je_next ?_
      refine j_if rfl (fun z3 => ?_) (fun z3 => ?_)
      · first | (with_reducible replace z3 := of_decide_eq_true z3) | skip
        refine j_seq ?_
        refine j_region ?_
        refine jv (v_assign rfl) (.no rfl) rfl ?_
        refine jv (v_assign rfl) (.no rfl) rfl ?_
        refine jo_nil ?_
        refine je_next ?_
        refine j_ret ?_
        refine je_then (by simp) ?_
        refine je_ret rfl rfl rfl rfl rfl (rvs := [.tmp 4, .tmp 5]) rfl (.cons (.tmp rfl) (.cons (.tmp rfl) .nil)) () ?_ (fun w h => h.fin mem0) (.inl rfl)
        first | (rw [z1, find3_0]; rfl) | (rw [find3_out z1 (by omega)]; rfl) | (rw [find3_bad z1 hs0 hkl (by omega)]; rfl) | (rw [find3_ok z1 hs0 hkl (by omega)]; rfl)
      · first | (with_reducible replace z3 := of_decide_eq_false z3) | skip
        refine j_skip ?_
        refine je_next ?_
        refine j_seq ?_
        have hs0 : 0 ≤ slotOf h := by omega
        have hkl : (slotOf h).toNat < cs.length := by omega
        refine j_region ?_
        refine jv (v_field (k' := 0) rfl Try.runUnderlying77 rfl Try.sizeOf75 (by decide) rfl) (.no rfl) rfl ?_
        refine jv (v_loadc rfl Try.isAgg75 rfl) (.no rfl) rfl ?_
        refine jv (v_move rfl) (.no rfl) rfl ?_
        refine jv (v_index rfl rfl FindR.row Try.runUnderlying75 Try.sizeOf119 (by omega) (by omega)) (.no rfl) rfl ?_
        refine jq (OpL.q (l_eload rfl FindR.row (List.getElem?_eq_getElem hkl) (by decide) Try.isAgg119 Try.sizeOf119 (fun _ _ _ h => c3_all h))) (.no rfl) rfl ?_
        intro v25
        refine jx (x_alloc Try.zeroValue119 Cells.agg) (.no rfl) rfl ?_
        intro B7
        refine jx (x_storec (cs' := [_, _, _]) rfl rfl rfl Try.sizeOf119 rfl rfl) (.no rfl) rfl ?_
        intro _
        refine jo_nil ?_
        refine je_next ?_
        refine j_seq ?_
        refine j_seq ?_
        refine j_draw [] mixed ?_
        refine ja_take 0 rfl (by decide +kernel) (v_field (k' := 1) rfl Try.runUnderlying119 rfl Try.sizeOf3 (by decide) rfl) (.no rfl) rfl ?_
        refine ja_take 1 rfl (by decide +kernel) (v_loadc rfl Try.isAgg3 rfl) (.no rfl) rfl ?_
        refine ja_take 2 rfl (by decide +kernel) (v_move rfl) (.no rfl) rfl ?_
        refine ja_one (i := 3) (by decide +kernel) (jn_q rfl (q_callP (f92_spec) Try.call92 (by rfl) rfl mem0) (.no rfl) rfl ?_)
        intro x29
        refine ja_take 4 rfl (by decide +kernel) (v_neq rfl rfl) (.no rfl) rfl ?_
        refine ja_take 5 rfl (by decide +kernel) (v_move rfl) (.no rfl) rfl ?_
        refine ja_split 31 rfl (fun z4 => ?_) (fun z4 => ?_)
        · first | (with_reducible replace z4 := of_decide_eq_true z4) | skip
          refine ja_off 6 rfl (by decide +kernel) rfl rfl rfl (by decide) rfl ?_
          refine ja_off 7 rfl (by decide +kernel) rfl rfl rfl (by decide) rfl ?_
          refine ja_off 8 rfl (by decide +kernel) rfl rfl rfl (by decide) rfl ?_
          refine ja_off 9 rfl (by decide +kernel) rfl rfl rfl (by decide) rfl ?_
          refine ja_offu 10 rfl (by decide +kernel) rfl rfl rfl rfl ?_
          refine ja_offu 11 rfl (by decide +kernel) rfl rfl rfl rfl ?_
          refine ja_offu 12 rfl (by decide +kernel) rfl rfl rfl rfl ?_
          refine ja_off 13 rfl (by decide +kernel) rfl rfl rfl (by decide) rfl ?_
          refine ja_take 14 rfl (by decide +kernel) (v_pickt rfl rfl) (.no rfl) rfl ?_
          refine ja_nil (by decide +kernel) ?_
          refine je_next ?_
          refine j_ift rfl ?_
          refine j_seq ?_
          refine j_region ?_
          refine jv (v_assign rfl) (.no rfl) rfl ?_
          refine jv (v_assign rfl) (.no rfl) rfl ?_
          refine jo_nil ?_
          refine je_next ?_
          refine j_ret ?_
          refine je_then (by simp) ?_
          refine je_ret rfl rfl rfl rfl rfl (rvs := [.tmp 4, .tmp 5]) rfl (.cons (.tmp rfl) (.cons (.tmp rfl) .nil)) () ?_ (fun w h => h.fin mem0) (.inl rfl)
          first | (rw [z1, find3_0]; rfl) | (rw [find3_out z1 (by omega)]; rfl) | (rw [find3_bad z1 hs0 hkl (by omega)]; rfl) | (rw [find3_ok z1 hs0 hkl (by omega)]; rfl)
        · first | (with_reducible replace z4 := of_decide_eq_false z4) | skip
          refine ja_take 6 rfl (by decide +kernel) (v_field (k' := 0) rfl Try.runUnderlying119 rfl Try.sizeOf3 (by decide) rfl) (.yes rfl rfl rfl) rfl ?_
          refine ja_take 7 rfl (by decide +kernel) (v_loadc rfl Try.isAgg3 rfl) (.yes rfl rfl rfl) rfl ?_
          refine ja_take 8 rfl (by decide +kernel) (v_neq rfl rfl) (.yes rfl rfl rfl) rfl ?_
          refine ja_take 9 rfl (by decide +kernel) (v_move rfl) (.yes rfl rfl rfl) rfl ?_
          refine ja_split 35 rfl (fun z5 => ?_) (fun z5 => ?_)
          · first | (with_reducible replace z5 := of_decide_eq_true z5) | skip
            refine ja_take 10 rfl (by decide +kernel) (v_field (k' := 0) rfl Try.runUnderlying119 rfl Try.sizeOf3 (by decide) rfl) (.yes rfl rfl rfl) rfl ?_
            refine ja_take 11 rfl (by decide +kernel) (v_loadc rfl Try.isAgg3 rfl) (.yes rfl rfl rfl) rfl ?_
            refine ja_take 12 rfl (by decide +kernel) (v_neq rfl rfl) (.yes rfl rfl rfl) rfl ?_
            refine ja_take 13 rfl (by decide +kernel) (v_pickt rfl rfl) (.yes rfl rfl rfl) rfl ?_
            refine ja_take 14 rfl (by decide +kernel) (v_pickf rfl rfl) (.no rfl) rfl ?_
            refine ja_nil (by decide +kernel) ?_
            refine je_next ?_
            refine j_if rfl (fun z6 => ?_) (fun z6 => ?_)
            · first | (with_reducible replace z6 := of_decide_eq_true z6) | skip
              refine j_seq ?_
              refine j_region ?_
              refine jv (v_assign rfl) (.no rfl) rfl ?_
              refine jv (v_assign rfl) (.no rfl) rfl ?_
              refine jo_nil ?_
              refine je_next ?_
              refine j_ret ?_
              refine je_then (by simp) ?_
              refine je_ret rfl rfl rfl rfl rfl (rvs := [.tmp 4, .tmp 5]) rfl (.cons (.tmp rfl) (.cons (.tmp rfl) .nil)) () ?_ (fun w h => h.fin mem0) (.inl rfl)
              first | (rw [z1, find3_0]; rfl) | (rw [find3_out z1 (by omega)]; rfl) | (rw [find3_bad z1 hs0 hkl (by omega)]; rfl) | (rw [find3_ok z1 hs0 hkl (by omega)]; rfl)
            · first | (with_reducible replace z6 := of_decide_eq_false z6) | skip
              refine j_skip ?_
              refine je_next ?_
              refine j_seq ?_
              refine j_region ?_
              refine jv (v_move rfl) (.no rfl) rfl ?_
              refine jv (v_assign rfl) (.no rfl) rfl ?_
              refine jv (v_assign rfl) (.no rfl) rfl ?_
              refine jo_nil ?_
              refine je_next ?_
              refine j_ret ?_
              refine je_ret rfl rfl rfl rfl rfl (rvs := [.tmp 4, .tmp 5]) rfl (.cons (.tmp rfl) (.cons (.tmp rfl) .nil)) () ?_ (fun w h => h.fin mem0) (.inl rfl)
              first | (rw [z1, find3_0]; rfl) | (rw [find3_out z1 (by omega)]; rfl) | (rw [find3_bad z1 hs0 hkl (by omega)]; rfl) | (rw [find3_ok z1 hs0 hkl (by omega)]; rfl)
          · first | (with_reducible replace z5 := of_decide_eq_false z5) | skip
            refine ja_off 10 rfl (by decide +kernel) rfl rfl rfl (by decide) rfl ?_
            refine ja_off 11 rfl (by decide +kernel) rfl rfl rfl (by decide) rfl ?_
            refine ja_off 12 rfl (by decide +kernel) rfl rfl rfl (by decide) rfl ?_
            refine ja_take 13 rfl (by decide +kernel) (v_pickf rfl rfl) (.yes rfl rfl rfl) rfl ?_
            refine ja_take 14 rfl (by decide +kernel) (v_pickf rfl rfl) (.no rfl) rfl ?_
            refine ja_nil (by decide +kernel) ?_
            refine je_next ?_
            refine j_iff rfl ?_
            refine j_skip ?_
            refine je_next ?_
            refine j_seq ?_
            refine j_region ?_
            refine jv (v_move rfl) (.no rfl) rfl ?_
            refine jv (v_assign rfl) (.no rfl) rfl ?_
            refine jv (v_assign rfl) (.no rfl) rfl ?_
            refine jo_nil ?_
            refine je_next ?_
            refine j_ret ?_
            refine je_ret rfl rfl rfl rfl rfl (rvs := [.tmp 4, .tmp 5]) rfl (.cons (.tmp rfl) (.cons (.tmp rfl) .nil)) () ?_ (fun w h => h.fin mem0) (.inl rfl)
            first | (rw [z1, find3_0]; rfl) | (rw [find3_out z1 (by omega)]; rfl) | (rw [find3_bad z1 hs0 hkl (by omega)]; rfl) | (rw [find3_ok z1 hs0 hkl (by omega)]; rfl)

theorem f57_spec {v : Value} {cs : List Cell} {last serial : Int} {i : Int} {o : Obj} {f : Value} (hn : cs.length ≤ 1000) (hi : 0 ≤ i) (hi2 : i < cs.length) : Spec Try.prog 57 [stA v last serial, iV i, objA o f] [] [sl cellK v cs, sl intK f o.fields] Value (fun v' => stA v' last serial) (fun _ => []) (fun v' => [sl cellK v' (withC cs i o)]) := by
  have hkl : i.toNat < cs.length := by omega
  refine spec_of Try.func57 rfl Try.ntmps57 (by simp) fun ok w => ?_
  refine j_seq ?_
  refine j_region ?_
  refine jx (x_boxc rfl) (.no rfl) rfl ?_
  intro B3
  refine jx (x_boxc rfl) (.no rfl) rfl ?_
  intro B5
  refine jx (x_alloc Try.zeroValue37 Cells.agg) (.no rfl) rfl ?_
  intro B6
  refine jo_nil ?_
  refine je_next ?_
  refine j_seq ?_
  refine j_region ?_
  refine jx (x_lit0 cellK rfl Try.runUnderlying35 Try.sizeOf83) (.no rfl) rfl ?_
  intro v8
  refine jv (v_field (k' := 0) rfl Try.runUnderlying37 rfl Try.sizeOf35 (by decide) rfl) (.no rfl) rfl ?_
  refine jv (v_loadc rfl Try.isAgg35 rfl) (.no rfl) rfl ?_
  refine jx (x_append rfl rfl (fun _ => Hole.put _) FindR.row Try.runUnderlying35 Try.sizeOf83 Try.zeroValue83 rfl Try.typeInfo83 (by decide) (by decide) (by simp; omega)) (.no rfl) rfl ?_
  intro v11
  refine jv (v_assign rfl) (.no rfl) rfl ?_
  refine jo_nil ?_
  refine je_next ?_
  refine j_seq ?_
  refine j_region ?_
  refine jv (v_move rfl) (.no rfl) rfl ?_
  refine jv (v_move rfl) (.no rfl) rfl ?_
  refine jv (v_loadAc (vs := [_, _, _, _, _, _]) rfl Try.isAgg41 Try.sizeOf41 rfl rfl) (.no rfl) rfl ?_
  refine jv (v_index rfl rfl FindR.row Try.runUnderlying35 Try.sizeOf83 (by omega) (by simp; omega)) (.no rfl) rfl ?_
  refine jv (v_efield (k' := 2) rfl FindR.row (by simp; omega) Try.runUnderlying83 rfl Try.sizeOf41 (by decide) rfl) (.no rfl) rfl ?_
  refine jx (x_storeE (e' := { cs[i.toNat] with val := o }) rfl rfl (at_k (xs := cs) hkl) (Hole.put _) Try.sizeOf41 rfl (by decide) (fun ok h c hp hr => ⟨_, by obtain ⟨_, rfl, _⟩ := hr; rfl, hp _ FindS.mem⟩)) (.no rfl) rfl ?_
  intro _
  refine jo_nil ?_
  refine je_next ?_
  refine j_seq ?_
  refine j_region ?_
  refine jv (v_move rfl) (.no rfl) rfl ?_
  refine jv (v_field (k' := 1) rfl Try.runUnderlying37 rfl Try.sizeOf3 (by decide) rfl) (.no rfl) rfl ?_
  refine jv (v_loadc rfl Try.isAgg3 rfl) (.no rfl) rfl ?_
  refine jv (v_field (k' := 2) rfl Try.runUnderlying37 rfl Try.sizeOf3 (by decide) rfl) (.no rfl) rfl ?_
  refine jv (v_loadc rfl Try.isAgg3 rfl) (.no rfl) rfl ?_
  refine jv (v_build1 _ rfl b37) (.no rfl) rfl ?_
  refine jx (x_storec (cs' := [_, _, _]) rfl rfl rfl Try.sizeOf37 rfl rfl) (.no rfl) rfl ?_
  intro _
  refine jo_nil ?_
  refine je_next ?_
  refine j_ret ?_
  refine je_ret rfl rfl rfl rfl rfl (rvs := [.cell 6 37]) rfl (.cons (.agg (vs := [_, _, _]) rfl FindB.mem Try.isAgg37 Try.sizeOf37 rfl rfl) .nil) v11 ?_ (fun w h => (h.freeze0 .head).fin (by rw [withC_at hkl]; exact memc FindS.mem mem0)) (.inl rfl)
  rfl

theorem f17_spec {v : Value} {cs : List Cell} {last serial : Int} {h : Int} {o : Obj} {f : Value} (hn : cs.length ≤ 1000) : Spec Try.prog 17 [stA v last serial, iV h, objA o f] [] [sl cellK v cs, sl intK f o.fields] Value (fun v' => .tuple [stA v' last serial, iV (find3 (plainC cs) h).2].toArray) (fun _ => []) (fun v' => [sl cellK v' (setC cs h o)]) := by
  refine spec_of Try.func17 rfl Try.ntmps17 (by simp) fun ok w => ?_
  refine j_seq ?_
  refine j_region ?_
  refine jx (x_boxc rfl) (.no rfl) rfl ?_
  intro B3
  refine jx (x_boxc rfl) (.no rfl) rfl ?_
  intro B5
  refine jx (x_alloc Try.zeroValue37 Cells.agg) (.no rfl) rfl ?_
  intro B6
  refine jv (v_assign rfl) (.no rfl) rfl ?_
  refine jo_nil ?_
  refine je_next ?_
  refine j_seq ?_
  refine j_region ?_
  refine jv (v_loadAc (vs := [_, _, _]) rfl Try.isAgg37 Try.sizeOf37 rfl rfl) (.no rfl) rfl ?_
  refine jq (q_callP (f56_spec (by omega)) Try.call56 (by rfl) rfl (memc FindS.mem mem0)) (.no rfl) rfl ?_
  intro u12
  refine jv (v_move rfl) (.no rfl) rfl ?_
  refine jq (q_callP (f55_spec) Try.call55 (by rfl) rfl (memc FindS.mem mem0)) (.no rfl) rfl ?_
  intro x14
  refine jv (v_move rfl) (.no rfl) rfl ?_
  refine jv (v_ext rfl rfl) (.no rfl) rfl ?_
  refine jv (v_ext rfl rfl) (.no rfl) rfl ?_
  refine jv (v_assign rfl) (.no rfl) rfl ?_
  refine jv (v_assign rfl) (.no rfl) rfl ?_
  refine jo_nil ?_
  refine je_next ?_
  refine j_seq ?_
  refine j_seq ?_
  refine j_region ?_
  refine jv (v_move rfl) (.no rfl) rfl ?_
  refine jv (v_neq rfl rfl) (.no rfl) rfl ?_
  refine jo_nil ?_
  refine je_next ?_
  refine j_if rfl (fun z1 => ?_) (fun z1 => ?_)
  · first | (with_reducible replace z1 := of_decide_eq_true z1) | skip
    refine j_seq ?_
    refine j_region ?_
    refine jv (v_loadAc (vs := [_, _, _]) rfl Try.isAgg37 Try.sizeOf37 rfl rfl) (.no rfl) rfl ?_
    refine jv (v_move rfl) (.no rfl) rfl ?_
    refine jx (x_storec (cs' := [_, _, _]) rfl rfl rfl Try.sizeOf37 rfl rfl) (.no rfl) rfl ?_
    intro _
    refine jv (v_assign rfl) (.no rfl) rfl ?_
    refine jo_nil ?_
    refine je_next ?_
    refine j_ret ?_
    refine je_then (by simp) ?_
    refine je_ret rfl rfl rfl rfl rfl (rvs := [.cell 6 37, .tmp 7]) rfl (.cons (.agg (vs := [_, _, _]) rfl FindB.mem Try.isAgg37 Try.sizeOf37 rfl rfl) (.cons (.tmp rfl) .nil)) v ?_ (fun w h => h.fin (by unfold setC; rw [if_neg z1]; exact memc FindS.mem mem0)) (.inl rfl)
    rfl
  · first | (with_reducible replace z1 := of_decide_eq_false z1) | skip
    have z1 : (find3 (plainC cs) h).2 = 0 := by simpa using z1
    refine j_skip ?_
    refine je_next ?_
    refine j_seq ?_
    have hb := find3_bound (plainC cs) h z1
    rw [plainC_len] at hb
    refine j_region ?_
    refine jv (v_loadAc (vs := [_, _, _]) rfl Try.isAgg37 Try.sizeOf37 rfl rfl) (.no rfl) rfl ?_
    refine jv (v_move rfl) (.no rfl) rfl ?_
    refine jv (v_loadAc (vs := [_, _, _, _, _, _]) rfl Try.isAgg41 Try.sizeOf41 rfl rfl) (.no rfl) rfl ?_
    refine jq (q_callP (f57_spec (by omega) hb.1 hb.2) Try.call57 (by rfl) rfl (memc FindS.mem (memc FindS.mem mem0))) (.no rfl) rfl ?_
    intro u24
    refine jx (x_storec (cs' := [_, _, _]) rfl rfl rfl Try.sizeOf37 rfl rfl) (.no rfl) rfl ?_
    intro _
    refine jv (v_assign rfl) (.no rfl) rfl ?_
    refine jo_nil ?_
    refine je_next ?_
    refine j_ret ?_
    refine je_ret rfl rfl rfl rfl rfl (rvs := [.cell 6 37, .tmp 7]) rfl (.cons (.agg (vs := [_, _, _]) rfl FindB.mem Try.isAgg37 Try.sizeOf37 rfl rfl) (.cons (.tmp rfl) .nil)) u24 ?_ (fun w h => h.fin (by unfold setC; rw [if_pos z1]; exact memc FindS.mem mem0)) (.inl rfl)
    rw [z1]; rfl

theorem f64_spec {n last : Int} : Spec Try.prog 64 [iV n, iV last] [] [] Value (fun v => slabA v (newLast n last)) (fun _ => []) (fun v => [sl c3K v (newC3 n last)]) := by
  refine spec_of Try.func64 rfl Try.ntmps64 (by simp) fun ok w => ?_
  refine j_seq ?_
  refine j_region ?_
  refine jx (x_alloc Try.zeroValue77 Cells.agg) (.no rfl) rfl ?_
  intro B4
  refine jo_nil ?_
  refine je_next ?_
  refine j_seq ?_
  refine j_seq ?_
  refine j_region ?_
  refine jv (v_move rfl) (.no rfl) rfl ?_
  refine jv (v_lss rfl rfl) (.no rfl) rfl ?_
  refine jv (v_move rfl) (.no rfl) rfl ?_
  refine j_split 7 rfl (fun h1 => ?_) (fun h1 => ?_)
  · first | (with_reducible replace h1 := of_decide_eq_true h1) | skip
    refine j_off rfl rfl rfl (by decide) rfl ?_
    refine j_off rfl rfl rfl (by decide) rfl ?_
    refine jv (v_pickt rfl rfl) (.no rfl) rfl ?_
    refine jv (v_move rfl) (.no rfl) rfl ?_
    refine j_off rfl rfl rfl (by decide) rfl ?_
    refine j_off rfl rfl rfl (by decide) rfl ?_
    refine jv (v_pickt rfl rfl) (.no rfl) rfl ?_
    refine jv (v_move rfl) (.no rfl) rfl ?_
    refine j_off rfl rfl rfl (by decide) rfl ?_
    refine j_off rfl rfl rfl (by decide) rfl ?_
    refine jv (v_pickt rfl rfl) (.no rfl) rfl ?_
    refine jo_nil ?_
    refine je_next ?_
    refine j_ift rfl ?_
    refine j_seq ?_
    refine j_region ?_
    refine jv (v_build (ps := []) rfl b77c) (.no rfl) rfl ?_
    refine jx (x_storec (cs' := [_, _]) rfl rfl rfl Try.sizeOf77 rfl rfl) (.no rfl) rfl ?_
    intro _
    refine jo_nil ?_
    refine je_next ?_
    refine j_ret ?_
    refine je_then (by simp) ?_
    have e : ¬ newOk n last = true := by rw [new_no (by omega)]; simp
    refine je_ret rfl rfl rfl rfl rfl (rvs := [.cell 4 77]) rfl (.cons (.agg (vs := [_, _]) rfl FindB.mem Try.isAgg77 Try.sizeOf77 rfl rfl) .nil) (.slice none 0 0) ?_ (fun w h => (h.nilS (A := none) c3K).fin (by unfold newC3; rw [if_neg e]; exact memc FindS.mem mem0)) (.inl rfl)
    rw [show newLast n last = 0 from if_neg e]; rfl
  · first | (with_reducible replace h1 := of_decide_eq_false h1) | skip
    refine jv (v_move rfl) (.yes rfl rfl rfl) rfl ?_
    refine jv (v_gtr rfl rfl) (.yes rfl rfl rfl) rfl ?_
    refine jv (v_pickf rfl rfl) (.no rfl) rfl ?_
    refine jv (v_move rfl) (.no rfl) rfl ?_
    refine j_split 11 rfl (fun h2 => ?_) (fun h2 => ?_)
    · first | (with_reducible replace h2 := of_decide_eq_true h2) | skip
      refine j_off rfl rfl rfl (by decide) rfl ?_
      refine j_off rfl rfl rfl (by decide) rfl ?_
      refine jv (v_pickt rfl rfl) (.no rfl) rfl ?_
      refine jv (v_move rfl) (.no rfl) rfl ?_
      refine j_off rfl rfl rfl (by decide) rfl ?_
      refine j_off rfl rfl rfl (by decide) rfl ?_
      refine jv (v_pickt rfl rfl) (.no rfl) rfl ?_
      refine jo_nil ?_
      refine je_next ?_
      refine j_ift rfl ?_
      refine j_seq ?_
      refine j_region ?_
      refine jv (v_build (ps := []) rfl b77c) (.no rfl) rfl ?_
      refine jx (x_storec (cs' := [_, _]) rfl rfl rfl Try.sizeOf77 rfl rfl) (.no rfl) rfl ?_
      intro _
      refine jo_nil ?_
      refine je_next ?_
      refine j_ret ?_
      refine je_then (by simp) ?_
      have e : ¬ newOk n last = true := by rw [new_no (by omega)]; simp
      refine je_ret rfl rfl rfl rfl rfl (rvs := [.cell 4 77]) rfl (.cons (.agg (vs := [_, _]) rfl FindB.mem Try.isAgg77 Try.sizeOf77 rfl rfl) .nil) (.slice none 0 0) ?_ (fun w h => (h.nilS (A := none) c3K).fin (by unfold newC3; rw [if_neg e]; exact memc FindS.mem mem0)) (.inl rfl)
      rw [show newLast n last = 0 from if_neg e]; rfl
    · first | (with_reducible replace h2 := of_decide_eq_false h2) | skip
      refine jv (v_move rfl) (.yes rfl rfl rfl) rfl ?_
      refine jv (v_lss rfl rfl) (.yes rfl rfl rfl) rfl ?_
      refine jv (v_pickf rfl rfl) (.no rfl) rfl ?_
      refine jv (v_move rfl) (.no rfl) rfl ?_
      refine j_split 15 rfl (fun h3 => ?_) (fun h3 => ?_)
      · first | (with_reducible replace h3 := of_decide_eq_true h3) | skip
        refine j_off rfl rfl rfl (by decide) rfl ?_
        refine j_off rfl rfl rfl (by decide) rfl ?_
        refine jv (v_pickt rfl rfl) (.no rfl) rfl ?_
        refine jo_nil ?_
        refine je_next ?_
        refine j_ift rfl ?_
        refine j_seq ?_
        refine j_region ?_
        refine jv (v_build (ps := []) rfl b77c) (.no rfl) rfl ?_
        refine jx (x_storec (cs' := [_, _]) rfl rfl rfl Try.sizeOf77 rfl rfl) (.no rfl) rfl ?_
        intro _
        refine jo_nil ?_
        refine je_next ?_
        refine j_ret ?_
        refine je_then (by simp) ?_
        have e : ¬ newOk n last = true := by rw [new_no (by omega)]; simp
        refine je_ret rfl rfl rfl rfl rfl (rvs := [.cell 4 77]) rfl (.cons (.agg (vs := [_, _]) rfl FindB.mem Try.isAgg77 Try.sizeOf77 rfl rfl) .nil) (.slice none 0 0) ?_ (fun w h => (h.nilS (A := none) c3K).fin (by unfold newC3; rw [if_neg e]; exact memc FindS.mem mem0)) (.inl rfl)
        rw [show newLast n last = 0 from if_neg e]; rfl
      · first | (with_reducible replace h3 := of_decide_eq_false h3) | skip
        refine jv (v_move rfl) (.yes rfl rfl rfl) rfl ?_
        refine jv (v_gtr rfl rfl) (.yes rfl rfl rfl) rfl ?_
        refine jv (v_pickf rfl rfl) (.no rfl) rfl ?_
        refine jo_nil ?_
        refine je_next ?_
        refine j_if rfl (fun h4 => ?_) (fun h4 => ?_)
        · first | (with_reducible replace h4 := of_decide_eq_true h4) | skip
          refine j_seq ?_
          refine j_region ?_
          refine jv (v_build (ps := []) rfl b77c) (.no rfl) rfl ?_
          refine jx (x_storec (cs' := [_, _]) rfl rfl rfl Try.sizeOf77 rfl rfl) (.no rfl) rfl ?_
          intro _
          refine jo_nil ?_
          refine je_next ?_
          refine j_ret ?_
          refine je_then (by simp) ?_
          have e : ¬ newOk n last = true := by rw [new_no (by omega)]; simp
          refine je_ret rfl rfl rfl rfl rfl (rvs := [.cell 4 77]) rfl (.cons (.agg (vs := [_, _]) rfl FindB.mem Try.isAgg77 Try.sizeOf77 rfl rfl) .nil) (.slice none 0 0) ?_ (fun w h => (h.nilS (A := none) c3K).fin (by unfold newC3; rw [if_neg e]; exact memc FindS.mem mem0)) (.inl rfl)
          rw [show newLast n last = 0 from if_neg e]; rfl
        · first | (with_reducible replace h4 := of_decide_eq_false h4) | skip
          refine j_skip ?_
          refine je_next ?_
          refine j_seq ?_
          refine j_region ?_
          refine jv (v_move rfl) (.no rfl) rfl ?_
          refine jx (x_make (K := c3K) (⟨0, 0, 0⟩ : C3) rfl rfl (by omega) (by omega) Try.runUnderlying75 Try.sizeOf119 Try.zeroValue119 Cells.agg Try.typeInfo119 (by decide) (by decide) (fun _ _ => rfl)) (.no rfl) rfl ?_
          intro v21
          refine jv (v_move rfl) (.no rfl) rfl ?_
          refine jv (v_build1 _ rfl b77) (.no rfl) rfl ?_
          refine jx (x_storec (cs' := [_, _]) rfl rfl rfl Try.sizeOf77 rfl rfl) (.no rfl) rfl ?_
          intro _
          refine jo_nil ?_
          refine je_next ?_
          refine j_ret ?_
          have e := new_yes (n := n) (last := last) (by omega)
          refine je_ret rfl rfl rfl rfl rfl (rvs := [.cell 4 77]) rfl (.cons (.agg (vs := [_, _]) rfl FindB.mem Try.isAgg77 Try.sizeOf77 rfl rfl) .nil) v21 ?_ (fun w h => (h.freeze0 .head).fin (by unfold newC3; rw [if_pos e]; exact memc FindS.mem mem0)) (.inl rfl)
          rw [show newLast n last = last from if_pos e]; rfl

theorem f27_spec {n last : Int} : Spec Try.prog 27 [iV n, iV last] [] [] Value (fun v => stA v (newLast n last) 0) (fun _ => []) (fun v => [sl cellK v (newC n last)]) := by
  refine spec_of Try.func27 rfl Try.ntmps27 (by simp) fun ok w => ?_
  refine j_seq ?_
  refine j_region ?_
  refine jx (x_alloc Try.zeroValue37 Cells.agg) (.no rfl) rfl ?_
  intro B4
  refine jo_nil ?_
  refine je_next ?_
  refine j_seq ?_
  refine j_region ?_
  refine jv (v_move rfl) (.no rfl) rfl ?_
  refine jv (v_move rfl) (.no rfl) rfl ?_
  refine jq (q_callP (f64_spec) Try.call64 (by rfl) rfl mem0) (.no rfl) rfl ?_
  intro u8
  refine jx (x_alloc Try.zeroValue77 Cells.agg) (.no rfl) rfl ?_
  intro B5
  refine jx (x_storec (cs' := [_, _]) rfl rfl rfl Try.sizeOf77 rfl rfl) (.no rfl) rfl ?_
  intro _
  refine jo_nil ?_
  refine je_next ?_
  refine j_seq ?_
  refine j_draw [7] mixed ?_
  refine ja_take 0 rfl (by decide +kernel) (v_field (k' := 0) rfl Try.runUnderlying77 rfl Try.sizeOf75 (by decide) rfl) (.no rfl) rfl ?_
  refine ja_take 1 rfl (by decide +kernel) (v_loadc rfl Try.isAgg75 rfl) (.no rfl) rfl ?_
  refine ja_take 2 rfl (by decide +kernel) (v_len rfl FindR.row Try.runUnderlying75) (.no rfl) rfl ?_
  refine ja_take 4 rfl (by decide +kernel) (v_field (k' := 1) rfl Try.runUnderlying77 rfl Try.sizeOf3 (by decide) rfl) (.no rfl) rfl ?_
  refine ja_take 5 rfl (by decide +kernel) (v_loadc rfl Try.isAgg3 rfl) (.no rfl) rfl ?_
  refine ja_one (i := 3) (by decide +kernel) (jn_q rfl (q_make (K := cellK) zeroCell rfl rfl (by omega) (by have := new_len3 n last; omega) Try.runUnderlying35 Try.sizeOf83 Try.zeroValue83 Cells.agg Try.typeInfo83 (by decide) (by decide) (fun _ _ => ⟨_, rfl, Sl.nil⟩)) (.no rfl) rfl ?_)
  intro v12
  refine ja_take 6 rfl (by decide +kernel) (v_build1 _ rfl b37b) (.no rfl) rfl ?_
  refine ja_one (i := 7) (by decide +kernel) (jn_x rfl (by simp) (x_storec (cs' := [_, _, _]) rfl rfl rfl Try.sizeOf37 rfl rfl) (.no rfl) rfl ?_)
  intro _
  refine ja_nil (by decide +kernel) ?_
  refine je_next ?_
  refine j_ret ?_
  refine je_ret rfl rfl rfl rfl rfl (rvs := [.cell 4 37]) rfl (.cons (.agg (vs := [_, _, _]) rfl FindB.mem Try.isAgg37 Try.sizeOf37 rfl rfl) .nil) v12 ?_ (fun w h => h.fin (by rw [newC_eq]; exact memc FindS.mem mem0)) (.inl rfl)
  rfl

end Go.Proofs.Ytjgacbopccfecaa
