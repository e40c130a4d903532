/-
  Walks: function 62, function 94, function 95, function 96, function 97, function 63.
-/
import Derived.Test.YtjgacbopccfecaaO
set_option maxRecDepth 100000
set_option linter.unusedVariables false
set_option linter.unusedSimpArgs false
namespace Go.Proofs.Ytjgacbopccfecaa

theorem f62_spec {o : Obj} {f : Value} : Spec Try.prog 62 [objA o f] [] [sl intK f o.fields] Unit (fun _ => .bool (bare o)) (fun _ => []) (fun _ => []) := by
  refine spec_of Try.func62 rfl Try.ntmps62 (by simp) fun ok w => ?_
  refine j_seq ?_
  refine j_region ?_
  refine jx (x_boxc rfl) (.no rfl) rfl ?_
  intro B1
  refine jv (v_assign rfl) (.no rfl) rfl ?_
  refine jo_nil ?_
  refine je_next ?_
  refine j_seq ?_
  refine j_region ?_
  refine jv (v_field (k' := 0) rfl Try.runUnderlying29 rfl Try.sizeOf3 (by decide) rfl) (.no rfl) rfl ?_
  refine jv (v_loadc rfl Try.isAgg3 rfl) (.no rfl) rfl ?_
  refine jv (v_field (k' := 1) rfl Try.runUnderlying29 rfl Try.sizeOf3 (by decide) rfl) (.no rfl) rfl ?_
  refine jv (v_loadc rfl Try.isAgg3 rfl) (.no rfl) rfl ?_
  refine jv (v_field (k' := 2) rfl Try.runUnderlying29 rfl Try.sizeOf3 (by decide) rfl) (.no rfl) rfl ?_
  refine jv (v_loadc rfl Try.isAgg3 rfl) (.no rfl) rfl ?_
  refine jv (v_field (k' := 3) rfl Try.runUnderlying29 rfl Try.sizeOf3 (by decide) rfl) (.no rfl) rfl ?_
  refine jv (v_loadc rfl Try.isAgg3 rfl) (.no rfl) rfl ?_
  refine jv (v_build rfl b121) (.no rfl) rfl ?_
  refine jv (v_build (ps := []) rfl b121b) (.no rfl) rfl ?_
  refine jv (v_eq121 (by rfl) rfl rfl) (.no rfl) rfl ?_
  refine jv (v_move rfl) (.no rfl) rfl ?_
  refine j_split 14 rfl (fun h1 => ?_) (fun h1 => ?_)
  · first | (with_reducible replace h1 := of_decide_eq_true h1) | skip
    refine jv (v_field (k' := 4) rfl Try.runUnderlying29 rfl Try.sizeOf4 (by decide) rfl) (.yes rfl rfl rfl) rfl ?_
    refine jv (v_loadc rfl Try.isAgg4 rfl) (.yes rfl rfl rfl) rfl ?_
    refine jv (v_not rfl) (.yes rfl rfl rfl) rfl ?_
    refine jv (v_pickt rfl rfl) (.no rfl) rfl ?_
    refine jv (v_move rfl) (.no rfl) rfl ?_
    refine j_split 19 rfl (fun h2 => ?_) (fun h2 => ?_)
    · first | (with_reducible replace h2 := of_decide_eq_true h2) | skip
      refine jv (v_field (k' := 5) rfl Try.runUnderlying29 rfl Try.sizeOf27 (by decide) rfl) (.yes rfl rfl rfl) rfl ?_
      refine jv (v_loadc rfl Try.isAgg27 rfl) (.yes rfl rfl rfl) rfl ?_
      refine jv (v_len rfl FindR.row Try.runUnderlying27) (.yes rfl rfl rfl) rfl ?_
      refine jv (v_eql rfl rfl) (.yes rfl rfl rfl) rfl ?_
      refine jv (v_pickt rfl rfl) (.no rfl) rfl ?_
      refine jv (v_assign rfl) (.no rfl) rfl ?_
      refine jo_nil ?_
      refine je_next ?_
      refine j_ret ?_
      refine je_ret rfl rfl rfl rfl rfl (rvs := [.tmp 2]) rfl (.cons (.tmp rfl) .nil) () ?_ (fun w h => h.fin mem0) (.inl rfl)
      rw [bare_eq]; simp_all [resVal]
    · first | (with_reducible replace h2 := of_decide_eq_false h2) | skip
      refine j_off rfl rfl rfl (by decide) rfl ?_
      refine j_off rfl rfl rfl (by decide) rfl ?_
      refine j_off rfl rfl rfl (by decide) rfl ?_
      refine j_off rfl rfl rfl (by decide) rfl ?_
      refine jv (v_pickf rfl rfl) (.no rfl) rfl ?_
      refine jv (v_assign rfl) (.no rfl) rfl ?_
      refine jo_nil ?_
      refine je_next ?_
      refine j_ret ?_
      refine je_ret rfl rfl rfl rfl rfl (rvs := [.tmp 2]) rfl (.cons (.tmp rfl) .nil) () ?_ (fun w h => h.fin mem0) (.inl rfl)
      rw [bare_eq]; simp_all [resVal]
  · first | (with_reducible replace h1 := of_decide_eq_false h1) | skip
    refine j_off rfl rfl rfl (by decide) rfl ?_
    refine j_off rfl rfl rfl (by decide) rfl ?_
    refine j_off rfl rfl rfl (by decide) rfl ?_
    refine jv (v_pickf rfl rfl) (.no rfl) rfl ?_
    refine jv (v_move rfl) (.no rfl) rfl ?_
    refine j_off rfl rfl rfl (by decide) rfl ?_
    refine j_off rfl rfl rfl (by decide) rfl ?_
    refine j_off rfl rfl rfl (by decide) rfl ?_
    refine j_off rfl rfl rfl (by decide) rfl ?_
    refine jv (v_pickf rfl rfl) (.no rfl) rfl ?_
    refine jv (v_assign rfl) (.no rfl) rfl ?_
    refine jo_nil ?_
    refine je_next ?_
    refine j_ret ?_
    refine je_ret rfl rfl rfl rfl rfl (rvs := [.tmp 2]) rfl (.cons (.tmp rfl) .nil) () ?_ (fun w h => h.fin mem0) (.inl rfl)
    rw [bare_eq]; simp_all [resVal]

theorem f94_spec {o : Obj} {f : Value} {top : Int} {B : Nat} : Spec Try.prog 94 [objA o f, ptr B 0] [] [sl intK f o.fields, ro B [iV top] 3] Unit (fun _ => .bool (decide (1 ≤ o.serial ∧ o.serial ≤ top))) (fun _ => []) (fun _ => []) := by
  refine spec_of Try.func94 rfl Try.ntmps94 (by simp) fun ok w => ?_
  refine j_seq ?_
  refine j_region ?_
  refine jx (x_boxc rfl) (.no rfl) rfl ?_
  intro B2
  refine jv (v_assign rfl) (.no rfl) rfl ?_
  refine jo_nil ?_
  refine je_next ?_
  refine j_seq ?_
  refine j_region ?_
  refine jv (v_field (k' := 0) rfl Try.runUnderlying29 rfl Try.sizeOf3 (by decide) rfl) (.no rfl) rfl ?_
  refine jv (v_loadc rfl Try.isAgg3 rfl) (.no rfl) rfl ?_
  refine jv (v_leq rfl rfl) (.no rfl) rfl ?_
  refine jv (v_move rfl) (.no rfl) rfl ?_
  refine j_split 7 rfl (fun h1 => ?_) (fun h1 => ?_)
  · first | (with_reducible replace h1 := of_decide_eq_true h1) | skip
    refine jv (v_field (k' := 0) rfl Try.runUnderlying29 rfl Try.sizeOf3 (by decide) rfl) (.yes rfl rfl rfl) rfl ?_
    refine jv (v_loadc rfl Try.isAgg3 rfl) (.yes rfl rfl rfl) rfl ?_
    refine jv (v_loadc rfl Try.isAgg3 rfl) (.yes rfl rfl rfl) rfl ?_
    refine jv (v_leq rfl rfl) (.yes rfl rfl rfl) rfl ?_
    refine jv (v_pickt rfl rfl) (.no rfl) rfl ?_
    refine jv (v_assign rfl) (.no rfl) rfl ?_
    refine jo_nil ?_
    refine je_next ?_
    refine j_ret ?_
    refine je_ret rfl rfl rfl rfl rfl (rvs := [.tmp 3]) rfl (.cons (.tmp rfl) .nil) () ?_ (fun w h => h.fin mem0) (.inl rfl)
    first | (simp_all [resVal]; done) | (simp [resVal, *]; done) | (simp [resVal, *]; intros; omega)
  · first | (with_reducible replace h1 := of_decide_eq_false h1) | skip
    refine j_off rfl rfl rfl (by decide) rfl ?_
    refine j_off rfl rfl rfl (by decide) rfl ?_
    refine j_off rfl rfl rfl (by decide) rfl ?_
    refine j_off rfl rfl rfl (by decide) rfl ?_
    refine jv (v_pickf rfl rfl) (.no rfl) rfl ?_
    refine jv (v_assign rfl) (.no rfl) rfl ?_
    refine jo_nil ?_
    refine je_next ?_
    refine j_ret ?_
    refine je_ret rfl rfl rfl rfl rfl (rvs := [.tmp 3]) rfl (.cons (.tmp rfl) .nil) () ?_ (fun w h => h.fin mem0) (.inl rfl)
    first | (simp_all [resVal]; done) | (simp [resVal, *]; done) | (simp [resVal, *]; intros; omega)

theorem f95_spec {o : Obj} {f : Value} : Spec Try.prog 95 [objA o f] [] [sl intK f o.fields] Unit (fun _ => .bool (decide (0 ≤ o.strong ∧ 0 ≤ o.weak))) (fun _ => []) (fun _ => []) := by
  refine spec_of Try.func95 rfl Try.ntmps95 (by simp) fun ok w => ?_
  refine j_seq ?_
  refine j_region ?_
  refine jx (x_boxc rfl) (.no rfl) rfl ?_
  intro B1
  refine jv (v_assign rfl) (.no rfl) rfl ?_
  refine jo_nil ?_
  refine je_next ?_
  refine j_seq ?_
  refine j_region ?_
  refine jv (v_field (k' := 1) rfl Try.runUnderlying29 rfl Try.sizeOf3 (by decide) rfl) (.no rfl) rfl ?_
  refine jv (v_loadc rfl Try.isAgg3 rfl) (.no rfl) rfl ?_
  refine jv (v_geq rfl rfl) (.no rfl) rfl ?_
  refine jv (v_move rfl) (.no rfl) rfl ?_
  refine j_split 6 rfl (fun h1 => ?_) (fun h1 => ?_)
  · first | (with_reducible replace h1 := of_decide_eq_true h1) | skip
    refine jv (v_field (k' := 2) rfl Try.runUnderlying29 rfl Try.sizeOf3 (by decide) rfl) (.yes rfl rfl rfl) rfl ?_
    refine jv (v_loadc rfl Try.isAgg3 rfl) (.yes rfl rfl rfl) rfl ?_
    refine jv (v_geq rfl rfl) (.yes rfl rfl rfl) rfl ?_
    refine jv (v_pickt rfl rfl) (.no rfl) rfl ?_
    refine jv (v_assign rfl) (.no rfl) rfl ?_
    refine jo_nil ?_
    refine je_next ?_
    refine j_ret ?_
    refine je_ret rfl rfl rfl rfl rfl (rvs := [.tmp 2]) rfl (.cons (.tmp rfl) .nil) () ?_ (fun w h => h.fin mem0) (.inl rfl)
    first | (simp_all [resVal]; done) | (simp [resVal, *]; done) | (simp [resVal, *]; intros; omega)
  · first | (with_reducible replace h1 := of_decide_eq_false h1) | skip
    refine j_off rfl rfl rfl (by decide) rfl ?_
    refine j_off rfl rfl rfl (by decide) rfl ?_
    refine j_off rfl rfl rfl (by decide) rfl ?_
    refine jv (v_pickf rfl rfl) (.no rfl) rfl ?_
    refine jv (v_assign rfl) (.no rfl) rfl ?_
    refine jo_nil ?_
    refine je_next ?_
    refine j_ret ?_
    refine je_ret rfl rfl rfl rfl rfl (rvs := [.tmp 2]) rfl (.cons (.tmp rfl) .nil) () ?_ (fun w h => h.fin mem0) (.inl rfl)
    first | (simp_all [resVal]; done) | (simp [resVal, *]; done) | (simp [resVal, *]; intros; omega)

theorem f96_spec {o : Obj} {f : Value} : Spec Try.prog 96 [objA o f] [] [sl intK f o.fields] Unit (fun _ => .bool (decide (-1 ≤ o.prog ∧ o.prog < 6))) (fun _ => []) (fun _ => []) := by
  refine spec_of Try.func96 rfl Try.ntmps96 (by simp) fun ok w => ?_
  refine j_seq ?_
  refine j_region ?_
  refine jx (x_boxc rfl) (.no rfl) rfl ?_
  intro B1
  refine jv (v_assign rfl) (.no rfl) rfl ?_
  refine jo_nil ?_
  refine je_next ?_
  refine j_seq ?_
  refine j_region ?_
  refine jv (v_field (k' := 3) rfl Try.runUnderlying29 rfl Try.sizeOf3 (by decide) rfl) (.no rfl) rfl ?_
  refine jv (v_loadc rfl Try.isAgg3 rfl) (.no rfl) rfl ?_
  refine jv (v_leq rfl rfl) (.no rfl) rfl ?_
  refine jv (v_move rfl) (.no rfl) rfl ?_
  refine j_split 6 rfl (fun h1 => ?_) (fun h1 => ?_)
  · first | (with_reducible replace h1 := of_decide_eq_true h1) | skip
    refine jv (v_field (k' := 3) rfl Try.runUnderlying29 rfl Try.sizeOf3 (by decide) rfl) (.yes rfl rfl rfl) rfl ?_
    refine jv (v_loadc rfl Try.isAgg3 rfl) (.yes rfl rfl rfl) rfl ?_
    refine jv (v_lss rfl rfl) (.yes rfl rfl rfl) rfl ?_
    refine jv (v_pickt rfl rfl) (.no rfl) rfl ?_
    refine jv (v_assign rfl) (.no rfl) rfl ?_
    refine jo_nil ?_
    refine je_next ?_
    refine j_ret ?_
    refine je_ret rfl rfl rfl rfl rfl (rvs := [.tmp 2]) rfl (.cons (.tmp rfl) .nil) () ?_ (fun w h => h.fin mem0) (.inl rfl)
    first | (simp_all [resVal]; done) | (simp [resVal, *]; done) | (simp [resVal, *]; intros; omega)
  · first | (with_reducible replace h1 := of_decide_eq_false h1) | skip
    refine j_off rfl rfl rfl (by decide) rfl ?_
    refine j_off rfl rfl rfl (by decide) rfl ?_
    refine j_off rfl rfl rfl (by decide) rfl ?_
    refine jv (v_pickf rfl rfl) (.no rfl) rfl ?_
    refine jv (v_assign rfl) (.no rfl) rfl ?_
    refine jo_nil ?_
    refine je_next ?_
    refine j_ret ?_
    refine je_ret rfl rfl rfl rfl rfl (rvs := [.tmp 2]) rfl (.cons (.tmp rfl) .nil) () ?_ (fun w h => h.fin mem0) (.inl rfl)
    first | (simp_all [resVal]; done) | (simp [resVal, *]; done) | (simp [resVal, *]; intros; omega)

theorem f97_spec {o : Obj} {f : Value} : Spec Try.prog 97 [objA o f] [] [sl intK f o.fields] Unit (fun _ => .bool (decide ((o.fields.length : Int) ≤ 4))) (fun _ => []) (fun _ => []) := by
  refine spec_of Try.func97 rfl Try.ntmps97 (by simp) fun ok w => ?_
  refine j_seq ?_
  refine j_region ?_
  refine jx (x_boxc rfl) (.no rfl) rfl ?_
  intro B1
  refine jv (v_assign rfl) (.no rfl) rfl ?_
  refine jo_nil ?_
  refine je_next ?_
  refine j_seq ?_
  refine j_region ?_
  refine jv (v_field (k' := 5) rfl Try.runUnderlying29 rfl Try.sizeOf27 (by decide) rfl) (.no rfl) rfl ?_
  refine jv (v_loadc rfl Try.isAgg27 rfl) (.no rfl) rfl ?_
  refine jv (v_len rfl FindR.row Try.runUnderlying27) (.no rfl) rfl ?_
  refine jv (v_leq rfl rfl) (.no rfl) rfl ?_
  refine jv (v_assign rfl) (.no rfl) rfl ?_
  refine jo_nil ?_
  refine je_next ?_
  refine j_ret ?_
  refine je_ret rfl rfl rfl rfl rfl (rvs := [.tmp 2]) rfl (.cons (.tmp rfl) .nil) () ?_ (fun w h => h.fin mem0) (.inl rfl)
  first | (simp_all [resVal]; done) | (simp [resVal, *]; done) | (simp [resVal, *]; intros; omega)

theorem f63_spec {serial : Int} : Spec Try.prog 63 [iV serial] [] [] (Nat × Value) (fun b => b.2) (fun _ => []) (fun b => [ro b.1 [iV serial] 3, sl valK b.2 (rulesV b.1)]) := by
  refine spec_of Try.func63 rfl Try.ntmps63 (by simp) fun ok w => ?_
  refine j_seq ?_
  refine j_region ?_
  refine jx (x_boxc rfl) (.no rfl) rfl ?_
  intro B1
  refine jv (v_assign rfl) (.no rfl) rfl ?_
  refine jo_nil ?_
  refine je_next ?_
  refine j_seq ?_
  refine j_region ?_
  refine jv (v_func rfl) (.no rfl) rfl ?_
  refine jv (v_build rfl b93) (.no rfl) rfl ?_
  refine jv (v_build (ps := [(0, _)]) rfl b93) (.no rfl) rfl ?_
  refine jv (v_build (ps := [(0, _)]) rfl b93) (.no rfl) rfl ?_
  refine jv (v_build (ps := [(0, _)]) rfl b93) (.no rfl) rfl ?_
  refine jq (q_lit4 (c0 := [_]) (c1 := []) (c2 := []) (c3 := []) rfl rfl rfl rfl Try.runUnderlying90 Try.sizeOf93 Try.zeroValue93) (.no rfl) rfl ?_
  intro v8
  refine jv (v_assign rfl) (.no rfl) rfl ?_
  refine jo_nil ?_
  refine je_next ?_
  refine j_ret ?_
  refine je_ret rfl rfl rfl rfl rfl (rvs := [.tmp 2]) rfl (.cons (.tmp rfl) .nil) (B1, v8) ?_ (fun w h => (h.freezeB0 .head).fin (memc FindM.mem (memc FindS.mem mem0))) (.inl rfl)
  rfl

end Go.Proofs.Ytjgacbopccfecaa
