/-
  Walks: function 101, function 68, function 72, function 118, function 91, function 92, function 100, function 67.
-/
import Derived.Test.YtjgacbopccfecaaL
set_option maxRecDepth 100000
set_option linter.unusedVariables false
set_option linter.unusedSimpArgs false
namespace Go.Proofs.Ytjgacbopccfecaa

theorem f101_spec {a b : Int} (ha : InI a) (hb : 0 ≤ b) (hb2 : b ≤ 9223372036854775807) : Spec Try.prog 101 [iV a, iV b] [] [] Unit (fun _ => .bool (inB a b)) (fun _ => []) (fun _ => []) := by
  refine spec_of Try.func101 rfl Try.ntmps101 (by simp) fun ok w => ?_
  refine j_seq ?_
  refine j_region ?_
  refine jv (v_assign rfl) (.no rfl) rfl ?_
  refine jo_nil ?_
  refine je_next ?_
  refine j_seq ?_
  refine j_region ?_
  refine jv (v_move rfl) (.no rfl) rfl ?_
  refine jv (v_conv rfl Try.runUnderlying3 Try.runUnderlying124 rfl) (.no rfl) rfl ?_
  refine jv (v_move rfl) (.no rfl) rfl ?_
  refine jv (v_conv rfl Try.runUnderlying3 Try.runUnderlying124 rfl) (.no rfl) rfl ?_
  refine jv (v_uleq rfl rfl) (.no rfl) rfl ?_
  refine jv (v_assign rfl) (.no rfl) rfl ?_
  refine jo_nil ?_
  refine je_next ?_
  refine j_ret ?_
  refine je_ret rfl rfl rfl rfl rfl (rvs := [.tmp 4]) rfl (.cons (.tmp rfl) .nil) () ?_ (fun w h => h.fin mem0) (.inl rfl)
  simp only [resVal]; rw [within_eq ha hb hb2]

theorem f68_spec {s g : Int} (hs : InI s) (hg : InI g) : Spec Try.prog 68 [iV s, iV g] [] [] Unit (fun _ => iV (pack s g)) (fun _ => []) (fun _ => []) := by
  refine spec_of Try.func68 rfl Try.ntmps68 (by simp) fun ok w => ?_
  refine j_seq ?_
  refine j_region ?_
  refine jv (v_assign rfl) (.no rfl) rfl ?_
  refine jo_nil ?_
  refine je_next ?_
  refine j_seq ?_
  refine j_seq ?_
  refine j_region ?_
  refine jv (v_move rfl) (.no rfl) rfl ?_
  refine jq (q_callP (f101_spec ‹_› (by decide) (by decide)) Try.call101 (by rfl) rfl mem0) (.no rfl) rfl ?_
  intro x6
  refine jv (v_not rfl) (.no rfl) rfl ?_
  refine jv (v_move rfl) (.no rfl) rfl ?_
  refine j_split 8 rfl (fun h1 => ?_) (fun h1 => ?_)
  · first | (with_reducible replace h1 := of_decide_eq_true h1) | skip
    refine j_off rfl rfl rfl (by decide) rfl ?_
    refine j_off rfl rfl rfl (by decide) rfl ?_
    refine j_off rfl rfl rfl (by decide) rfl ?_
    refine jv (v_pickt rfl rfl) (.no rfl) rfl ?_
    refine jo_nil ?_
    refine je_next ?_
    refine j_ift rfl ?_
    refine j_seq ?_
    refine j_region ?_
    refine jv (v_assign rfl) (.no rfl) rfl ?_
    refine jo_nil ?_
    refine je_next ?_
    refine j_ret ?_
    refine je_then (by simp) ?_
    refine je_ret rfl rfl rfl rfl rfl (rvs := [.tmp 4]) rfl (.cons (.tmp rfl) .nil) () ?_ (fun w h => h.fin mem0) (.inl rfl)
    first | (simp_all [resVal, pack]; done) | simp [resVal, pack, h1, h2]
  · first | (with_reducible replace h1 := of_decide_eq_false h1) | skip
    refine jv (v_move rfl) (.yes rfl rfl rfl) rfl ?_
    refine jq (q_callP (f101_spec ‹_› (by decide) (by decide)) Try.call101 (by rfl) rfl mem0) (.yes rfl rfl rfl) rfl ?_
    intro x10
    refine jv (v_not rfl) (.yes rfl rfl rfl) rfl ?_
    refine jv (v_pickf rfl rfl) (.no rfl) rfl ?_
    refine jo_nil ?_
    refine je_next ?_
    refine j_if rfl (fun h2 => ?_) (fun h2 => ?_)
    · first | (with_reducible replace h2 := of_decide_eq_true h2) | skip
      refine j_seq ?_
      refine j_region ?_
      refine jv (v_assign rfl) (.no rfl) rfl ?_
      refine jo_nil ?_
      refine je_next ?_
      refine j_ret ?_
      refine je_then (by simp) ?_
      refine je_ret rfl rfl rfl rfl rfl (rvs := [.tmp 4]) rfl (.cons (.tmp rfl) .nil) () ?_ (fun w h => h.fin mem0) (.inl rfl)
      first | (simp_all [resVal, pack]; done) | simp [resVal, pack, h1, h2]
    · first | (with_reducible replace h2 := of_decide_eq_false h2) | skip
      have hs' := h1
      refine j_skip ?_
      refine je_next ?_
      refine j_seq ?_
      refine j_region ?_
      refine jv (v_move rfl) (.no rfl) rfl ?_
      have h0s : inB s 23 = true := by simpa using h1
      have h0g : inB g 9 = true := by simpa using h2
      have h5 := h0s
      have h6 := h0g
      simp only [inB, decide_eq_true_eq] at h5 h6
      refine jv (v_shl rfl rfl (by decide) (r := g * 32) (by simp) (by omega) (by omega)) (.no rfl) rfl ?_
      refine jv (v_move rfl) (.no rfl) rfl ?_
      refine jv (v_or rfl rfl (or_run h0s h0g _)) (.no rfl) rfl ?_
      refine jv (v_add rfl rfl (by omega) (by omega)) (.no rfl) rfl ?_
      refine jv (v_assign rfl) (.no rfl) rfl ?_
      refine jo_nil ?_
      refine je_next ?_
      refine j_ret ?_
      refine je_ret rfl rfl rfl rfl rfl (rvs := [.tmp 4]) rfl (.cons (.tmp rfl) .nil) () ?_ (fun w h => h.fin mem0) (.inl rfl)
      first | (simp_all [resVal, pack]; done) | simp [resVal, pack, h1, h2]

theorem f72_spec {s g : Int} : Spec Try.prog 72 [iV s, iV g] [] [] Unit (fun _ => iV (pack s g)) (fun _ => []) (fun _ => []) := by
  refine spec_of Try.func72 rfl Try.ntmps72 (by simp) fun ok w => ?_
  refine j_seq ?_
  refine j_region ?_
  refine jv (v_assign rfl) (.no rfl) rfl ?_
  refine jo_nil ?_
  refine je_next ?_
  refine j_seq ?_
  refine j_seq ?_
  refine j_region ?_
  refine jv (v_move rfl) (.no rfl) rfl ?_
  refine jv (v_lss rfl rfl) (.no rfl) rfl ?_
  refine jv (v_move rfl) (.no rfl) rfl ?_
  refine j_split 7 rfl (fun h1 => ?_) (fun h1 => ?_)
  · first | (with_reducible replace h1 := of_decide_eq_true h1) | skip
    refine j_off rfl rfl rfl (by decide) rfl ?_
    refine j_off rfl rfl rfl (by decide) rfl ?_
    refine jv (v_pickt rfl rfl) (.no rfl) rfl ?_
    refine jv (v_move rfl) (.no rfl) rfl ?_
    refine j_off rfl rfl rfl (by decide) rfl ?_
    refine j_off rfl rfl rfl (by decide) rfl ?_
    refine jv (v_pickt rfl rfl) (.no rfl) rfl ?_
    refine jv (v_move rfl) (.no rfl) rfl ?_
    refine j_off rfl rfl rfl (by decide) rfl ?_
    refine j_off rfl rfl rfl (by decide) rfl ?_
    refine jv (v_pickt rfl rfl) (.no rfl) rfl ?_
    refine jo_nil ?_
    refine je_next ?_
    refine j_ift rfl ?_
    refine j_seq ?_
    refine j_region ?_
    refine jv (v_assign rfl) (.no rfl) rfl ?_
    refine jo_nil ?_
    refine je_next ?_
    refine j_ret ?_
    refine je_then (by simp) ?_
    refine je_ret rfl rfl rfl rfl rfl (rvs := [.tmp 4]) rfl (.cons (.tmp rfl) .nil) () ?_ (fun w h => h.fin mem0) (.inl rfl)
    exact congrArg (Value.int .i64) (pack_a (by first | (left; omega) | (right; exact ⟨by omega, by omega, by omega, by omega, by omega⟩)))
  · first | (with_reducible replace h1 := of_decide_eq_false h1) | skip
    refine jv (v_move rfl) (.yes rfl rfl rfl) rfl ?_
    refine jv (v_gtr rfl rfl) (.yes rfl rfl rfl) rfl ?_
    refine jv (v_pickf rfl rfl) (.no rfl) rfl ?_
    refine jv (v_move rfl) (.no rfl) rfl ?_
    refine j_split 11 rfl (fun h2 => ?_) (fun h2 => ?_)
    · first | (with_reducible replace h2 := of_decide_eq_true h2) | skip
      refine j_off rfl rfl rfl (by decide) rfl ?_
      refine j_off rfl rfl rfl (by decide) rfl ?_
      refine jv (v_pickt rfl rfl) (.no rfl) rfl ?_
      refine jv (v_move rfl) (.no rfl) rfl ?_
      refine j_off rfl rfl rfl (by decide) rfl ?_
      refine j_off rfl rfl rfl (by decide) rfl ?_
      refine jv (v_pickt rfl rfl) (.no rfl) rfl ?_
      refine jo_nil ?_
      refine je_next ?_
      refine j_ift rfl ?_
      refine j_seq ?_
      refine j_region ?_
      refine jv (v_assign rfl) (.no rfl) rfl ?_
      refine jo_nil ?_
      refine je_next ?_
      refine j_ret ?_
      refine je_then (by simp) ?_
      refine je_ret rfl rfl rfl rfl rfl (rvs := [.tmp 4]) rfl (.cons (.tmp rfl) .nil) () ?_ (fun w h => h.fin mem0) (.inl rfl)
      exact congrArg (Value.int .i64) (pack_a (by first | (left; omega) | (right; exact ⟨by omega, by omega, by omega, by omega, by omega⟩)))
    · first | (with_reducible replace h2 := of_decide_eq_false h2) | skip
      refine jv (v_move rfl) (.yes rfl rfl rfl) rfl ?_
      refine jv (v_lss rfl rfl) (.yes rfl rfl rfl) rfl ?_
      refine jv (v_pickf rfl rfl) (.no rfl) rfl ?_
      refine jv (v_move rfl) (.no rfl) rfl ?_
      refine j_split 15 rfl (fun h3 => ?_) (fun h3 => ?_)
      · first | (with_reducible replace h3 := of_decide_eq_true h3) | skip
        refine j_off rfl rfl rfl (by decide) rfl ?_
        refine j_off rfl rfl rfl (by decide) rfl ?_
        refine jv (v_pickt rfl rfl) (.no rfl) rfl ?_
        refine jo_nil ?_
        refine je_next ?_
        refine j_ift rfl ?_
        refine j_seq ?_
        refine j_region ?_
        refine jv (v_assign rfl) (.no rfl) rfl ?_
        refine jo_nil ?_
        refine je_next ?_
        refine j_ret ?_
        refine je_then (by simp) ?_
        refine je_ret rfl rfl rfl rfl rfl (rvs := [.tmp 4]) rfl (.cons (.tmp rfl) .nil) () ?_ (fun w h => h.fin mem0) (.inl rfl)
        exact congrArg (Value.int .i64) (pack_a (by first | (left; omega) | (right; exact ⟨by omega, by omega, by omega, by omega, by omega⟩)))
      · first | (with_reducible replace h3 := of_decide_eq_false h3) | skip
        refine jv (v_move rfl) (.yes rfl rfl rfl) rfl ?_
        refine jv (v_gtr rfl rfl) (.yes rfl rfl rfl) rfl ?_
        refine jv (v_pickf rfl rfl) (.no rfl) rfl ?_
        refine jo_nil ?_
        refine je_next ?_
        refine j_if rfl (fun h4 => ?_) (fun h4 => ?_)
        · first | (with_reducible replace h4 := of_decide_eq_true h4) | skip
          refine j_seq ?_
          refine j_region ?_
          refine jv (v_assign rfl) (.no rfl) rfl ?_
          refine jo_nil ?_
          refine je_next ?_
          refine j_ret ?_
          refine je_then (by simp) ?_
          refine je_ret rfl rfl rfl rfl rfl (rvs := [.tmp 4]) rfl (.cons (.tmp rfl) .nil) () ?_ (fun w h => h.fin mem0) (.inl rfl)
          exact congrArg (Value.int .i64) (pack_a (by first | (left; omega) | (right; exact ⟨by omega, by omega, by omega, by omega, by omega⟩)))
        · first | (with_reducible replace h4 := of_decide_eq_false h4) | skip
          refine j_skip ?_
          refine je_next ?_
          refine j_seq ?_
          refine j_region ?_
          refine jv (v_move rfl) (.no rfl) rfl ?_
          refine jv (v_add rfl rfl (by omega) (by omega)) (.no rfl) rfl ?_
          refine jv (v_move rfl) (.no rfl) rfl ?_
          refine jv (v_mul rfl rfl (by omega) (by omega)) (.no rfl) rfl ?_
          refine jv (v_add rfl rfl (by omega) (by omega)) (.no rfl) rfl ?_
          refine jv (v_assign rfl) (.no rfl) rfl ?_
          refine jo_nil ?_
          refine je_next ?_
          refine j_ret ?_
          refine je_ret rfl rfl rfl rfl rfl (rvs := [.tmp 4]) rfl (.cons (.tmp rfl) .nil) () ?_ (fun w h => h.fin mem0) (.inl rfl)
          exact congrArg (Value.int .i64) (pack_a (by first | (left; omega) | (right; exact ⟨by omega, by omega, by omega, by omega, by omega⟩)))

theorem f118_spec {h : Int} : Spec Try.prog 118 [iV h] [] [] Unit (fun _ => .bool (valid h)) (fun _ => []) (fun _ => []) := by
  refine spec_of Try.func118 rfl Try.ntmps118 (by simp) fun ok w => ?_
  refine j_seq ?_
  refine j_region ?_
  refine jv (v_assign rfl) (.no rfl) rfl ?_
  refine jo_nil ?_
  refine je_next ?_
  refine j_seq ?_
  refine j_seq ?_
  refine j_region ?_
  refine jv (v_move rfl) (.no rfl) rfl ?_
  refine jv (v_lss rfl rfl) (.no rfl) rfl ?_
  refine jv (v_move rfl) (.no rfl) rfl ?_
  refine j_split 5 rfl (fun h1 => ?_) (fun h1 => ?_)
  · first | (with_reducible replace h1 := of_decide_eq_true h1) | skip
    refine j_off rfl rfl rfl (by decide) rfl ?_
    refine j_off rfl rfl rfl (by decide) rfl ?_
    refine jv (v_pickt rfl rfl) (.no rfl) rfl ?_
    refine jo_nil ?_
    refine je_next ?_
    refine j_ift rfl ?_
    refine j_seq ?_
    refine j_region ?_
    refine jv (v_assign rfl) (.no rfl) rfl ?_
    refine jo_nil ?_
    refine je_next ?_
    refine j_ret ?_
    refine je_then (by simp) ?_
    refine je_ret rfl rfl rfl rfl rfl (rvs := [.tmp 2]) rfl (.cons (.tmp rfl) .nil) () ?_ (fun w h => h.fin mem0) (.inl rfl)
    simp [resVal, valid]; omega
  · first | (with_reducible replace h1 := of_decide_eq_false h1) | skip
    refine jv (v_move rfl) (.yes rfl rfl rfl) rfl ?_
    refine jv (v_gtr rfl rfl) (.yes rfl rfl rfl) rfl ?_
    refine jv (v_pickf rfl rfl) (.no rfl) rfl ?_
    refine jo_nil ?_
    refine je_next ?_
    refine j_if rfl (fun h2 => ?_) (fun h2 => ?_)
    · first | (with_reducible replace h2 := of_decide_eq_true h2) | skip
      refine j_seq ?_
      refine j_region ?_
      refine jv (v_assign rfl) (.no rfl) rfl ?_
      refine jo_nil ?_
      refine je_next ?_
      refine j_ret ?_
      refine je_then (by simp) ?_
      refine je_ret rfl rfl rfl rfl rfl (rvs := [.tmp 2]) rfl (.cons (.tmp rfl) .nil) () ?_ (fun w h => h.fin mem0) (.inl rfl)
      simp [resVal, valid]; omega
    · first | (with_reducible replace h2 := of_decide_eq_false h2) | skip
      refine j_skip ?_
      refine je_next ?_
      refine j_seq ?_
      refine j_region ?_
      refine jv (v_move rfl) (.no rfl) rfl ?_
      refine jv (v_sub rfl rfl (by omega) (by omega)) (.no rfl) rfl ?_
      refine jv (v_rem rfl rfl (by omega) (by omega) (by omega)) (.no rfl) rfl ?_
      refine jv (v_move rfl) (.no rfl) rfl ?_
      refine jv (v_sub rfl rfl (by omega) (by omega)) (.no rfl) rfl ?_
      refine jv (v_quo rfl rfl (by omega) (by omega) (by omega)) (.no rfl) rfl ?_
      refine jq (q_callP (f72_spec) Try.call72 (by rfl) rfl mem0) (.no rfl) rfl ?_
      intro x15
      refine jv (v_move rfl) (.no rfl) rfl ?_
      refine jv (v_eql rfl rfl) (.no rfl) rfl ?_
      refine jv (v_assign rfl) (.no rfl) rfl ?_
      refine jo_nil ?_
      refine je_next ?_
      refine j_ret ?_
      refine je_ret rfl rfl rfl rfl rfl (rvs := [.tmp 2]) rfl (.cons (.tmp rfl) .nil) () ?_ (fun w h => h.fin mem0) (.inl rfl)
      simp [resVal, valid]; omega

theorem f91_spec {h : Int} : Spec Try.prog 91 [iV h] [] [] Unit (fun _ => iV (slotOf h)) (fun _ => []) (fun _ => []) := by
  refine spec_of Try.func91 rfl Try.ntmps91 (by simp) fun ok w => ?_
  refine j_seq ?_
  refine j_region ?_
  refine jv (v_assign rfl) (.no rfl) rfl ?_
  refine jo_nil ?_
  refine je_next ?_
  refine j_seq ?_
  refine j_seq ?_
  refine j_region ?_
  refine jv (v_move rfl) (.no rfl) rfl ?_
  refine jq (q_callP (f118_spec) Try.call118 (by rfl) rfl mem0) (.no rfl) rfl ?_
  intro x4
  refine jv (v_not rfl) (.no rfl) rfl ?_
  refine jo_nil ?_
  refine je_next ?_
  refine j_if rfl (fun h1 => ?_) (fun h1 => ?_)
  · first | (with_reducible replace h1 := of_decide_eq_true h1) | skip
    refine j_seq ?_
    refine j_region ?_
    refine jv (v_assign rfl) (.no rfl) rfl ?_
    refine jo_nil ?_
    refine je_next ?_
    refine j_ret ?_
    refine je_then (by simp) ?_
    refine je_ret rfl rfl rfl rfl rfl (rvs := [.tmp 2]) rfl (.cons (.tmp rfl) .nil) () ?_ (fun w h => h.fin mem0) (.inl rfl)
    simp_all [resVal, slotOf]
  · first | (with_reducible replace h1 := of_decide_eq_false h1) | skip
    have hv : valid h = true := by simpa using h1
    have hb := valid_le hv
    refine j_skip ?_
    refine je_next ?_
    refine j_seq ?_
    refine j_region ?_
    refine jv (v_move rfl) (.no rfl) rfl ?_
    refine jv (v_sub rfl rfl (by omega) (by omega)) (.no rfl) rfl ?_
    refine jv (v_rem rfl rfl (by omega) (by omega) (by omega)) (.no rfl) rfl ?_
    refine jv (v_assign rfl) (.no rfl) rfl ?_
    refine jo_nil ?_
    refine je_next ?_
    refine j_ret ?_
    refine je_ret rfl rfl rfl rfl rfl (rvs := [.tmp 2]) rfl (.cons (.tmp rfl) .nil) () ?_ (fun w h => h.fin mem0) (.inl rfl)
    simp_all [resVal, slotOf]

theorem f92_spec {h : Int} : Spec Try.prog 92 [iV h] [] [] Unit (fun _ => iV (genOf h)) (fun _ => []) (fun _ => []) := by
  refine spec_of Try.func92 rfl Try.ntmps92 (by simp) fun ok w => ?_
  refine j_seq ?_
  refine j_region ?_
  refine jv (v_assign rfl) (.no rfl) rfl ?_
  refine jo_nil ?_
  refine je_next ?_
  refine j_seq ?_
  refine j_seq ?_
  refine j_region ?_
  refine jv (v_move rfl) (.no rfl) rfl ?_
  refine jq (q_callP (f118_spec) Try.call118 (by rfl) rfl mem0) (.no rfl) rfl ?_
  intro x4
  refine jv (v_not rfl) (.no rfl) rfl ?_
  refine jo_nil ?_
  refine je_next ?_
  refine j_if rfl (fun h1 => ?_) (fun h1 => ?_)
  · first | (with_reducible replace h1 := of_decide_eq_true h1) | skip
    refine j_seq ?_
    refine j_region ?_
    refine jv (v_assign rfl) (.no rfl) rfl ?_
    refine jo_nil ?_
    refine je_next ?_
    refine j_ret ?_
    refine je_then (by simp) ?_
    refine je_ret rfl rfl rfl rfl rfl (rvs := [.tmp 2]) rfl (.cons (.tmp rfl) .nil) () ?_ (fun w h => h.fin mem0) (.inl rfl)
    simp_all [resVal, genOf]
  · first | (with_reducible replace h1 := of_decide_eq_false h1) | skip
    have hv : valid h = true := by simpa using h1
    have hb := valid_le hv
    refine j_skip ?_
    refine je_next ?_
    refine j_seq ?_
    refine j_region ?_
    refine jv (v_move rfl) (.no rfl) rfl ?_
    refine jv (v_sub rfl rfl (by omega) (by omega)) (.no rfl) rfl ?_
    refine jv (v_quo rfl rfl (by omega) (by omega) (by omega)) (.no rfl) rfl ?_
    refine jv (v_assign rfl) (.no rfl) rfl ?_
    refine jo_nil ?_
    refine je_next ?_
    refine j_ret ?_
    refine je_ret rfl rfl rfl rfl rfl (rvs := [.tmp 2]) rfl (.cons (.tmp rfl) .nil) () ?_ (fun w h => h.fin mem0) (.inl rfl)
    simp_all [resVal, genOf]

theorem f100_spec {h : Int} : Spec Try.prog 100 [iV h] [] [] Unit (fun _ => .bool false) (fun _ => []) (fun _ => []) := by
  refine spec_of Try.func100 rfl Try.ntmps100 (by simp) fun ok w => ?_
  refine j_seq ?_
  refine j_region ?_
  refine jv (v_assign rfl) (.no rfl) rfl ?_
  refine jo_nil ?_
  refine je_next ?_
  refine j_seq ?_
  refine j_region ?_
  refine jv (v_move rfl) (.no rfl) rfl ?_
  refine jv (v_move rfl) (.no rfl) rfl ?_
  refine jv (v_neq rfl rfl) (.no rfl) rfl ?_
  refine jv (v_assign rfl) (.no rfl) rfl ?_
  refine jo_nil ?_
  refine je_next ?_
  refine j_ret ?_
  refine je_ret rfl rfl rfl rfl rfl (rvs := [.tmp 2]) rfl (.cons (.tmp rfl) .nil) () ?_ (fun w h => h.fin mem0) (.inl rfl)
  simp [resVal]

theorem f67_spec {x y : Int} : Spec Try.prog 67 [iV x, iV y] [] [] Unit (fun _ => iV (if x < y then -1 else if y < x then 1 else 0)) (fun _ => []) (fun _ => []) := by
  refine spec_of Try.func67 rfl Try.ntmps67 (by simp) fun ok w => ?_
  refine j_seq ?_
  refine j_region ?_
  refine jv (v_assign rfl) (.no rfl) rfl ?_
  refine jo_nil ?_
  refine je_next ?_
  refine j_seq ?_
  refine j_region ?_
  refine jv (v_move rfl) (.no rfl) rfl ?_
  refine jq (q_callP (f100_spec) Try.call100 (by rfl) rfl mem0) (.no rfl) rfl ?_
  intro x8
  refine jv (v_assign rfl) (.no rfl) rfl ?_
  refine jo_nil ?_
  refine je_next ?_
  refine j_seq ?_
  refine j_region ?_
  refine jv (v_move rfl) (.no rfl) rfl ?_
  refine jq (q_callP (f100_spec) Try.call100 (by rfl) rfl mem0) (.no rfl) rfl ?_
  intro x10
  refine jv (v_assign rfl) (.no rfl) rfl ?_
  refine jo_nil ?_
  refine je_next ?_
  refine j_seq ?_
  refine j_seq ?_
  refine j_region ?_
  refine jv (v_move rfl) (.no rfl) rfl ?_
  refine jo_nil ?_
  refine je_next ?_
  refine j_if rfl (fun h1 => ?_) (fun h1 => ?_)
  · first | (with_reducible replace h1 := of_decide_eq_true h1) | skip
    refine j_seq ?_
    refine j_seq ?_
    refine j_region ?_
    refine jv (v_move rfl) (.no rfl) rfl ?_
    refine jo_nil ?_
    refine je_next ?_
    refine j_if rfl (fun h2 => ?_) (fun h2 => ?_)
    · first | (with_reducible replace h2 := of_decide_eq_true h2) | skip
      refine j_seq ?_
      refine j_region ?_
      refine jv (v_assign rfl) (.no rfl) rfl ?_
      refine jo_nil ?_
      refine je_next ?_
      refine j_ret ?_
      refine je_then (by simp) ?_
      refine je_then (by simp) ?_
      refine je_ret rfl rfl rfl rfl rfl (rvs := [.tmp 4]) rfl (.cons (.tmp rfl) .nil) () ?_ (fun w h => h.fin mem0) (.inl rfl)
      first | (simp_all [resVal]; done) | (exact congrArg (Value.int .i64) (by first | (split <;> first | omega | (split <;> omega))))
    · first | (with_reducible replace h2 := of_decide_eq_false h2) | skip
      refine j_skip ?_
      refine je_next ?_
      refine j_seq ?_
      refine j_region ?_
      refine jv (v_assign rfl) (.no rfl) rfl ?_
      refine jo_nil ?_
      refine je_next ?_
      refine j_ret ?_
      refine je_then (by simp) ?_
      refine je_ret rfl rfl rfl rfl rfl (rvs := [.tmp 4]) rfl (.cons (.tmp rfl) .nil) () ?_ (fun w h => h.fin mem0) (.inl rfl)
      first | (simp_all [resVal]; done) | (exact congrArg (Value.int .i64) (by first | (split <;> first | omega | (split <;> omega))))
  · first | (with_reducible replace h1 := of_decide_eq_false h1) | skip
    refine j_skip ?_
    refine je_next ?_
    refine j_seq ?_
    refine j_seq ?_
    refine j_region ?_
    refine jv (v_move rfl) (.no rfl) rfl ?_
    refine jo_nil ?_
    refine je_next ?_
    refine j_if rfl (fun h3 => ?_) (fun h3 => ?_)
    · first | (with_reducible replace h3 := of_decide_eq_true h3) | skip
      refine j_seq ?_
      refine j_region ?_
      refine jv (v_assign rfl) (.no rfl) rfl ?_
      refine jo_nil ?_
      refine je_next ?_
      refine j_ret ?_
      refine je_then (by simp) ?_
      refine je_ret rfl rfl rfl rfl rfl (rvs := [.tmp 4]) rfl (.cons (.tmp rfl) .nil) () ?_ (fun w h => h.fin mem0) (.inl rfl)
      first | (simp_all [resVal]; done) | (exact congrArg (Value.int .i64) (by first | (split <;> first | omega | (split <;> omega))))
    · first | (with_reducible replace h3 := of_decide_eq_false h3) | skip
      refine j_skip ?_
      refine je_next ?_
      refine j_seq ?_
      refine j_seq ?_
      refine j_region ?_
      refine jv (v_move rfl) (.no rfl) rfl ?_
      refine jv (v_move rfl) (.no rfl) rfl ?_
      refine jv (v_lss rfl rfl) (.no rfl) rfl ?_
      refine jo_nil ?_
      refine je_next ?_
      refine j_if rfl (fun h4 => ?_) (fun h4 => ?_)
      · first | (with_reducible replace h4 := of_decide_eq_true h4) | skip
        refine j_seq ?_
        refine j_region ?_
        refine jv (v_assign rfl) (.no rfl) rfl ?_
        refine jo_nil ?_
        refine je_next ?_
        refine j_ret ?_
        refine je_then (by simp) ?_
        refine je_ret rfl rfl rfl rfl rfl (rvs := [.tmp 4]) rfl (.cons (.tmp rfl) .nil) () ?_ (fun w h => h.fin mem0) (.inl rfl)
        first | (simp_all [resVal]; done) | (exact congrArg (Value.int .i64) (by first | (split <;> first | omega | (split <;> omega))))
      · first | (with_reducible replace h4 := of_decide_eq_false h4) | skip
        refine j_skip ?_
        refine je_next ?_
        refine j_seq ?_
        refine j_seq ?_
        refine j_region ?_
        refine jv (v_move rfl) (.no rfl) rfl ?_
        refine jv (v_move rfl) (.no rfl) rfl ?_
        refine jv (v_gtr rfl rfl) (.no rfl) rfl ?_
        refine jo_nil ?_
        refine je_next ?_
        refine j_if rfl (fun h5 => ?_) (fun h5 => ?_)
        · first | (with_reducible replace h5 := of_decide_eq_true h5) | skip
          refine j_seq ?_
          refine j_region ?_
          refine jv (v_assign rfl) (.no rfl) rfl ?_
          refine jo_nil ?_
          refine je_next ?_
          refine j_ret ?_
          refine je_then (by simp) ?_
          refine je_ret rfl rfl rfl rfl rfl (rvs := [.tmp 4]) rfl (.cons (.tmp rfl) .nil) () ?_ (fun w h => h.fin mem0) (.inl rfl)
          first | (simp_all [resVal]; done) | (exact congrArg (Value.int .i64) (by first | (split <;> first | omega | (split <;> omega))))
        · first | (with_reducible replace h5 := of_decide_eq_false h5) | skip
          refine j_skip ?_
          refine je_next ?_
          refine j_seq ?_
          refine j_region ?_
          refine jv (v_assign rfl) (.no rfl) rfl ?_
          refine jo_nil ?_
          refine je_next ?_
          refine j_ret ?_
          refine je_ret rfl rfl rfl rfl rfl (rvs := [.tmp 4]) rfl (.cons (.tmp rfl) .nil) () ?_ (fun w h => h.fin mem0) (.inl rfl)
          first | (simp_all [resVal]; done) | (exact congrArg (Value.int .i64) (by first | (split <;> first | omega | (split <;> omega))))

end Go.Proofs.Ytjgacbopccfecaa
