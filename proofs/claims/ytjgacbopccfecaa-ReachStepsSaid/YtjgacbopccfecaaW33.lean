/-
  Walks: function 43, function 45, function 47, function 86, function 49.
-/
import Derived.Test.YtjgacbopccfecaaN10
import Derived.Test.YtjgacbopccfecaaBk
import Derived.Test.YtjgacbopccfecaaW30
import Derived.Test.YtjgacbopccfecaaW32
set_option maxRecDepth 100000
set_option linter.unusedVariables false
set_option linter.unusedSimpArgs false
namespace Go.Proofs.Ytjgacbopccfecaa

theorem f43_spec {vs vl : Value} {cs : List Cell} {last serial : Int} {l : List Int} (hG : Gens cs) (hA : Apart cs) (hF : ∀ c ∈ cs, c.val.fields.length ≤ 1000) (hl : l.length ≤ 1000000) : Spec Try.prog 43 [stA vs last serial, vl] [] [sl cellK vs cs, sl intK vl l] Value (fun v' => v') (fun _ => []) (fun v' => [sl intK v' (fromR cs l)]) := by
  refine spec_of Try.func43 rfl Try.ntmps43 (by simp) fun ok w => ?_
  refine j_seq ?_
  refine j_region ?_
  refine jx (x_boxc rfl) (.no rfl) rfl ?_
  intro B2
  refine jv (v_assign rfl) (.no rfl) rfl ?_
  refine jo_nil ?_
  refine je_next ?_
  refine j_seq ?_
  refine j_region ?_
  refine jv (v_loadAc (vs := [_, _, _]) rfl Try.isAgg26 Try.sizeOf26 rfl rfl) (.no rfl) rfl ?_
  refine jv (v_move rfl) (.no rfl) rfl ?_
  refine jq (q_callP (f80_spec hG hA hF hl) Try.call80 (by rfl) rfl (memc FindS.mem (memc FindS.mem mem0))) (.no rfl) rfl ?_
  intro p10
  refine jv (v_move rfl) (.no rfl) rfl ?_
  refine jv (v_ext rfl rfl) (.no rfl) rfl ?_
  refine jv (v_ext rfl rfl) (.no rfl) rfl ?_
  refine jv (v_assign rfl) (.no rfl) rfl ?_
  refine jv (v_assign rfl) (.no rfl) rfl ?_
  refine jo_nil ?_
  refine je_next ?_
  refine j_seq ?_
  refine j_region ?_
  refine jv (v_move rfl) (.no rfl) rfl ?_
  refine jv (v_assign rfl) (.no rfl) rfl ?_
  refine jo_nil ?_
  refine je_next ?_
  refine j_ret ?_
  refine je_ret rfl rfl rfl rfl rfl (rvs := [.tmp 4]) rfl (.cons (.tmp rfl) .nil) p10.1 ?_ (fun w h => h.fin (memc FindS.mem mem0)) (.inl rfl)
  rfl

theorem f45_spec {vs vl : Value} {cs : List Cell} {last serial : Int} {l : List Int} (hG : Gens cs) (hA : Apart cs) (hF : ∀ c ∈ cs, c.val.fields.length ≤ 1000) (hl : l.length ≤ 1000000) : Spec Try.prog 45 [stA vs last serial, vl] [] [sl cellK vs cs, sl intK vl l] Value (fun v' => v') (fun _ => []) (fun v' => [sl intK v' (lostR cs l)]) := by
  refine spec_of Try.func45 rfl Try.ntmps45 (by simp) fun ok w => ?_
  refine j_seq ?_
  refine j_region ?_
  refine jx (x_boxc rfl) (.no rfl) rfl ?_
  intro B2
  refine jv (v_assign rfl) (.no rfl) rfl ?_
  refine jo_nil ?_
  refine je_next ?_
  refine j_seq ?_
  refine j_region ?_
  refine jv (v_loadAc (vs := [_, _, _]) rfl Try.isAgg26 Try.sizeOf26 rfl rfl) (.no rfl) rfl ?_
  refine jv (v_move rfl) (.no rfl) rfl ?_
  refine jq (q_callP (f80_spec hG hA hF hl) Try.call80 (by rfl) rfl (memc FindS.mem (memc FindS.mem mem0))) (.no rfl) rfl ?_
  intro p10
  refine jv (v_move rfl) (.no rfl) rfl ?_
  refine jv (v_ext rfl rfl) (.no rfl) rfl ?_
  refine jv (v_ext rfl rfl) (.no rfl) rfl ?_
  refine jv (v_assign rfl) (.no rfl) rfl ?_
  refine jv (v_assign rfl) (.no rfl) rfl ?_
  refine jo_nil ?_
  refine je_next ?_
  refine j_seq ?_
  refine j_region ?_
  refine jv (v_move rfl) (.no rfl) rfl ?_
  refine jv (v_assign rfl) (.no rfl) rfl ?_
  refine jo_nil ?_
  refine je_next ?_
  refine j_ret ?_
  refine je_ret rfl rfl rfl rfl rfl (rvs := [.tmp 4]) rfl (.cons (.tmp rfl) .nil) p10.2 ?_ (fun w h => h.fin (memc FindS.mem mem0)) (.inl rfl)
  rfl

theorem f47_spec {vs : Value} {cs : List Cell} {last serial a b : Int} (hG : Gens cs) (hA : Apart cs) (hF : ∀ c ∈ cs, c.val.fields.length ≤ 1000) : Spec Try.prog 47 [stA vs last serial, iV a, iV b] [] [sl cellK vs cs] Unit (fun _ => .bool (decide (b ∈ fromR cs [a]))) (fun _ => []) (fun _ => []) := by
  refine spec_of Try.func47 rfl Try.ntmps47 (by simp) fun ok w => ?_
  refine j_seq ?_
  refine j_region ?_
  refine jx (x_boxc rfl) (.no rfl) rfl ?_
  intro B3
  refine jv (v_assign rfl) (.no rfl) rfl ?_
  refine jo_nil ?_
  refine je_next ?_
  refine j_seq ?_
  refine j_region ?_
  refine jv (v_loadAc (vs := [_, _, _]) rfl Try.isAgg26 Try.sizeOf26 rfl rfl) (.no rfl) rfl ?_
  refine jv (v_move rfl) (.no rfl) rfl ?_
  refine jq (q_lit1 (K := intK) a rfl (Cells.one rfl) Try.runUnderlying27 Try.sizeOf3 Try.zeroValue3 rfl (by decide) (by decide) (fun _ _ _ => rfl)) (.no rfl) rfl ?_
  intro v9
  refine jq (q_callP (f43_spec hG hA hF (by simp)) Try.call43 (by rfl) rfl (memc FindS.mem (memc FindS.mem mem0))) (.no rfl) rfl ?_
  intro u10
  refine jv (v_move rfl) (.no rfl) rfl ?_
  refine jq (q_callP (f83_spec) Try.call83 (by rfl) rfl (memc FindS.mem mem0)) (.no rfl) rfl ?_
  intro x12
  refine jv (v_assign rfl) (.no rfl) rfl ?_
  refine jo_nil ?_
  refine je_next ?_
  refine j_ret ?_
  refine je_ret rfl rfl rfl rfl rfl (rvs := [.tmp 6]) rfl (.cons (.tmp rfl) .nil) () ?_ (fun w h => h.fin mem0) (.inl rfl)
  rfl

theorem f86_spec {vl : Value} {l : List Int} {h : Int} {B : Nat} : Spec Try.prog 86 [iV h, ptr B 0] [] [ro B [vl] 27, sl intK vl l] Unit (fun _ => .bool (!decide (h ∈ l))) (fun _ => []) (fun _ => []) := by
  refine spec_of Try.func86 rfl Try.ntmps86 (by simp) fun ok w => ?_
  refine j_seq ?_
  refine j_region ?_
  refine jv (v_assign rfl) (.no rfl) rfl ?_
  refine jo_nil ?_
  refine je_next ?_
  refine j_seq ?_
  refine j_region ?_
  refine jv (v_loadc rfl Try.isAgg27 rfl) (.no rfl) rfl ?_
  refine jv (v_move rfl) (.no rfl) rfl ?_
  refine jq (q_callP (f83_spec) Try.call83 (by rfl) rfl (memc FindS.mem mem0)) (.no rfl) rfl ?_
  intro x6
  refine jv (v_not rfl) (.no rfl) rfl ?_
  refine jv (v_assign rfl) (.no rfl) rfl ?_
  refine jo_nil ?_
  refine je_next ?_
  refine j_ret ?_
  refine je_ret rfl rfl rfl rfl rfl (rvs := [.tmp 3]) rfl (.cons (.tmp rfl) .nil) () ?_ (fun w h => h.fin mem0) (.inl rfl)
  rfl

theorem f49_spec {vs vl : Value} {cs : List Cell} {last serial : Int} {l : List Int} (hG : Gens cs) (hA : Apart cs) (hF : ∀ c ∈ cs, c.val.fields.length ≤ 1000) (hl : l.length ≤ 1000000) : Spec Try.prog 49 [stA vs last serial, vl] [] [sl cellK vs cs, sl intK vl l] Unit (fun _ => .bool (closedR cs l)) (fun _ => []) (fun _ => []) := by
  refine spec_of Try.func49 rfl Try.ntmps49 (by simp) fun ok w => ?_
  refine j_seq ?_
  refine j_region ?_
  refine jx (x_boxc rfl) (.no rfl) rfl ?_
  intro B2
  refine jx (x_boxc rfl) (.no rfl) rfl ?_
  intro B3
  refine jv (v_assign rfl) (.no rfl) rfl ?_
  refine jo_nil ?_
  refine je_next ?_
  refine j_seq ?_
  refine j_to (fun _ _ h => h) (fun w h => h.freezeB0 (B := B3) .head) ?_
  refine j_region ?_
  refine jv (v_loadAc (vs := [_, _, _]) rfl Try.isAgg26 Try.sizeOf26 rfl rfl) (.no rfl) rfl ?_
  refine jv (v_loadc rfl Try.isAgg27 rfl) (.no rfl) rfl ?_
  refine jq (q_callP (f43_spec hG hA hF hl) Try.call43 (by rfl) rfl (memc FindS.mem (memc FindS.mem mem0))) (.no rfl) rfl ?_
  intro u7
  refine jv (v_func rfl) (.no rfl) rfl ?_
  refine jq (q_callP (f85_spec (caps := [ptr B3 0]) (Γc := [ro B3 [vl] 27, sl intK vl l]) (p := fun x => !decide (x ∈ l)) Try.call86 (fun x => f86_spec)) Try.call85 (by rfl) rfl (memc FindS.mem (memc FindM.mem (memc FindS.mem mem0)))) (.no rfl) rfl ?_
  intro x9
  refine jv (v_not rfl) (.no rfl) rfl ?_
  refine jv (v_assign rfl) (.no rfl) rfl ?_
  refine jo_nil ?_
  refine je_next ?_
  refine j_ret ?_
  refine je_ret rfl rfl rfl rfl rfl (rvs := [.tmp 4]) rfl (.cons (.tmp rfl) .nil) () ?_ (fun w h => h.fin mem0) (.inl rfl)
  exact congrArg Value.bool (closed_same hG l)

end Go.Proofs.Ytjgacbopccfecaa
