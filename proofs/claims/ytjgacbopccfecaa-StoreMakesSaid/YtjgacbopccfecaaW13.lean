/-
  Walks: function 15.
-/
import Derived.Test.YtjgacbopccfecaaZ
set_option maxRecDepth 100000
set_option linter.unusedVariables false
set_option linter.unusedSimpArgs false
namespace Go.Proofs.Ytjgacbopccfecaa

theorem f15_spec : Spec Try.prog 15 [] [] [] Unit (fun _ => .bool true) (fun _ => []) (fun _ => []) := by
  refine spec_of Try.func15 rfl Try.ntmps15 (by simp) fun ok w => ?_
  refine j_seq ?_
  refine j_region ?_
  refine jv (v_assign rfl) (.no rfl) rfl ?_
  refine jo_nil ?_
  refine je_next ?_
  refine j_seq ?_
  refine j_region ?_
  refine jq (q_callP (f25_at (n := 2) (last := 3) (cs := [zeroCell, zeroCell]) (l := 3) (by decide +kernel) (by decide +kernel)) Try.call25 (by rfl) rfl mem0) (.no rfl) rfl ?_
  intro u17
  refine jx (x_alloc Try.zeroValue26 Cells.agg) (.no rfl) rfl ?_
  intro B1
  refine jx (x_storec (cs' := [_, _, _]) rfl rfl rfl Try.sizeOf26 rfl rfl) (.no rfl) rfl ?_
  intro _
  refine jo_nil ?_
  refine je_next ?_
  refine j_seq ?_
  refine j_region ?_
  refine jv (v_loadAc (vs := [_, _, _]) rfl Try.isAgg26 Try.sizeOf26 rfl rfl) (.no rfl) rfl ?_
  refine jq (q_callP (f29_at (cs := [zeroCell, zeroCell]) (ds := [lv 1 (-1) [0, 0], zeroCell]) (serial := 0) (n := 2) (prog := (-1)) (s := 1) (h := 1) (e := 0) (by decide +kernel) (by decide +kernel) (ge_of (by decide +kernel)) (by decide +kernel) (by decide +kernel)) Try.call29 (by rfl) rfl (memc FindS.mem mem0)) (.no rfl) rfl ?_
  intro u20
  refine jv (v_move rfl) (.no rfl) rfl ?_
  refine jv (v_ext rfl rfl) (.no rfl) rfl ?_
  refine jv (v_ext rfl rfl) (.no rfl) rfl ?_
  refine jv (v_ext rfl rfl) (.no rfl) rfl ?_
  refine jx (x_alloc Try.zeroValue26 Cells.agg) (.no rfl) rfl ?_
  intro B2
  refine jx (x_storec (cs' := [_, _, _]) rfl rfl rfl Try.sizeOf26 rfl rfl) (.no rfl) rfl ?_
  intro _
  refine jv (v_assign rfl) (.no rfl) rfl ?_
  refine jv (v_assign rfl) (.no rfl) rfl ?_
  refine jo_nil ?_
  refine je_next ?_
  refine j_seq ?_
  refine j_region ?_
  refine jv (v_loadAc (vs := [_, _, _]) rfl Try.isAgg26 Try.sizeOf26 rfl rfl) (.no rfl) rfl ?_
  refine jq (q_callP (f29_at (cs := [lv 1 (-1) [0, 0], zeroCell]) (ds := [lv 1 (-1) [0, 0], lv 2 5 []]) (serial := 1) (n := 0) (prog := 5) (s := 2) (h := 2) (e := 0) (by decide +kernel) (by decide +kernel) (ge_of (by decide +kernel)) (by decide +kernel) (by decide +kernel)) Try.call29 (by rfl) rfl (memc FindS.mem mem0)) (.no rfl) rfl ?_
  intro u26
  refine jv (v_move rfl) (.no rfl) rfl ?_
  refine jv (v_ext rfl rfl) (.no rfl) rfl ?_
  refine jv (v_ext rfl rfl) (.no rfl) rfl ?_
  refine jv (v_ext rfl rfl) (.no rfl) rfl ?_
  refine jx (x_alloc Try.zeroValue26 Cells.agg) (.no rfl) rfl ?_
  intro B5
  refine jx (x_storec (cs' := [_, _, _]) rfl rfl rfl Try.sizeOf26 rfl rfl) (.no rfl) rfl ?_
  intro _
  refine jv (v_assign rfl) (.no rfl) rfl ?_
  refine jv (v_assign rfl) (.no rfl) rfl ?_
  refine jo_nil ?_
  refine je_next ?_
  refine j_seq ?_
  refine j_region ?_
  refine jv (v_loadAc (vs := [_, _, _]) rfl Try.isAgg26 Try.sizeOf26 rfl rfl) (.no rfl) rfl ?_
  refine jq (q_callP (f29_at (cs := [lv 1 (-1) [0, 0], lv 2 5 []]) (ds := [lv 1 (-1) [0, 0], lv 2 5 []]) (serial := 2) (n := 0) (prog := 0) (s := 2) (h := 0) (e := 4) (by decide +kernel) (by decide +kernel) (ge_of (by decide +kernel)) (by decide +kernel) (by decide +kernel)) Try.call29 (by rfl) rfl (memc FindS.mem mem0)) (.no rfl) rfl ?_
  intro u32
  refine jv (v_move rfl) (.no rfl) rfl ?_
  refine jv (v_ext rfl rfl) (.no rfl) rfl ?_
  refine jv (v_ext rfl rfl) (.no rfl) rfl ?_
  refine jv (v_ext rfl rfl) (.no rfl) rfl ?_
  refine jx (x_alloc Try.zeroValue26 Cells.agg) (.no rfl) rfl ?_
  intro B8
  refine jx (x_storec (cs' := [_, _, _]) rfl rfl rfl Try.sizeOf26 rfl rfl) (.no rfl) rfl ?_
  intro _
  refine jv (v_assign rfl) (.no rfl) rfl ?_
  refine jv (v_assign rfl) (.no rfl) rfl ?_
  refine jo_nil ?_
  refine je_next ?_
  refine j_seq ?_
  refine j_region ?_
  refine jv (v_loadAc (vs := [_, _, _]) rfl Try.isAgg26 Try.sizeOf26 rfl rfl) (.no rfl) rfl ?_
  refine jv (v_move rfl) (.no rfl) rfl ?_
  refine jv (v_move rfl) (.no rfl) rfl ?_
  refine jq (q_callP (f52_at (cs := [lv 1 (-1) [0, 0], lv 2 5 []]) (ds := [lv 1 (-1) [0, 2], lv 2 5 []]) (h := 1) (i := 1) (k := 2) (e := 0) (by decide +kernel) (by decide +kernel) (ge_of (by decide +kernel)) (le_of (by decide +kernel))) Try.call52 (by rfl) rfl (memc FindS.mem mem0)) (.no rfl) rfl ?_
  intro u40
  refine jv (v_move rfl) (.no rfl) rfl ?_
  refine jv (v_ext rfl rfl) (.no rfl) rfl ?_
  refine jv (v_ext rfl rfl) (.no rfl) rfl ?_
  refine jx (x_alloc Try.zeroValue26 Cells.agg) (.no rfl) rfl ?_
  intro B11
  refine jx (x_storec (cs' := [_, _, _]) rfl rfl rfl Try.sizeOf26 rfl rfl) (.no rfl) rfl ?_
  intro _
  refine jv (v_assign rfl) (.no rfl) rfl ?_
  refine jo_nil ?_
  refine je_next ?_
  refine j_seq ?_
  refine j_region ?_
  refine jv (v_loadAc (vs := [_, _, _]) rfl Try.isAgg26 Try.sizeOf26 rfl rfl) (.no rfl) rfl ?_
  refine jv (v_move rfl) (.no rfl) rfl ?_
  refine jq (q_callP (f53_at (cs := [lv 1 (-1) [0, 2], lv 2 5 []]) (h := 1) (i := 1) (x := 2) (e := 0) (by decide +kernel) (by decide +kernel) (ge_of (by decide +kernel))) Try.call53 (by rfl) rfl (memc FindS.mem mem0)) (.no rfl) rfl ?_
  intro x46
  refine jv (v_move rfl) (.no rfl) rfl ?_
  refine jv (v_ext rfl rfl) (.no rfl) rfl ?_
  refine jv (v_ext rfl rfl) (.no rfl) rfl ?_
  refine jv (v_assign rfl) (.no rfl) rfl ?_
  refine jv (v_assign rfl) (.no rfl) rfl ?_
  refine jo_nil ?_
  refine je_next ?_
  refine j_seq ?_
  refine j_region ?_
  refine jv (v_loadAc (vs := [_, _, _]) rfl Try.isAgg26 Try.sizeOf26 rfl rfl) (.no rfl) rfl ?_
  refine jv (v_move rfl) (.no rfl) rfl ?_
  refine jq (q_callP (f22_at (cs := [lv 1 (-1) [0, 2], lv 2 5 []]) (h := 2) (o := ob 2 5 []) (e := 0) (by decide +kernel) (by decide +kernel) (ge_of (by decide +kernel))) Try.call22 (by rfl) rfl (memc FindS.mem mem0)) (.no rfl) rfl ?_
  intro f52
  refine jv (v_move rfl) (.no rfl) rfl ?_
  refine jv (v_ext rfl rfl) (.no rfl) rfl ?_
  refine jv (v_ext rfl rfl) (.no rfl) rfl ?_
  refine jx (x_alloc Try.zeroValue29 Cells.agg) (.no rfl) rfl ?_
  intro B15
  refine jx (x_storec (cs' := [_, _, _, _, _, _]) rfl rfl rfl Try.sizeOf29 rfl rfl) (.no rfl) rfl ?_
  intro _
  refine jv (v_assign rfl) (.no rfl) rfl ?_
  refine jo_nil ?_
  refine je_next ?_
  refine j_seq ?_
  refine j_region ?_
  refine jv (v_move rfl) (.no rfl) rfl ?_
  refine jv (v_eql rfl rfl) (.no rfl) rfl ?_
  refine jv (v_move rfl) (.no rfl) rfl ?_
  refine jv (v_move rfl) (.yes rfl rfl rfl) rfl ?_
  refine jv (v_eql rfl rfl) (.yes rfl rfl rfl) rfl ?_
  refine jv (v_pickt rfl rfl) (.no rfl) rfl ?_
  refine jv (v_move rfl) (.no rfl) rfl ?_
  refine jv (v_move rfl) (.yes rfl rfl rfl) rfl ?_
  refine jv (v_eql rfl rfl) (.yes rfl rfl rfl) rfl ?_
  refine jv (v_pickt rfl rfl) (.no rfl) rfl ?_
  refine jv (v_move rfl) (.no rfl) rfl ?_
  refine jv (v_move rfl) (.yes rfl rfl rfl) rfl ?_
  refine jv (v_eql rfl rfl) (.yes rfl rfl rfl) rfl ?_
  refine jv (v_pickt rfl rfl) (.no rfl) rfl ?_
  refine jv (v_move rfl) (.no rfl) rfl ?_
  refine jv (v_move rfl) (.yes rfl rfl rfl) rfl ?_
  refine jv (v_eql rfl rfl) (.yes rfl rfl rfl) rfl ?_
  refine jv (v_pickt rfl rfl) (.no rfl) rfl ?_
  refine jv (v_move rfl) (.no rfl) rfl ?_
  refine jv (v_move rfl) (.yes rfl rfl rfl) rfl ?_
  refine jv (v_eql rfl rfl) (.yes rfl rfl rfl) rfl ?_
  refine jv (v_pickt rfl rfl) (.no rfl) rfl ?_
  refine jv (v_move rfl) (.no rfl) rfl ?_
  refine jv (v_move rfl) (.yes rfl rfl rfl) rfl ?_
  refine jv (v_eql rfl rfl) (.yes rfl rfl rfl) rfl ?_
  refine jv (v_pickt rfl rfl) (.no rfl) rfl ?_
  refine jv (v_move rfl) (.no rfl) rfl ?_
  refine jv (v_move rfl) (.yes rfl rfl rfl) rfl ?_
  refine jv (v_eql rfl rfl) (.yes rfl rfl rfl) rfl ?_
  refine jv (v_pickt rfl rfl) (.no rfl) rfl ?_
  refine jv (v_move rfl) (.no rfl) rfl ?_
  refine jv (v_field (k' := 0) rfl Try.runUnderlying29 rfl Try.sizeOf3 (by decide) rfl) (.yes rfl rfl rfl) rfl ?_
  refine jv (v_loadc rfl Try.isAgg3 rfl) (.yes rfl rfl rfl) rfl ?_
  refine jv (v_eql rfl rfl) (.yes rfl rfl rfl) rfl ?_
  refine jv (v_pickt rfl rfl) (.no rfl) rfl ?_
  refine jv (v_move rfl) (.no rfl) rfl ?_
  refine jv (v_field (k' := 3) rfl Try.runUnderlying29 rfl Try.sizeOf3 (by decide) rfl) (.yes rfl rfl rfl) rfl ?_
  refine jv (v_loadc rfl Try.isAgg3 rfl) (.yes rfl rfl rfl) rfl ?_
  refine jv (v_eql rfl rfl) (.yes rfl rfl rfl) rfl ?_
  refine jv (v_pickt rfl rfl) (.no rfl) rfl ?_
  refine jv (v_move rfl) (.no rfl) rfl ?_
  refine jv (v_move rfl) (.yes rfl rfl rfl) rfl ?_
  refine jv (v_eql rfl rfl) (.yes rfl rfl rfl) rfl ?_
  refine jv (v_pickt rfl rfl) (.no rfl) rfl ?_
  refine jv (v_move rfl) (.no rfl) rfl ?_
  refine jv (v_loadAc (vs := [_, _, _]) rfl Try.isAgg26 Try.sizeOf26 rfl rfl) (.yes rfl rfl rfl) rfl ?_
  refine jq (q_callP (f28_at (cs := [lv 1 (-1) [0, 2], lv 2 5 []]) (l := [1, 2]) (by decide +kernel) (by decide +kernel) (ge_of (by decide +kernel)) (right6_apart (last := 9) (serial := 1000) (by decide +kernel))) Try.call28 (by rfl) rfl (memc FindS.mem mem0)) (.yes rfl rfl rfl) rfl ?_
  intro u101
  refine jv (v_len rfl FindR.row Try.runUnderlying27) (.yes rfl rfl rfl) rfl ?_
  refine jv (v_eql rfl rfl) (.yes rfl rfl rfl) rfl ?_
  refine jv (v_pickt rfl rfl) (.no rfl) rfl ?_
  refine jv (v_move rfl) (.no rfl) rfl ?_
  refine jv (v_loadAc (vs := [_, _, _]) rfl Try.isAgg26 Try.sizeOf26 rfl rfl) (.yes rfl rfl rfl) rfl ?_
  refine jq (q_callP (f26_at (cs := [lv 1 (-1) [0, 2], lv 2 5 []]) (last := 3) (serial := 2) (by decide +kernel) (by decide +kernel)) Try.call26 (by rfl) rfl (memc FindS.mem mem0)) (.yes rfl rfl rfl) rfl ?_
  intro x107
  refine jv (v_pickt rfl rfl) (.no rfl) rfl ?_
  refine jv (v_assign rfl) (.no rfl) rfl ?_
  refine jo_nil ?_
  refine je_next ?_
  refine j_ret ?_
  refine je_ret rfl rfl rfl rfl rfl (rvs := [.tmp 0]) rfl (.cons (.tmp rfl) .nil) () ?_ (fun w h => h.fin mem0) (.inl rfl)
  rfl

end Go.Proofs.Ytjgacbopccfecaa
