/-
  Walks: function 32.
-/
import Derived.Test.YtjgacbopccfecaaZ
import Derived.Test.YtjgacbopccfecaaN8
set_option maxRecDepth 100000
set_option linter.unusedVariables false
set_option linter.unusedSimpArgs false
namespace Go.Proofs.Ytjgacbopccfecaa

theorem f32_spec : Spec Try.prog 32 [] [] [] Unit (fun _ => .bool true) (fun _ => []) (fun _ => []) := by
  refine spec_of Try.func32 rfl Try.ntmps32 (by simp) fun ok w => ?_
  refine j_seq ?_
  refine j_region ?_
  refine jv (v_assign rfl) (.no rfl) rfl ?_
  refine jo_nil ?_
  refine je_next ?_
  refine j_seq ?_
  refine j_region ?_
  refine jq (q_callP (f25_at (n := 3) (last := 3) (cs := [zeroCell, zeroCell, zeroCell]) (l := 3) (by decide +kernel) (by decide +kernel)) Try.call25 (by rfl) rfl mem0) (.no rfl) rfl ?_
  intro u10
  refine jq (q_callP (f29_at (cs := [zeroCell, zeroCell, zeroCell]) (ds := [lv 1 (-1) [0, 0, 0], zeroCell, zeroCell]) (serial := 0) (n := 3) (prog := (-1)) (s := 1) (h := 1) (e := 0) (by decide +kernel) (by decide +kernel) (ge_of (by decide +kernel)) (by decide +kernel) (by decide +kernel)) Try.call29 (by rfl) rfl (memc FindS.mem mem0)) (.no rfl) rfl ?_
  intro u11
  refine jv (v_move rfl) (.no rfl) rfl ?_
  refine jv (v_ext rfl rfl) (.no rfl) rfl ?_
  refine jv (v_ext rfl rfl) (.no rfl) rfl ?_
  refine jv (v_ext rfl rfl) (.no rfl) rfl ?_
  refine jx (x_alloc Try.zeroValue26 Cells.agg) (.no rfl) rfl ?_
  intro B1
  refine jx (x_storec (cs' := [_, _, _]) rfl rfl rfl Try.sizeOf26 rfl rfl) (.no rfl) rfl ?_
  intro _
  refine jv (v_assign rfl) (.no rfl) rfl ?_
  refine jv (v_assign rfl) (.no rfl) rfl ?_
  refine jo_nil ?_
  refine je_next ?_
  refine j_seq ?_
  refine j_region ?_
  refine jv (v_loadAc (vs := [_, _, _]) rfl Try.isAgg26 Try.sizeOf26 rfl rfl) (.no rfl) rfl ?_
  refine jq (q_callP (f29_at (cs := [lv 1 (-1) [0, 0, 0], zeroCell, zeroCell]) (ds := [lv 1 (-1) [0, 0, 0], lv 2 (-1) [0], zeroCell]) (serial := 1) (n := 1) (prog := (-1)) (s := 2) (h := 2) (e := 0) (by decide +kernel) (by decide +kernel) (ge_of (by decide +kernel)) (by decide +kernel) (by decide +kernel)) Try.call29 (by rfl) rfl (memc FindS.mem mem0)) (.no rfl) rfl ?_
  intro u17
  refine jv (v_move rfl) (.no rfl) rfl ?_
  refine jv (v_ext rfl rfl) (.no rfl) rfl ?_
  refine jv (v_ext rfl rfl) (.no rfl) rfl ?_
  refine jv (v_ext rfl rfl) (.no rfl) rfl ?_
  refine jx (x_storec (cs' := [_, _, _]) rfl rfl rfl Try.sizeOf26 rfl rfl) (.no rfl) rfl ?_
  intro _
  refine jv (v_assign rfl) (.no rfl) rfl ?_
  refine jv (v_assign rfl) (.no rfl) rfl ?_
  refine jo_nil ?_
  refine je_next ?_
  refine j_seq ?_
  refine j_region ?_
  refine jv (v_loadAc (vs := [_, _, _]) rfl Try.isAgg26 Try.sizeOf26 rfl rfl) (.no rfl) rfl ?_
  refine jv (v_move rfl) (.no rfl) rfl ?_
  refine jv (v_move rfl) (.no rfl) rfl ?_
  refine jq (q_callP (f52_at (cs := [lv 1 (-1) [0, 0, 0], lv 2 (-1) [0], zeroCell]) (ds := [lv 1 (-1) [2, 0, 0], lv 2 (-1) [0], zeroCell]) (h := 1) (i := 0) (k := 2) (e := 0) (by decide +kernel) (by decide +kernel) (ge_of (by decide +kernel)) (le_of (by decide +kernel))) Try.call52 (by rfl) rfl (memc FindS.mem mem0)) (.no rfl) rfl ?_
  intro u25
  refine jv (v_move rfl) (.no rfl) rfl ?_
  refine jv (v_ext rfl rfl) (.no rfl) rfl ?_
  refine jv (v_ext rfl rfl) (.no rfl) rfl ?_
  refine jx (x_storec (cs' := [_, _, _]) rfl rfl rfl Try.sizeOf26 rfl rfl) (.no rfl) rfl ?_
  intro _
  refine jo_nil ?_
  refine je_next ?_
  refine j_seq ?_
  refine j_region ?_
  refine jv (v_loadAc (vs := [_, _, _]) rfl Try.isAgg26 Try.sizeOf26 rfl rfl) (.no rfl) rfl ?_
  refine jv (v_move rfl) (.no rfl) rfl ?_
  refine jv (v_move rfl) (.no rfl) rfl ?_
  refine jq (q_callP (f52_at (cs := [lv 1 (-1) [2, 0, 0], lv 2 (-1) [0], zeroCell]) (ds := [lv 1 (-1) [2, 0, 2], lv 2 (-1) [0], zeroCell]) (h := 1) (i := 2) (k := 2) (e := 0) (by decide +kernel) (by decide +kernel) (ge_of (by decide +kernel)) (le_of (by decide +kernel))) Try.call52 (by rfl) rfl (memc FindS.mem mem0)) (.no rfl) rfl ?_
  intro u32
  refine jv (v_move rfl) (.no rfl) rfl ?_
  refine jv (v_ext rfl rfl) (.no rfl) rfl ?_
  refine jv (v_ext rfl rfl) (.no rfl) rfl ?_
  refine jx (x_storec (cs' := [_, _, _]) rfl rfl rfl Try.sizeOf26 rfl rfl) (.no rfl) rfl ?_
  intro _
  refine jo_nil ?_
  refine je_next ?_
  refine j_seq ?_
  refine j_region ?_
  refine jv (v_loadAc (vs := [_, _, _]) rfl Try.isAgg26 Try.sizeOf26 rfl rfl) (.no rfl) rfl ?_
  refine jv (v_move rfl) (.no rfl) rfl ?_
  refine jq (q_callP (f52_at (cs := [lv 1 (-1) [2, 0, 2], lv 2 (-1) [0], zeroCell]) (ds := [lv 1 (-1) [2, 0, 2], lv 2 (-1) [99], zeroCell]) (h := 2) (i := 0) (k := 99) (e := 0) (by decide +kernel) (by decide +kernel) (ge_of (by decide +kernel)) (le_of (by decide +kernel))) Try.call52 (by rfl) rfl (memc FindS.mem mem0)) (.no rfl) rfl ?_
  intro u38
  refine jv (v_move rfl) (.no rfl) rfl ?_
  refine jv (v_ext rfl rfl) (.no rfl) rfl ?_
  refine jv (v_ext rfl rfl) (.no rfl) rfl ?_
  refine jx (x_storec (cs' := [_, _, _]) rfl rfl rfl Try.sizeOf26 rfl rfl) (.no rfl) rfl ?_
  intro _
  refine jv (v_assign rfl) (.no rfl) rfl ?_
  refine jo_nil ?_
  refine je_next ?_
  refine j_seq ?_
  refine j_region ?_
  refine jv (v_loadAc (vs := [_, _, _]) rfl Try.isAgg26 Try.sizeOf26 rfl rfl) (.no rfl) rfl ?_
  refine jv (v_move rfl) (.no rfl) rfl ?_
  refine jq (q_callP (f35_at (cs := [lv 1 (-1) [2, 0, 2], lv 2 (-1) [99], zeroCell]) (h := 1) (l := [2, 2]) (by decide +kernel) (by decide +kernel) (ge_of (by decide +kernel)) (le_of (by decide +kernel))) Try.call35 (by rfl) rfl (memc FindS.mem mem0)) (.no rfl) rfl ?_
  intro u43
  refine jv (v_assign rfl) (.no rfl) rfl ?_
  refine jo_nil ?_
  refine je_next ?_
  refine j_seq ?_
  refine j_region ?_
  refine jv (v_loadAc (vs := [_, _, _]) rfl Try.isAgg26 Try.sizeOf26 rfl rfl) (.no rfl) rfl ?_
  refine jq (q_callP (f37_at (cs := [lv 1 (-1) [2, 0, 2], lv 2 (-1) [99], zeroCell]) (l := [99]) (by decide +kernel) (right6_gens (last := 9) (serial := 1000) (by decide +kernel)) (right6_apart (last := 9) (serial := 1000) (by decide +kernel)) (le_of (by decide +kernel)) (by decide +kernel)) Try.call37 (by rfl) rfl (memc FindS.mem mem0)) (.no rfl) rfl ?_
  intro u45
  refine jv (v_assign rfl) (.no rfl) rfl ?_
  refine jo_nil ?_
  refine je_next ?_
  refine j_seq ?_
  refine j_region ?_
  refine jv (v_move rfl) (.no rfl) rfl ?_
  refine jv (v_eql rfl rfl) (.no rfl) rfl ?_
  refine jv (v_move rfl) (.no rfl) rfl ?_
  refine jv (v_move rfl) (.yes rfl rfl rfl) rfl ?_
  refine jv (v_len rfl FindR.row Try.runUnderlying27) (.yes rfl rfl rfl) rfl ?_
  refine jv (v_eql rfl rfl) (.yes rfl rfl rfl) rfl ?_
  refine jv (v_pickt rfl rfl) (.no rfl) rfl ?_
  refine jv (v_move rfl) (.no rfl) rfl ?_
  refine jv (v_move rfl) (.yes rfl rfl rfl) rfl ?_
  refine jv (v_index rfl rfl FindR.row Try.runUnderlying27 Try.sizeOf3 (by omega) (by decide)) (.yes rfl rfl rfl) rfl ?_
  refine jv (v_eload rfl FindR.row (show [2, 2][_]? = some 2 from rfl) (by decide) Try.isAgg3 (fun _ _ _ h => int_at h)) (.yes rfl rfl rfl) rfl ?_
  refine jv (v_move rfl) (.yes rfl rfl rfl) rfl ?_
  refine jv (v_eql rfl rfl) (.yes rfl rfl rfl) rfl ?_
  refine jv (v_pickt rfl rfl) (.no rfl) rfl ?_
  refine jv (v_move rfl) (.no rfl) rfl ?_
  refine jv (v_loadAc (vs := [_, _, _]) rfl Try.isAgg26 Try.sizeOf26 rfl rfl) (.yes rfl rfl rfl) rfl ?_
  refine jv (v_move rfl) (.yes rfl rfl rfl) rfl ?_
  refine jq (q_callP (f36_at (cs := [lv 1 (-1) [2, 0, 2], lv 2 (-1) [99], zeroCell]) (h := 2) (n := 2) (by decide +kernel) (right6_gens (last := 9) (serial := 1000) (by decide +kernel)) (right6_apart (last := 9) (serial := 1000) (by decide +kernel)) (le_of (by decide +kernel)) (by decide +kernel)) Try.call36 (by rfl) rfl (memc FindS.mem mem0)) (.yes rfl rfl rfl) rfl ?_
  intro x63
  refine jv (v_eql rfl rfl) (.yes rfl rfl rfl) rfl ?_
  refine jv (v_pickt rfl rfl) (.no rfl) rfl ?_
  refine jv (v_move rfl) (.no rfl) rfl ?_
  refine jv (v_loadAc (vs := [_, _, _]) rfl Try.isAgg26 Try.sizeOf26 rfl rfl) (.yes rfl rfl rfl) rfl ?_
  refine jv (v_move rfl) (.yes rfl rfl rfl) rfl ?_
  refine jq (q_callP (f36_at (cs := [lv 1 (-1) [2, 0, 2], lv 2 (-1) [99], zeroCell]) (h := 1) (n := 0) (by decide +kernel) (right6_gens (last := 9) (serial := 1000) (by decide +kernel)) (right6_apart (last := 9) (serial := 1000) (by decide +kernel)) (le_of (by decide +kernel)) (by decide +kernel)) Try.call36 (by rfl) rfl (memc FindS.mem mem0)) (.yes rfl rfl rfl) rfl ?_
  intro x69
  refine jv (v_eql rfl rfl) (.yes rfl rfl rfl) rfl ?_
  refine jv (v_pickt rfl rfl) (.no rfl) rfl ?_
  refine jv (v_move rfl) (.no rfl) rfl ?_
  refine jv (v_loadAc (vs := [_, _, _]) rfl Try.isAgg26 Try.sizeOf26 rfl rfl) (.yes rfl rfl rfl) rfl ?_
  refine jv (v_move rfl) (.yes rfl rfl rfl) rfl ?_
  refine jq (q_callP (f38_at (cs := [lv 1 (-1) [2, 0, 2], lv 2 (-1) [99], zeroCell]) (h := 2) (l := [1]) (by decide +kernel) (right6_gens (last := 9) (serial := 1000) (by decide +kernel)) (right6_apart (last := 9) (serial := 1000) (by decide +kernel)) (le_of (by decide +kernel)) (by decide +kernel)) Try.call38 (by rfl) rfl (memc FindS.mem mem0)) (.yes rfl rfl rfl) rfl ?_
  intro u75
  refine jv (v_len rfl FindR.row Try.runUnderlying27) (.yes rfl rfl rfl) rfl ?_
  refine jv (v_eql rfl rfl) (.yes rfl rfl rfl) rfl ?_
  refine jv (v_pickt rfl rfl) (.no rfl) rfl ?_
  refine jv (v_move rfl) (.no rfl) rfl ?_
  refine jv (v_move rfl) (.yes rfl rfl rfl) rfl ?_
  refine jv (v_move rfl) (.yes rfl rfl rfl) rfl ?_
  refine jq (q_callP (f39_at (n := 2) (by decide +kernel)) Try.call39 (by rfl) rfl (memc FindS.mem mem0)) (.yes rfl rfl rfl) rfl ?_
  intro x82
  refine jv (v_eql rfl rfl) (.yes rfl rfl rfl) rfl ?_
  refine jv (v_pickt rfl rfl) (.no rfl) rfl ?_
  refine jv (v_move rfl) (.no rfl) rfl ?_
  refine jv (v_move rfl) (.yes rfl rfl rfl) rfl ?_
  refine jv (v_len rfl FindR.row Try.runUnderlying27) (.yes rfl rfl rfl) rfl ?_
  refine jv (v_eql rfl rfl) (.yes rfl rfl rfl) rfl ?_
  refine jv (v_pickt rfl rfl) (.no rfl) rfl ?_
  refine jv (v_move rfl) (.no rfl) rfl ?_
  refine jv (v_move rfl) (.yes rfl rfl rfl) rfl ?_
  refine jv (v_index rfl rfl FindR.row Try.runUnderlying27 Try.sizeOf3 (by omega) (by decide)) (.yes rfl rfl rfl) rfl ?_
  refine jv (v_eload rfl FindR.row (show [99][_]? = some 99 from rfl) (by decide) Try.isAgg3 (fun _ _ _ h => int_at h)) (.yes rfl rfl rfl) rfl ?_
  refine jv (v_eql rfl rfl) (.yes rfl rfl rfl) rfl ?_
  refine jv (v_pickt rfl rfl) (.no rfl) rfl ?_
  refine jv (v_move rfl) (.no rfl) rfl ?_
  refine jq (q_lit1 (K := intK) (0 : Int) rfl (Cells.one rfl) Try.runUnderlying27 Try.sizeOf3 Try.zeroValue3 rfl (by decide) (by decide) (fun _ _ _ => rfl)) (.yes rfl rfl rfl) rfl ?_
  intro v97
  refine jq (q_callP (f39_at (n := 0) (by decide +kernel)) Try.call39 (by rfl) rfl (memc FindS.mem mem0)) (.yes rfl rfl rfl) rfl ?_
  intro x98
  refine jv (v_eql rfl rfl) (.yes rfl rfl rfl) rfl ?_
  refine jv (v_pickt rfl rfl) (.no rfl) rfl ?_
  refine jv (v_assign rfl) (.no rfl) rfl ?_
  refine jo_nil ?_
  refine je_next ?_
  refine j_ret ?_
  refine je_ret rfl rfl rfl rfl rfl (rvs := [.tmp 0]) rfl (.cons (.tmp rfl) .nil) () ?_ (fun w h => h.fin mem0) (.inl rfl)
  rfl

end Go.Proofs.Ytjgacbopccfecaa
