/-
  Walks: function 41.
-/
import Derived.Test.YtjgacbopccfecaaN12
set_option maxRecDepth 100000
set_option linter.unusedVariables false
set_option linter.unusedSimpArgs false
namespace Go.Proofs.Ytjgacbopccfecaa

theorem f41_spec : Spec Try.prog 41 [] [] [] Unit (fun _ => .bool true) (fun _ => []) (fun _ => []) := by
  refine spec_of Try.func41 rfl Try.ntmps41 (by simp) fun ok w => ?_
  refine j_seq ?_
  refine j_region ?_
  refine jv (v_assign rfl) (.no rfl) rfl ?_
  refine jo_nil ?_
  refine je_next ?_
  refine j_seq ?_
  refine j_region ?_
  refine jq (q_callP (f25_at (n := 4) (last := 3) (cs := [zeroCell, zeroCell, zeroCell, zeroCell]) (l := 3) (by decide +kernel) (by decide +kernel)) Try.call25 (by rfl) rfl mem0) (.no rfl) rfl ?_
  intro u11
  refine jq (q_callP (f29_at (cs := [zeroCell, zeroCell, zeroCell, zeroCell]) (ds := [lv 1 (-1) [0], zeroCell, zeroCell, zeroCell]) (serial := 0) (n := 1) (prog := (-1)) (s := 1) (h := 1) (e := 0) (by decide +kernel) (by decide +kernel) (ge_of (by decide +kernel)) (by decide +kernel) (by decide +kernel)) Try.call29 (by rfl) rfl (memc FindS.mem mem0)) (.no rfl) rfl ?_
  intro u12
  refine jv (v_move rfl) (.no rfl) rfl ?_
  refine jv (v_ext rfl rfl) (.no rfl) rfl ?_
  refine jv (v_ext rfl rfl) (.no rfl) rfl ?_
  refine jv (v_ext rfl rfl) (.no rfl) rfl ?_
  refine jx (x_alloc Try.zeroValue26 Cells.agg) (.no rfl) rfl ?_
  intro B1
  refine jx (x_storec (cs' := [_, _, _]) rfl rfl rfl Try.sizeOf26 rfl rfl) (.no rfl) rfl ?_
  intro _
  refine jv (v_assign rfl) (.no rfl) rfl ?_
  refine jv (v_assign rfl) (.no rfl) rfl ?_
  refine jo_nil ?_
  refine je_next ?_
  refine j_seq ?_
  refine j_region ?_
  refine jv (v_loadAc (vs := [_, _, _]) rfl Try.isAgg26 Try.sizeOf26 rfl rfl) (.no rfl) rfl ?_
  refine jq (q_callP (f29_at (cs := [lv 1 (-1) [0], zeroCell, zeroCell, zeroCell]) (ds := [lv 1 (-1) [0], lv 2 (-1) [0], zeroCell, zeroCell]) (serial := 1) (n := 1) (prog := (-1)) (s := 2) (h := 2) (e := 0) (by decide +kernel) (by decide +kernel) (ge_of (by decide +kernel)) (by decide +kernel) (by decide +kernel)) Try.call29 (by rfl) rfl (memc FindS.mem mem0)) (.no rfl) rfl ?_
  intro u18
  refine jv (v_move rfl) (.no rfl) rfl ?_
  refine jv (v_ext rfl rfl) (.no rfl) rfl ?_
  refine jv (v_ext rfl rfl) (.no rfl) rfl ?_
  refine jv (v_ext rfl rfl) (.no rfl) rfl ?_
  refine jx (x_storec (cs' := [_, _, _]) rfl rfl rfl Try.sizeOf26 rfl rfl) (.no rfl) rfl ?_
  intro _
  refine jv (v_assign rfl) (.no rfl) rfl ?_
  refine jv (v_assign rfl) (.no rfl) rfl ?_
  refine jo_nil ?_
  refine je_next ?_
  refine j_seq ?_
  refine j_region ?_
  refine jv (v_loadAc (vs := [_, _, _]) rfl Try.isAgg26 Try.sizeOf26 rfl rfl) (.no rfl) rfl ?_
  refine jq (q_callP (f29_at (cs := [lv 1 (-1) [0], lv 2 (-1) [0], zeroCell, zeroCell]) (ds := [lv 1 (-1) [0], lv 2 (-1) [0], lv 3 (-1) [], zeroCell]) (serial := 2) (n := 0) (prog := (-1)) (s := 3) (h := 3) (e := 0) (by decide +kernel) (by decide +kernel) (ge_of (by decide +kernel)) (by decide +kernel) (by decide +kernel)) Try.call29 (by rfl) rfl (memc FindS.mem mem0)) (.no rfl) rfl ?_
  intro u24
  refine jv (v_move rfl) (.no rfl) rfl ?_
  refine jv (v_ext rfl rfl) (.no rfl) rfl ?_
  refine jv (v_ext rfl rfl) (.no rfl) rfl ?_
  refine jv (v_ext rfl rfl) (.no rfl) rfl ?_
  refine jx (x_storec (cs' := [_, _, _]) rfl rfl rfl Try.sizeOf26 rfl rfl) (.no rfl) rfl ?_
  intro _
  refine jv (v_assign rfl) (.no rfl) rfl ?_
  refine jv (v_assign rfl) (.no rfl) rfl ?_
  refine jo_nil ?_
  refine je_next ?_
  refine j_seq ?_
  refine j_region ?_
  refine jv (v_loadAc (vs := [_, _, _]) rfl Try.isAgg26 Try.sizeOf26 rfl rfl) (.no rfl) rfl ?_
  refine jv (v_move rfl) (.no rfl) rfl ?_
  refine jv (v_move rfl) (.no rfl) rfl ?_
  refine jq (q_callP (f52_at (cs := [lv 1 (-1) [0], lv 2 (-1) [0], lv 3 (-1) [], zeroCell]) (ds := [lv 1 (-1) [2], lv 2 (-1) [0], lv 3 (-1) [], zeroCell]) (h := 1) (i := 0) (k := 2) (e := 0) (by decide +kernel) (by decide +kernel) (ge_of (by decide +kernel)) (le_of (by decide +kernel))) Try.call52 (by rfl) rfl (memc FindS.mem mem0)) (.no rfl) rfl ?_
  intro u32
  refine jv (v_move rfl) (.no rfl) rfl ?_
  refine jv (v_ext rfl rfl) (.no rfl) rfl ?_
  refine jv (v_ext rfl rfl) (.no rfl) rfl ?_
  refine jx (x_storec (cs' := [_, _, _]) rfl rfl rfl Try.sizeOf26 rfl rfl) (.no rfl) rfl ?_
  intro _
  refine jo_nil ?_
  refine je_next ?_
  refine j_seq ?_
  refine j_region ?_
  refine jv (v_loadAc (vs := [_, _, _]) rfl Try.isAgg26 Try.sizeOf26 rfl rfl) (.no rfl) rfl ?_
  refine jv (v_move rfl) (.no rfl) rfl ?_
  refine jv (v_move rfl) (.no rfl) rfl ?_
  refine jq (q_callP (f52_at (cs := [lv 1 (-1) [2], lv 2 (-1) [0], lv 3 (-1) [], zeroCell]) (ds := [lv 1 (-1) [2], lv 2 (-1) [1], lv 3 (-1) [], zeroCell]) (h := 2) (i := 0) (k := 1) (e := 0) (by decide +kernel) (by decide +kernel) (ge_of (by decide +kernel)) (le_of (by decide +kernel))) Try.call52 (by rfl) rfl (memc FindS.mem mem0)) (.no rfl) rfl ?_
  intro u39
  refine jv (v_move rfl) (.no rfl) rfl ?_
  refine jv (v_ext rfl rfl) (.no rfl) rfl ?_
  refine jv (v_ext rfl rfl) (.no rfl) rfl ?_
  refine jx (x_storec (cs' := [_, _, _]) rfl rfl rfl Try.sizeOf26 rfl rfl) (.no rfl) rfl ?_
  intro _
  refine jo_nil ?_
  refine je_next ?_
  refine j_seq ?_
  refine j_region ?_
  refine jv (v_loadAc (vs := [_, _, _]) rfl Try.isAgg26 Try.sizeOf26 rfl rfl) (.no rfl) rfl ?_
  refine jv (v_move rfl) (.no rfl) rfl ?_
  refine jq (q_lit2 (a := 2) (b := 99) rfl rfl Try.runUnderlying27 Try.sizeOf3 Try.zeroValue3) (.no rfl) rfl ?_
  intro v44
  refine jq (q_callP (f43_at (cs := [lv 1 (-1) [2], lv 2 (-1) [1], lv 3 (-1) [], zeroCell]) (l := [2, 99]) (r := [1, 2]) (by decide +kernel) (right6_gens (last := 9) (serial := 1000) (by decide +kernel)) (right6_apart (last := 9) (serial := 1000) (by decide +kernel)) (le_of (by decide +kernel)) (by decide)) Try.call43 (by rfl) rfl (memc FindS.mem (memc FindS.mem mem0))) (.no rfl) rfl ?_
  intro u45
  refine jv (v_assign rfl) (.no rfl) rfl ?_
  refine jo_nil ?_
  refine je_next ?_
  refine j_seq ?_
  refine j_region ?_
  refine jv (v_loadAc (vs := [_, _, _]) rfl Try.isAgg26 Try.sizeOf26 rfl rfl) (.no rfl) rfl ?_
  refine jv (v_move rfl) (.no rfl) rfl ?_
  refine jq (q_lit1 (K := intK) (2 : Int) rfl (Cells.one rfl) Try.runUnderlying27 Try.sizeOf3 Try.zeroValue3 rfl (by decide) (by decide) (fun _ _ _ => rfl)) (.no rfl) rfl ?_
  intro v48
  refine jq (q_callP (f45_at (cs := [lv 1 (-1) [2], lv 2 (-1) [1], lv 3 (-1) [], zeroCell]) (l := [2]) (r := [3]) (by decide +kernel) (right6_gens (last := 9) (serial := 1000) (by decide +kernel)) (right6_apart (last := 9) (serial := 1000) (by decide +kernel)) (le_of (by decide +kernel)) (by decide)) Try.call45 (by rfl) rfl (memc FindS.mem (memc FindS.mem mem0))) (.no rfl) rfl ?_
  intro u49
  refine jv (v_assign rfl) (.no rfl) rfl ?_
  refine jo_nil ?_
  refine je_next ?_
  refine j_seq ?_
  refine j_to (fun _ _ h => h) (fun w h => h.nilS (A := none) intK) ?_
  refine j_region ?_
  refine jv (v_move rfl) (.no rfl) rfl ?_
  refine jv (v_len rfl FindR.row Try.runUnderlying27) (.no rfl) rfl ?_
  refine jv (v_eql rfl rfl) (.no rfl) rfl ?_
  refine jv (v_move rfl) (.no rfl) rfl ?_
  refine jv (v_move rfl) (.yes rfl rfl rfl) rfl ?_
  refine jv (v_index rfl rfl FindR.row Try.runUnderlying27 Try.sizeOf3 (by omega) (by decide)) (.yes rfl rfl rfl) rfl ?_
  refine jv (v_eload rfl FindR.row (show [1, 2][_]? = some 1 from rfl) (by decide) Try.isAgg3 (fun _ _ _ h => int_at h)) (.yes rfl rfl rfl) rfl ?_
  refine jv (v_move rfl) (.yes rfl rfl rfl) rfl ?_
  refine jv (v_eql rfl rfl) (.yes rfl rfl rfl) rfl ?_
  refine jv (v_pickt rfl rfl) (.no rfl) rfl ?_
  refine jv (v_move rfl) (.no rfl) rfl ?_
  refine jv (v_move rfl) (.yes rfl rfl rfl) rfl ?_
  refine jv (v_index rfl rfl FindR.row Try.runUnderlying27 Try.sizeOf3 (by omega) (by decide)) (.yes rfl rfl rfl) rfl ?_
  refine jv (v_eload rfl FindR.row (show [1, 2][_]? = some 2 from rfl) (by decide) Try.isAgg3 (fun _ _ _ h => int_at h)) (.yes rfl rfl rfl) rfl ?_
  refine jv (v_move rfl) (.yes rfl rfl rfl) rfl ?_
  refine jv (v_eql rfl rfl) (.yes rfl rfl rfl) rfl ?_
  refine jv (v_pickt rfl rfl) (.no rfl) rfl ?_
  refine jv (v_move rfl) (.no rfl) rfl ?_
  refine jv (v_move rfl) (.yes rfl rfl rfl) rfl ?_
  refine jv (v_len rfl FindR.row Try.runUnderlying27) (.yes rfl rfl rfl) rfl ?_
  refine jv (v_eql rfl rfl) (.yes rfl rfl rfl) rfl ?_
  refine jv (v_pickt rfl rfl) (.no rfl) rfl ?_
  refine jv (v_move rfl) (.no rfl) rfl ?_
  refine jv (v_move rfl) (.yes rfl rfl rfl) rfl ?_
  refine jv (v_index rfl rfl FindR.row Try.runUnderlying27 Try.sizeOf3 (by omega) (by decide)) (.yes rfl rfl rfl) rfl ?_
  refine jv (v_eload rfl FindR.row (show [3][_]? = some 3 from rfl) (by decide) Try.isAgg3 (fun _ _ _ h => int_at h)) (.yes rfl rfl rfl) rfl ?_
  refine jv (v_move rfl) (.yes rfl rfl rfl) rfl ?_
  refine jv (v_eql rfl rfl) (.yes rfl rfl rfl) rfl ?_
  refine jv (v_pickt rfl rfl) (.no rfl) rfl ?_
  refine jv (v_move rfl) (.no rfl) rfl ?_
  refine jv (v_loadAc (vs := [_, _, _]) rfl Try.isAgg26 Try.sizeOf26 rfl rfl) (.yes rfl rfl rfl) rfl ?_
  refine jv (v_move rfl) (.yes rfl rfl rfl) rfl ?_
  refine jv (v_move rfl) (.yes rfl rfl rfl) rfl ?_
  refine jq (q_callP (f47_at (cs := [lv 1 (-1) [2], lv 2 (-1) [1], lv 3 (-1) [], zeroCell]) (a := 1) (b := 2) (r := true) (by decide +kernel) (right6_gens (last := 9) (serial := 1000) (by decide +kernel)) (right6_apart (last := 9) (serial := 1000) (by decide +kernel)) (le_of (by decide +kernel))) Try.call47 (by rfl) rfl (memc FindS.mem mem0)) (.yes rfl rfl rfl) rfl ?_
  intro x83
  refine jv (v_pickt rfl rfl) (.no rfl) rfl ?_
  refine jv (v_move rfl) (.no rfl) rfl ?_
  refine jv (v_loadAc (vs := [_, _, _]) rfl Try.isAgg26 Try.sizeOf26 rfl rfl) (.yes rfl rfl rfl) rfl ?_
  refine jv (v_move rfl) (.yes rfl rfl rfl) rfl ?_
  refine jv (v_move rfl) (.yes rfl rfl rfl) rfl ?_
  refine jq (q_callP (f47_at (cs := [lv 1 (-1) [2], lv 2 (-1) [1], lv 3 (-1) [], zeroCell]) (a := 1) (b := 3) (r := false) (by decide +kernel) (right6_gens (last := 9) (serial := 1000) (by decide +kernel)) (right6_apart (last := 9) (serial := 1000) (by decide +kernel)) (le_of (by decide +kernel))) Try.call47 (by rfl) rfl (memc FindS.mem mem0)) (.yes rfl rfl rfl) rfl ?_
  intro x89
  refine jv (v_not rfl) (.yes rfl rfl rfl) rfl ?_
  refine jv (v_pickt rfl rfl) (.no rfl) rfl ?_
  refine jv (v_move rfl) (.no rfl) rfl ?_
  refine jv (v_loadAc (vs := [_, _, _]) rfl Try.isAgg26 Try.sizeOf26 rfl rfl) (.yes rfl rfl rfl) rfl ?_
  refine jv (v_move rfl) (.yes rfl rfl rfl) rfl ?_
  refine jq (q_callP (f49_at (cs := [lv 1 (-1) [2], lv 2 (-1) [1], lv 3 (-1) [], zeroCell]) (l := [1, 2]) (r := true) (by decide +kernel) (right6_gens (last := 9) (serial := 1000) (by decide +kernel)) (right6_apart (last := 9) (serial := 1000) (by decide +kernel)) (le_of (by decide +kernel)) (by decide)) Try.call49 (by rfl) rfl (memc FindS.mem (memc FindS.mem mem0))) (.yes rfl rfl rfl) rfl ?_
  intro x95
  refine jv (v_pickt rfl rfl) (.no rfl) rfl ?_
  refine jv (v_move rfl) (.no rfl) rfl ?_
  refine jv (v_loadAc (vs := [_, _, _]) rfl Try.isAgg26 Try.sizeOf26 rfl rfl) (.yes rfl rfl rfl) rfl ?_
  refine jv (v_move rfl) (.yes rfl rfl rfl) rfl ?_
  refine jq (q_lit1 (K := intK) (1 : Int) rfl (Cells.one rfl) Try.runUnderlying27 Try.sizeOf3 Try.zeroValue3 rfl (by decide) (by decide) (fun _ _ _ => rfl)) (.yes rfl rfl rfl) rfl ?_
  intro v100
  refine jq (q_callP (f49_at (cs := [lv 1 (-1) [2], lv 2 (-1) [1], lv 3 (-1) [], zeroCell]) (l := [1]) (r := false) (by decide +kernel) (right6_gens (last := 9) (serial := 1000) (by decide +kernel)) (right6_apart (last := 9) (serial := 1000) (by decide +kernel)) (le_of (by decide +kernel)) (by decide)) Try.call49 (by rfl) rfl (memc FindS.mem (memc FindS.mem mem0))) (.yes rfl rfl rfl) rfl ?_
  intro x101
  refine jv (v_not rfl) (.yes rfl rfl rfl) rfl ?_
  refine jv (v_pickt rfl rfl) (.no rfl) rfl ?_
  refine jv (v_move rfl) (.no rfl) rfl ?_
  refine jv (v_loadAc (vs := [_, _, _]) rfl Try.isAgg26 Try.sizeOf26 rfl rfl) (.yes rfl rfl rfl) rfl ?_
  refine jq (q_callP (f49_at (cs := [lv 1 (-1) [2], lv 2 (-1) [1], lv 3 (-1) [], zeroCell]) (l := []) (r := true) (by decide +kernel) (right6_gens (last := 9) (serial := 1000) (by decide +kernel)) (right6_apart (last := 9) (serial := 1000) (by decide +kernel)) (le_of (by decide +kernel)) (by decide)) Try.call49 (by rfl) rfl (memc FindS.mem (memc FindS.mem mem0))) (.yes rfl rfl rfl) rfl ?_
  intro x106
  refine jv (v_pickt rfl rfl) (.no rfl) rfl ?_
  refine jv (v_assign rfl) (.no rfl) rfl ?_
  refine jo_nil ?_
  refine je_next ?_
  refine j_ret ?_
  refine je_ret rfl rfl rfl rfl rfl (rvs := [.tmp 0]) rfl (.cons (.tmp rfl) .nil) () ?_ (fun w h => h.fin mem0) (.inl rfl)
  rfl

end Go.Proofs.Ytjgacbopccfecaa
