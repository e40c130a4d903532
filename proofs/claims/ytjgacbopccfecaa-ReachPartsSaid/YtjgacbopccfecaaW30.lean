/-
  Walks: function 108, function 111, function 133, function 134, function 112, function 110, function 115, function 116, function 83, function 85.
-/
import Derived.Test.YtjgacbopccfecaaN9
import Derived.Test.YtjgacbopccfecaaBj
import Derived.Test.YtjgacbopccfecaaM
set_option maxRecDepth 100000
set_option linter.unusedVariables false
set_option linter.unusedSimpArgs false
namespace Go.Proofs.Ytjgacbopccfecaa

theorem f108_spec {c : Int} : Spec Try.prog 108 [iV c] [] [] Unit (fun _ => .agg [.slice none 0 0, iV c].toArray) (fun _ => []) (fun _ => []) := by
  refine spec_of Try.func108 rfl Try.ntmps108 (by simp) fun ok w => ?_
  refine j_seq ?_
  refine j_region ?_
  refine jx (x_alloc Try.zeroValue133 Cells.agg) (.no rfl) rfl ?_
  intro B2
  refine jo_nil ?_
  refine je_next ?_
  refine j_seq ?_
  refine j_region ?_
  refine jv (v_move rfl) (.no rfl) rfl ?_
  refine jv (v_build rfl b133) (.no rfl) rfl ?_
  refine jx (x_storec (cs' := [_, _]) rfl rfl rfl Try.sizeOf133 rfl rfl) (.no rfl) rfl ?_
  intro _
  refine jo_nil ?_
  refine je_next ?_
  refine j_ret ?_
  refine je_ret rfl rfl rfl rfl rfl (rvs := [.cell 2 133]) rfl (.cons (.agg (vs := [_, _]) rfl FindB.mem Try.isAgg133 Try.sizeOf133 rfl rfl) .nil) () ?_ (fun w h => h.fin mem0) (.inl rfl)
  rfl

theorem f111_spec {v : Value} {xs : List Int} {c : Int} : Spec Try.prog 111 [.agg [v, iV c].toArray] [] [sl intK v xs] Unit (fun _ => iV (xs.length : Int)) (fun _ => []) (fun _ => []) := by
  refine spec_of Try.func111 rfl Try.ntmps111 (by simp) fun ok w => ?_
  refine j_seq ?_
  refine j_region ?_
  refine jx (x_boxc rfl) (.no rfl) rfl ?_
  intro B1
  refine jv (v_assign rfl) (.no rfl) rfl ?_
  refine jo_nil ?_
  refine je_next ?_
  refine j_seq ?_
  refine j_region ?_
  refine jv (v_field (k' := 0) rfl Try.runUnderlying133 rfl Try.sizeOf27 (by decide) rfl) (.no rfl) rfl ?_
  refine jv (v_loadc rfl Try.isAgg27 rfl) (.no rfl) rfl ?_
  refine jv (v_len rfl FindR.row Try.runUnderlying27) (.no rfl) rfl ?_
  refine jv (v_assign rfl) (.no rfl) rfl ?_
  refine jo_nil ?_
  refine je_next ?_
  refine j_ret ?_
  refine je_ret rfl rfl rfl rfl rfl (rvs := [.tmp 2]) rfl (.cons (.tmp rfl) .nil) () ?_ (fun w h => h.fin mem0) (.inl rfl)
  rfl

theorem f133_spec {v v2 : Value} {xs ys : List Int} {c : Int} : Spec Try.prog 133 [.agg [v, iV c].toArray, v2] [] [sl intK v xs, sl intK v2 ys] Unit (fun _ => .agg [v2, iV c].toArray) (fun _ => []) (fun _ => []) := by
  refine spec_of Try.func133 rfl Try.ntmps133 (by simp) fun ok w => ?_
  refine j_seq ?_
  refine j_region ?_
  refine jx (x_boxc rfl) (.no rfl) rfl ?_
  intro B2
  refine jx (x_alloc Try.zeroValue133 Cells.agg) (.no rfl) rfl ?_
  intro B4
  refine jo_nil ?_
  refine je_next ?_
  refine j_seq ?_
  refine j_region ?_
  refine jv (v_move rfl) (.no rfl) rfl ?_
  refine jv (v_field (k' := 0) rfl Try.runUnderlying133 rfl Try.sizeOf27 (by decide) rfl) (.no rfl) rfl ?_
  refine jx (x_storec (cs' := [_, _]) rfl rfl rfl Try.sizeOf27 rfl rfl) (.no rfl) rfl ?_
  intro _
  refine jo_nil ?_
  refine je_next ?_
  refine j_seq ?_
  refine j_region ?_
  refine jv (v_loadAc (vs := [_, _]) rfl Try.isAgg133 Try.sizeOf133 rfl rfl) (.no rfl) rfl ?_
  refine jx (x_storec (cs' := [_, _]) rfl rfl rfl Try.sizeOf133 rfl rfl) (.no rfl) rfl ?_
  intro _
  refine jo_nil ?_
  refine je_next ?_
  refine j_ret ?_
  refine je_ret rfl rfl rfl rfl rfl (rvs := [.cell 4 133]) rfl (.cons (.agg (vs := [_, _]) rfl FindB.mem Try.isAgg133 Try.sizeOf133 rfl rfl) .nil) () ?_ (fun w h => h.fin mem0) (.inl rfl)
  rfl

theorem f134_spec {v : Value} {xs : List Int} {c : Int} : Spec Try.prog 134 [.agg [v, iV c].toArray, iV 1] [] [sl intK v xs] (Value × Value) (fun p => .tuple [.agg [p.1, iV c].toArray, p.2].toArray) (fun _ => []) (fun p => [sl intK p.1 (xs.drop 1), sl intK p.2 (xs.take 1)]) := by
  refine spec_of Try.func134 rfl Try.ntmps134 (by simp) fun ok w => ?_
  refine j_seq ?_
  refine j_region ?_
  refine jx (x_boxc rfl) (.no rfl) rfl ?_
  intro B2
  refine jx (x_alloc Try.zeroValue133 Cells.agg) (.no rfl) rfl ?_
  intro B4
  refine jv (v_assign rfl) (.no rfl) rfl ?_
  refine jo_nil ?_
  refine je_next ?_
  refine j_seq ?_
  refine j_region ?_
  refine jv (v_move rfl) (.no rfl) rfl ?_
  refine jv (v_field (k' := 0) rfl Try.runUnderlying133 rfl Try.sizeOf27 (by decide) rfl) (.no rfl) rfl ?_
  refine jv (v_loadc rfl Try.isAgg27 rfl) (.no rfl) rfl ?_
  refine jv (v_len rfl FindR.row Try.runUnderlying27) (.no rfl) rfl ?_
  refine jv (v_min rfl rfl) (.no rfl) rfl ?_
  refine jv (v_maxr (r := ((min 1 xs.length : Nat) : Int)) rfl rfl (by split <;> split <;> omega)) (.no rfl) rfl ?_
  refine jv (v_assign rfl) (.no rfl) rfl ?_
  refine jo_nil ?_
  refine je_next ?_
  refine j_seq ?_
  refine j_draw [10] mixed ?_
  refine ja_take 0 rfl (by decide +kernel) (v_loadAc (vs := [_, _]) rfl Try.isAgg133 Try.sizeOf133 rfl rfl) (.no rfl) rfl ?_
  refine ja_take 1 rfl (by decide +kernel) (v_field (k' := 0) rfl Try.runUnderlying133 rfl Try.sizeOf27 (by decide) rfl) (.no rfl) rfl ?_
  refine ja_take 2 rfl (by decide +kernel) (v_loadc rfl Try.isAgg27 rfl) (.no rfl) rfl ?_
  refine ja_take 3 rfl (by decide +kernel) (v_move rfl) (.no rfl) rfl ?_
  refine ja_takel 4 rfl (by decide +kernel) (l_slice (i := min 1 xs.length) (j := xs.length) rfl FindS.mem Try.runUnderlying27 Try.sizeOf3 (.inr ⟨_, rfl, rfl⟩) (.inl ⟨rfl, rfl⟩) (by omega) (Nat.le_refl _)) (.no rfl) rfl ?_
  intro v16
  refine ja_three (i := 5) (j := 6) (k := 8) (by decide +kernel) ?_ ?_ ?_
  · skip
    refine jn_q rfl (q_callP (f133_spec) Try.call133 (by rfl) rfl (memc FindS.mem (memc FindS.mem mem0))) (.no rfl) rfl ?_
    intro x17
    refine ja_three (i := 6) (j := 8) (k := 10) (by decide +kernel) ?_ ?_ ?_
    · skip
      refine jn_v rfl (v_field (k' := 0) rfl Try.runUnderlying133 rfl Try.sizeOf27 (by decide) rfl) (.no rfl) rfl ?_
      refine ja_three (i := 7) (j := 8) (k := 10) (by decide +kernel) ?_ ?_ ?_
      · skip
        refine jn_v rfl (v_loadc rfl Try.isAgg27 rfl) (.no rfl) rfl ?_
        refine ja_two (i := 8) (j := 10) (by decide +kernel) ?_ ?_
        · skip
          refine jn_v rfl (v_move rfl) (.no rfl) rfl ?_
          refine ja_two (i := 9) (j := 10) (by decide +kernel) ?_ ?_
          · skip
            refine jn_q rfl (OpL.q (l_slice (i := 0) (j := min 1 xs.length) rfl FindS.mem Try.runUnderlying27 Try.sizeOf3 (.inl ⟨rfl, rfl⟩) (.inr ⟨_, rfl, rfl⟩) (Nat.zero_le _) (by omega))) (.no rfl) rfl ?_
            intro v21
            refine ja_one (i := 10) (by decide +kernel) (jn_x rfl (by simp) (x_storec (cs' := [_, _]) rfl rfl rfl Try.sizeOf133 rfl rfl) (.no rfl) rfl ?_)
            intro _
            refine ja_take 11 rfl (by decide +kernel) (v_assign rfl) (.no rfl) rfl ?_
            refine ja_nil (by decide +kernel) ?_
            refine je_next ?_
            refine j_ret ?_
            refine je_ret rfl rfl rfl rfl rfl (rvs := [.cell 4 133, .tmp 5]) rfl (.cons (.agg (vs := [_, _]) rfl FindB.mem Try.isAgg133 Try.sizeOf133 rfl rfl) (.cons (.tmp rfl) .nil)) (v16, v21) ?_ (fun w h => h.fin (by rw [drop1 xs, take1 xs]; exact memc FindS.mem (memc FindS.mem mem0))) (.inl rfl)
            rfl
          · skip
            refine jn_x rfl (by simp) (x_storec (cs' := [_, _]) rfl rfl rfl Try.sizeOf133 rfl rfl) (.no rfl) rfl ?_
            intro _
            refine ja_takel 9 rfl (by decide +kernel) (l_slice (i := 0) (j := min 1 xs.length) rfl FindS.mem Try.runUnderlying27 Try.sizeOf3 (.inl ⟨rfl, rfl⟩) (.inr ⟨_, rfl, rfl⟩) (Nat.zero_le _) (by omega)) (.no rfl) rfl ?_
            intro v21
            refine ja_take 11 rfl (by decide +kernel) (v_assign rfl) (.no rfl) rfl ?_
            refine ja_nil (by decide +kernel) ?_
            refine je_next ?_
            refine j_ret ?_
            refine je_ret rfl rfl rfl rfl rfl (rvs := [.cell 4 133, .tmp 5]) rfl (.cons (.agg (vs := [_, _]) rfl FindB.mem Try.isAgg133 Try.sizeOf133 rfl rfl) (.cons (.tmp rfl) .nil)) (v16, v21) ?_ (fun w h => h.fin (by rw [drop1 xs, take1 xs]; exact memc FindS.mem (memc FindS.mem mem0))) (.inl rfl)
            rfl
        · skip
          refine jn_x rfl (by simp) (x_storec (cs' := [_, _]) rfl rfl rfl Try.sizeOf133 rfl rfl) (.no rfl) rfl ?_
          intro _
          refine ja_take 8 rfl (by decide +kernel) (v_move rfl) (.no rfl) rfl ?_
          refine ja_takel 9 rfl (by decide +kernel) (l_slice (i := 0) (j := min 1 xs.length) rfl FindS.mem Try.runUnderlying27 Try.sizeOf3 (.inl ⟨rfl, rfl⟩) (.inr ⟨_, rfl, rfl⟩) (Nat.zero_le _) (by omega)) (.no rfl) rfl ?_
          intro v21
          refine ja_take 11 rfl (by decide +kernel) (v_assign rfl) (.no rfl) rfl ?_
          refine ja_nil (by decide +kernel) ?_
          refine je_next ?_
          refine j_ret ?_
          refine je_ret rfl rfl rfl rfl rfl (rvs := [.cell 4 133, .tmp 5]) rfl (.cons (.agg (vs := [_, _]) rfl FindB.mem Try.isAgg133 Try.sizeOf133 rfl rfl) (.cons (.tmp rfl) .nil)) (v16, v21) ?_ (fun w h => h.fin (by rw [drop1 xs, take1 xs]; exact memc FindS.mem (memc FindS.mem mem0))) (.inl rfl)
          rfl
      · skip
        refine jn_v rfl (v_move rfl) (.no rfl) rfl ?_
        refine ja_two (i := 7) (j := 10) (by decide +kernel) ?_ ?_
        · skip
          refine jn_v rfl (v_loadc rfl Try.isAgg27 rfl) (.no rfl) rfl ?_
          refine ja_two (i := 9) (j := 10) (by decide +kernel) ?_ ?_
          · skip
            refine jn_q rfl (OpL.q (l_slice (i := 0) (j := min 1 xs.length) rfl FindS.mem Try.runUnderlying27 Try.sizeOf3 (.inl ⟨rfl, rfl⟩) (.inr ⟨_, rfl, rfl⟩) (Nat.zero_le _) (by omega))) (.no rfl) rfl ?_
            intro v21
            refine ja_one (i := 10) (by decide +kernel) (jn_x rfl (by simp) (x_storec (cs' := [_, _]) rfl rfl rfl Try.sizeOf133 rfl rfl) (.no rfl) rfl ?_)
            intro _
            refine ja_take 11 rfl (by decide +kernel) (v_assign rfl) (.no rfl) rfl ?_
            refine ja_nil (by decide +kernel) ?_
            refine je_next ?_
            refine j_ret ?_
            refine je_ret rfl rfl rfl rfl rfl (rvs := [.cell 4 133, .tmp 5]) rfl (.cons (.agg (vs := [_, _]) rfl FindB.mem Try.isAgg133 Try.sizeOf133 rfl rfl) (.cons (.tmp rfl) .nil)) (v16, v21) ?_ (fun w h => h.fin (by rw [drop1 xs, take1 xs]; exact memc FindS.mem (memc FindS.mem mem0))) (.inl rfl)
            rfl
          · skip
            refine jn_x rfl (by simp) (x_storec (cs' := [_, _]) rfl rfl rfl Try.sizeOf133 rfl rfl) (.no rfl) rfl ?_
            intro _
            refine ja_takel 9 rfl (by decide +kernel) (l_slice (i := 0) (j := min 1 xs.length) rfl FindS.mem Try.runUnderlying27 Try.sizeOf3 (.inl ⟨rfl, rfl⟩) (.inr ⟨_, rfl, rfl⟩) (Nat.zero_le _) (by omega)) (.no rfl) rfl ?_
            intro v21
            refine ja_take 11 rfl (by decide +kernel) (v_assign rfl) (.no rfl) rfl ?_
            refine ja_nil (by decide +kernel) ?_
            refine je_next ?_
            refine j_ret ?_
            refine je_ret rfl rfl rfl rfl rfl (rvs := [.cell 4 133, .tmp 5]) rfl (.cons (.agg (vs := [_, _]) rfl FindB.mem Try.isAgg133 Try.sizeOf133 rfl rfl) (.cons (.tmp rfl) .nil)) (v16, v21) ?_ (fun w h => h.fin (by rw [drop1 xs, take1 xs]; exact memc FindS.mem (memc FindS.mem mem0))) (.inl rfl)
            rfl
        · skip
          refine jn_x rfl (by simp) (x_storec (cs' := [_, _]) rfl rfl rfl Try.sizeOf133 rfl rfl) (.no rfl) rfl ?_
          intro _
          refine ja_take 7 rfl (by decide +kernel) (v_loadc rfl Try.isAgg27 rfl) (.no rfl) rfl ?_
          refine ja_takel 9 rfl (by decide +kernel) (l_slice (i := 0) (j := min 1 xs.length) rfl FindS.mem Try.runUnderlying27 Try.sizeOf3 (.inl ⟨rfl, rfl⟩) (.inr ⟨_, rfl, rfl⟩) (Nat.zero_le _) (by omega)) (.no rfl) rfl ?_
          intro v21
          refine ja_take 11 rfl (by decide +kernel) (v_assign rfl) (.no rfl) rfl ?_
          refine ja_nil (by decide +kernel) ?_
          refine je_next ?_
          refine j_ret ?_
          refine je_ret rfl rfl rfl rfl rfl (rvs := [.cell 4 133, .tmp 5]) rfl (.cons (.agg (vs := [_, _]) rfl FindB.mem Try.isAgg133 Try.sizeOf133 rfl rfl) (.cons (.tmp rfl) .nil)) (v16, v21) ?_ (fun w h => h.fin (by rw [drop1 xs, take1 xs]; exact memc FindS.mem (memc FindS.mem mem0))) (.inl rfl)
          rfl
      · skip
        refine jn_x rfl (by simp) (x_storec (cs' := [_, _]) rfl rfl rfl Try.sizeOf133 rfl rfl) (.no rfl) rfl ?_
        intro _
        refine ja_take 7 rfl (by decide +kernel) (v_loadc rfl Try.isAgg27 rfl) (.no rfl) rfl ?_
        refine ja_take 8 rfl (by decide +kernel) (v_move rfl) (.no rfl) rfl ?_
        refine ja_takel 9 rfl (by decide +kernel) (l_slice (i := 0) (j := min 1 xs.length) rfl FindS.mem Try.runUnderlying27 Try.sizeOf3 (.inl ⟨rfl, rfl⟩) (.inr ⟨_, rfl, rfl⟩) (Nat.zero_le _) (by omega)) (.no rfl) rfl ?_
        intro v21
        refine ja_take 11 rfl (by decide +kernel) (v_assign rfl) (.no rfl) rfl ?_
        refine ja_nil (by decide +kernel) ?_
        refine je_next ?_
        refine j_ret ?_
        refine je_ret rfl rfl rfl rfl rfl (rvs := [.cell 4 133, .tmp 5]) rfl (.cons (.agg (vs := [_, _]) rfl FindB.mem Try.isAgg133 Try.sizeOf133 rfl rfl) (.cons (.tmp rfl) .nil)) (v16, v21) ?_ (fun w h => h.fin (by rw [drop1 xs, take1 xs]; exact memc FindS.mem (memc FindS.mem mem0))) (.inl rfl)
        rfl
    · skip
      refine jn_v rfl (v_move rfl) (.no rfl) rfl ?_
      refine ja_two (i := 6) (j := 10) (by decide +kernel) ?_ ?_
      · skip
        refine jn_v rfl (v_field (k' := 0) rfl Try.runUnderlying133 rfl Try.sizeOf27 (by decide) rfl) (.no rfl) rfl ?_
        refine ja_two (i := 7) (j := 10) (by decide +kernel) ?_ ?_
        · skip
          refine jn_v rfl (v_loadc rfl Try.isAgg27 rfl) (.no rfl) rfl ?_
          refine ja_two (i := 9) (j := 10) (by decide +kernel) ?_ ?_
          · skip
            refine jn_q rfl (OpL.q (l_slice (i := 0) (j := min 1 xs.length) rfl FindS.mem Try.runUnderlying27 Try.sizeOf3 (.inl ⟨rfl, rfl⟩) (.inr ⟨_, rfl, rfl⟩) (Nat.zero_le _) (by omega))) (.no rfl) rfl ?_
            intro v21
            refine ja_one (i := 10) (by decide +kernel) (jn_x rfl (by simp) (x_storec (cs' := [_, _]) rfl rfl rfl Try.sizeOf133 rfl rfl) (.no rfl) rfl ?_)
            intro _
            refine ja_take 11 rfl (by decide +kernel) (v_assign rfl) (.no rfl) rfl ?_
            refine ja_nil (by decide +kernel) ?_
            refine je_next ?_
            refine j_ret ?_
            refine je_ret rfl rfl rfl rfl rfl (rvs := [.cell 4 133, .tmp 5]) rfl (.cons (.agg (vs := [_, _]) rfl FindB.mem Try.isAgg133 Try.sizeOf133 rfl rfl) (.cons (.tmp rfl) .nil)) (v16, v21) ?_ (fun w h => h.fin (by rw [drop1 xs, take1 xs]; exact memc FindS.mem (memc FindS.mem mem0))) (.inl rfl)
            rfl
          · skip
            refine jn_x rfl (by simp) (x_storec (cs' := [_, _]) rfl rfl rfl Try.sizeOf133 rfl rfl) (.no rfl) rfl ?_
            intro _
            refine ja_takel 9 rfl (by decide +kernel) (l_slice (i := 0) (j := min 1 xs.length) rfl FindS.mem Try.runUnderlying27 Try.sizeOf3 (.inl ⟨rfl, rfl⟩) (.inr ⟨_, rfl, rfl⟩) (Nat.zero_le _) (by omega)) (.no rfl) rfl ?_
            intro v21
            refine ja_take 11 rfl (by decide +kernel) (v_assign rfl) (.no rfl) rfl ?_
            refine ja_nil (by decide +kernel) ?_
            refine je_next ?_
            refine j_ret ?_
            refine je_ret rfl rfl rfl rfl rfl (rvs := [.cell 4 133, .tmp 5]) rfl (.cons (.agg (vs := [_, _]) rfl FindB.mem Try.isAgg133 Try.sizeOf133 rfl rfl) (.cons (.tmp rfl) .nil)) (v16, v21) ?_ (fun w h => h.fin (by rw [drop1 xs, take1 xs]; exact memc FindS.mem (memc FindS.mem mem0))) (.inl rfl)
            rfl
        · skip
          refine jn_x rfl (by simp) (x_storec (cs' := [_, _]) rfl rfl rfl Try.sizeOf133 rfl rfl) (.no rfl) rfl ?_
          intro _
          refine ja_take 7 rfl (by decide +kernel) (v_loadc rfl Try.isAgg27 rfl) (.no rfl) rfl ?_
          refine ja_takel 9 rfl (by decide +kernel) (l_slice (i := 0) (j := min 1 xs.length) rfl FindS.mem Try.runUnderlying27 Try.sizeOf3 (.inl ⟨rfl, rfl⟩) (.inr ⟨_, rfl, rfl⟩) (Nat.zero_le _) (by omega)) (.no rfl) rfl ?_
          intro v21
          refine ja_take 11 rfl (by decide +kernel) (v_assign rfl) (.no rfl) rfl ?_
          refine ja_nil (by decide +kernel) ?_
          refine je_next ?_
          refine j_ret ?_
          refine je_ret rfl rfl rfl rfl rfl (rvs := [.cell 4 133, .tmp 5]) rfl (.cons (.agg (vs := [_, _]) rfl FindB.mem Try.isAgg133 Try.sizeOf133 rfl rfl) (.cons (.tmp rfl) .nil)) (v16, v21) ?_ (fun w h => h.fin (by rw [drop1 xs, take1 xs]; exact memc FindS.mem (memc FindS.mem mem0))) (.inl rfl)
          rfl
      · skip
        refine jn_x rfl (by simp) (x_storec (cs' := [_, _]) rfl rfl rfl Try.sizeOf133 rfl rfl) (.no rfl) rfl ?_
        intro _
        refine ja_take 6 rfl (by decide +kernel) (v_field (k' := 0) rfl Try.runUnderlying133 rfl Try.sizeOf27 (by decide) rfl) (.no rfl) rfl ?_
        refine ja_take 7 rfl (by decide +kernel) (v_loadc rfl Try.isAgg27 rfl) (.no rfl) rfl ?_
        refine ja_takel 9 rfl (by decide +kernel) (l_slice (i := 0) (j := min 1 xs.length) rfl FindS.mem Try.runUnderlying27 Try.sizeOf3 (.inl ⟨rfl, rfl⟩) (.inr ⟨_, rfl, rfl⟩) (Nat.zero_le _) (by omega)) (.no rfl) rfl ?_
        intro v21
        refine ja_take 11 rfl (by decide +kernel) (v_assign rfl) (.no rfl) rfl ?_
        refine ja_nil (by decide +kernel) ?_
        refine je_next ?_
        refine j_ret ?_
        refine je_ret rfl rfl rfl rfl rfl (rvs := [.cell 4 133, .tmp 5]) rfl (.cons (.agg (vs := [_, _]) rfl FindB.mem Try.isAgg133 Try.sizeOf133 rfl rfl) (.cons (.tmp rfl) .nil)) (v16, v21) ?_ (fun w h => h.fin (by rw [drop1 xs, take1 xs]; exact memc FindS.mem (memc FindS.mem mem0))) (.inl rfl)
        rfl
    · skip
      refine jn_x rfl (by simp) (x_storec (cs' := [_, _]) rfl rfl rfl Try.sizeOf133 rfl rfl) (.no rfl) rfl ?_
      intro _
      refine ja_take 6 rfl (by decide +kernel) (v_field (k' := 0) rfl Try.runUnderlying133 rfl Try.sizeOf27 (by decide) rfl) (.no rfl) rfl ?_
      refine ja_take 7 rfl (by decide +kernel) (v_loadc rfl Try.isAgg27 rfl) (.no rfl) rfl ?_
      refine ja_take 8 rfl (by decide +kernel) (v_move rfl) (.no rfl) rfl ?_
      refine ja_takel 9 rfl (by decide +kernel) (l_slice (i := 0) (j := min 1 xs.length) rfl FindS.mem Try.runUnderlying27 Try.sizeOf3 (.inl ⟨rfl, rfl⟩) (.inr ⟨_, rfl, rfl⟩) (Nat.zero_le _) (by omega)) (.no rfl) rfl ?_
      intro v21
      refine ja_take 11 rfl (by decide +kernel) (v_assign rfl) (.no rfl) rfl ?_
      refine ja_nil (by decide +kernel) ?_
      refine je_next ?_
      refine j_ret ?_
      refine je_ret rfl rfl rfl rfl rfl (rvs := [.cell 4 133, .tmp 5]) rfl (.cons (.agg (vs := [_, _]) rfl FindB.mem Try.isAgg133 Try.sizeOf133 rfl rfl) (.cons (.tmp rfl) .nil)) (v16, v21) ?_ (fun w h => h.fin (by rw [drop1 xs, take1 xs]; exact memc FindS.mem (memc FindS.mem mem0))) (.inl rfl)
      rfl
  · skip
    refine jn_v rfl (v_field (k' := 0) rfl Try.runUnderlying133 rfl Try.sizeOf27 (by decide) rfl) (.no rfl) rfl ?_
    refine ja_three (i := 5) (j := 7) (k := 8) (by decide +kernel) ?_ ?_ ?_
    · skip
      refine jn_q rfl (q_callP (f133_spec) Try.call133 (by rfl) rfl (memc FindS.mem (memc FindS.mem mem0))) (.no rfl) rfl ?_
      intro x17
      refine ja_three (i := 7) (j := 8) (k := 10) (by decide +kernel) ?_ ?_ ?_
      · skip
        refine jn_v rfl (v_loadc rfl Try.isAgg27 rfl) (.no rfl) rfl ?_
        refine ja_two (i := 8) (j := 10) (by decide +kernel) ?_ ?_
        · skip
          refine jn_v rfl (v_move rfl) (.no rfl) rfl ?_
          refine ja_two (i := 9) (j := 10) (by decide +kernel) ?_ ?_
          · skip
            refine jn_q rfl (OpL.q (l_slice (i := 0) (j := min 1 xs.length) rfl FindS.mem Try.runUnderlying27 Try.sizeOf3 (.inl ⟨rfl, rfl⟩) (.inr ⟨_, rfl, rfl⟩) (Nat.zero_le _) (by omega))) (.no rfl) rfl ?_
            intro v21
            refine ja_one (i := 10) (by decide +kernel) (jn_x rfl (by simp) (x_storec (cs' := [_, _]) rfl rfl rfl Try.sizeOf133 rfl rfl) (.no rfl) rfl ?_)
            intro _
            refine ja_take 11 rfl (by decide +kernel) (v_assign rfl) (.no rfl) rfl ?_
            refine ja_nil (by decide +kernel) ?_
            refine je_next ?_
            refine j_ret ?_
            refine je_ret rfl rfl rfl rfl rfl (rvs := [.cell 4 133, .tmp 5]) rfl (.cons (.agg (vs := [_, _]) rfl FindB.mem Try.isAgg133 Try.sizeOf133 rfl rfl) (.cons (.tmp rfl) .nil)) (v16, v21) ?_ (fun w h => h.fin (by rw [drop1 xs, take1 xs]; exact memc FindS.mem (memc FindS.mem mem0))) (.inl rfl)
            rfl
          · skip
            refine jn_x rfl (by simp) (x_storec (cs' := [_, _]) rfl rfl rfl Try.sizeOf133 rfl rfl) (.no rfl) rfl ?_
            intro _
            refine ja_takel 9 rfl (by decide +kernel) (l_slice (i := 0) (j := min 1 xs.length) rfl FindS.mem Try.runUnderlying27 Try.sizeOf3 (.inl ⟨rfl, rfl⟩) (.inr ⟨_, rfl, rfl⟩) (Nat.zero_le _) (by omega)) (.no rfl) rfl ?_
            intro v21
            refine ja_take 11 rfl (by decide +kernel) (v_assign rfl) (.no rfl) rfl ?_
            refine ja_nil (by decide +kernel) ?_
            refine je_next ?_
            refine j_ret ?_
            refine je_ret rfl rfl rfl rfl rfl (rvs := [.cell 4 133, .tmp 5]) rfl (.cons (.agg (vs := [_, _]) rfl FindB.mem Try.isAgg133 Try.sizeOf133 rfl rfl) (.cons (.tmp rfl) .nil)) (v16, v21) ?_ (fun w h => h.fin (by rw [drop1 xs, take1 xs]; exact memc FindS.mem (memc FindS.mem mem0))) (.inl rfl)
            rfl
        · skip
          refine jn_x rfl (by simp) (x_storec (cs' := [_, _]) rfl rfl rfl Try.sizeOf133 rfl rfl) (.no rfl) rfl ?_
          intro _
          refine ja_take 8 rfl (by decide +kernel) (v_move rfl) (.no rfl) rfl ?_
          refine ja_takel 9 rfl (by decide +kernel) (l_slice (i := 0) (j := min 1 xs.length) rfl FindS.mem Try.runUnderlying27 Try.sizeOf3 (.inl ⟨rfl, rfl⟩) (.inr ⟨_, rfl, rfl⟩) (Nat.zero_le _) (by omega)) (.no rfl) rfl ?_
          intro v21
          refine ja_take 11 rfl (by decide +kernel) (v_assign rfl) (.no rfl) rfl ?_
          refine ja_nil (by decide +kernel) ?_
          refine je_next ?_
          refine j_ret ?_
          refine je_ret rfl rfl rfl rfl rfl (rvs := [.cell 4 133, .tmp 5]) rfl (.cons (.agg (vs := [_, _]) rfl FindB.mem Try.isAgg133 Try.sizeOf133 rfl rfl) (.cons (.tmp rfl) .nil)) (v16, v21) ?_ (fun w h => h.fin (by rw [drop1 xs, take1 xs]; exact memc FindS.mem (memc FindS.mem mem0))) (.inl rfl)
          rfl
      · skip
        refine jn_v rfl (v_move rfl) (.no rfl) rfl ?_
        refine ja_two (i := 7) (j := 10) (by decide +kernel) ?_ ?_
        · skip
          refine jn_v rfl (v_loadc rfl Try.isAgg27 rfl) (.no rfl) rfl ?_
          refine ja_two (i := 9) (j := 10) (by decide +kernel) ?_ ?_
          · skip
            refine jn_q rfl (OpL.q (l_slice (i := 0) (j := min 1 xs.length) rfl FindS.mem Try.runUnderlying27 Try.sizeOf3 (.inl ⟨rfl, rfl⟩) (.inr ⟨_, rfl, rfl⟩) (Nat.zero_le _) (by omega))) (.no rfl) rfl ?_
            intro v21
            refine ja_one (i := 10) (by decide +kernel) (jn_x rfl (by simp) (x_storec (cs' := [_, _]) rfl rfl rfl Try.sizeOf133 rfl rfl) (.no rfl) rfl ?_)
            intro _
            refine ja_take 11 rfl (by decide +kernel) (v_assign rfl) (.no rfl) rfl ?_
            refine ja_nil (by decide +kernel) ?_
            refine je_next ?_
            refine j_ret ?_
            refine je_ret rfl rfl rfl rfl rfl (rvs := [.cell 4 133, .tmp 5]) rfl (.cons (.agg (vs := [_, _]) rfl FindB.mem Try.isAgg133 Try.sizeOf133 rfl rfl) (.cons (.tmp rfl) .nil)) (v16, v21) ?_ (fun w h => h.fin (by rw [drop1 xs, take1 xs]; exact memc FindS.mem (memc FindS.mem mem0))) (.inl rfl)
            rfl
          · skip
            refine jn_x rfl (by simp) (x_storec (cs' := [_, _]) rfl rfl rfl Try.sizeOf133 rfl rfl) (.no rfl) rfl ?_
            intro _
            refine ja_takel 9 rfl (by decide +kernel) (l_slice (i := 0) (j := min 1 xs.length) rfl FindS.mem Try.runUnderlying27 Try.sizeOf3 (.inl ⟨rfl, rfl⟩) (.inr ⟨_, rfl, rfl⟩) (Nat.zero_le _) (by omega)) (.no rfl) rfl ?_
            intro v21
            refine ja_take 11 rfl (by decide +kernel) (v_assign rfl) (.no rfl) rfl ?_
            refine ja_nil (by decide +kernel) ?_
            refine je_next ?_
            refine j_ret ?_
            refine je_ret rfl rfl rfl rfl rfl (rvs := [.cell 4 133, .tmp 5]) rfl (.cons (.agg (vs := [_, _]) rfl FindB.mem Try.isAgg133 Try.sizeOf133 rfl rfl) (.cons (.tmp rfl) .nil)) (v16, v21) ?_ (fun w h => h.fin (by rw [drop1 xs, take1 xs]; exact memc FindS.mem (memc FindS.mem mem0))) (.inl rfl)
            rfl
        · skip
          refine jn_x rfl (by simp) (x_storec (cs' := [_, _]) rfl rfl rfl Try.sizeOf133 rfl rfl) (.no rfl) rfl ?_
          intro _
          refine ja_take 7 rfl (by decide +kernel) (v_loadc rfl Try.isAgg27 rfl) (.no rfl) rfl ?_
          refine ja_takel 9 rfl (by decide +kernel) (l_slice (i := 0) (j := min 1 xs.length) rfl FindS.mem Try.runUnderlying27 Try.sizeOf3 (.inl ⟨rfl, rfl⟩) (.inr ⟨_, rfl, rfl⟩) (Nat.zero_le _) (by omega)) (.no rfl) rfl ?_
          intro v21
          refine ja_take 11 rfl (by decide +kernel) (v_assign rfl) (.no rfl) rfl ?_
          refine ja_nil (by decide +kernel) ?_
          refine je_next ?_
          refine j_ret ?_
          refine je_ret rfl rfl rfl rfl rfl (rvs := [.cell 4 133, .tmp 5]) rfl (.cons (.agg (vs := [_, _]) rfl FindB.mem Try.isAgg133 Try.sizeOf133 rfl rfl) (.cons (.tmp rfl) .nil)) (v16, v21) ?_ (fun w h => h.fin (by rw [drop1 xs, take1 xs]; exact memc FindS.mem (memc FindS.mem mem0))) (.inl rfl)
          rfl
      · skip
        refine jn_x rfl (by simp) (x_storec (cs' := [_, _]) rfl rfl rfl Try.sizeOf133 rfl rfl) (.no rfl) rfl ?_
        intro _
        refine ja_take 7 rfl (by decide +kernel) (v_loadc rfl Try.isAgg27 rfl) (.no rfl) rfl ?_
        refine ja_take 8 rfl (by decide +kernel) (v_move rfl) (.no rfl) rfl ?_
        refine ja_takel 9 rfl (by decide +kernel) (l_slice (i := 0) (j := min 1 xs.length) rfl FindS.mem Try.runUnderlying27 Try.sizeOf3 (.inl ⟨rfl, rfl⟩) (.inr ⟨_, rfl, rfl⟩) (Nat.zero_le _) (by omega)) (.no rfl) rfl ?_
        intro v21
        refine ja_take 11 rfl (by decide +kernel) (v_assign rfl) (.no rfl) rfl ?_
        refine ja_nil (by decide +kernel) ?_
        refine je_next ?_
        refine j_ret ?_
        refine je_ret rfl rfl rfl rfl rfl (rvs := [.cell 4 133, .tmp 5]) rfl (.cons (.agg (vs := [_, _]) rfl FindB.mem Try.isAgg133 Try.sizeOf133 rfl rfl) (.cons (.tmp rfl) .nil)) (v16, v21) ?_ (fun w h => h.fin (by rw [drop1 xs, take1 xs]; exact memc FindS.mem (memc FindS.mem mem0))) (.inl rfl)
        rfl
    · skip
      refine jn_v rfl (v_loadc rfl Try.isAgg27 rfl) (.no rfl) rfl ?_
      refine ja_two (i := 5) (j := 8) (by decide +kernel) ?_ ?_
      · skip
        refine jn_q rfl (q_callP (f133_spec) Try.call133 (by rfl) rfl (memc FindS.mem (memc FindS.mem mem0))) (.no rfl) rfl ?_
        intro x17
        refine ja_two (i := 8) (j := 10) (by decide +kernel) ?_ ?_
        · skip
          refine jn_v rfl (v_move rfl) (.no rfl) rfl ?_
          refine ja_two (i := 9) (j := 10) (by decide +kernel) ?_ ?_
          · skip
            refine jn_q rfl (OpL.q (l_slice (i := 0) (j := min 1 xs.length) rfl FindS.mem Try.runUnderlying27 Try.sizeOf3 (.inl ⟨rfl, rfl⟩) (.inr ⟨_, rfl, rfl⟩) (Nat.zero_le _) (by omega))) (.no rfl) rfl ?_
            intro v21
            refine ja_one (i := 10) (by decide +kernel) (jn_x rfl (by simp) (x_storec (cs' := [_, _]) rfl rfl rfl Try.sizeOf133 rfl rfl) (.no rfl) rfl ?_)
            intro _
            refine ja_take 11 rfl (by decide +kernel) (v_assign rfl) (.no rfl) rfl ?_
            refine ja_nil (by decide +kernel) ?_
            refine je_next ?_
            refine j_ret ?_
            refine je_ret rfl rfl rfl rfl rfl (rvs := [.cell 4 133, .tmp 5]) rfl (.cons (.agg (vs := [_, _]) rfl FindB.mem Try.isAgg133 Try.sizeOf133 rfl rfl) (.cons (.tmp rfl) .nil)) (v16, v21) ?_ (fun w h => h.fin (by rw [drop1 xs, take1 xs]; exact memc FindS.mem (memc FindS.mem mem0))) (.inl rfl)
            rfl
          · skip
            refine jn_x rfl (by simp) (x_storec (cs' := [_, _]) rfl rfl rfl Try.sizeOf133 rfl rfl) (.no rfl) rfl ?_
            intro _
            refine ja_takel 9 rfl (by decide +kernel) (l_slice (i := 0) (j := min 1 xs.length) rfl FindS.mem Try.runUnderlying27 Try.sizeOf3 (.inl ⟨rfl, rfl⟩) (.inr ⟨_, rfl, rfl⟩) (Nat.zero_le _) (by omega)) (.no rfl) rfl ?_
            intro v21
            refine ja_take 11 rfl (by decide +kernel) (v_assign rfl) (.no rfl) rfl ?_
            refine ja_nil (by decide +kernel) ?_
            refine je_next ?_
            refine j_ret ?_
            refine je_ret rfl rfl rfl rfl rfl (rvs := [.cell 4 133, .tmp 5]) rfl (.cons (.agg (vs := [_, _]) rfl FindB.mem Try.isAgg133 Try.sizeOf133 rfl rfl) (.cons (.tmp rfl) .nil)) (v16, v21) ?_ (fun w h => h.fin (by rw [drop1 xs, take1 xs]; exact memc FindS.mem (memc FindS.mem mem0))) (.inl rfl)
            rfl
        · skip
          refine jn_x rfl (by simp) (x_storec (cs' := [_, _]) rfl rfl rfl Try.sizeOf133 rfl rfl) (.no rfl) rfl ?_
          intro _
          refine ja_take 8 rfl (by decide +kernel) (v_move rfl) (.no rfl) rfl ?_
          refine ja_takel 9 rfl (by decide +kernel) (l_slice (i := 0) (j := min 1 xs.length) rfl FindS.mem Try.runUnderlying27 Try.sizeOf3 (.inl ⟨rfl, rfl⟩) (.inr ⟨_, rfl, rfl⟩) (Nat.zero_le _) (by omega)) (.no rfl) rfl ?_
          intro v21
          refine ja_take 11 rfl (by decide +kernel) (v_assign rfl) (.no rfl) rfl ?_
          refine ja_nil (by decide +kernel) ?_
          refine je_next ?_
          refine j_ret ?_
          refine je_ret rfl rfl rfl rfl rfl (rvs := [.cell 4 133, .tmp 5]) rfl (.cons (.agg (vs := [_, _]) rfl FindB.mem Try.isAgg133 Try.sizeOf133 rfl rfl) (.cons (.tmp rfl) .nil)) (v16, v21) ?_ (fun w h => h.fin (by rw [drop1 xs, take1 xs]; exact memc FindS.mem (memc FindS.mem mem0))) (.inl rfl)
          rfl
      · skip
        refine jn_v rfl (v_move rfl) (.no rfl) rfl ?_
        refine ja_two (i := 5) (j := 9) (by decide +kernel) ?_ ?_
        · skip
          refine jn_q rfl (q_callP (f133_spec) Try.call133 (by rfl) rfl (memc FindS.mem (memc FindS.mem mem0))) (.no rfl) rfl ?_
          intro x17
          refine ja_two (i := 9) (j := 10) (by decide +kernel) ?_ ?_
          · skip
            refine jn_q rfl (OpL.q (l_slice (i := 0) (j := min 1 xs.length) rfl FindS.mem Try.runUnderlying27 Try.sizeOf3 (.inl ⟨rfl, rfl⟩) (.inr ⟨_, rfl, rfl⟩) (Nat.zero_le _) (by omega))) (.no rfl) rfl ?_
            intro v21
            refine ja_one (i := 10) (by decide +kernel) (jn_x rfl (by simp) (x_storec (cs' := [_, _]) rfl rfl rfl Try.sizeOf133 rfl rfl) (.no rfl) rfl ?_)
            intro _
            refine ja_take 11 rfl (by decide +kernel) (v_assign rfl) (.no rfl) rfl ?_
            refine ja_nil (by decide +kernel) ?_
            refine je_next ?_
            refine j_ret ?_
            refine je_ret rfl rfl rfl rfl rfl (rvs := [.cell 4 133, .tmp 5]) rfl (.cons (.agg (vs := [_, _]) rfl FindB.mem Try.isAgg133 Try.sizeOf133 rfl rfl) (.cons (.tmp rfl) .nil)) (v16, v21) ?_ (fun w h => h.fin (by rw [drop1 xs, take1 xs]; exact memc FindS.mem (memc FindS.mem mem0))) (.inl rfl)
            rfl
          · skip
            refine jn_x rfl (by simp) (x_storec (cs' := [_, _]) rfl rfl rfl Try.sizeOf133 rfl rfl) (.no rfl) rfl ?_
            intro _
            refine ja_takel 9 rfl (by decide +kernel) (l_slice (i := 0) (j := min 1 xs.length) rfl FindS.mem Try.runUnderlying27 Try.sizeOf3 (.inl ⟨rfl, rfl⟩) (.inr ⟨_, rfl, rfl⟩) (Nat.zero_le _) (by omega)) (.no rfl) rfl ?_
            intro v21
            refine ja_take 11 rfl (by decide +kernel) (v_assign rfl) (.no rfl) rfl ?_
            refine ja_nil (by decide +kernel) ?_
            refine je_next ?_
            refine j_ret ?_
            refine je_ret rfl rfl rfl rfl rfl (rvs := [.cell 4 133, .tmp 5]) rfl (.cons (.agg (vs := [_, _]) rfl FindB.mem Try.isAgg133 Try.sizeOf133 rfl rfl) (.cons (.tmp rfl) .nil)) (v16, v21) ?_ (fun w h => h.fin (by rw [drop1 xs, take1 xs]; exact memc FindS.mem (memc FindS.mem mem0))) (.inl rfl)
            rfl
        · skip
          refine jn_q rfl (OpL.q (l_slice (i := 0) (j := min 1 xs.length) rfl FindS.mem Try.runUnderlying27 Try.sizeOf3 (.inl ⟨rfl, rfl⟩) (.inr ⟨_, rfl, rfl⟩) (Nat.zero_le _) (by omega))) (.no rfl) rfl ?_
          intro v21
          refine ja_one (i := 5) (by decide +kernel) (jn_q rfl (q_callP (f133_spec) Try.call133 (by rfl) rfl (memc FindS.mem (memc FindS.mem mem0))) (.no rfl) rfl ?_)
          intro x17
          refine ja_one (i := 10) (by decide +kernel) (jn_x rfl (by simp) (x_storec (cs' := [_, _]) rfl rfl rfl Try.sizeOf133 rfl rfl) (.no rfl) rfl ?_)
          intro _
          refine ja_take 11 rfl (by decide +kernel) (v_assign rfl) (.no rfl) rfl ?_
          refine ja_nil (by decide +kernel) ?_
          refine je_next ?_
          refine j_ret ?_
          refine je_ret rfl rfl rfl rfl rfl (rvs := [.cell 4 133, .tmp 5]) rfl (.cons (.agg (vs := [_, _]) rfl FindB.mem Try.isAgg133 Try.sizeOf133 rfl rfl) (.cons (.tmp rfl) .nil)) (v16, v21) ?_ (fun w h => h.fin (by rw [drop1 xs, take1 xs]; exact memc FindS.mem (memc FindS.mem mem0))) (.inl rfl)
          rfl
    · skip
      refine jn_v rfl (v_move rfl) (.no rfl) rfl ?_
      refine ja_two (i := 5) (j := 7) (by decide +kernel) ?_ ?_
      · skip
        refine jn_q rfl (q_callP (f133_spec) Try.call133 (by rfl) rfl (memc FindS.mem (memc FindS.mem mem0))) (.no rfl) rfl ?_
        intro x17
        refine ja_two (i := 7) (j := 10) (by decide +kernel) ?_ ?_
        · skip
          refine jn_v rfl (v_loadc rfl Try.isAgg27 rfl) (.no rfl) rfl ?_
          refine ja_two (i := 9) (j := 10) (by decide +kernel) ?_ ?_
          · skip
            refine jn_q rfl (OpL.q (l_slice (i := 0) (j := min 1 xs.length) rfl FindS.mem Try.runUnderlying27 Try.sizeOf3 (.inl ⟨rfl, rfl⟩) (.inr ⟨_, rfl, rfl⟩) (Nat.zero_le _) (by omega))) (.no rfl) rfl ?_
            intro v21
            refine ja_one (i := 10) (by decide +kernel) (jn_x rfl (by simp) (x_storec (cs' := [_, _]) rfl rfl rfl Try.sizeOf133 rfl rfl) (.no rfl) rfl ?_)
            intro _
            refine ja_take 11 rfl (by decide +kernel) (v_assign rfl) (.no rfl) rfl ?_
            refine ja_nil (by decide +kernel) ?_
            refine je_next ?_
            refine j_ret ?_
            refine je_ret rfl rfl rfl rfl rfl (rvs := [.cell 4 133, .tmp 5]) rfl (.cons (.agg (vs := [_, _]) rfl FindB.mem Try.isAgg133 Try.sizeOf133 rfl rfl) (.cons (.tmp rfl) .nil)) (v16, v21) ?_ (fun w h => h.fin (by rw [drop1 xs, take1 xs]; exact memc FindS.mem (memc FindS.mem mem0))) (.inl rfl)
            rfl
          · skip
            refine jn_x rfl (by simp) (x_storec (cs' := [_, _]) rfl rfl rfl Try.sizeOf133 rfl rfl) (.no rfl) rfl ?_
            intro _
            refine ja_takel 9 rfl (by decide +kernel) (l_slice (i := 0) (j := min 1 xs.length) rfl FindS.mem Try.runUnderlying27 Try.sizeOf3 (.inl ⟨rfl, rfl⟩) (.inr ⟨_, rfl, rfl⟩) (Nat.zero_le _) (by omega)) (.no rfl) rfl ?_
            intro v21
            refine ja_take 11 rfl (by decide +kernel) (v_assign rfl) (.no rfl) rfl ?_
            refine ja_nil (by decide +kernel) ?_
            refine je_next ?_
            refine j_ret ?_
            refine je_ret rfl rfl rfl rfl rfl (rvs := [.cell 4 133, .tmp 5]) rfl (.cons (.agg (vs := [_, _]) rfl FindB.mem Try.isAgg133 Try.sizeOf133 rfl rfl) (.cons (.tmp rfl) .nil)) (v16, v21) ?_ (fun w h => h.fin (by rw [drop1 xs, take1 xs]; exact memc FindS.mem (memc FindS.mem mem0))) (.inl rfl)
            rfl
        · skip
          refine jn_x rfl (by simp) (x_storec (cs' := [_, _]) rfl rfl rfl Try.sizeOf133 rfl rfl) (.no rfl) rfl ?_
          intro _
          refine ja_take 7 rfl (by decide +kernel) (v_loadc rfl Try.isAgg27 rfl) (.no rfl) rfl ?_
          refine ja_takel 9 rfl (by decide +kernel) (l_slice (i := 0) (j := min 1 xs.length) rfl FindS.mem Try.runUnderlying27 Try.sizeOf3 (.inl ⟨rfl, rfl⟩) (.inr ⟨_, rfl, rfl⟩) (Nat.zero_le _) (by omega)) (.no rfl) rfl ?_
          intro v21
          refine ja_take 11 rfl (by decide +kernel) (v_assign rfl) (.no rfl) rfl ?_
          refine ja_nil (by decide +kernel) ?_
          refine je_next ?_
          refine j_ret ?_
          refine je_ret rfl rfl rfl rfl rfl (rvs := [.cell 4 133, .tmp 5]) rfl (.cons (.agg (vs := [_, _]) rfl FindB.mem Try.isAgg133 Try.sizeOf133 rfl rfl) (.cons (.tmp rfl) .nil)) (v16, v21) ?_ (fun w h => h.fin (by rw [drop1 xs, take1 xs]; exact memc FindS.mem (memc FindS.mem mem0))) (.inl rfl)
          rfl
      · skip
        refine jn_v rfl (v_loadc rfl Try.isAgg27 rfl) (.no rfl) rfl ?_
        refine ja_two (i := 5) (j := 9) (by decide +kernel) ?_ ?_
        · skip
          refine jn_q rfl (q_callP (f133_spec) Try.call133 (by rfl) rfl (memc FindS.mem (memc FindS.mem mem0))) (.no rfl) rfl ?_
          intro x17
          refine ja_two (i := 9) (j := 10) (by decide +kernel) ?_ ?_
          · skip
            refine jn_q rfl (OpL.q (l_slice (i := 0) (j := min 1 xs.length) rfl FindS.mem Try.runUnderlying27 Try.sizeOf3 (.inl ⟨rfl, rfl⟩) (.inr ⟨_, rfl, rfl⟩) (Nat.zero_le _) (by omega))) (.no rfl) rfl ?_
            intro v21
            refine ja_one (i := 10) (by decide +kernel) (jn_x rfl (by simp) (x_storec (cs' := [_, _]) rfl rfl rfl Try.sizeOf133 rfl rfl) (.no rfl) rfl ?_)
            intro _
            refine ja_take 11 rfl (by decide +kernel) (v_assign rfl) (.no rfl) rfl ?_
            refine ja_nil (by decide +kernel) ?_
            refine je_next ?_
            refine j_ret ?_
            refine je_ret rfl rfl rfl rfl rfl (rvs := [.cell 4 133, .tmp 5]) rfl (.cons (.agg (vs := [_, _]) rfl FindB.mem Try.isAgg133 Try.sizeOf133 rfl rfl) (.cons (.tmp rfl) .nil)) (v16, v21) ?_ (fun w h => h.fin (by rw [drop1 xs, take1 xs]; exact memc FindS.mem (memc FindS.mem mem0))) (.inl rfl)
            rfl
          · skip
            refine jn_x rfl (by simp) (x_storec (cs' := [_, _]) rfl rfl rfl Try.sizeOf133 rfl rfl) (.no rfl) rfl ?_
            intro _
            refine ja_takel 9 rfl (by decide +kernel) (l_slice (i := 0) (j := min 1 xs.length) rfl FindS.mem Try.runUnderlying27 Try.sizeOf3 (.inl ⟨rfl, rfl⟩) (.inr ⟨_, rfl, rfl⟩) (Nat.zero_le _) (by omega)) (.no rfl) rfl ?_
            intro v21
            refine ja_take 11 rfl (by decide +kernel) (v_assign rfl) (.no rfl) rfl ?_
            refine ja_nil (by decide +kernel) ?_
            refine je_next ?_
            refine j_ret ?_
            refine je_ret rfl rfl rfl rfl rfl (rvs := [.cell 4 133, .tmp 5]) rfl (.cons (.agg (vs := [_, _]) rfl FindB.mem Try.isAgg133 Try.sizeOf133 rfl rfl) (.cons (.tmp rfl) .nil)) (v16, v21) ?_ (fun w h => h.fin (by rw [drop1 xs, take1 xs]; exact memc FindS.mem (memc FindS.mem mem0))) (.inl rfl)
            rfl
        · skip
          refine jn_q rfl (OpL.q (l_slice (i := 0) (j := min 1 xs.length) rfl FindS.mem Try.runUnderlying27 Try.sizeOf3 (.inl ⟨rfl, rfl⟩) (.inr ⟨_, rfl, rfl⟩) (Nat.zero_le _) (by omega))) (.no rfl) rfl ?_
          intro v21
          refine ja_one (i := 5) (by decide +kernel) (jn_q rfl (q_callP (f133_spec) Try.call133 (by rfl) rfl (memc FindS.mem (memc FindS.mem mem0))) (.no rfl) rfl ?_)
          intro x17
          refine ja_one (i := 10) (by decide +kernel) (jn_x rfl (by simp) (x_storec (cs' := [_, _]) rfl rfl rfl Try.sizeOf133 rfl rfl) (.no rfl) rfl ?_)
          intro _
          refine ja_take 11 rfl (by decide +kernel) (v_assign rfl) (.no rfl) rfl ?_
          refine ja_nil (by decide +kernel) ?_
          refine je_next ?_
          refine j_ret ?_
          refine je_ret rfl rfl rfl rfl rfl (rvs := [.cell 4 133, .tmp 5]) rfl (.cons (.agg (vs := [_, _]) rfl FindB.mem Try.isAgg133 Try.sizeOf133 rfl rfl) (.cons (.tmp rfl) .nil)) (v16, v21) ?_ (fun w h => h.fin (by rw [drop1 xs, take1 xs]; exact memc FindS.mem (memc FindS.mem mem0))) (.inl rfl)
          rfl
  · skip
    refine jn_v rfl (v_move rfl) (.no rfl) rfl ?_
    refine ja_two (i := 5) (j := 6) (by decide +kernel) ?_ ?_
    · skip
      refine jn_q rfl (q_callP (f133_spec) Try.call133 (by rfl) rfl (memc FindS.mem (memc FindS.mem mem0))) (.no rfl) rfl ?_
      intro x17
      refine ja_two (i := 6) (j := 10) (by decide +kernel) ?_ ?_
      · skip
        refine jn_v rfl (v_field (k' := 0) rfl Try.runUnderlying133 rfl Try.sizeOf27 (by decide) rfl) (.no rfl) rfl ?_
        refine ja_two (i := 7) (j := 10) (by decide +kernel) ?_ ?_
        · skip
          refine jn_v rfl (v_loadc rfl Try.isAgg27 rfl) (.no rfl) rfl ?_
          refine ja_two (i := 9) (j := 10) (by decide +kernel) ?_ ?_
          · skip
            refine jn_q rfl (OpL.q (l_slice (i := 0) (j := min 1 xs.length) rfl FindS.mem Try.runUnderlying27 Try.sizeOf3 (.inl ⟨rfl, rfl⟩) (.inr ⟨_, rfl, rfl⟩) (Nat.zero_le _) (by omega))) (.no rfl) rfl ?_
            intro v21
            refine ja_one (i := 10) (by decide +kernel) (jn_x rfl (by simp) (x_storec (cs' := [_, _]) rfl rfl rfl Try.sizeOf133 rfl rfl) (.no rfl) rfl ?_)
            intro _
            refine ja_take 11 rfl (by decide +kernel) (v_assign rfl) (.no rfl) rfl ?_
            refine ja_nil (by decide +kernel) ?_
            refine je_next ?_
            refine j_ret ?_
            refine je_ret rfl rfl rfl rfl rfl (rvs := [.cell 4 133, .tmp 5]) rfl (.cons (.agg (vs := [_, _]) rfl FindB.mem Try.isAgg133 Try.sizeOf133 rfl rfl) (.cons (.tmp rfl) .nil)) (v16, v21) ?_ (fun w h => h.fin (by rw [drop1 xs, take1 xs]; exact memc FindS.mem (memc FindS.mem mem0))) (.inl rfl)
            rfl
          · skip
            refine jn_x rfl (by simp) (x_storec (cs' := [_, _]) rfl rfl rfl Try.sizeOf133 rfl rfl) (.no rfl) rfl ?_
            intro _
            refine ja_takel 9 rfl (by decide +kernel) (l_slice (i := 0) (j := min 1 xs.length) rfl FindS.mem Try.runUnderlying27 Try.sizeOf3 (.inl ⟨rfl, rfl⟩) (.inr ⟨_, rfl, rfl⟩) (Nat.zero_le _) (by omega)) (.no rfl) rfl ?_
            intro v21
            refine ja_take 11 rfl (by decide +kernel) (v_assign rfl) (.no rfl) rfl ?_
            refine ja_nil (by decide +kernel) ?_
            refine je_next ?_
            refine j_ret ?_
            refine je_ret rfl rfl rfl rfl rfl (rvs := [.cell 4 133, .tmp 5]) rfl (.cons (.agg (vs := [_, _]) rfl FindB.mem Try.isAgg133 Try.sizeOf133 rfl rfl) (.cons (.tmp rfl) .nil)) (v16, v21) ?_ (fun w h => h.fin (by rw [drop1 xs, take1 xs]; exact memc FindS.mem (memc FindS.mem mem0))) (.inl rfl)
            rfl
        · skip
          refine jn_x rfl (by simp) (x_storec (cs' := [_, _]) rfl rfl rfl Try.sizeOf133 rfl rfl) (.no rfl) rfl ?_
          intro _
          refine ja_take 7 rfl (by decide +kernel) (v_loadc rfl Try.isAgg27 rfl) (.no rfl) rfl ?_
          refine ja_takel 9 rfl (by decide +kernel) (l_slice (i := 0) (j := min 1 xs.length) rfl FindS.mem Try.runUnderlying27 Try.sizeOf3 (.inl ⟨rfl, rfl⟩) (.inr ⟨_, rfl, rfl⟩) (Nat.zero_le _) (by omega)) (.no rfl) rfl ?_
          intro v21
          refine ja_take 11 rfl (by decide +kernel) (v_assign rfl) (.no rfl) rfl ?_
          refine ja_nil (by decide +kernel) ?_
          refine je_next ?_
          refine j_ret ?_
          refine je_ret rfl rfl rfl rfl rfl (rvs := [.cell 4 133, .tmp 5]) rfl (.cons (.agg (vs := [_, _]) rfl FindB.mem Try.isAgg133 Try.sizeOf133 rfl rfl) (.cons (.tmp rfl) .nil)) (v16, v21) ?_ (fun w h => h.fin (by rw [drop1 xs, take1 xs]; exact memc FindS.mem (memc FindS.mem mem0))) (.inl rfl)
          rfl
      · skip
        refine jn_x rfl (by simp) (x_storec (cs' := [_, _]) rfl rfl rfl Try.sizeOf133 rfl rfl) (.no rfl) rfl ?_
        intro _
        refine ja_take 6 rfl (by decide +kernel) (v_field (k' := 0) rfl Try.runUnderlying133 rfl Try.sizeOf27 (by decide) rfl) (.no rfl) rfl ?_
        refine ja_take 7 rfl (by decide +kernel) (v_loadc rfl Try.isAgg27 rfl) (.no rfl) rfl ?_
        refine ja_takel 9 rfl (by decide +kernel) (l_slice (i := 0) (j := min 1 xs.length) rfl FindS.mem Try.runUnderlying27 Try.sizeOf3 (.inl ⟨rfl, rfl⟩) (.inr ⟨_, rfl, rfl⟩) (Nat.zero_le _) (by omega)) (.no rfl) rfl ?_
        intro v21
        refine ja_take 11 rfl (by decide +kernel) (v_assign rfl) (.no rfl) rfl ?_
        refine ja_nil (by decide +kernel) ?_
        refine je_next ?_
        refine j_ret ?_
        refine je_ret rfl rfl rfl rfl rfl (rvs := [.cell 4 133, .tmp 5]) rfl (.cons (.agg (vs := [_, _]) rfl FindB.mem Try.isAgg133 Try.sizeOf133 rfl rfl) (.cons (.tmp rfl) .nil)) (v16, v21) ?_ (fun w h => h.fin (by rw [drop1 xs, take1 xs]; exact memc FindS.mem (memc FindS.mem mem0))) (.inl rfl)
        rfl
    · skip
      refine jn_v rfl (v_field (k' := 0) rfl Try.runUnderlying133 rfl Try.sizeOf27 (by decide) rfl) (.no rfl) rfl ?_
      refine ja_two (i := 5) (j := 7) (by decide +kernel) ?_ ?_
      · skip
        refine jn_q rfl (q_callP (f133_spec) Try.call133 (by rfl) rfl (memc FindS.mem (memc FindS.mem mem0))) (.no rfl) rfl ?_
        intro x17
        refine ja_two (i := 7) (j := 10) (by decide +kernel) ?_ ?_
        · skip
          refine jn_v rfl (v_loadc rfl Try.isAgg27 rfl) (.no rfl) rfl ?_
          refine ja_two (i := 9) (j := 10) (by decide +kernel) ?_ ?_
          · skip
            refine jn_q rfl (OpL.q (l_slice (i := 0) (j := min 1 xs.length) rfl FindS.mem Try.runUnderlying27 Try.sizeOf3 (.inl ⟨rfl, rfl⟩) (.inr ⟨_, rfl, rfl⟩) (Nat.zero_le _) (by omega))) (.no rfl) rfl ?_
            intro v21
            refine ja_one (i := 10) (by decide +kernel) (jn_x rfl (by simp) (x_storec (cs' := [_, _]) rfl rfl rfl Try.sizeOf133 rfl rfl) (.no rfl) rfl ?_)
            intro _
            refine ja_take 11 rfl (by decide +kernel) (v_assign rfl) (.no rfl) rfl ?_
            refine ja_nil (by decide +kernel) ?_
            refine je_next ?_
            refine j_ret ?_
            refine je_ret rfl rfl rfl rfl rfl (rvs := [.cell 4 133, .tmp 5]) rfl (.cons (.agg (vs := [_, _]) rfl FindB.mem Try.isAgg133 Try.sizeOf133 rfl rfl) (.cons (.tmp rfl) .nil)) (v16, v21) ?_ (fun w h => h.fin (by rw [drop1 xs, take1 xs]; exact memc FindS.mem (memc FindS.mem mem0))) (.inl rfl)
            rfl
          · skip
            refine jn_x rfl (by simp) (x_storec (cs' := [_, _]) rfl rfl rfl Try.sizeOf133 rfl rfl) (.no rfl) rfl ?_
            intro _
            refine ja_takel 9 rfl (by decide +kernel) (l_slice (i := 0) (j := min 1 xs.length) rfl FindS.mem Try.runUnderlying27 Try.sizeOf3 (.inl ⟨rfl, rfl⟩) (.inr ⟨_, rfl, rfl⟩) (Nat.zero_le _) (by omega)) (.no rfl) rfl ?_
            intro v21
            refine ja_take 11 rfl (by decide +kernel) (v_assign rfl) (.no rfl) rfl ?_
            refine ja_nil (by decide +kernel) ?_
            refine je_next ?_
            refine j_ret ?_
            refine je_ret rfl rfl rfl rfl rfl (rvs := [.cell 4 133, .tmp 5]) rfl (.cons (.agg (vs := [_, _]) rfl FindB.mem Try.isAgg133 Try.sizeOf133 rfl rfl) (.cons (.tmp rfl) .nil)) (v16, v21) ?_ (fun w h => h.fin (by rw [drop1 xs, take1 xs]; exact memc FindS.mem (memc FindS.mem mem0))) (.inl rfl)
            rfl
        · skip
          refine jn_x rfl (by simp) (x_storec (cs' := [_, _]) rfl rfl rfl Try.sizeOf133 rfl rfl) (.no rfl) rfl ?_
          intro _
          refine ja_take 7 rfl (by decide +kernel) (v_loadc rfl Try.isAgg27 rfl) (.no rfl) rfl ?_
          refine ja_takel 9 rfl (by decide +kernel) (l_slice (i := 0) (j := min 1 xs.length) rfl FindS.mem Try.runUnderlying27 Try.sizeOf3 (.inl ⟨rfl, rfl⟩) (.inr ⟨_, rfl, rfl⟩) (Nat.zero_le _) (by omega)) (.no rfl) rfl ?_
          intro v21
          refine ja_take 11 rfl (by decide +kernel) (v_assign rfl) (.no rfl) rfl ?_
          refine ja_nil (by decide +kernel) ?_
          refine je_next ?_
          refine j_ret ?_
          refine je_ret rfl rfl rfl rfl rfl (rvs := [.cell 4 133, .tmp 5]) rfl (.cons (.agg (vs := [_, _]) rfl FindB.mem Try.isAgg133 Try.sizeOf133 rfl rfl) (.cons (.tmp rfl) .nil)) (v16, v21) ?_ (fun w h => h.fin (by rw [drop1 xs, take1 xs]; exact memc FindS.mem (memc FindS.mem mem0))) (.inl rfl)
          rfl
      · skip
        refine jn_v rfl (v_loadc rfl Try.isAgg27 rfl) (.no rfl) rfl ?_
        refine ja_two (i := 5) (j := 9) (by decide +kernel) ?_ ?_
        · skip
          refine jn_q rfl (q_callP (f133_spec) Try.call133 (by rfl) rfl (memc FindS.mem (memc FindS.mem mem0))) (.no rfl) rfl ?_
          intro x17
          refine ja_two (i := 9) (j := 10) (by decide +kernel) ?_ ?_
          · skip
            refine jn_q rfl (OpL.q (l_slice (i := 0) (j := min 1 xs.length) rfl FindS.mem Try.runUnderlying27 Try.sizeOf3 (.inl ⟨rfl, rfl⟩) (.inr ⟨_, rfl, rfl⟩) (Nat.zero_le _) (by omega))) (.no rfl) rfl ?_
            intro v21
            refine ja_one (i := 10) (by decide +kernel) (jn_x rfl (by simp) (x_storec (cs' := [_, _]) rfl rfl rfl Try.sizeOf133 rfl rfl) (.no rfl) rfl ?_)
            intro _
            refine ja_take 11 rfl (by decide +kernel) (v_assign rfl) (.no rfl) rfl ?_
            refine ja_nil (by decide +kernel) ?_
            refine je_next ?_
            refine j_ret ?_
            refine je_ret rfl rfl rfl rfl rfl (rvs := [.cell 4 133, .tmp 5]) rfl (.cons (.agg (vs := [_, _]) rfl FindB.mem Try.isAgg133 Try.sizeOf133 rfl rfl) (.cons (.tmp rfl) .nil)) (v16, v21) ?_ (fun w h => h.fin (by rw [drop1 xs, take1 xs]; exact memc FindS.mem (memc FindS.mem mem0))) (.inl rfl)
            rfl
          · skip
            refine jn_x rfl (by simp) (x_storec (cs' := [_, _]) rfl rfl rfl Try.sizeOf133 rfl rfl) (.no rfl) rfl ?_
            intro _
            refine ja_takel 9 rfl (by decide +kernel) (l_slice (i := 0) (j := min 1 xs.length) rfl FindS.mem Try.runUnderlying27 Try.sizeOf3 (.inl ⟨rfl, rfl⟩) (.inr ⟨_, rfl, rfl⟩) (Nat.zero_le _) (by omega)) (.no rfl) rfl ?_
            intro v21
            refine ja_take 11 rfl (by decide +kernel) (v_assign rfl) (.no rfl) rfl ?_
            refine ja_nil (by decide +kernel) ?_
            refine je_next ?_
            refine j_ret ?_
            refine je_ret rfl rfl rfl rfl rfl (rvs := [.cell 4 133, .tmp 5]) rfl (.cons (.agg (vs := [_, _]) rfl FindB.mem Try.isAgg133 Try.sizeOf133 rfl rfl) (.cons (.tmp rfl) .nil)) (v16, v21) ?_ (fun w h => h.fin (by rw [drop1 xs, take1 xs]; exact memc FindS.mem (memc FindS.mem mem0))) (.inl rfl)
            rfl
        · skip
          refine jn_q rfl (OpL.q (l_slice (i := 0) (j := min 1 xs.length) rfl FindS.mem Try.runUnderlying27 Try.sizeOf3 (.inl ⟨rfl, rfl⟩) (.inr ⟨_, rfl, rfl⟩) (Nat.zero_le _) (by omega))) (.no rfl) rfl ?_
          intro v21
          refine ja_one (i := 5) (by decide +kernel) (jn_q rfl (q_callP (f133_spec) Try.call133 (by rfl) rfl (memc FindS.mem (memc FindS.mem mem0))) (.no rfl) rfl ?_)
          intro x17
          refine ja_one (i := 10) (by decide +kernel) (jn_x rfl (by simp) (x_storec (cs' := [_, _]) rfl rfl rfl Try.sizeOf133 rfl rfl) (.no rfl) rfl ?_)
          intro _
          refine ja_take 11 rfl (by decide +kernel) (v_assign rfl) (.no rfl) rfl ?_
          refine ja_nil (by decide +kernel) ?_
          refine je_next ?_
          refine j_ret ?_
          refine je_ret rfl rfl rfl rfl rfl (rvs := [.cell 4 133, .tmp 5]) rfl (.cons (.agg (vs := [_, _]) rfl FindB.mem Try.isAgg133 Try.sizeOf133 rfl rfl) (.cons (.tmp rfl) .nil)) (v16, v21) ?_ (fun w h => h.fin (by rw [drop1 xs, take1 xs]; exact memc FindS.mem (memc FindS.mem mem0))) (.inl rfl)
          rfl

theorem f112_spec {v : Value} {t : List Int} {c h : Int} : Spec Try.prog 112 [.agg [v, iV c].toArray] [] [sl intK v (h :: t)] Value (fun v' => .tuple [.agg [v', iV c].toArray, iV h, iV 0].toArray) (fun _ => []) (fun v' => [sl intK v' t]) := by
  refine spec_of Try.func112 rfl Try.ntmps112 (by simp) fun ok w => ?_
  refine j_seq ?_
  refine j_region ?_
  refine jx (x_boxc rfl) (.no rfl) rfl ?_
  intro B1
  refine jx (x_alloc Try.zeroValue133 Cells.agg) (.no rfl) rfl ?_
  intro B2
  refine jv (v_assign rfl) (.no rfl) rfl ?_
  refine jv (v_assign rfl) (.no rfl) rfl ?_
  refine jo_nil ?_
  refine je_next ?_
  refine j_seq ?_
  refine j_region ?_
  refine jv (v_loadAc (vs := [_, _]) rfl Try.isAgg133 Try.sizeOf133 rfl rfl) (.no rfl) rfl ?_
  refine jq (q_callP (f134_spec) Try.call134 (by rfl) rfl (memc FindS.mem mem0)) (.no rfl) rfl ?_
  intro p8
  refine jv (v_move rfl) (.no rfl) rfl ?_
  refine jv (v_ext rfl rfl) (.no rfl) rfl ?_
  refine jv (v_ext rfl rfl) (.no rfl) rfl ?_
  refine jx (x_storec (cs' := [_, _]) rfl rfl rfl Try.sizeOf133 rfl rfl) (.no rfl) rfl ?_
  intro _
  refine jv (v_assign rfl) (.no rfl) rfl ?_
  refine jo_nil ?_
  refine je_next ?_
  refine j_seq ?_
  refine j_seq ?_
  refine j_region ?_
  refine jv (v_move rfl) (.no rfl) rfl ?_
  refine jv (v_len rfl FindR.row Try.runUnderlying27) (.no rfl) rfl ?_
  refine jv (v_eql rfl rfl) (.no rfl) rfl ?_
  refine jo_nil ?_
  refine je_next ?_
  refine j_if rfl (fun z1 => ?_) (fun z1 => ?_)
  · first | (with_reducible replace z1 := of_decide_eq_true z1) | skip
    simp at z1
  · first | (with_reducible replace z1 := of_decide_eq_false z1) | skip
    refine j_skip ?_
    refine je_next ?_
    refine j_seq ?_
    refine j_draw [5] mixed ?_
    refine ja_take 0 rfl (by decide +kernel) (v_loadAc (vs := [_, _]) rfl Try.isAgg133 Try.sizeOf133 rfl rfl) (.no rfl) rfl ?_
    refine ja_three (i := 1) (j := 4) (k := 5) (by decide +kernel) ?_ ?_ ?_
    · skip
      refine jn_v rfl (v_move rfl) (.no rfl) rfl ?_
      refine ja_three (i := 2) (j := 4) (k := 5) (by decide +kernel) ?_ ?_ ?_
      · skip
        refine jn_v rfl (v_index rfl rfl FindR.row Try.runUnderlying27 Try.sizeOf3 (by omega) (by simp)) (.no rfl) rfl ?_
        refine ja_three (i := 3) (j := 4) (k := 5) (by decide +kernel) ?_ ?_ ?_
        · skip
          refine jn_v rfl (v_eload rfl FindR.row (show _ = some h from rfl) (by decide) Try.isAgg3 (fun _ _ _ h => int_at h)) (.no rfl) rfl ?_
          refine ja_two (i := 4) (j := 5) (by decide +kernel) ?_ ?_
          · skip
            refine jn_v rfl (v_move rfl) (.no rfl) rfl ?_
            refine ja_one (i := 5) (by decide +kernel) (jn_x rfl (by simp) (x_storec (cs' := [_, _]) rfl rfl rfl Try.sizeOf133 rfl rfl) (.no rfl) rfl ?_)
            intro _
            refine ja_take 6 rfl (by decide +kernel) (v_assign rfl) (.no rfl) rfl ?_
            refine ja_take 7 rfl (by decide +kernel) (v_assign rfl) (.no rfl) rfl ?_
            refine ja_nil (by decide +kernel) ?_
            refine je_next ?_
            refine j_ret ?_
            refine je_ret rfl rfl rfl rfl rfl (rvs := [.cell 2 133, .tmp 3, .tmp 4]) rfl (.cons (.agg (vs := [_, _]) rfl FindB.mem Try.isAgg133 Try.sizeOf133 rfl rfl) (.cons (.tmp rfl) (.cons (.tmp rfl) .nil))) p8.1 ?_ (fun w h' => h'.fin (memc (show sl intK p8.1 ((h :: t).drop 1) ∈ _ from FindS.mem) mem0)) (.inl rfl)
            rfl
          · skip
            refine jn_x rfl (by simp) (x_storec (cs' := [_, _]) rfl rfl rfl Try.sizeOf133 rfl rfl) (.no rfl) rfl ?_
            intro _
            refine ja_take 4 rfl (by decide +kernel) (v_move rfl) (.no rfl) rfl ?_
            refine ja_take 6 rfl (by decide +kernel) (v_assign rfl) (.no rfl) rfl ?_
            refine ja_take 7 rfl (by decide +kernel) (v_assign rfl) (.no rfl) rfl ?_
            refine ja_nil (by decide +kernel) ?_
            refine je_next ?_
            refine j_ret ?_
            refine je_ret rfl rfl rfl rfl rfl (rvs := [.cell 2 133, .tmp 3, .tmp 4]) rfl (.cons (.agg (vs := [_, _]) rfl FindB.mem Try.isAgg133 Try.sizeOf133 rfl rfl) (.cons (.tmp rfl) (.cons (.tmp rfl) .nil))) p8.1 ?_ (fun w h' => h'.fin (memc (show sl intK p8.1 ((h :: t).drop 1) ∈ _ from FindS.mem) mem0)) (.inl rfl)
            rfl
        · skip
          refine jn_v rfl (v_move rfl) (.no rfl) rfl ?_
          refine ja_two (i := 3) (j := 5) (by decide +kernel) ?_ ?_
          · skip
            refine jn_v rfl (v_eload rfl FindR.row (show _ = some h from rfl) (by decide) Try.isAgg3 (fun _ _ _ h => int_at h)) (.no rfl) rfl ?_
            refine ja_one (i := 5) (by decide +kernel) (jn_x rfl (by simp) (x_storec (cs' := [_, _]) rfl rfl rfl Try.sizeOf133 rfl rfl) (.no rfl) rfl ?_)
            intro _
            refine ja_take 6 rfl (by decide +kernel) (v_assign rfl) (.no rfl) rfl ?_
            refine ja_take 7 rfl (by decide +kernel) (v_assign rfl) (.no rfl) rfl ?_
            refine ja_nil (by decide +kernel) ?_
            refine je_next ?_
            refine j_ret ?_
            refine je_ret rfl rfl rfl rfl rfl (rvs := [.cell 2 133, .tmp 3, .tmp 4]) rfl (.cons (.agg (vs := [_, _]) rfl FindB.mem Try.isAgg133 Try.sizeOf133 rfl rfl) (.cons (.tmp rfl) (.cons (.tmp rfl) .nil))) p8.1 ?_ (fun w h' => h'.fin (memc (show sl intK p8.1 ((h :: t).drop 1) ∈ _ from FindS.mem) mem0)) (.inl rfl)
            rfl
          · skip
            refine jn_x rfl (by simp) (x_storec (cs' := [_, _]) rfl rfl rfl Try.sizeOf133 rfl rfl) (.no rfl) rfl ?_
            intro _
            refine ja_take 3 rfl (by decide +kernel) (v_eload rfl FindR.row (show _ = some h from rfl) (by decide) Try.isAgg3 (fun _ _ _ h => int_at h)) (.no rfl) rfl ?_
            refine ja_take 6 rfl (by decide +kernel) (v_assign rfl) (.no rfl) rfl ?_
            refine ja_take 7 rfl (by decide +kernel) (v_assign rfl) (.no rfl) rfl ?_
            refine ja_nil (by decide +kernel) ?_
            refine je_next ?_
            refine j_ret ?_
            refine je_ret rfl rfl rfl rfl rfl (rvs := [.cell 2 133, .tmp 3, .tmp 4]) rfl (.cons (.agg (vs := [_, _]) rfl FindB.mem Try.isAgg133 Try.sizeOf133 rfl rfl) (.cons (.tmp rfl) (.cons (.tmp rfl) .nil))) p8.1 ?_ (fun w h' => h'.fin (memc (show sl intK p8.1 ((h :: t).drop 1) ∈ _ from FindS.mem) mem0)) (.inl rfl)
            rfl
        · skip
          refine jn_x rfl (by simp) (x_storec (cs' := [_, _]) rfl rfl rfl Try.sizeOf133 rfl rfl) (.no rfl) rfl ?_
          intro _
          refine ja_take 3 rfl (by decide +kernel) (v_eload rfl FindR.row (show _ = some h from rfl) (by decide) Try.isAgg3 (fun _ _ _ h => int_at h)) (.no rfl) rfl ?_
          refine ja_take 4 rfl (by decide +kernel) (v_move rfl) (.no rfl) rfl ?_
          refine ja_take 6 rfl (by decide +kernel) (v_assign rfl) (.no rfl) rfl ?_
          refine ja_take 7 rfl (by decide +kernel) (v_assign rfl) (.no rfl) rfl ?_
          refine ja_nil (by decide +kernel) ?_
          refine je_next ?_
          refine j_ret ?_
          refine je_ret rfl rfl rfl rfl rfl (rvs := [.cell 2 133, .tmp 3, .tmp 4]) rfl (.cons (.agg (vs := [_, _]) rfl FindB.mem Try.isAgg133 Try.sizeOf133 rfl rfl) (.cons (.tmp rfl) (.cons (.tmp rfl) .nil))) p8.1 ?_ (fun w h' => h'.fin (memc (show sl intK p8.1 ((h :: t).drop 1) ∈ _ from FindS.mem) mem0)) (.inl rfl)
          rfl
      · skip
        refine jn_v rfl (v_move rfl) (.no rfl) rfl ?_
        refine ja_two (i := 2) (j := 5) (by decide +kernel) ?_ ?_
        · skip
          refine jn_v rfl (v_index rfl rfl FindR.row Try.runUnderlying27 Try.sizeOf3 (by omega) (by simp)) (.no rfl) rfl ?_
          refine ja_two (i := 3) (j := 5) (by decide +kernel) ?_ ?_
          · skip
            refine jn_v rfl (v_eload rfl FindR.row (show _ = some h from rfl) (by decide) Try.isAgg3 (fun _ _ _ h => int_at h)) (.no rfl) rfl ?_
            refine ja_one (i := 5) (by decide +kernel) (jn_x rfl (by simp) (x_storec (cs' := [_, _]) rfl rfl rfl Try.sizeOf133 rfl rfl) (.no rfl) rfl ?_)
            intro _
            refine ja_take 6 rfl (by decide +kernel) (v_assign rfl) (.no rfl) rfl ?_
            refine ja_take 7 rfl (by decide +kernel) (v_assign rfl) (.no rfl) rfl ?_
            refine ja_nil (by decide +kernel) ?_
            refine je_next ?_
            refine j_ret ?_
            refine je_ret rfl rfl rfl rfl rfl (rvs := [.cell 2 133, .tmp 3, .tmp 4]) rfl (.cons (.agg (vs := [_, _]) rfl FindB.mem Try.isAgg133 Try.sizeOf133 rfl rfl) (.cons (.tmp rfl) (.cons (.tmp rfl) .nil))) p8.1 ?_ (fun w h' => h'.fin (memc (show sl intK p8.1 ((h :: t).drop 1) ∈ _ from FindS.mem) mem0)) (.inl rfl)
            rfl
          · skip
            refine jn_x rfl (by simp) (x_storec (cs' := [_, _]) rfl rfl rfl Try.sizeOf133 rfl rfl) (.no rfl) rfl ?_
            intro _
            refine ja_take 3 rfl (by decide +kernel) (v_eload rfl FindR.row (show _ = some h from rfl) (by decide) Try.isAgg3 (fun _ _ _ h => int_at h)) (.no rfl) rfl ?_
            refine ja_take 6 rfl (by decide +kernel) (v_assign rfl) (.no rfl) rfl ?_
            refine ja_take 7 rfl (by decide +kernel) (v_assign rfl) (.no rfl) rfl ?_
            refine ja_nil (by decide +kernel) ?_
            refine je_next ?_
            refine j_ret ?_
            refine je_ret rfl rfl rfl rfl rfl (rvs := [.cell 2 133, .tmp 3, .tmp 4]) rfl (.cons (.agg (vs := [_, _]) rfl FindB.mem Try.isAgg133 Try.sizeOf133 rfl rfl) (.cons (.tmp rfl) (.cons (.tmp rfl) .nil))) p8.1 ?_ (fun w h' => h'.fin (memc (show sl intK p8.1 ((h :: t).drop 1) ∈ _ from FindS.mem) mem0)) (.inl rfl)
            rfl
        · skip
          refine jn_x rfl (by simp) (x_storec (cs' := [_, _]) rfl rfl rfl Try.sizeOf133 rfl rfl) (.no rfl) rfl ?_
          intro _
          refine ja_take 2 rfl (by decide +kernel) (v_index rfl rfl FindR.row Try.runUnderlying27 Try.sizeOf3 (by omega) (by simp)) (.no rfl) rfl ?_
          refine ja_take 3 rfl (by decide +kernel) (v_eload rfl FindR.row (show _ = some h from rfl) (by decide) Try.isAgg3 (fun _ _ _ h => int_at h)) (.no rfl) rfl ?_
          refine ja_take 6 rfl (by decide +kernel) (v_assign rfl) (.no rfl) rfl ?_
          refine ja_take 7 rfl (by decide +kernel) (v_assign rfl) (.no rfl) rfl ?_
          refine ja_nil (by decide +kernel) ?_
          refine je_next ?_
          refine j_ret ?_
          refine je_ret rfl rfl rfl rfl rfl (rvs := [.cell 2 133, .tmp 3, .tmp 4]) rfl (.cons (.agg (vs := [_, _]) rfl FindB.mem Try.isAgg133 Try.sizeOf133 rfl rfl) (.cons (.tmp rfl) (.cons (.tmp rfl) .nil))) p8.1 ?_ (fun w h' => h'.fin (memc (show sl intK p8.1 ((h :: t).drop 1) ∈ _ from FindS.mem) mem0)) (.inl rfl)
          rfl
      · skip
        refine jn_x rfl (by simp) (x_storec (cs' := [_, _]) rfl rfl rfl Try.sizeOf133 rfl rfl) (.no rfl) rfl ?_
        intro _
        refine ja_take 2 rfl (by decide +kernel) (v_index rfl rfl FindR.row Try.runUnderlying27 Try.sizeOf3 (by omega) (by simp)) (.no rfl) rfl ?_
        refine ja_take 3 rfl (by decide +kernel) (v_eload rfl FindR.row (show _ = some h from rfl) (by decide) Try.isAgg3 (fun _ _ _ h => int_at h)) (.no rfl) rfl ?_
        refine ja_take 4 rfl (by decide +kernel) (v_move rfl) (.no rfl) rfl ?_
        refine ja_take 6 rfl (by decide +kernel) (v_assign rfl) (.no rfl) rfl ?_
        refine ja_take 7 rfl (by decide +kernel) (v_assign rfl) (.no rfl) rfl ?_
        refine ja_nil (by decide +kernel) ?_
        refine je_next ?_
        refine j_ret ?_
        refine je_ret rfl rfl rfl rfl rfl (rvs := [.cell 2 133, .tmp 3, .tmp 4]) rfl (.cons (.agg (vs := [_, _]) rfl FindB.mem Try.isAgg133 Try.sizeOf133 rfl rfl) (.cons (.tmp rfl) (.cons (.tmp rfl) .nil))) p8.1 ?_ (fun w h' => h'.fin (memc (show sl intK p8.1 ((h :: t).drop 1) ∈ _ from FindS.mem) mem0)) (.inl rfl)
        rfl
    · skip
      refine jn_v rfl (v_move rfl) (.no rfl) rfl ?_
      refine ja_two (i := 1) (j := 5) (by decide +kernel) ?_ ?_
      · skip
        refine jn_v rfl (v_move rfl) (.no rfl) rfl ?_
        refine ja_two (i := 2) (j := 5) (by decide +kernel) ?_ ?_
        · skip
          refine jn_v rfl (v_index rfl rfl FindR.row Try.runUnderlying27 Try.sizeOf3 (by omega) (by simp)) (.no rfl) rfl ?_
          refine ja_two (i := 3) (j := 5) (by decide +kernel) ?_ ?_
          · skip
            refine jn_v rfl (v_eload rfl FindR.row (show _ = some h from rfl) (by decide) Try.isAgg3 (fun _ _ _ h => int_at h)) (.no rfl) rfl ?_
            refine ja_one (i := 5) (by decide +kernel) (jn_x rfl (by simp) (x_storec (cs' := [_, _]) rfl rfl rfl Try.sizeOf133 rfl rfl) (.no rfl) rfl ?_)
            intro _
            refine ja_take 6 rfl (by decide +kernel) (v_assign rfl) (.no rfl) rfl ?_
            refine ja_take 7 rfl (by decide +kernel) (v_assign rfl) (.no rfl) rfl ?_
            refine ja_nil (by decide +kernel) ?_
            refine je_next ?_
            refine j_ret ?_
            refine je_ret rfl rfl rfl rfl rfl (rvs := [.cell 2 133, .tmp 3, .tmp 4]) rfl (.cons (.agg (vs := [_, _]) rfl FindB.mem Try.isAgg133 Try.sizeOf133 rfl rfl) (.cons (.tmp rfl) (.cons (.tmp rfl) .nil))) p8.1 ?_ (fun w h' => h'.fin (memc (show sl intK p8.1 ((h :: t).drop 1) ∈ _ from FindS.mem) mem0)) (.inl rfl)
            rfl
          · skip
            refine jn_x rfl (by simp) (x_storec (cs' := [_, _]) rfl rfl rfl Try.sizeOf133 rfl rfl) (.no rfl) rfl ?_
            intro _
            refine ja_take 3 rfl (by decide +kernel) (v_eload rfl FindR.row (show _ = some h from rfl) (by decide) Try.isAgg3 (fun _ _ _ h => int_at h)) (.no rfl) rfl ?_
            refine ja_take 6 rfl (by decide +kernel) (v_assign rfl) (.no rfl) rfl ?_
            refine ja_take 7 rfl (by decide +kernel) (v_assign rfl) (.no rfl) rfl ?_
            refine ja_nil (by decide +kernel) ?_
            refine je_next ?_
            refine j_ret ?_
            refine je_ret rfl rfl rfl rfl rfl (rvs := [.cell 2 133, .tmp 3, .tmp 4]) rfl (.cons (.agg (vs := [_, _]) rfl FindB.mem Try.isAgg133 Try.sizeOf133 rfl rfl) (.cons (.tmp rfl) (.cons (.tmp rfl) .nil))) p8.1 ?_ (fun w h' => h'.fin (memc (show sl intK p8.1 ((h :: t).drop 1) ∈ _ from FindS.mem) mem0)) (.inl rfl)
            rfl
        · skip
          refine jn_x rfl (by simp) (x_storec (cs' := [_, _]) rfl rfl rfl Try.sizeOf133 rfl rfl) (.no rfl) rfl ?_
          intro _
          refine ja_take 2 rfl (by decide +kernel) (v_index rfl rfl FindR.row Try.runUnderlying27 Try.sizeOf3 (by omega) (by simp)) (.no rfl) rfl ?_
          refine ja_take 3 rfl (by decide +kernel) (v_eload rfl FindR.row (show _ = some h from rfl) (by decide) Try.isAgg3 (fun _ _ _ h => int_at h)) (.no rfl) rfl ?_
          refine ja_take 6 rfl (by decide +kernel) (v_assign rfl) (.no rfl) rfl ?_
          refine ja_take 7 rfl (by decide +kernel) (v_assign rfl) (.no rfl) rfl ?_
          refine ja_nil (by decide +kernel) ?_
          refine je_next ?_
          refine j_ret ?_
          refine je_ret rfl rfl rfl rfl rfl (rvs := [.cell 2 133, .tmp 3, .tmp 4]) rfl (.cons (.agg (vs := [_, _]) rfl FindB.mem Try.isAgg133 Try.sizeOf133 rfl rfl) (.cons (.tmp rfl) (.cons (.tmp rfl) .nil))) p8.1 ?_ (fun w h' => h'.fin (memc (show sl intK p8.1 ((h :: t).drop 1) ∈ _ from FindS.mem) mem0)) (.inl rfl)
          rfl
      · skip
        refine jn_x rfl (by simp) (x_storec (cs' := [_, _]) rfl rfl rfl Try.sizeOf133 rfl rfl) (.no rfl) rfl ?_
        intro _
        refine ja_take 1 rfl (by decide +kernel) (v_move rfl) (.no rfl) rfl ?_
        refine ja_take 2 rfl (by decide +kernel) (v_index rfl rfl FindR.row Try.runUnderlying27 Try.sizeOf3 (by omega) (by simp)) (.no rfl) rfl ?_
        refine ja_take 3 rfl (by decide +kernel) (v_eload rfl FindR.row (show _ = some h from rfl) (by decide) Try.isAgg3 (fun _ _ _ h => int_at h)) (.no rfl) rfl ?_
        refine ja_take 6 rfl (by decide +kernel) (v_assign rfl) (.no rfl) rfl ?_
        refine ja_take 7 rfl (by decide +kernel) (v_assign rfl) (.no rfl) rfl ?_
        refine ja_nil (by decide +kernel) ?_
        refine je_next ?_
        refine j_ret ?_
        refine je_ret rfl rfl rfl rfl rfl (rvs := [.cell 2 133, .tmp 3, .tmp 4]) rfl (.cons (.agg (vs := [_, _]) rfl FindB.mem Try.isAgg133 Try.sizeOf133 rfl rfl) (.cons (.tmp rfl) (.cons (.tmp rfl) .nil))) p8.1 ?_ (fun w h' => h'.fin (memc (show sl intK p8.1 ((h :: t).drop 1) ∈ _ from FindS.mem) mem0)) (.inl rfl)
        rfl
    · skip
      refine jn_x rfl (by simp) (x_storec (cs' := [_, _]) rfl rfl rfl Try.sizeOf133 rfl rfl) (.no rfl) rfl ?_
      intro _
      refine ja_take 1 rfl (by decide +kernel) (v_move rfl) (.no rfl) rfl ?_
      refine ja_take 2 rfl (by decide +kernel) (v_index rfl rfl FindR.row Try.runUnderlying27 Try.sizeOf3 (by omega) (by simp)) (.no rfl) rfl ?_
      refine ja_take 3 rfl (by decide +kernel) (v_eload rfl FindR.row (show _ = some h from rfl) (by decide) Try.isAgg3 (fun _ _ _ h => int_at h)) (.no rfl) rfl ?_
      refine ja_take 4 rfl (by decide +kernel) (v_move rfl) (.no rfl) rfl ?_
      refine ja_take 6 rfl (by decide +kernel) (v_assign rfl) (.no rfl) rfl ?_
      refine ja_take 7 rfl (by decide +kernel) (v_assign rfl) (.no rfl) rfl ?_
      refine ja_nil (by decide +kernel) ?_
      refine je_next ?_
      refine j_ret ?_
      refine je_ret rfl rfl rfl rfl rfl (rvs := [.cell 2 133, .tmp 3, .tmp 4]) rfl (.cons (.agg (vs := [_, _]) rfl FindB.mem Try.isAgg133 Try.sizeOf133 rfl rfl) (.cons (.tmp rfl) (.cons (.tmp rfl) .nil))) p8.1 ?_ (fun w h' => h'.fin (memc (show sl intK p8.1 ((h :: t).drop 1) ∈ _ from FindS.mem) mem0)) (.inl rfl)
      rfl

theorem f110_spec {v : Value} {xs : List Int} {c h : Int} (hc : (xs.length : Int) < c) (hn : xs.length ≤ 1000) : Spec Try.prog 110 [.agg [v, iV c].toArray, iV h] [] [sl intK v xs] Value (fun v' => .tuple [.agg [v', iV c].toArray, iV 0].toArray) (fun _ => []) (fun v' => [sl intK v' (xs ++ [h])]) := by
  refine spec_of Try.func110 rfl Try.ntmps110 (by simp) fun ok w => ?_
  refine j_seq ?_
  refine j_region ?_
  refine jx (x_boxc rfl) (.no rfl) rfl ?_
  intro B2
  refine jx (x_alloc Try.zeroValue133 Cells.agg) (.no rfl) rfl ?_
  intro B4
  refine jv (v_assign rfl) (.no rfl) rfl ?_
  refine jo_nil ?_
  refine je_next ?_
  refine j_seq ?_
  refine j_region ?_
  refine jv (v_field (k' := 0) rfl Try.runUnderlying133 rfl Try.sizeOf27 (by decide) rfl) (.no rfl) rfl ?_
  refine jv (v_loadc rfl Try.isAgg27 rfl) (.no rfl) rfl ?_
  refine jv (v_len rfl FindR.row Try.runUnderlying27) (.no rfl) rfl ?_
  refine jv (v_assign rfl) (.no rfl) rfl ?_
  refine jo_nil ?_
  refine je_next ?_
  refine j_seq ?_
  refine j_seq ?_
  refine j_region ?_
  refine jv (v_move rfl) (.no rfl) rfl ?_
  refine jv (v_field (k' := 1) rfl Try.runUnderlying133 rfl Try.sizeOf3 (by decide) rfl) (.no rfl) rfl ?_
  refine jv (v_loadc rfl Try.isAgg3 rfl) (.no rfl) rfl ?_
  refine jv (v_geq rfl rfl) (.no rfl) rfl ?_
  refine jo_nil ?_
  refine je_next ?_
  refine j_if rfl (fun z1 => ?_) (fun z1 => ?_)
  · first | (with_reducible replace z1 := of_decide_eq_true z1) | skip
    exact absurd z1 (by omega)
  · first | (with_reducible replace z1 := of_decide_eq_false z1) | skip
    refine j_skip ?_
    refine je_next ?_
    refine j_seq ?_
    refine j_draw [10] mixed ?_
    refine ja_take 0 rfl (by decide +kernel) (v_loadAc (vs := [_, _]) rfl Try.isAgg133 Try.sizeOf133 rfl rfl) (.no rfl) rfl ?_
    refine ja_take 1 rfl (by decide +kernel) (v_field (k' := 0) rfl Try.runUnderlying133 rfl Try.sizeOf27 (by decide) rfl) (.no rfl) rfl ?_
    refine ja_take 2 rfl (by decide +kernel) (v_loadc rfl Try.isAgg27 rfl) (.no rfl) rfl ?_
    refine ja_take 3 rfl (by decide +kernel) (v_move rfl) (.no rfl) rfl ?_
    refine ja_take 4 rfl (by decide +kernel) (v_move rfl) (.no rfl) rfl ?_
    refine ja_takel 5 rfl (by decide +kernel) (l_slice3 (n := xs.length) rfl FindS.mem Try.runUnderlying27 Try.sizeOf3 rfl rfl (Nat.le_refl _)) (.no rfl) rfl ?_
    intro A20
    refine ja_take 6 rfl (by decide +kernel) (v_move rfl) (.no rfl) rfl ?_
    refine ja_one (i := 7) (by decide +kernel) (jn_q rfl (q_lit1 (K := intK) h rfl (Cells.one rfl) Try.runUnderlying27 Try.sizeOf3 Try.zeroValue3 rfl (by decide) (by decide) (fun _ _ _ => rfl)) (.no rfl) rfl ?_)
    intro v22
    refine ja_one (i := 8) (by decide +kernel) (jn_q rfl (q_appendN rfl rfl FindS.mem FindR.row (by simp) (by simp) Try.runUnderlying27 Try.sizeOf3 Try.zeroValue3 rfl Try.typeInfo3 (by decide) (by decide) (by simp; omega)) (.no rfl) rfl ?_)
    intro v23
    refine ja_one (i := 9) (by decide +kernel) (jn_q rfl (q_callP (f133_spec) Try.call133 (by rfl) rfl (memc FindS.mem (memc FindS.mem mem0))) (.no rfl) rfl ?_)
    intro x24
    refine ja_one (i := 10) (by decide +kernel) (jn_x rfl (by simp) (x_storec (cs' := [_, _]) rfl rfl rfl Try.sizeOf133 rfl rfl) (.no rfl) rfl ?_)
    intro _
    refine ja_take 11 rfl (by decide +kernel) (v_assign rfl) (.no rfl) rfl ?_
    refine ja_nil (by decide +kernel) ?_
    refine je_next ?_
    refine j_ret ?_
    refine je_ret rfl rfl rfl rfl rfl (rvs := [.cell 4 133, .tmp 5]) rfl (.cons (.agg (vs := [_, _]) rfl FindB.mem Try.isAgg133 Try.sizeOf133 rfl rfl) (.cons (.tmp rfl) .nil)) v23 ?_ (fun w h' => h'.fin (by rw [show xs ++ [h] = xs.take xs.length ++ [h] by rw [List.take_length]]; exact memc FindS.mem mem0)) (.inl rfl)
    rfl

theorem f115_spec {v : Value} {xs : List Int} {c : Int} : Spec Try.prog 115 [v, iV c] [] [sl intK v xs] Unit (fun _ => iV (ixP (fun x => decide (c = x)) xs)) (fun _ => []) (fun _ => []) := by
  refine spec_of Try.func115 rfl Try.ntmps115 (by simp) fun ok w => ?_
  refine j_len v fun hlx => ?_
  refine j_seq ?_
  refine j_region ?_
  refine jv (v_assign rfl) (.no rfl) rfl ?_
  refine jo_nil ?_
  refine je_next ?_
  refine j_seq ?_
  refine j_seq ?_
  refine j_region ?_
  refine jv (v_move rfl) (.no rfl) rfl ?_
  refine jv (v_len rfl FindR.row Try.runUnderlying27) (.no rfl) rfl ?_
  refine jv (v_move rfl) (.no rfl) rfl ?_
  refine jo_nil ?_
  refine je_next ?_
  refine j_block ?_
  refine j_loopS (G := Nat) [(0, _), (1, _), (7, _)] (fun k t => (8, iV ((k : Nat) : Int)) :: t) (fun k t => t) (fun k => k ≤ xs.length ∧ ∀ x ∈ xs.take k, (fun x => decide (c = x)) x = false) (fun k => xs.length - k) 0 (by simp) (lsub rfl (lsub rfl (lsub rfl (lsub rfl lsub0)))) rfl (fun k ⟨hk, hk2⟩ => ?_)   -- dead: [4]
  refine j_seq ?_
  refine j_region ?_
  refine jv (v_lss rfl rfl) (.no rfl) rfl ?_
  refine jo_nil ?_
  refine je_next ?_
  refine j_seq ?_
  refine j_if rfl (fun h1 => ?_) (fun h1 => ?_)
  · first | (with_reducible replace h1 := of_decide_eq_true h1) | skip
    refine j_skip ?_
    refine je_next ?_
    refine j_seq ?_
    refine j_block ?_
    refine j_seq ?_
    have hkl : k < xs.length := by omega
    refine j_region ?_
    refine jv (v_move rfl) (.no rfl) rfl ?_
    refine jv (v_assign rfl) (.no rfl) rfl ?_
    refine jo_nil ?_
    refine je_next ?_
    refine j_seq ?_
    refine j_region ?_
    refine jv (v_move rfl) (.no rfl) rfl ?_
    refine jv (v_move rfl) (.no rfl) rfl ?_
    refine jv (v_move rfl) (.no rfl) rfl ?_
    refine jv (v_index rfl rfl FindR.row Try.runUnderlying27 Try.sizeOf3 (by omega) (by omega)) (.no rfl) rfl ?_
    refine jv (v_eload rfl FindR.row (at_k hkl) (by decide) Try.isAgg3 (fun _ _ _ h => int_at h)) (.no rfl) rfl ?_
    refine jv (v_eql rfl rfl) (.no rfl) rfl ?_
    refine jo_nil ?_
    refine je_next ?_
    refine j_if rfl (fun z1 => ?_) (fun z1 => ?_)
    · first | (with_reducible replace z1 := of_decide_eq_true z1) | skip
      refine j_seq ?_
      refine j_region ?_
      refine jv (v_move rfl) (.no rfl) rfl ?_
      refine jv (v_assign rfl) (.no rfl) rfl ?_
      refine jo_nil ?_
      refine je_next ?_
      refine j_ret ?_
      refine je_blockr ?_
      refine je_then (by simp) ?_
      refine je_then (by simp) ?_
      refine je_blockr ?_
      refine je_then (by simp) ?_
      refine je_ret rfl rfl rfl rfl rfl (rvs := [.tmp 4]) rfl (.cons (.tmp rfl) .nil) () ?_ (fun w h => h.fin mem0) (.inl rfl)
      first | exact congrArg (Value.int .i64) (ix_hit hkl hk2 (by simpa using z1)).symm | exact congrArg (Value.int .i64) (ix_none (by omega) hk2).symm
    · first | (with_reducible replace z1 := of_decide_eq_false z1) | skip
      refine j_skip ?_
      refine je_block ?_
      refine je_next ?_
      refine j_region ?_
      refine jv (v_add rfl rfl (by omega) (by omega)) (.no rfl) rfl ?_
      refine jv (v_move rfl) (.no rfl) rfl ?_
      refine jo_nil ?_
      refine je_round (k + 1) (⟨by omega, take_mem hkl hk2 (by simpa using z1)⟩) (by first | omega | (dsimp only; omega)) (lsub rfl (lsub rfl (lsub rfl (lsub rfl lsub0)))) (fun _ h => (h).sub fun p hp => hp)
  · first | (with_reducible replace h1 := of_decide_eq_false h1) | skip
    refine j_exit ?_
    refine je_then (by simp) ?_
    refine je_then (by simp) ?_
    refine je_hit ?_
    refine je_next ?_
    refine j_seq ?_
    refine j_region ?_
    refine jv (v_assign rfl) (.no rfl) rfl ?_
    refine jo_nil ?_
    refine je_next ?_
    refine j_ret ?_
    refine je_ret rfl rfl rfl rfl rfl (rvs := [.tmp 4]) rfl (.cons (.tmp rfl) .nil) () ?_ (fun w h => h.fin mem0) (.inl rfl)
    first | exact congrArg (Value.int .i64) (ix_hit hkl hk2 (by simpa using z1)).symm | exact congrArg (Value.int .i64) (ix_none (by omega) hk2).symm

theorem f116_spec {v : Value} {xs : List Int} {fn : FuncId} {caps : List Value} {Γc : List PP} {p : Int → Bool} (hc : ∀ args w, (callFunc fn args).run Try.prog w = .ok (.enter fn args) w) (hf : ∀ x : Int, Spec Try.prog fn (iV x :: caps) [] Γc Unit (fun _ => .bool (p x)) (fun _ => []) (fun _ => [])) : Spec Try.prog 116 [v, .func (.func fn) #[] caps.toArray] [] (sl intK v xs :: Γc) Unit (fun _ => iV (ixP p xs)) (fun _ => []) (fun _ => []) := by
  refine spec_of Try.func116 rfl Try.ntmps116 (by simp) fun ok w => ?_
  refine j_len v fun hlx => ?_
  refine j_seq ?_
  refine j_region ?_
  refine jv (v_assign rfl) (.no rfl) rfl ?_
  refine jo_nil ?_
  refine je_next ?_
  refine j_seq ?_
  refine j_seq ?_
  refine j_region ?_
  refine jv (v_move rfl) (.no rfl) rfl ?_
  refine jv (v_len rfl FindR.row Try.runUnderlying27) (.no rfl) rfl ?_
  refine jv (v_move rfl) (.no rfl) rfl ?_
  refine jo_nil ?_
  refine je_next ?_
  refine j_block ?_
  refine j_loopS (G := Nat) [(0, _), (1, _), (7, _)] (fun k t => (8, iV ((k : Nat) : Int)) :: t) (fun k t => t) (fun k => k ≤ xs.length ∧ ∀ x ∈ xs.take k, p x = false) (fun k => xs.length - k) 0 (by simp) (lsub rfl (lsub rfl (lsub rfl (lsub rfl lsub0)))) rfl (fun k ⟨hk, hk2⟩ => ?_)   -- dead: [4]
  refine j_seq ?_
  refine j_region ?_
  refine jv (v_lss rfl rfl) (.no rfl) rfl ?_
  refine jo_nil ?_
  refine je_next ?_
  refine j_seq ?_
  refine j_if rfl (fun h1 => ?_) (fun h1 => ?_)
  · first | (with_reducible replace h1 := of_decide_eq_true h1) | skip
    refine j_skip ?_
    refine je_next ?_
    refine j_seq ?_
    refine j_block ?_
    refine j_seq ?_
    have hkl : k < xs.length := by omega
    refine j_region ?_
    refine jv (v_move rfl) (.no rfl) rfl ?_
    refine jv (v_assign rfl) (.no rfl) rfl ?_
    refine jo_nil ?_
    refine je_next ?_
    refine j_seq ?_
    refine j_region ?_
    refine jv (v_move rfl) (.no rfl) rfl ?_
    refine jv (v_move rfl) (.no rfl) rfl ?_
    refine jv (v_move rfl) (.no rfl) rfl ?_
    refine jv (v_index rfl rfl FindR.row Try.runUnderlying27 Try.sizeOf3 (by omega) (by omega)) (.no rfl) rfl ?_
    refine jv (v_eload rfl FindR.row (at_k hkl) (by decide) Try.isAgg3 (fun _ _ _ h => int_at h)) (.no rfl) rfl ?_
    refine jq (q_callcP (caps := caps) (hf xs[k]) hc (by rfl) rfl rfl rfl (fun p hp => List.mem_cons_of_mem _ hp)) (.no rfl) rfl ?_
    intro _
    refine jo_nil ?_
    refine je_next ?_
    refine j_if rfl (fun z1 => ?_) (fun z1 => ?_)
    · first | (with_reducible replace z1 := of_decide_eq_true z1) | skip
      refine j_seq ?_
      refine j_region ?_
      refine jv (v_move rfl) (.no rfl) rfl ?_
      refine jv (v_assign rfl) (.no rfl) rfl ?_
      refine jo_nil ?_
      refine je_next ?_
      refine j_ret ?_
      refine je_blockr ?_
      refine je_then (by simp) ?_
      refine je_then (by simp) ?_
      refine je_blockr ?_
      refine je_then (by simp) ?_
      refine je_ret rfl rfl rfl rfl rfl (rvs := [.tmp 4]) rfl (.cons (.tmp rfl) .nil) () ?_ (fun w h => h.fin mem0) (.inl rfl)
      first | exact congrArg (Value.int .i64) (ix_hit hkl hk2 (by simpa using z1)).symm | exact congrArg (Value.int .i64) (ix_none (by omega) hk2).symm
    · first | (with_reducible replace z1 := of_decide_eq_false z1) | skip
      refine j_skip ?_
      refine je_block ?_
      refine je_next ?_
      refine j_region ?_
      refine jv (v_add rfl rfl (by omega) (by omega)) (.no rfl) rfl ?_
      refine jv (v_move rfl) (.no rfl) rfl ?_
      refine jo_nil ?_
      refine je_round (k + 1) (⟨by omega, take_mem hkl hk2 (by simpa using z1)⟩) (by first | omega | (dsimp only; omega)) (lsub rfl (lsub rfl (lsub rfl (lsub rfl lsub0)))) (fun _ h => (h).sub fun p hp => (List.mem_append_right _ hp))
  · first | (with_reducible replace h1 := of_decide_eq_false h1) | skip
    refine j_exit ?_
    refine je_then (by simp) ?_
    refine je_then (by simp) ?_
    refine je_hit ?_
    refine je_next ?_
    refine j_seq ?_
    refine j_region ?_
    refine jv (v_assign rfl) (.no rfl) rfl ?_
    refine jo_nil ?_
    refine je_next ?_
    refine j_ret ?_
    refine je_ret rfl rfl rfl rfl rfl (rvs := [.tmp 4]) rfl (.cons (.tmp rfl) .nil) () ?_ (fun w h => h.fin mem0) (.inl rfl)
    first | exact congrArg (Value.int .i64) (ix_hit hkl hk2 (by simpa using z1)).symm | exact congrArg (Value.int .i64) (ix_none (by omega) hk2).symm

theorem f83_spec {v : Value} {xs : List Int} {c : Int} : Spec Try.prog 83 [v, iV c] [] [sl intK v xs] Unit (fun _ => .bool (decide (c ∈ xs))) (fun _ => []) (fun _ => []) := by
  refine spec_of Try.func83 rfl Try.ntmps83 (by simp) fun ok w => ?_
  refine j_seq ?_
  refine j_region ?_
  refine jv (v_assign rfl) (.no rfl) rfl ?_
  refine jo_nil ?_
  refine je_next ?_
  refine j_seq ?_
  refine j_region ?_
  refine jv (v_move rfl) (.no rfl) rfl ?_
  refine jv (v_move rfl) (.no rfl) rfl ?_
  refine jq (q_callP (f115_spec) Try.call115 (by rfl) rfl (memc FindS.mem mem0)) (.no rfl) rfl ?_
  intro x7
  refine jv (v_geq rfl rfl) (.no rfl) rfl ?_
  refine jv (v_assign rfl) (.no rfl) rfl ?_
  refine jo_nil ?_
  refine je_next ?_
  refine j_ret ?_
  refine je_ret rfl rfl rfl rfl rfl (rvs := [.tmp 4]) rfl (.cons (.tmp rfl) .nil) () ?_ (fun w h => h.fin mem0) (.inl rfl)
  exact congrArg Value.bool (ix_mem c xs)

theorem f85_spec {v : Value} {xs : List Int} {fn : FuncId} {caps : List Value} {Γc : List PP} {p : Int → Bool} (hc : ∀ args w, (callFunc fn args).run Try.prog w = .ok (.enter fn args) w) (hf : ∀ x : Int, Spec Try.prog fn (iV x :: caps) [] Γc Unit (fun _ => .bool (p x)) (fun _ => []) (fun _ => [])) : Spec Try.prog 85 [v, .func (.func fn) #[] caps.toArray] [] (sl intK v xs :: Γc) Unit (fun _ => .bool (xs.any p)) (fun _ => []) (fun _ => []) := by
  refine spec_of Try.func85 rfl Try.ntmps85 (by simp) fun ok w => ?_
  refine j_seq ?_
  refine j_region ?_
  refine jv (v_assign rfl) (.no rfl) rfl ?_
  refine jo_nil ?_
  refine je_next ?_
  refine j_seq ?_
  refine j_region ?_
  refine jv (v_move rfl) (.no rfl) rfl ?_
  refine jv (v_move rfl) (.no rfl) rfl ?_
  refine jq (q_callP (f116_spec hc hf) Try.call116 (by rfl) rfl (fun p hp => hp)) (.no rfl) rfl ?_
  intro x7
  refine jv (v_geq rfl rfl) (.no rfl) rfl ?_
  refine jv (v_assign rfl) (.no rfl) rfl ?_
  refine jo_nil ?_
  refine je_next ?_
  refine j_ret ?_
  refine je_ret rfl rfl rfl rfl rfl (rvs := [.tmp 4]) rfl (.cons (.tmp rfl) .nil) () ?_ (fun w h => h.fin mem0) (.inl rfl)
  exact congrArg Value.bool (ix_any p xs)

end Go.Proofs.Ytjgacbopccfecaa
