/-
  Small laws that the walks of the reference's reach want.
-/
import Derived.Test.YtjgacbopccfecaaN10
set_option linter.unusedVariables false
set_option linter.unusedSimpArgs false
namespace Go.Proofs.Ytjgacbopccfecaa

def get3 (cs : List C3) (h : Int) : Int × Int := if (find3 cs h).2 ≠ 0 then (0, (find3 cs h).2) else match cs[(find3 cs h).1.toNat]? with
  | none => (0, 0)
  | some c => if c.state = 2 then (0, 3) else (c.val, 0)
theorem get3_no {cs : List C3} {h : Int} (h1 : (find3 cs h).2 ≠ 0) : get3 cs h = (0, (find3 cs h).2) := by unfold get3; rw [if_pos h1]
theorem get3_2 {cs : List C3} {h : Int} (h1 : (find3 cs h).2 = 0) (hk : (find3 cs h).1.toNat < cs.length) (h2 : cs[(find3 cs h).1.toNat].state = 2) : get3 cs h = (0, 3) := by
  unfold get3; rw [if_neg (by simpa using h1), List.getElem?_eq_getElem hk]; simp only; rw [if_pos h2]
theorem get3_ok {cs : List C3} {h : Int} (h1 : (find3 cs h).2 = 0) (hk : (find3 cs h).1.toNat < cs.length) (h2 : cs[(find3 cs h).1.toNat].state ≠ 2) : get3 cs h = (cs[(find3 cs h).1.toNat].val, 0) := by
  unfold get3; rw [if_neg (by simpa using h1), List.getElem?_eq_getElem hk]; simp only; rw [if_neg h2]
theorem get3_same {cs : List Cell} (g : Gens cs) (h : Int) : (get3 (plainC cs) h).2 = (getP cs h).2 ∧ ((get3 (plainC cs) h).2 = 0 → 0 ≤ (get3 (plainC cs) h).1 ∧ ∃ hk : (get3 (plainC cs) h).1.toNat < cs.length, getP cs h = (cs[(get3 (plainC cs) h).1.toNat].val, 0)) := by
  have e := find_same (h := h) g.1 g.2
  by_cases h1 : (find3 (plainC cs) h).2 = 0
  · have h1' : (findP cs h).2 = 0 := by rw [e]; exact h1
    obtain ⟨i, hi, ht, hp, e1⟩ := findP_back g h1'
    rw [e1] at e
    have hk : (find3 (plainC cs) h).1.toNat < (plainC cs).length := by rw [← e, plainC_len]; simpa using hi
    have hk' : (findP cs h).1.toNat < cs.length := by rw [e1]; simpa using hi
    have hgx : (plainC cs)[(find3 (plainC cs) h).1.toNat] = plainF i cs[i] := by
      have h2 := plainC_get hi
      have h3 : (plainC cs)[(find3 (plainC cs) h).1.toNat]? = some (plainF i cs[i]) := by rw [← e]; exact h2
      rw [List.getElem?_eq_getElem hk] at h3
      exact Option.some.inj h3
    by_cases h2 : cs[i].state = 2
    · rw [get3_2 h1 hk (by rw [hgx]; exact h2), getP_2 h1' hk' (by simp only [e1, Int.toNat_natCast]; exact h2)]
      exact ⟨rfl, fun hc => by simp at hc⟩
    · rw [get3_ok h1 hk (by rw [hgx]; exact h2), getP_ok h1' hk' (by simp only [e1, Int.toNat_natCast]; exact h2), hgx]
      refine ⟨rfl, fun _ => ⟨by simp only [plainF]; omega, by simp only [plainF, Int.toNat_natCast]; exact hi, ?_⟩⟩
      simp only [plainF, e1, Int.toNat_natCast]
  · have h1' : (findP cs h).2 ≠ 0 := by rw [e]; exact h1
    rw [get3_no h1, getP_no h1', e]
    exact ⟨rfl, fun hc => absurd hc h1⟩
theorem outP_len {cs : List Cell} {n : Nat} (hF : ∀ c ∈ cs, c.val.fields.length ≤ n) (h : Int) : (outP cs h).length ≤ n := Nat.le_trans (names_le _) (getP_fields hF)
theorem flat_le {cs : List Cell} {n : Nat} (hF : ∀ c ∈ cs, c.val.fields.length ≤ n) : ∀ xs : List Int, (xs.flatMap (outP cs)).length ≤ xs.length * n
  | [] => by simp
  | x :: xs => by
    have h1 := flat_le hF xs
    have h2 := outP_len hF x
    rw [List.flatMap_cons, List.length_append, List.length_cons, Nat.add_mul, Nat.one_mul]
    omega
theorem flat_succ {cs : List Cell} {xs : List Int} {k : Nat} (hk : k < xs.length) : (xs.take (k + 1)).flatMap (outP cs) = (xs.take k).flatMap (outP cs) ++ outP cs xs[k] := by
  rw [List.take_succ_eq_append_getElem hk, List.flatMap_append]
  simp
theorem iter_le (cs : List Cell) (l : List Int) (k : Nat) : (iterR cs l k).length ≤ (liveP cs).length := by
  obtain ⟨p, hp⟩ := iter_filter cs l k
  rw [hp]; exact List.length_filter_le _ _
theorem those_le (all l : List Int) (b : Bool) : (thoseP all l b).length ≤ all.length := List.length_filter_le _ _
theorem allT_no {xs : List Int} {p : Int → Bool} {k : Nat} (hk : k < xs.length) (h : p xs[k] = false) : xs.all p = false := by
  rw [List.all_eq_false]; exact ⟨xs[k], List.getElem_mem hk, by rw [h]; simp⟩
theorem allT_yes {xs : List Int} {p : Int → Bool} {k : Nat} (hk : xs.length ≤ k) (h : ∀ x ∈ xs.take k, p x = true) : xs.all p = true := by
  rw [List.take_of_length_le hk] at h; exact List.all_eq_true.2 h
end Go.Proofs.Ytjgacbopccfecaa
