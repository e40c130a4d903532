/-
  The plain laws of who names whom.
-/
import Derived.Test.YtjgacbopccfecaaN7
set_option linter.unusedVariables false
set_option linter.unusedSimpArgs false
namespace Go.Proofs.Ytjgacbopccfecaa

theorem hd_inj {cs : List Cell} (g : Gens cs) {i j : Nat} (hi : i < cs.length) (hj : j < cs.length) (h : hd cs i = hd cs j) : i = j := by
  unfold hd at h
  rw [genAt_eq hi, genAt_eq hj] at h
  have gi := g.2 i hi; have gj := g.2 j hj; have gl := g.1
  have e1 := (pack_slot (s := (i : Int)) (g := cs[i].gen) (by omega) (by omega) (by omega) (by omega)).1
  have e2 := (pack_slot (s := (j : Int)) (g := cs[j].gen) (by omega) (by omega) (by omega) (by omega)).1
  rw [h, e2] at e1
  omega
theorem liveP_nodup {cs : List Cell} (g : Gens cs) : (liveP cs).Nodup := by
  unfold liveP
  refine List.pairwise_map.2 ?_
  refine (liveI_nodup cs).imp_of_mem fun {a b} ha hb hne e => hne ?_
  exact hd_inj g (liveI_mem.1 ha).1 (liveI_mem.1 hb).1 e
theorem live_nz {cs : List Cell} (g : Gens cs) {h : Int} (hm : h ∈ liveP cs) : h ≠ 0 := by
  rintro rfl
  have := (get_live g).2 hm
  unfold getP at this
  simp [findP] at this
theorem outP_dead {cs : List Cell} (g : Gens cs) {h : Int} (hm : h ∉ liveP cs) : outP cs h = [] := by
  have h1 : (getP cs h).2 ≠ 0 := fun e => hm ((get_live g).1 e)
  unfold outP
  rw [getP_bad h1]; rfl
theorem outP_nz {cs : List Cell} {h x : Int} (hx : x ∈ outP cs h) : x ≠ 0 := by
  unfold outP namesL at hx
  simpa using (List.mem_filter.1 hx).2

/-! ### Sums -/
def inS (cs : List Cell) (k : Nat) : Int := (((liveP cs).take k).map fun h => inE h (edgesP cs)).sum
theorem inS_0 (cs : List Cell) : inS cs 0 = 0 := rfl
theorem inS_succ {cs : List Cell} {k : Nat} (hk : k < (liveP cs).length) : inS cs (k + 1) = inS cs k + inE (liveP cs)[k] (edgesP cs) := by
  unfold inS
  rw [List.take_succ_eq_append_getElem hk, List.map_append, List.sum_append]
  simp
theorem inS_lo (cs : List Cell) {n : Int} (hn : ((edgesP cs).length : Int) ≤ n) : ∀ k, 0 ≤ inS cs k ∧ (k ≤ (liveP cs).length → inS cs k ≤ k * n)
  | 0 => by simp [inS_0]
  | k + 1 => by
    obtain ⟨h1, h2⟩ := inS_lo cs hn k
    by_cases hk : k < (liveP cs).length
    · rw [inS_succ hk]
      have h3 := inE_lo (liveP cs)[k] (edgesP cs)
      have h4 := h2 (by omega)
      refine ⟨by omega, fun _ => ?_⟩
      have e : ((k + 1 : Nat) : Int) * n = k * n + n := by rw [Int.natCast_succ, Int.add_mul, Int.one_mul]
      omega
    · have e : inS cs (k + 1) = inS cs k := by unfold inS; rw [List.take_of_length_le (by omega), List.take_of_length_le (by omega)]
      rw [e]
      exact ⟨h1, fun h => by omega⟩
theorem edgesK_le (cs : List Cell) (k : Nat) : (edgesK cs k).length ≤ (edgesP cs).length := by
  have e : edgesP cs = edgesK cs k ++ ((liveP cs).drop k).flatMap (outE cs) := by
    unfold edgesP edgesK
    rw [← List.flatMap_append, List.take_append_drop]
  rw [e, List.length_append]; omega
theorem inE_cons (h : Int) (e : Int × Int) (es : List (Int × Int)) : inE h (e :: es) = inE h es + if e.2 = h then 1 else 0 := by
  unfold inE
  rw [List.countP_cons]
  by_cases hh : e.2 = h <;> simp [hh]
theorem sum_one {L : List Int} (hn : L.Nodup) (x : Int) : (L.map fun h => if x = h then (1 : Int) else 0).sum = if x ∈ L then 1 else 0 := by
  induction L with
  | nil => simp
  | cons y L ih =>
    obtain ⟨h1, h2⟩ := List.nodup_cons.1 hn
    rw [List.map_cons, List.sum_cons, ih h2]
    by_cases hx : x = y
    · subst hx; simp [h1]
    · simp [hx]
theorem sum_add {L : List Int} (f g : Int → Int) : (L.map fun h => f h + g h).sum = (L.map f).sum + (L.map g).sum := by
  induction L with
  | nil => simp
  | cons y L ih => simp only [List.map_cons, List.sum_cons, ih]; omega
theorem sum_edges {cs : List Cell} (g : Gens cs) : ∀ es : List (Int × Int), ((liveP cs).map fun h => inE h es).sum + ((danE cs es).length : Int) = es.length
  | [] => by
    have e : ∀ L : List Int, (L.map fun h => inE h []).sum = 0 := by
      intro L
      induction L with
      | nil => rfl
      | cons y L ih => rw [List.map_cons, List.sum_cons, ih]; rfl
    rw [e]; rfl
  | e :: es => by
    have ih := sum_edges g es
    have e1 : ((liveP cs).map fun h => inE h (e :: es)).sum = ((liveP cs).map fun h => inE h es).sum + if e.2 ∈ liveP cs then 1 else 0 := by
      have : (fun h => inE h (e :: es)) = fun h => inE h es + if e.2 = h then 1 else 0 := by funext h; exact inE_cons h e es
      rw [this, sum_add, sum_one (liveP_nodup g)]
    have e2 : ((danE cs (e :: es)).length : Int) = (danE cs es).length + if e.2 ∈ liveP cs then 0 else 1 := by
      unfold danE
      rw [List.filter_cons]
      by_cases hm : e.2 ∈ liveP cs
      · have := (get_live g).2 hm
        simp [this, hm]
      · have : (getP cs e.2).2 ≠ 0 := fun h => hm ((get_live g).1 h)
        simp [this, hm]
    rw [e1, e2, List.length_cons]
    by_cases hm : e.2 ∈ liveP cs
    · simp only [if_pos hm]; omega
    · simp only [if_neg hm]; omega
theorem refs_sums {cs : List Cell} (g : Gens cs) {k : Nat} (hk : (liveP cs).length ≤ k) : ((edgesK cs k).length : Int) = inS cs k + (danE cs (edgesP cs)).length := by
  have h := sum_edges g (edgesP cs)
  have e : inS cs k = ((liveP cs).map fun h => inE h (edgesP cs)).sum := by unfold inS; rw [List.take_of_length_le hk]
  rw [edgesK_all hk, e]
  omega

/-! ### By -/
theorem by_blk (b h : Int) : ∀ (xs : List Int) (acc : List Int) (last : Int), (xs.map fun x => (h, x)).foldl (byF b) (acc, last) = if last = h then (acc, last) else if b ∈ xs then (acc ++ [h], h) else (acc, last)
  | [], acc, last => by simp
  | x :: xs, acc, last => by
    rw [List.map_cons, List.foldl_cons]
    by_cases hl : last = h
    · subst hl
      have e : byF b (acc, last) (last, x) = (acc, last) := by unfold byF; simp
      rw [e, by_blk b last xs acc last]; simp
    · rw [if_neg hl]
      by_cases hx : x = b
      · have e : byF b (acc, last) (h, x) = (acc ++ [h], h) := by unfold byF; rw [if_pos ⟨hx, fun e => hl e.symm⟩]
        rw [e, by_blk b h xs _ h, if_pos rfl, if_pos (by simp [hx])]
      · have e : byF b (acc, last) (h, x) = (acc, last) := by unfold byF; rw [if_neg (fun hc => hx hc.1)]
        rw [e, by_blk b h xs acc last, if_neg hl]
        have : b ∈ x :: xs ↔ b ∈ xs := by rw [List.mem_cons]; constructor
                                          · rintro (e | e); exact absurd e.symm hx; exact e
                                          · exact .inr
        simp only [this]
theorem by_all (cs : List Cell) (b : Int) : ∀ (L : List Int) (acc : List Int) (last : Int), L.Nodup → last ∉ L → ((L.flatMap (outE cs)).foldl (byF b) (acc, last)).1 = acc ++ L.filter fun h => decide (b ∈ outP cs h)
  | [], acc, last, _, _ => by simp
  | h :: L, acc, last, hn, hl => by
    obtain ⟨h1, h2⟩ := List.nodup_cons.1 hn
    have hlh : last ≠ h := fun e => hl (by rw [e]; exact List.mem_cons_self)
    have hlL : last ∉ L := fun e => hl (List.mem_cons_of_mem _ e)
    rw [List.flatMap_cons, List.foldl_append]
    have e : (outE cs h).foldl (byF b) (acc, last) = if b ∈ outP cs h then (acc ++ [h], h) else (acc, last) := by
      unfold outE
      rw [by_blk, if_neg hlh]
    rw [e, List.filter_cons]
    by_cases hb : b ∈ outP cs h
    · rw [if_pos hb, by_all cs b L _ h h2 h1, if_pos (by simpa using hb), List.append_assoc]; rfl
    · rw [if_neg hb, by_all cs b L acc last h2 hlL, if_neg (by simpa using hb)]
def byP (cs : List Cell) (b : Int) : List Int := (liveP cs).filter fun h => decide (b ∈ outP cs h)
theorem by_eq {cs : List Cell} (g : Gens cs) (b : Int) : (byE b (edgesP cs)).1 = byP cs b := by
  have := by_all cs b (liveP cs) [] 0 (liveP_nodup g) (fun e => live_nz g e rfl)
  unfold byE edgesP byP
  rw [this, List.nil_append]
theorem inE_flat (cs : List Cell) (b : Int) : ∀ L : List Int, inE b (L.flatMap (outE cs)) = (L.map fun h => ((outP cs h).count b : Int)).sum
  | [] => rfl
  | h :: L => by
    rw [List.flatMap_cons, List.map_cons, List.sum_cons, ← inE_flat cs b L]
    unfold inE outE
    rw [List.countP_append, List.countP_map]
    have : ((fun e : Int × Int => decide (e.2 = b)) ∘ fun x => (h, x)) = fun x => x == b := by funext x; rw [Bool.eq_iff_iff]; simp
    rw [this]
    simp [List.count]
theorem by_le (cs : List Cell) (b : Int) : ∀ L : List Int, ((L.filter fun h => decide (b ∈ outP cs h)).length : Int) ≤ (L.map fun h => ((outP cs h).count b : Int)).sum ∧ ((L.filter fun h => decide (b ∈ outP cs h)) = [] → (L.map fun h => ((outP cs h).count b : Int)).sum = 0) ∧ 0 ≤ (L.map fun h => ((outP cs h).count b : Int)).sum
  | [] => by simp
  | h :: L => by
    obtain ⟨h1, h2, h3⟩ := by_le cs b L
    rw [List.filter_cons, List.map_cons, List.sum_cons]
    by_cases hb : b ∈ outP cs h
    · have hc : 0 < (outP cs h).count b := List.count_pos_iff.2 hb
      rw [if_pos (by simpa using hb)]
      refine ⟨by rw [List.length_cons]; omega, fun e => by simp at e, by omega⟩
    · have hc : (outP cs h).count b = 0 := List.count_eq_zero.2 hb
      rw [if_neg (by simpa using hb), hc]
      refine ⟨by omega, fun e => by have := h2 e; omega, by omega⟩
theorem refs_both {cs : List Cell} (g : Gens cs) (a b : Int) : times (byP cs b) a = min (times (outP cs a) b) 1 ∧ ((byP cs b).length : Int) ≤ inE b (edgesP cs) ∧ (0 < ((byP cs b).length : Int) ↔ 0 < inE b (edgesP cs)) := by
  obtain ⟨h1, h2, h3⟩ := by_le cs b (liveP cs)
  have e : inE b (edgesP cs) = ((liveP cs).map fun h => ((outP cs h).count b : Int)).sum := inE_flat cs b (liveP cs)
  refine ⟨?_, by rw [e]; exact h1, ?_⟩
  · by_cases hb : b ∈ outP cs a
    · have hb0 : b ≠ 0 := outP_nz hb
      have ha : a ∈ liveP cs := Decidable.byContradiction fun hc => by rw [outP_dead g hc] at hb; cases hb
      have ha0 : a ≠ 0 := live_nz g ha
      have hc : 0 < (outP cs a).count b := List.count_pos_iff.2 hb
      have hm : a ∈ byP cs b := List.mem_filter.2 ⟨ha, by simpa using hb⟩
      have hnd : (byP cs b).Nodup := (liveP_nodup g).sublist List.filter_sublist
      unfold times
      rw [if_neg ha0, if_neg hb0, hnd.count, if_pos hm]
      omega
    · have hm : a ∉ byP cs b := fun hc => hb (by simpa using (List.mem_filter.1 hc).2)
      unfold times
      rw [List.count_eq_zero.2 hm, List.count_eq_zero.2 hb]
      split <;> split <;> rfl
  · constructor
    · intro h; rw [e]; unfold byP at h; omega
    · intro h
      rw [e] at h
      have : byP cs b ≠ [] := fun hc => by have := h2 hc; omega
      have := List.length_pos_iff.2 this
      omega
end Go.Proofs.Ytjgacbopccfecaa
