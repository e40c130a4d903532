/-
  What the reference reaches, in plain Lean, and that it is what is reached.
-/
import Derived.Test.YtjgacbopccfecaaN9
set_option linter.unusedVariables false
set_option linter.unusedSimpArgs false
namespace Go.Proofs.Ytjgacbopccfecaa

def hasP (l : List Int) (h : Int) : Bool := decide (0 < times l h)
def thoseP (all l : List Int) (b : Bool) : List Int := all.filter fun h => hasP l h == b
def stepR (cs : List Cell) (seen : List Int) : List Int := thoseP (liveP cs) (seen ++ seen.flatMap (outP cs)) true
def iterR (cs : List Cell) (l : List Int) : Nat → List Int
  | 0 => thoseP (liveP cs) l true
  | k + 1 => stepR cs (iterR cs l k)
def fromR (cs : List Cell) (l : List Int) : List Int := iterR cs l (liveP cs).length
def lostR (cs : List Cell) (l : List Int) : List Int := thoseP (liveP cs) (fromR cs l) false
def closedR (cs : List Cell) (l : List Int) : Bool := (thoseP (liveP cs) l true).all fun h => (thoseP (liveP cs) (outP cs h) true).all fun x => hasP l x

theorem has_iff {l : List Int} {h : Int} (h0 : h ≠ 0) : hasP l h = true ↔ h ∈ l := by
  unfold hasP times
  rw [if_neg h0, decide_eq_true_iff, ← List.count_pos_iff (a := h) (l := l)]
  omega
theorem has_iff' {l : List Int} {h : Int} : hasP l h = true ↔ h ∈ l ∧ h ≠ 0 := by
  by_cases h0 : h = 0
  · subst h0; simp [hasP, times]
  · rw [has_iff h0]; simp [h0]
theorem those_mem {cs : List Cell} (g : Gens cs) {l : List Int} {h : Int} : h ∈ thoseP (liveP cs) l true ↔ h ∈ liveP cs ∧ h ∈ l := by
  unfold thoseP
  rw [List.mem_filter, beq_iff_eq]
  constructor
  · rintro ⟨h1, h2⟩; exact ⟨h1, (has_iff (live_nz g h1)).1 h2⟩
  · rintro ⟨h1, h2⟩; exact ⟨h1, (has_iff (live_nz g h1)).2 h2⟩
theorem those_memF {cs : List Cell} (g : Gens cs) {l : List Int} {h : Int} : h ∈ thoseP (liveP cs) l false ↔ h ∈ liveP cs ∧ h ∉ l := by
  unfold thoseP
  rw [List.mem_filter, beq_iff_eq]
  constructor
  · rintro ⟨h1, h2⟩; exact ⟨h1, fun hm => by rw [(has_iff (live_nz g h1)).2 hm] at h2; cases h2⟩
  · rintro ⟨h1, h2⟩; exact ⟨h1, Bool.eq_false_iff.2 fun hm => h2 ((has_iff (live_nz g h1)).1 hm)⟩
theorem step_mem {cs : List Cell} (g : Gens cs) {s : List Int} {h : Int} : h ∈ stepR cs s ↔ h ∈ liveP cs ∧ (h ∈ s ∨ ∃ k ∈ s, h ∈ outP cs k) := by
  unfold stepR
  rw [those_mem g, List.mem_append, List.mem_flatMap]
theorem iter_live {cs : List Cell} (g : Gens cs) {l : List Int} : ∀ k h, h ∈ iterR cs l k → h ∈ liveP cs
  | 0, h, hm => ((those_mem g).1 hm).1
  | k + 1, h, hm => ((step_mem g).1 hm).1
theorem iter_rch {cs : List Cell} (g : Gens cs) {l : List Int} : ∀ k h, h ∈ iterR cs l k → Rch cs l h
  | 0, h, hm => .base ((those_mem g).1 hm).2 ((those_mem g).1 hm).1
  | k + 1, h, hm => by
    obtain ⟨h1, h2 | ⟨j, h3, h4⟩⟩ := (step_mem g).1 hm
    · exact iter_rch g k h h2
    · exact .step (iter_rch g k j h3) h4 h1
theorem filter_grow {xs : List Int} {p q : Int → Bool} (h : ∀ x ∈ xs, p x = true → q x = true) : (xs.filter p).length ≤ (xs.filter q).length ∧ ((xs.filter q).length ≤ (xs.filter p).length → xs.filter p = xs.filter q) := by
  induction xs with
  | nil => simp
  | cons x xs ih =>
    obtain ⟨i1, i2⟩ := ih fun y hy => h y (List.mem_cons_of_mem _ hy)
    have hx := h x List.mem_cons_self
    rw [List.filter_cons, List.filter_cons]
    cases hp : p x
    · cases hq : q x
      · simpa using ⟨i1, i2⟩
      · simp only [Bool.false_eq_true, if_false, if_true, List.length_cons]
        exact ⟨by omega, fun hc => by omega⟩
    · have hq := hx hp
      simp only [hq, if_true, List.length_cons]
      exact ⟨by omega, fun hc => by rw [i2 (by omega)]⟩
theorem iter_filter (cs : List Cell) (l : List Int) : ∀ k, ∃ p, iterR cs l k = (liveP cs).filter p
  | 0 => ⟨_, rfl⟩
  | _ + 1 => ⟨_, rfl⟩
theorem iter_grow {cs : List Cell} (g : Gens cs) (l : List Int) (k : Nat) : iterR cs l (k + 1) = iterR cs l k ∨ (iterR cs l k).length < (iterR cs l (k + 1)).length := by
  obtain ⟨p, hp⟩ := iter_filter cs l k
  obtain ⟨q, hq⟩ := iter_filter cs l (k + 1)
  have hsub : ∀ x ∈ liveP cs, p x = true → q x = true := fun x hx hpx => by
    have h1 : x ∈ iterR cs l k := by rw [hp]; exact List.mem_filter.2 ⟨hx, hpx⟩
    have h2 : x ∈ iterR cs l (k + 1) := (step_mem g).2 ⟨hx, .inl h1⟩
    rw [hq] at h2
    exact (List.mem_filter.1 h2).2
  obtain ⟨h1, h2⟩ := filter_grow hsub
  rw [hp, hq]
  by_cases hc : ((liveP cs).filter q).length ≤ ((liveP cs).filter p).length
  · exact .inl (h2 hc).symm
  · exact .inr (by omega)
theorem iter_len {cs : List Cell} (g : Gens cs) (l : List Int) : ∀ k, iterR cs l (k + 1) = iterR cs l k ∨ k + 1 ≤ (iterR cs l (k + 1)).length
  | 0 => (iter_grow g l 0).imp id fun h => by omega
  | k + 1 => by
    rcases iter_len g l k with h | h
    · left
      show stepR cs (iterR cs l (k + 1)) = stepR cs (iterR cs l k)
      rw [h]
    · exact (iter_grow g l (k + 1)).imp id fun h2 => by omega
theorem from_shut {cs : List Cell} (g : Gens cs) (l : List Int) : stepR cs (fromR cs l) = fromR cs l := by
  have h := iter_len g l (liveP cs).length
  rcases h with h | h
  · exact h
  · obtain ⟨p, hp⟩ := iter_filter cs l ((liveP cs).length + 1)
    rw [hp] at h
    have := List.length_filter_le p (liveP cs)
    omega
theorem iter_base {cs : List Cell} (g : Gens cs) {l : List Int} {h : Int} (h1 : h ∈ l) (h2 : h ∈ liveP cs) : ∀ k, h ∈ iterR cs l k
  | 0 => (those_mem g).2 ⟨h2, h1⟩
  | k + 1 => (step_mem g).2 ⟨h2, .inl (iter_base g h1 h2 k)⟩
theorem from_iff {cs : List Cell} (g : Gens cs) {l : List Int} {h : Int} : h ∈ fromR cs l ↔ Rch cs l h := by
  refine ⟨iter_rch g _ h, fun hr => ?_⟩
  induction hr with
  | base h1 h2 => exact iter_base g h1 h2 _
  | step _ hx hv ih =>
    rw [← from_shut g]
    exact (step_mem g).2 ⟨hv, .inr ⟨_, ih, hx⟩⟩
theorem rch_live {cs : List Cell} {l : List Int} {h : Int} (hr : Rch cs l h) : h ∈ liveP cs := by cases hr <;> assumption
theorem from_filter {cs : List Cell} (g : Gens cs) {l : List Int} {p : Int → Bool} (h : ∀ x ∈ liveP cs, (p x = true ↔ Rch cs l x)) : (liveP cs).filter p = fromR cs l := by
  obtain ⟨q, hq⟩ := iter_filter cs l (liveP cs).length
  have hq' : fromR cs l = (liveP cs).filter q := hq
  rw [hq']
  refine List.filter_congr fun x hx => ?_
  rw [Bool.eq_iff_iff, h x hx, ← from_iff g, hq', List.mem_filter]
  exact ⟨fun h => h.2, fun h => ⟨hx, h⟩⟩
theorem lost_filter {cs : List Cell} (g : Gens cs) {l : List Int} {p : Int → Bool} (h : ∀ x ∈ liveP cs, (p x = true ↔ ¬ Rch cs l x)) : (liveP cs).filter p = lostR cs l := by
  unfold lostR thoseP
  refine List.filter_congr fun x hx => ?_
  rw [Bool.eq_iff_iff, h x hx, ← from_iff g, beq_iff_eq]
  constructor
  · intro hn; exact Bool.eq_false_iff.2 fun hm => hn ((has_iff (live_nz g hx)).1 hm)
  · intro he hm; rw [(has_iff (live_nz g hx)).2 hm] at he; cases he
theorem filter_succ {xs : List Int} {p : Int → Bool} {k : Nat} (hk : k < xs.length) : (xs.take (k + 1)).filter p = (xs.take k).filter p ++ if p xs[k] = true then [xs[k]] else [] := by
  rw [List.take_succ_eq_append_getElem hk, List.filter_append]
  congr 1
  cases h : p xs[k] <;> simp [h]
theorem closed_same {cs : List Cell} (g : Gens cs) (l : List Int) : (!((fromR cs l).any fun h => !decide (h ∈ l))) = closedR cs l := by
  rw [Bool.eq_iff_iff, Bool.not_eq_true', List.any_eq_false]
  unfold closedR
  rw [List.all_eq_true]
  constructor
  · intro h x hx
    obtain ⟨h1, h2⟩ := (those_mem g).1 hx
    rw [List.all_eq_true]
    intro y hy
    obtain ⟨h3, h4⟩ := (those_mem g).1 hy
    have hr : Rch cs l y := .step (.base h2 h1) h4 h3
    have := h y ((from_iff g).2 hr)
    exact (has_iff (live_nz g h3)).2 (by simpa using this)
  · intro h x hx
    have hr := (from_iff g).1 hx
    have key : ∀ y, Rch cs l y → y ∈ l := by
      intro y hy
      induction hy with
      | base h1 _ => exact h1
      | step hr' hx' hv ih =>
        have h1 := List.all_eq_true.1 (h _ ((those_mem g).2 ⟨rch_live hr', ih⟩)) _ ((those_mem g).2 ⟨hv, hx'⟩)
        exact (has_iff (live_nz g hv)).1 h1
    simpa using key x hr
end Go.Proofs.Ytjgacbopccfecaa
