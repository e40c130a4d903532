/-
  What is reached, in plain Lean; where something stands in a list.
-/
import Derived.Test.YtjgacbopccfecaaY7
set_option linter.unusedVariables false
set_option linter.unusedSimpArgs false
namespace Go.Proofs.Ytjgacbopccfecaa

theorem drop1 (xs : List Int) : xs.drop 1 = (xs.take xs.length).drop (min 1 xs.length) := by
  rw [List.take_length]
  cases xs with
  | nil => rfl
  | cons x xs => rw [Nat.min_eq_left (by simp)]
theorem take1 (xs : List Int) : xs.take 1 = (xs.take (min 1 xs.length)).drop 0 := by
  rw [List.drop_zero]
  cases xs with
  | nil => rfl
  | cons x xs => rw [Nat.min_eq_left (by simp)]

def ixP (p : Int → Bool) (xs : List Int) : Int := match xs.findIdx? p with
  | some i => (i : Int)
  | none => -1
theorem ix_hit {p : Int → Bool} {xs : List Int} {k : Nat} (hk : k < xs.length) (h : ∀ x ∈ xs.take k, p x = false) (hp : p xs[k] = true) : ixP p xs = k := by
  unfold ixP
  have : xs.findIdx? p = some k := by
    rw [List.findIdx?_eq_some_iff_getElem]
    refine ⟨hk, hp, fun j hj => ?_⟩
    have := h xs[j] (by rw [List.mem_take_iff_getElem]; exact ⟨j, by omega, rfl⟩)
    simpa using this
  rw [this]
theorem ix_none {p : Int → Bool} {xs : List Int} {k : Nat} (hk : xs.length ≤ k) (h : ∀ x ∈ xs.take k, p x = false) : ixP p xs = -1 := by
  unfold ixP
  have : xs.findIdx? p = none := by
    rw [List.findIdx?_eq_none_iff]
    rw [List.take_of_length_le hk] at h
    exact h
  rw [this]
theorem ix_any (p : Int → Bool) (xs : List Int) : decide (0 ≤ ixP p xs) = xs.any p := by
  unfold ixP
  cases h : xs.findIdx? p with
  | none =>
    have := List.findIdx?_eq_none_iff.1 h
    rw [eq_comm, List.any_eq_false.2 (fun x hx => by rw [this x hx]; simp)]
    decide
  | some i =>
    obtain ⟨hi, hp, _⟩ := List.findIdx?_eq_some_iff_getElem.1 h
    rw [eq_comm, List.any_eq_true.2 ⟨xs[i], List.getElem_mem hi, hp⟩, eq_comm]
    exact decide_eq_true (by simp only; omega)
theorem ix_mem (c : Int) (xs : List Int) : decide (0 ≤ ixP (fun x => decide (c = x)) xs) = decide (c ∈ xs) := by
  rw [ix_any, Bool.eq_iff_iff]
  simp

/-! ### One by one -/
def seeF (cs : List Cell) (s : List Int × List Int) (h : Int) : List Int × List Int := if (getP cs h).2 = 0 ∧ h ∉ s.1 then (s.1 ++ [h], s.2 ++ [h]) else s
theorem see_yes {cs : List Cell} {s : List Int × List Int} {h : Int} (h1 : (getP cs h).2 = 0) (h2 : h ∉ s.1) : seeF cs s h = (s.1 ++ [h], s.2 ++ [h]) := by unfold seeF; rw [if_pos ⟨h1, h2⟩]
theorem see_no {cs : List Cell} {s : List Int × List Int} {h : Int} (h1 : ¬ ((getP cs h).2 = 0 ∧ h ∉ s.1)) : seeF cs s h = s := by unfold seeF; rw [if_neg h1]

/-- What is reached from l. -/
inductive Rch (cs : List Cell) (l : List Int) : Int → Prop
  | base {h : Int} : h ∈ l → h ∈ liveP cs → Rch cs l h
  | step {h x : Int} : Rch cs l h → x ∈ outP cs h → x ∈ liveP cs → Rch cs l x

/-- The search's state. -/
structure Srch (cs : List Cell) (l : List Int) (ks q : List Int) : Prop where
  nd : ks.Nodup
  live : ∀ k ∈ ks, k ∈ liveP cs
  rch : ∀ k ∈ ks, Rch cs l k
  qin : ∀ k ∈ q, k ∈ ks
  len : q.length ≤ ks.length
/-- all that those not waiting name is seen. -/
def Shut (cs : List Cell) (ks q : List Int) : Prop := ∀ k ∈ ks, k ∉ q → ∀ x ∈ outP cs k, x ∈ liveP cs → x ∈ ks
theorem nodup_le : ∀ {L M : List Int}, L.Nodup → (∀ x ∈ L, x ∈ M) → L.length ≤ M.length
  | [], M, _, _ => Nat.zero_le _
  | x :: L, M, hn, hs => by
    obtain ⟨h1, h2⟩ := List.nodup_cons.1 hn
    have hx : x ∈ M := hs x List.mem_cons_self
    have ih := nodup_le (L := L) (M := M.erase x) h2 fun y hy => by
      have hne : y ≠ x := fun e => h1 (e ▸ hy)
      exact (List.mem_erase_of_ne hne).2 (hs y (List.mem_cons_of_mem _ hy))
    rw [List.length_erase_of_mem hx] at ih
    have := List.length_pos_of_mem hx
    rw [List.length_cons]; omega
theorem srch_le {cs : List Cell} {l ks q : List Int} (h : Srch cs l ks q) : ks.length ≤ (liveP cs).length :=
  nodup_le h.nd h.live
theorem srch_room {cs : List Cell} {l ks q : List Int} (g : Gens cs) (h : Srch cs l ks q) {x : Int} (h1 : (getP cs x).2 = 0) (h2 : x ∉ ks) : q.length < 24 ∧ ks.length < (liveP cs).length := by
  have hx := (get_live g).1 h1
  have hle : (x :: ks).length ≤ (liveP cs).length := nodup_le (List.nodup_cons.2 ⟨h2, h.nd⟩) (fun k hk => by
    rcases List.mem_cons.1 hk with rfl | hk
    · exact hx
    · exact h.live k hk)
  rw [List.length_cons] at hle
  have h3 := liveP_le cs
  have h4 := g.1
  have h5 := h.len
  exact ⟨by omega, by omega⟩
theorem srch_see {cs : List Cell} {l ks q : List Int} (g : Gens cs) (h : Srch cs l ks q) {x : Int} (hr : x ∈ liveP cs → Rch cs l x) : Srch cs l (seeF cs (ks, q) x).1 (seeF cs (ks, q) x).2 := by
  by_cases hc : (getP cs x).2 = 0 ∧ x ∉ ks
  · rw [see_yes hc.1 hc.2]
    have hx := (get_live g).1 hc.1
    refine ⟨?_, ?_, ?_, ?_, by simp; exact h.len⟩
    · rw [List.nodup_append]
      exact ⟨h.nd, by simp, fun a ha b hb e => by rw [List.mem_singleton] at hb; subst hb; subst e; exact hc.2 ha⟩
    · intro k hk
      rcases List.mem_append.1 hk with hk | hk
      · exact h.live k hk
      · rw [List.mem_singleton] at hk; subst hk; exact hx
    · intro k hk
      rcases List.mem_append.1 hk with hk | hk
      · exact h.rch k hk
      · rw [List.mem_singleton] at hk; subst hk; exact hr hx
    · intro k hk
      rcases List.mem_append.1 hk with hk | hk
      · exact List.mem_append_left _ (h.qin k hk)
      · exact List.mem_append_right _ hk
  · rw [see_no hc]; exact h
/-- what is seen stays seen -/
theorem see_sub {cs : List Cell} {s : List Int × List Int} {x : Int} : (∀ k ∈ s.1, k ∈ (seeF cs s x).1) ∧ (∀ k ∈ s.2, k ∈ (seeF cs s x).2) ∧ (∀ k ∈ (seeF cs s x).1, k ∈ s.1 ∨ k ∈ (seeF cs s x).2) ∧ ((getP cs x).2 = 0 → x ∈ (seeF cs s x).1) := by
  by_cases hc : (getP cs x).2 = 0 ∧ x ∉ s.1
  · rw [see_yes hc.1 hc.2]
    exact ⟨fun k hk => List.mem_append_left _ hk, fun k hk => List.mem_append_left _ hk, fun k hk => (List.mem_append.1 hk).imp id fun h => List.mem_append_right _ h, fun _ => List.mem_append_right _ (List.mem_singleton.2 rfl)⟩
  · rw [see_no hc]
    exact ⟨fun _ h => h, fun _ h => h, fun _ h => .inl h, fun h => Decidable.byContradiction fun h2 => hc ⟨h, h2⟩⟩
theorem shut_see {cs : List Cell} {ks q : List Int} {x : Int} (h : Shut cs ks q) : Shut cs (seeF cs (ks, q) x).1 (seeF cs (ks, q) x).2 := by
  obtain ⟨h1, h2, h3, _⟩ := see_sub (cs := cs) (s := (ks, q)) (x := x)
  intro k hk hq y hy hl
  rcases h3 k hk with hk | hk
  · exact h1 y (h k hk (fun hq' => hq (h2 k hq')) y hy hl)
  · exact absurd hk hq
theorem srch_nil (cs : List Cell) (l : List Int) : Srch cs l [] [] := ⟨List.nodup_nil, (fun k hk => by cases hk), (fun k hk => by cases hk), (fun k hk => by cases hk), Nat.le_refl _⟩
theorem srch_pop {cs : List Cell} {l ks q : List Int} {h : Int} (s : Srch cs l ks (h :: q)) : Srch cs l ks q ∧ h ∈ ks ∧ Rch cs l h := by
  have hm := s.qin h List.mem_cons_self
  have := s.len
  rw [List.length_cons] at this
  exact ⟨⟨s.nd, s.live, s.rch, fun k hk => s.qin k (List.mem_cons_of_mem _ hk), by omega⟩, hm, s.rch h hm⟩
/-- .. but for h, whose names are seen as far as j. -/
def ShutBut (cs : List Cell) (ks q : List Int) (h : Int) : Prop := ∀ k ∈ ks, k ∉ q → k ≠ h → ∀ x ∈ outP cs k, x ∈ liveP cs → x ∈ ks
theorem shut_pop {cs : List Cell} {ks q : List Int} {h : Int} (s : Shut cs ks (h :: q)) : ShutBut cs ks q h := fun k hk hq hne x hx hl => s k hk (fun hm => (List.mem_cons.1 hm).elim hne hq) x hx hl
theorem shutbut_see {cs : List Cell} {ks q : List Int} {h x : Int} (s : ShutBut cs ks q h) : ShutBut cs (seeF cs (ks, q) x).1 (seeF cs (ks, q) x).2 h := by
  obtain ⟨h1, h2, h3, _⟩ := see_sub (cs := cs) (s := (ks, q)) (x := x)
  intro k hk hq hne y hy hl
  rcases h3 k hk with hk | hk
  · exact h1 y (s k hk (fun hq' => hq (h2 k hq')) hne y hy hl)
  · exact absurd hk hq
theorem shut_done {cs : List Cell} {ks q : List Int} {h : Int} (s : ShutBut cs ks q h) (hj : ∀ x ∈ outP cs h, x ∈ liveP cs → x ∈ ks) : Shut cs ks q := fun k hk hq x hx hl => by
  by_cases e : k = h
  · subst e; exact hj x hx hl
  · exact s k hk hq e x hx hl
/-- how much is left to do -/
def left (cs : List Cell) (ks q : List Int) : Nat := 2 * ((liveP cs).length - ks.length) + q.length
theorem left_see {cs : List Cell} {l ks q : List Int} (g : Gens cs) (s : Srch cs l ks q) (x : Int) : left cs (seeF cs (ks, q) x).1 (seeF cs (ks, q) x).2 ≤ left cs ks q := by
  by_cases hc : (getP cs x).2 = 0 ∧ x ∉ ks
  · have := (srch_room g s hc.1 hc.2).2
    rw [see_yes hc.1 hc.2]
    unfold left
    simp only [List.length_append, List.length_singleton]
    omega
  · rw [see_no hc]; exact Nat.le_refl _
theorem srch_end {cs : List Cell} {l ks : List Int} (s : Srch cs l ks []) (h1 : Shut cs ks []) (h2 : ∀ x ∈ l, x ∈ liveP cs → x ∈ ks) (k : Int) : k ∈ ks ↔ Rch cs l k := by
  refine ⟨s.rch k, fun h => ?_⟩
  induction h with
  | base hl hv => exact h2 _ hl hv
  | step _ hx hv ih => exact h1 _ ih (by simp) _ hx hv
end Go.Proofs.Ytjgacbopccfecaa
