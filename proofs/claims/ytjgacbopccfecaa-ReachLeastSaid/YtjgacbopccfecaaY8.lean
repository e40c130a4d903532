/-
  The plain laws of what is reached.
-/
import Derived.Test.YtjgacbopccfecaaN11
set_option linter.unusedVariables false
set_option linter.unusedSimpArgs false
namespace Go.Proofs.Ytjgacbopccfecaa

theorem from_live {cs : List Cell} (g : Gens cs) {l : List Int} {h : Int} (hm : h ∈ fromR cs l) : h ∈ liveP cs := rch_live ((from_iff g).1 hm)
theorem from_nz {cs : List Cell} (g : Gens cs) {l : List Int} {h : Int} (hm : h ∈ fromR cs l) : h ≠ 0 := live_nz g (from_live g hm)
theorem from_nodup {cs : List Cell} (g : Gens cs) (l : List Int) : (fromR cs l).Nodup := by
  obtain ⟨p, hp⟩ := iter_filter cs l (liveP cs).length
  have hp' : fromR cs l = (liveP cs).filter p := hp
  rw [hp']
  exact (liveP_nodup g).sublist List.filter_sublist
theorem from_len {cs : List Cell} (l : List Int) : (fromR cs l).length ≤ (liveP cs).length := iter_le cs l _
theorem lost_len {cs : List Cell} (l : List Int) : (lostR cs l).length ≤ (liveP cs).length := those_le _ _ _
theorem from_hasP {cs : List Cell} (g : Gens cs) (l : List Int) (b : Int) : hasP (fromR cs l) b = decide (b ∈ fromR cs l) := by
  rw [Bool.eq_iff_iff, has_iff', decide_eq_true_iff]
  exact ⟨fun h => h.1, fun h => ⟨h, from_nz g h⟩⟩
theorem times_nodup {L : List Int} (hn : L.Nodup) {h : Int} (h0 : h ≠ 0) : times L h = if h ∈ L then 1 else 0 := by
  unfold times
  rw [if_neg h0, hn.count]
  split <;> rfl
theorem rch_mono {cs : List Cell} {l m : List Int} (h : ∀ x ∈ l, x ∈ liveP cs → Rch cs m x) {x : Int} (hr : Rch cs l x) : Rch cs m x := by
  induction hr with
  | base h1 h2 => exact h _ h1 h2
  | step _ hx hv ih => exact .step ih hx hv
theorem from_eq {cs : List Cell} (g : Gens cs) {l m : List Int} (h : ∀ x, Rch cs l x ↔ Rch cs m x) : fromR cs l = fromR cs m := by
  obtain ⟨p, hp⟩ := iter_filter cs l (liveP cs).length
  have hp' : fromR cs l = (liveP cs).filter p := hp
  rw [hp']
  refine from_filter g fun x hx => ?_
  rw [← h x, ← from_iff g, hp', List.mem_filter]
  exact ⟨fun h => ⟨hx, h⟩, fun h => h.2⟩
theorem from_idem {cs : List Cell} (g : Gens cs) (l : List Int) : fromR cs (fromR cs l) = fromR cs l :=
  from_eq g fun x => ⟨rch_mono fun y hy _ => (from_iff g).1 hy, fun hr => .base ((from_iff g).2 hr) (rch_live hr)⟩
theorem lost_idem {cs : List Cell} (g : Gens cs) (l : List Int) : lostR cs (fromR cs l) = lostR cs l := by
  unfold lostR; rw [from_idem g]
theorem closed_from {cs : List Cell} (g : Gens cs) (l : List Int) : closedR cs (fromR cs l) = true := by
  rw [← closed_same g, from_idem g, Bool.not_eq_true', List.any_eq_false]
  intro x hx
  simpa using hx
theorem filter_parts (p : Int → Bool) : ∀ xs : List Int, (xs.filter fun x => p x == true).length + (xs.filter fun x => p x == false).length = xs.length
  | [] => rfl
  | x :: xs => by
    have ih := filter_parts p xs
    rw [List.filter_cons, List.filter_cons]
    cases p x <;> simp <;> simp at ih <;> omega
theorem from_those {cs : List Cell} (g : Gens cs) (l : List Int) : thoseP (liveP cs) (fromR cs l) true = fromR cs l := by
  unfold thoseP
  refine from_filter g fun x hx => ?_
  rw [beq_iff_eq, has_iff (live_nz g hx), from_iff g]
theorem parts_len {cs : List Cell} (g : Gens cs) (l : List Int) : (fromR cs l).length + (lostR cs l).length = (liveP cs).length := by
  have h := filter_parts (hasP (fromR cs l)) (liveP cs)
  have e := from_those g l
  unfold thoseP at e
  rw [e] at h
  exact h
theorem parts_one {cs : List Cell} (g : Gens cs) (l : List Int) {h : Int} (hm : h ∈ liveP cs) : times (fromR cs l) h + times (lostR cs l) h = 1 := by
  have h0 := live_nz g hm
  have hn : (lostR cs l).Nodup := (liveP_nodup g).sublist List.filter_sublist
  rw [times_nodup (from_nodup g l) h0, times_nodup hn h0]
  have hl : h ∈ lostR cs l ↔ h ∉ fromR cs l := by
    unfold lostR
    rw [those_memF g]
    exact ⟨fun h => h.2, fun h => ⟨hm, h⟩⟩
  by_cases hc : h ∈ fromR cs l
  · rw [if_pos hc, if_neg (by rw [hl]; exact fun h => h hc)]; rfl
  · rw [if_neg hc, if_pos (hl.2 hc)]; rfl
theorem rch_more {cs : List Cell} {l m : List Int} {x : Int} : Rch cs (l ++ m) x ↔ Rch cs l x ∨ Rch cs m x := by
  constructor
  · intro hr
    induction hr with
    | base h1 h2 => exact (List.mem_append.1 h1).imp (fun h => .base h h2) fun h => .base h h2
    | step _ hx hv ih => exact ih.imp (fun h => .step h hx hv) fun h => .step h hx hv
  · rintro (h | h)
    · exact rch_mono (fun y hy hv => .base (List.mem_append_left _ hy) hv) h
    · exact rch_mono (fun y hy hv => .base (List.mem_append_right _ hy) hv) h
theorem more_has {cs : List Cell} (g : Gens cs) (l m : List Int) (h : Int) : (hasP (fromR cs l) h || hasP (fromR cs m) h) = hasP (fromR cs (l ++ m)) h := by
  rw [from_hasP g, from_hasP g, from_hasP g, Bool.eq_iff_iff, Bool.or_eq_true, decide_eq_true_iff, decide_eq_true_iff, decide_eq_true_iff, from_iff g, from_iff g, from_iff g, rch_more]
theorem more_len {cs : List Cell} (g : Gens cs) (l m : List Int) : (fromR cs (l ++ m)).length ≤ (fromR cs l).length + (fromR cs m).length := by
  rw [← List.length_append]
  refine nodup_le (from_nodup g _) fun x hx => ?_
  rw [List.mem_append, from_iff g, from_iff g]
  exact rch_more.1 ((from_iff g).1 hx)
theorem steps_tr {cs : List Cell} (g : Gens cs) {a b c : Int} (h1 : b ∈ fromR cs [a]) (h2 : c ∈ fromR cs [b]) : c ∈ fromR cs [a] := by
  rw [from_iff g] at *
  exact rch_mono (fun y hy hv => by rw [List.mem_singleton] at hy; subst hy; exact h1) h2
theorem steps_self {cs : List Cell} (g : Gens cs) (a : Int) : decide (a ∈ fromR cs [a]) = decide (0 < times (liveP cs) a) := by
  rw [decide_eq_decide, from_iff g]
  constructor
  · intro hr
    have hl := rch_live hr
    rw [times_nodup (liveP_nodup g) (live_nz g hl), if_pos hl]; decide
  · intro h
    have hm : a ∈ liveP cs := by
      have := has_iff'.1 (show hasP (liveP cs) a = true from decide_eq_true h)
      exact this.1
    exact .base (List.mem_singleton.2 rfl) hm
/-- What is within each list that is closed and holds what lives of l. -/
def holdsB (cs : List Cell) (l m : List Int) (k : Nat) : Bool := closedR cs m && ((liveP cs).take k).all fun h => !hasP l h || hasP m h
theorem holds_succ {cs : List Cell} {l m : List Int} {k : Nat} (hk : k < (liveP cs).length) : holdsB cs l m (k + 1) = (holdsB cs l m k && (!hasP l (liveP cs)[k] || hasP m (liveP cs)[k])) := by
  unfold holdsB
  rw [List.take_succ_eq_append_getElem hk, List.all_append]
  simp [Bool.and_assoc]
theorem least {cs : List Cell} (g : Gens cs) {l m : List Int} {k : Nat} (hk : (liveP cs).length ≤ k) (hh : holdsB cs l m k = true) {h : Int} (hm : h ∈ fromR cs l) : times m h ≠ 0 := by
  unfold holdsB at hh
  rw [List.take_of_length_le hk, Bool.and_eq_true] at hh
  obtain ⟨h1, h2⟩ := hh
  have key : ∀ x, Rch cs l x → x ∈ m := by
    intro x hr
    induction hr with
    | base hl hv =>
      have := List.all_eq_true.1 h2 _ hv
      rw [(has_iff (live_nz g hv)).2 hl] at this
      exact (has_iff (live_nz g hv)).1 (by simpa using this)
    | step hr' hx hv ih =>
      rw [← closed_same g, Bool.not_eq_true', List.any_eq_false] at h1
      have := h1 _ ((from_iff g).2 (.step (.base ih (rch_live hr')) hx hv))
      simpa using this
  have h3 := key h ((from_iff g).1 hm)
  have h4 := (has_iff (from_nz g hm)).2 h3
  unfold hasP at h4
  have := of_decide_eq_true h4
  omega
theorem least_one {cs : List Cell} (g : Gens cs) {l : List Int} {h : Int} (hv : h ∈ liveP cs) (hl : 0 < times l h) : times (fromR cs l) h = 1 := by
  have h0 := live_nz g hv
  have hm : h ∈ l := (has_iff h0).1 (decide_eq_true hl)
  rw [times_nodup (from_nodup g l) h0, if_pos ((from_iff g).2 (.base hm hv))]
end Go.Proofs.Ytjgacbopccfecaa
