/-
  Contracts at stores that are written out; small laws that the statements of the store want.
-/
import Derived.Test.YtjgacbopccfecaaY
import Derived.Test.YtjgacbopccfecaaW5
import Derived.Test.YtjgacbopccfecaaW7
import Derived.Test.YtjgacbopccfecaaW8
import Derived.Test.YtjgacbopccfecaaW10
import Derived.Test.YtjgacbopccfecaaW12
set_option maxRecDepth 100000
set_option linter.unusedVariables false
set_option linter.unusedSimpArgs false
namespace Go.Proofs.Ytjgacbopccfecaa

theorem f25_at {n last : Int} {cs : List Cell} {l : Int} (h1 : newC n last = cs) (h2 : newLast n last = l) : Spec Try.prog 25 [iV n, iV last] [] [] Value (fun v => stA v l 0) (fun _ => []) (fun v => [sl cellK v cs]) := by
  have h := f25_spec (n := n) (last := last); rw [h1, h2] at h; exact h
theorem f29_at {v : Value} {cs ds : List Cell} {last serial n prog s h e : Int} (h1 : makeP cs serial n prog = (ds, s, h, e)) (hn : cs.length ≤ 1000) (hI : ∀ c ∈ cs, InI c.gen) (hs0 : 0 ≤ serial) (hs1 : serial ≤ 2000000000) :
    Spec Try.prog 29 [stA v last serial, iV n, iV prog] [] [sl cellK v cs] Value (fun v' => .tuple [stA v' last s, iV h, iV e].toArray) (fun _ => []) (fun v' => [sl cellK v' ds]) := by
  have k := f29_spec (v := v) (last := last) (n := n) (prog := prog) hn hI hs0 hs1; rw [h1] at k; exact k
theorem f52_at {v : Value} {cs ds : List Cell} {last serial h i k e : Int} (h1 : putP cs h i k = (ds, e)) (hn : cs.length ≤ 1000) (hI : ∀ c ∈ cs, InI c.gen) (hF : ∀ c ∈ cs, c.val.fields.length ≤ 1000) :
    Spec Try.prog 52 [stA v last serial, iV h, iV i, iV k] [] [sl cellK v cs] Value (fun v' => .tuple [stA v' last serial, iV e].toArray) (fun _ => []) (fun v' => [sl cellK v' ds]) := by
  have q := f52_spec (v := v) (last := last) (serial := serial) (h := h) (i := i) (k := k) hn hI hF; rw [h1] at q; exact q
theorem f53_at {v : Value} {cs : List Cell} {last serial h i x e : Int} (h1 : fieldP cs h i = (x, e)) (hn : cs.length ≤ 1000) (hI : ∀ c ∈ cs, InI c.gen) :
    Spec Try.prog 53 [stA v last serial, iV h, iV i] [] [sl cellK v cs] Unit (fun _ => .tuple [iV x, iV e].toArray) (fun _ => []) (fun _ => []) := by
  have q := f53_spec (v := v) (last := last) (serial := serial) (h := h) (i := i) hn hI; rw [h1] at q; exact q
theorem f22_at {v : Value} {cs : List Cell} {last serial h e : Int} {o : Obj} (h1 : getP cs h = (o, e)) (hn : cs.length ≤ 1000) (hI : ∀ c ∈ cs, InI c.gen) :
    Spec Try.prog 22 [stA v last serial, iV h] [] [sl cellK v cs] Value (fun f => .tuple [objA o f, iV e].toArray) (fun _ => []) (fun f => [sl intK f o.fields]) := by
  have q := f22_spec (v := v) (last := last) (serial := serial) (h := h) hn hI; rw [h1] at q; exact q
theorem f28_at {v : Value} {cs : List Cell} {last serial : Int} {l : List Int} (h1 : liveP cs = l) (hn : cs.length ≤ 1000) (hI : ∀ c ∈ cs, InI c.gen) (hA : Apart cs) :
    Spec Try.prog 28 [stA v last serial] [] [sl cellK v cs] Value (fun v' => v') (fun _ => []) (fun v' => [sl intK v' l]) := by
  have q := f28_spec (v := v) (last := last) (serial := serial) hn hI hA; rw [h1] at q; exact q
theorem f26_at {v : Value} {cs : List Cell} {last serial : Int} (h1 : right6 ⟨cs, last, serial⟩ = true) (hn : cs.length ≤ 1000) : Spec Try.prog 26 [stA v last serial] [] [sl cellK v cs] Unit (fun _ => .bool true) (fun _ => []) (fun _ => []) := by
  have q := f26_spec (v := v) (last := last) (serial := serial) hn; rw [h1] at q; exact q

/-- objects written out -/
def ob (serial prog : Int) (fields : List Int) : Obj := ⟨serial, 0, 0, prog, false, fields⟩
def lv (serial prog : Int) (fields : List Int) : Cell := ⟨1, 0, ob serial prog fields⟩
instance (x : Int) : Decidable (InI x) := by unfold InI; infer_instance
def geB (cs : List Cell) : Bool := cs.all fun c => decide (InI c.gen)
theorem ge_of {cs : List Cell} (h : geB cs = true) : ∀ c ∈ cs, InI c.gen := fun c hc => of_decide_eq_true (List.all_eq_true.1 h c hc)
theorem le_of {cs : List Cell} {n : Nat} (h : (cs.all fun c => decide (c.val.fields.length ≤ n)) = true) : ∀ c ∈ cs, c.val.fields.length ≤ n := fun c hc => of_decide_eq_true (List.all_eq_true.1 h c hc)

theorem rightL_parts {cs : List Cell} {last serial : Int} (h : rightL cs last serial = true) : smallB cs = true ∧ serial < 1000000000 ∧ right6 ⟨cs, last, serial⟩ = true := by
  simpa [rightL, and_assoc] using h
theorem setC_len (cs : List Cell) (h : Int) (o : Obj) : (setC cs h o).length = cs.length := by
  unfold setC; split
  · exact withC_len _ _ _
  · rfl
theorem set_get2 {cs : List Cell} {h : Int} {o : Obj} (g : Gens cs) : (getP (foundC cs h (setT o)) h).2 = (getP cs h).2 := by
  rw [set_get g]; split <;> simp_all
theorem set_get1 {cs : List Cell} {h : Int} {o : Obj} (g : Gens cs) (he : (getP (foundC cs h (setT o)) h).2 = 0) : (getP (foundC cs h (setT o)) h).1 = o := by
  rw [set_get2 g] at he
  rw [set_get g, if_pos he]
theorem new_right (n last : Int) : right6 ⟨newC n last, newLast n last, 0⟩ = true := by
  rw [eq_comm]
  unfold newC newLast
  split
  · rename_i h
    simp only [newOk, decide_eq_true_eq] at h
    refine right6_all (by simp; omega) (by omega) (by omega) (by omega) (Nat.le_refl _) fun i hi _ => ?_
    rw [List.getElem_replicate]
    exact ⟨okC3_of (by simp [zeroCell]; omega), ok_bare (by rfl) (by decide)⟩
  · exact right6_all (by simp) (by omega) (by omega) (by omega) (Nat.le_refl _) fun i hi _ => by simp at hi
theorem new_len (n last : Int) : (newC n last).length ≤ 24 := by
  unfold newC
  split
  · rename_i h; simp only [newOk, decide_eq_true_eq] at h; simp; omega
  · simp
theorem make_last {cs : List Cell} {last serial n prog : Int} (hr : right6 ⟨cs, last, serial⟩ = true) : Apart (makeP cs serial n prog).1 ∧ Gens (makeP cs serial n prog).1 ∧ (makeP cs serial n prog).1.length = cs.length := by
  by_cases h : (makeP cs serial n prog).2.2.2 = 0
  · obtain ⟨i, hi, h0, _, _, _, _, e⟩ := make_yes h
    rw [e]
    obtain ⟨_, h2, h3, _⟩ := make_live (o := newO serial prog n) hr hi h0 (by simp only [newO]; omega)
    exact ⟨h2, h3, turnC_len _ _ _⟩
  · obtain ⟨x, e⟩ := make_no h
    rw [e]
    exact ⟨right6_apart hr, right6_gens hr, rfl⟩
theorem gens_in {cs : List Cell} (g : Gens cs) : ∀ c ∈ cs, InI c.gen := fun c hc => by
  obtain ⟨i, hi, rfl⟩ := List.getElem_of_mem hc
  have := g.2 i hi
  unfold InI; omega
theorem make_ok {cs : List Cell} {last serial n prog : Int} (hr : right6 ⟨cs, last, serial⟩ = true) (h : (makeP cs serial n prog).2.2.2 = 0) :
    liveP (makeP cs serial n prog).1 = liveP cs ++ [(makeP cs serial n prog).2.2.1] ∧ getP (makeP cs serial n prog).1 (makeP cs serial n prog).2.2.1 = (newO serial prog n, 0) ∧ (makeP cs serial n prog).2.1 = serial + 1 ∧ ((newI n).length : Int) = n := by
  obtain ⟨i, hi, h0, n0, n4, _, _, e⟩ := make_yes h
  rw [e]
  obtain ⟨h1, h2, h3, h4⟩ := make_live (o := newO serial prog n) hr hi h0 (by simp only [newO]; omega)
  refine ⟨h1, h4, rfl, ?_⟩
  unfold newI
  rw [if_pos ⟨n0, n4⟩, List.length_replicate]; omega
end Go.Proofs.Ytjgacbopccfecaa
