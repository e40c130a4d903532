/-
  Who names whom, in plain Lean.
-/
import Derived.Test.YtjgacbopccfecaaY
set_option linter.unusedVariables false
set_option linter.unusedSimpArgs false
namespace Go.Proofs.Ytjgacbopccfecaa

theorem gensI {cs : List Cell} (g : Gens cs) : ∀ c ∈ cs, InI c.gen := fun c hc => by
  obtain ⟨i, hi, rfl⟩ := List.getElem_of_mem hc
  have := g.2 i hi
  unfold InI; omega
def namesL (xs : List Int) : List Int := xs.filter fun x => decide (x ≠ 0)
def i1 (xs : List Int) : List (List Value) := xs.map fun (x : Int) => [iV x]
def yl (xs : List Int) : List (List Value) := i1 (namesL xs)
theorem names_succ {xs : List Int} {k : Nat} (hk : k < xs.length) : namesL (xs.take (k + 1)) = namesL (xs.take k) ++ if xs[k] ≠ 0 then [xs[k]] else [] := by
  unfold namesL
  rw [List.take_succ_eq_append_getElem hk, List.filter_append]
  congr 1
  by_cases h : xs[k] = 0 <;> simp [h]
theorem names_split {xs : List Int} {k : Nat} (hk : k < xs.length) (h0 : xs[k] ≠ 0) : namesL xs = namesL (xs.take k) ++ xs[k] :: namesL (xs.drop (k + 1)) := by
  have e : xs = xs.take k ++ xs[k] :: xs.drop (k + 1) := by
    rw [← List.drop_eq_getElem_cons hk, List.take_append_drop]
  conv => lhs; rw [e]
  unfold namesL
  rw [List.filter_append, List.filter_cons, if_pos (by simpa using h0)]
theorem names_at {xs : List Int} {k : Nat} (hk : k < xs.length) (h0 : xs[k] ≠ 0) : ∃ h : (namesL (xs.take k)).length < (yl xs).length, (yl xs)[(namesL (xs.take k)).length] = [iV xs[k]] := by
  have e := names_split hk h0
  have hl : (namesL (xs.take k)).length < (namesL xs).length := by rw [e]; simp
  refine ⟨by unfold yl i1; rw [List.length_map]; exact hl, ?_⟩
  unfold yl i1
  rw [List.getElem_map]
  have : (namesL xs)[(namesL (xs.take k)).length]'hl = xs[k] := by
    have h2 : (namesL xs)[(namesL (xs.take k)).length]? = some xs[k] := by
      rw [e, List.getElem?_append_right (Nat.le_refl _)]; simp
    rw [List.getElem?_eq_getElem hl] at h2
    exact Option.some.inj h2
  rw [this]
theorem yl_len (xs : List Int) : (yl xs).length = (namesL xs).length := by simp [yl, i1]
theorem i1_len (xs : List Int) : (i1 xs).length = xs.length := by simp [i1]
theorem i1_get {xs : List Int} {k : Nat} (hk : k < (i1 xs).length) : ∃ hk' : k < xs.length, (i1 xs)[k] = [iV xs[k]] := ⟨by rw [i1_len] at hk; exact hk, by simp [i1]⟩
theorem names_le (xs : List Int) : (namesL xs).length ≤ xs.length := List.length_filter_le _ _
theorem i1_hps {xs : List Int} : ∀ x ∈ i1 xs, x.length = 1 := by
  intro x hx
  obtain ⟨i, _, rfl⟩ := List.mem_map.1 hx
  rfl
theorem times_names (xs : List Int) (c : Int) : times (namesL xs) c = times xs c := by
  unfold times
  split
  · rfl
  · rename_i h
    unfold namesL
    rw [List.count_filter (by simpa using h)]
/-- how many of them are c -/
def cnt (xs : List Int) (c : Int) : Int := (xs.count c : Int)
theorem cnt_succ {xs : List Int} {c : Int} {k : Nat} (hk : k < xs.length) : cnt (xs.take (k + 1)) c = cnt (xs.take k) c + if xs[k] = c then 1 else 0 := by
  unfold cnt
  rw [List.take_succ_eq_append_getElem hk, List.count_append, List.count_singleton]
  by_cases h : xs[k] = c <;> simp [h]
theorem cnt_names (xs : List Int) (c : Int) : cnt (namesL xs) c = times xs c := by
  unfold cnt times
  split
  · rename_i h
    subst h
    unfold namesL
    rw [List.count_eq_zero.2 (by simp)]; rfl
  · rename_i h
    unfold namesL
    rw [List.count_filter (by simpa using h)]
theorem cnt_lo (xs : List Int) (c : Int) : 0 ≤ cnt xs c ∧ cnt xs c ≤ xs.length := by
  unfold cnt
  have := List.count_le_length (a := c) (l := xs); omega

/-! ### Edges -/
def outP (cs : List Cell) (h : Int) : List Int := namesL (getP cs h).1.fields
def outE (cs : List Cell) (h : Int) : List (Int × Int) := (outP cs h).map fun x => (h, x)
def edgesK (cs : List Cell) (k : Nat) : List (Int × Int) := ((liveP cs).take k).flatMap (outE cs)
def edgesP (cs : List Cell) : List (Int × Int) := (liveP cs).flatMap (outE cs)
def eV (e : Int × Int) : List Value := [iV e.1, iV e.2]
def i2 (es : List (Int × Int)) : List (List Value) := es.map eV
theorem i2_len (es : List (Int × Int)) : (i2 es).length = es.length := by simp [i2]
theorem i2_get {es : List (Int × Int)} {k : Nat} (hk : k < (i2 es).length) : ∃ hk' : k < es.length, (i2 es)[k] = [iV es[k].1, iV es[k].2] := ⟨by rw [i2_len] at hk; exact hk, by simp [i2, eV]⟩
theorem i2_hps {es : List (Int × Int)} : ∀ x ∈ i2 es, x.length = 2 := by
  intro x hx
  obtain ⟨i, _, rfl⟩ := List.mem_map.1 hx
  rfl
theorem edgesK_succ {cs : List Cell} {k : Nat} (hk : k < (liveP cs).length) : edgesK cs (k + 1) = edgesK cs k ++ outE cs (liveP cs)[k] := by
  unfold edgesK
  rw [List.take_succ_eq_append_getElem hk, List.flatMap_append]
  simp
theorem edgesK_all {cs : List Cell} {k : Nat} (hk : (liveP cs).length ≤ k) : edgesK cs k = edgesP cs := by
  unfold edgesK edgesP
  rw [List.take_of_length_le hk]
theorem edge_at {cs : List Cell} {k j : Nat} (hk : k < (liveP cs).length) (hj : j < (getP cs (liveP cs)[k]).1.fields.length) (h0 : (getP cs (liveP cs)[k]).1.fields[j] ≠ 0) :
    ∃ h : (edgesK cs k).length + (namesL ((getP cs (liveP cs)[k]).1.fields.take j)).length < (i2 (edgesP cs)).length, (i2 (edgesP cs))[(edgesK cs k).length + (namesL ((getP cs (liveP cs)[k]).1.fields.take j)).length] = [iV (liveP cs)[k], iV (getP cs (liveP cs)[k]).1.fields[j]] := by
  have e1 : edgesP cs = edgesK cs k ++ (outE cs (liveP cs)[k] ++ ((liveP cs).drop (k + 1)).flatMap (outE cs)) := by
    have e : liveP cs = (liveP cs).take k ++ (liveP cs)[k] :: (liveP cs).drop (k + 1) := by rw [← List.drop_eq_getElem_cons hk, List.take_append_drop]
    unfold edgesP edgesK
    conv => lhs; rw [e]
    rw [List.flatMap_append, List.flatMap_cons]
  obtain ⟨F, hF⟩ : ∃ F, (getP cs (liveP cs)[k]).1.fields = F := ⟨_, rfl⟩
  have e2 : outE cs (liveP cs)[k] = (namesL (F.take j)).map (fun x => ((liveP cs)[k], x)) ++ ((liveP cs)[k], F[j]'(by rw [← hF]; exact hj)) :: (namesL (F.drop (j + 1))).map (fun x => ((liveP cs)[k], x)) := by
    have e3 := names_split (xs := F) (k := j) (by rw [← hF]; exact hj) (by simpa [hF] using h0)
    have e4 : outE cs (liveP cs)[k] = (namesL F).map (fun x => ((liveP cs)[k], x)) := by unfold outE outP; rw [hF]
    rw [e4, e3]
    simp
  have hel : (edgesP cs)[(edgesK cs k).length + (namesL (F.take j)).length]? = some ((liveP cs)[k], F[j]'(by rw [← hF]; exact hj)) := by
    rw [e1, List.getElem?_append_right (by omega), e2, Nat.add_sub_cancel_left, List.append_assoc, List.getElem?_append_right (by simp)]
    simp
  obtain ⟨h1, h2⟩ := List.getElem?_eq_some_iff.1 hel
  subst hF
  refine ⟨by rw [i2_len]; exact h1, ?_⟩
  obtain ⟨_, e⟩ := i2_get (es := edgesP cs) (k := (edgesK cs k).length + (namesL ((getP cs (liveP cs)[k]).1.fields.take j)).length) (by rw [i2_len]; exact h1)
  rw [e, h2]
theorem outE_len (cs : List Cell) (h : Int) : (outE cs h).length = (namesL (getP cs h).1.fields).length := by simp [outE, outP]

/-- as often as something comes in -/
def inE (h : Int) (es : List (Int × Int)) : Int := ((es.countP fun e => decide (e.2 = h) : Nat) : Int)
theorem inE_succ {h : Int} {es : List (Int × Int)} {k : Nat} (hk : k < es.length) : inE h (es.take (k + 1)) = inE h (es.take k) + if es[k].2 = h then 1 else 0 := by
  unfold inE
  rw [List.take_succ_eq_append_getElem hk, List.countP_append, List.countP_singleton]
  by_cases hh : es[k].2 = h <;> simp [hh]
theorem inE_lo (h : Int) (es : List (Int × Int)) : 0 ≤ inE h es ∧ inE h es ≤ es.length := by
  unfold inE
  have := List.countP_le_length (p := fun e : Int × Int => decide (e.2 = h)) (l := es); omega
def danE (cs : List Cell) (es : List (Int × Int)) : List Int := (es.filter fun e => decide ((getP cs e.2).2 ≠ 0)).map (·.2)
theorem danE_succ {cs : List Cell} {es : List (Int × Int)} {k : Nat} (hk : k < es.length) : danE cs (es.take (k + 1)) = danE cs (es.take k) ++ if (getP cs es[k].2).2 ≠ 0 then [es[k].2] else [] := by
  unfold danE
  rw [List.take_succ_eq_append_getElem hk, List.filter_append, List.map_append]
  congr 1
  by_cases hh : (getP cs es[k].2).2 = 0 <;> simp [hh]
theorem danE_le (cs : List Cell) (es : List (Int × Int)) : (danE cs es).length ≤ es.length := by
  unfold danE; rw [List.length_map]; exact List.length_filter_le _ _
def byF (h : Int) (s : List Int × Int) (e : Int × Int) : List Int × Int := if e.2 = h ∧ e.1 ≠ s.2 then (s.1 ++ [e.1], e.1) else s
def byE (h : Int) (es : List (Int × Int)) : List Int × Int := es.foldl (byF h) ([], 0)
theorem byE_succ {h : Int} {es : List (Int × Int)} {k : Nat} (hk : k < es.length) : byE h (es.take (k + 1)) = byF h (byE h (es.take k)) es[k] := by
  unfold byE
  rw [List.take_succ_eq_append_getElem hk, List.foldl_append]; rfl
theorem byE_le (h : Int) (es : List (Int × Int)) : (byE h es).1.length ≤ es.length := by
  have key : ∀ (es : List (Int × Int)) (s : List Int × Int), (es.foldl (byF h) s).1.length ≤ s.1.length + es.length := by
    intro es
    induction es with
    | nil => intro s; simp
    | cons e es ih =>
      intro s
      have h1 := ih (byF h s e)
      have h2 : (byF h s e).1.length ≤ s.1.length + 1 := by unfold byF; split <;> simp
      simp only [List.foldl_cons, List.length_cons]; omega
  simpa [byE] using key es ([], 0)
theorem edgesP_le {cs : List Cell} {n : Nat} (h : ∀ c ∈ cs, c.val.fields.length ≤ n) : (edgesP cs).length ≤ cs.length * n := by
  have key : ∀ l : List Int, (l.flatMap (outE cs)).length ≤ l.length * n := by
    intro l
    induction l with
    | nil => simp
    | cons x l ih =>
      rw [List.flatMap_cons, List.length_append, outE_len, List.length_cons, Nat.add_mul, Nat.one_mul]
      have h1 := names_le (getP cs x).1.fields
      have h2 := getP_fields (h := x) h
      omega
  have h1 := key (liveP cs)
  have h2 : (liveP cs).length * n ≤ cs.length * n := Nat.mul_le_mul_right _ (liveP_le cs)
  unfold edgesP; omega
end Go.Proofs.Ytjgacbopccfecaa
