/-
  The reference's own sorting, in plain Lean; contracts at stores that are written out.
-/
import Derived.Test.YtjgacbopccfecaaN7
import Derived.Test.YtjgacbopccfecaaW4
import Derived.Test.YtjgacbopccfecaaW20
import Derived.Test.YtjgacbopccfecaaW21
set_option maxRecDepth 100000
set_option linter.unusedVariables false
set_option linter.unusedSimpArgs false
namespace Go.Proofs.Ytjgacbopccfecaa

def SortedTo (ser : Nat → Int) (i : Nat) (js : List Nat) : Prop := ∀ a b x y, a < b → b < i → js[a]? = some x → js[b]? = some y → ser x ≤ ser y
def AlmostTo (ser : Nat → Int) (i k : Nat) (js : List Nat) : Prop := ∀ a b x y, a < b → b ≤ i → b ≠ k → js[a]? = some x → js[b]? = some y → ser x ≤ ser y
theorem almost_of {ser : Nat → Int} {i : Nat} {js : List Nat} (h : SortedTo ser i js) : AlmostTo ser i i js := fun a b x y h1 h2 h3 => h a b x y h1 (by omega)
theorem almost_0 {ser : Nat → Int} {i k : Nat} {js : List Nat} (h : AlmostTo ser i k js) (hk : k = 0) : SortedTo ser (i + 1) js := fun a b x y h1 h2 => h a b x y h1 (by omega) (by omega)
theorem almost_stop {ser : Nat → Int} {i k : Nat} {js : List Nat} {x y : Nat} (h : AlmostTo ser i (k + 1) js) (hk : k + 1 ≤ i) (hx : js[k]? = some x) (hy : js[k + 1]? = some y) (hle : ser x ≤ ser y) : SortedTo ser (i + 1) js := by
  intro a b u v h1 h2 hu hv
  by_cases hb : b = k + 1
  · subst hb
    rw [hy] at hv
    simp only [Option.some.injEq] at hv
    subst hv
    by_cases ha : a = k
    · subst ha; rw [hx] at hu; simp only [Option.some.injEq] at hu; subst hu; exact hle
    · have := h a k u x (by omega) (by omega) (by omega) hu hx
      omega
  · exact h a b u v h1 (by omega) hb hu hv
def swp2 (js : List Nat) (k : Nat) (x y : Nat) : List Nat := (js.set (k + 1) x).set k y
theorem swp2_get {js : List Nat} {k x y a : Nat} (hk : k + 1 < js.length) : (swp2 js k x y)[a]? = if a = k then some y else if a = k + 1 then some x else js[a]? := by
  unfold swp2
  by_cases h1 : k = a
  · subst h1
    rw [List.getElem?_set_self (by rw [List.length_set]; omega), if_pos rfl]
  · rw [List.getElem?_set_ne h1, if_neg (fun e => h1 e.symm)]
    by_cases h2 : k + 1 = a
    · subst h2; rw [List.getElem?_set_self hk, if_pos rfl]
    · rw [List.getElem?_set_ne h2, if_neg (fun e => h2 e.symm)]
theorem almost_swap {ser : Nat → Int} {i k : Nat} {js : List Nat} {x y : Nat} (h : AlmostTo ser i (k + 1) js) (hk : k + 1 ≤ i) (hi : i < js.length) (hx : js[k]? = some x) (hy : js[k + 1]? = some y) (hgt : ¬ ser x ≤ ser y) : AlmostTo ser i k (swp2 js k x y) := by
  intro a b u v h1 h2 h3 hu hv
  rw [swp2_get (by omega)] at hu hv
  rw [if_neg h3] at hv
  by_cases hb : b = k + 1
  · subst hb
    rw [if_pos rfl] at hv
    simp only [Option.some.injEq] at hv
    subst hv
    by_cases ha : a = k
    · subst ha; rw [if_pos rfl] at hu; simp only [Option.some.injEq] at hu; subst hu; omega
    · rw [if_neg ha, if_neg (by omega)] at hu
      exact h a k u x (by omega) (by omega) (by omega) hu hx
  · rw [if_neg hb] at hv
    by_cases ha : a = k
    · subst ha
      rw [if_pos rfl] at hu; simp only [Option.some.injEq] at hu; subst hu
      exact h (a + 1) b y v (by omega) h2 hb hy hv
    · rw [if_neg ha] at hu
      by_cases ha2 : a = k + 1
      · subst ha2
        rw [if_pos rfl] at hu; simp only [Option.some.injEq] at hu; subst hu
        exact h k b x v (by omega) h2 hb hx hv
      · rw [if_neg ha2] at hu
        exact h a b u v h1 h2 hb hu hv
theorem swp2_perm {js : List Nat} {k x y : Nat} (hx : js[k]? = some x) (hy : js[k + 1]? = some y) : (swp2 js k x y).Perm js := by
  obtain ⟨hk, rfl⟩ := List.getElem?_eq_some_iff.1 hx
  obtain ⟨hk1, rfl⟩ := List.getElem?_eq_some_iff.1 hy
  have e : js = js.take k ++ js[k] :: js[k + 1] :: js.drop (k + 2) := by
    rw [← List.drop_eq_getElem_cons hk1, ← List.drop_eq_getElem_cons hk, List.take_append_drop]
  have e2 : swp2 js k js[k] js[k + 1] = js.take k ++ js[k + 1] :: js[k] :: js.drop (k + 2) := by
    apply List.ext_getElem?
    intro a
    rw [swp2_get hk1]
    have hl : (js.take k).length = k := by rw [List.length_take]; omega
    by_cases h1 : a = k
    · subst h1; rw [if_pos rfl, List.getElem?_append_right (by omega), hl]; simp
    · rw [if_neg h1]
      by_cases h2 : a = k + 1
      · subst h2; rw [if_pos rfl, List.getElem?_append_right (by omega), hl, show k + 1 - k = 1 by omega]; simp
      · rw [if_neg h2]
        rcases Nat.lt_or_ge a k with h3 | h3
        · rw [List.getElem?_append_left (by omega), List.getElem?_take, if_pos h3]
        · rw [List.getElem?_append_right (by omega), hl, show a - k = (a - k - 2) + 2 by omega, List.getElem?_cons_succ, List.getElem?_cons_succ, List.getElem?_drop]
          congr 1; omega
  rw [e2]
  conv => rhs; rw [e]
  exact (List.Perm.swap _ _ _).append_left _
theorem sorted_all {ser : Nat → Int} {i : Nat} {js : List Nat} (h : SortedTo ser i js) (hi : js.length ≤ i) : ByKey ser js := by
  unfold ByKey
  rw [List.pairwise_iff_getElem]
  intro a b ha hb hab
  exact h a b _ _ hab (by omega) (List.getElem?_eq_getElem ha) (List.getElem?_eq_getElem hb)
theorem hd_eq2 {cs : List Cell} {i : Nat} (h : i < cs.length) : pack i cs[i].gen = hd cs i := by unfold hd; rw [genAt_eq h]
theorem sorted_1 (ser : Nat → Int) (js : List Nat) : SortedTo ser 1 js := fun a b x y h1 h2 => by omega
theorem mapx {cs : List Cell} {js : List Nat} {i k x : Nat} (h : js[k]? = some x) (hi : i = k) : (js.map (hd cs))[i]? = some (hd cs x) := by
  subst hi; rw [List.getElem?_map, h]; rfl
theorem map_swp {cs : List Cell} {js : List Nat} {k x y : Nat} : ((js.map (hd cs)).set (k + 1) (hd cs x)).set k (hd cs y) = (swp2 js k x y).map (hd cs) := by
  unfold swp2; rw [List.map_set, List.map_set]
def LivesIn (cs : List Cell) (is : List Nat) : Prop := ∀ i ∈ is, ∃ h : i < cs.length, cs[i].state = 1
theorem find_hd {cs : List Cell} (g : Gens cs) {is js : List Nat} {k x : Nat} (hL : LivesIn cs is) (hp : js.Perm is) (hx : js[k]? = some x) : ∃ h : x < cs.length, find3 (plainC cs) (hd cs x) = ((x : Int), 0) := by
  obtain ⟨h, hs⟩ := hL x (hp.mem_iff.1 (List.mem_of_getElem? hx))
  refine ⟨h, ?_⟩
  rw [← find_same g.1 g.2]
  exact findP_iff g h (.inl hs) rfl
theorem f55_at {v : Value} {cs : List C3} {last h a e : Int} (he : find3 cs h = (a, e)) : Spec Try.prog 55 [slabA v last, iV h] [] [sl c3K v cs] Unit (fun _ => .tuple [iV a, iV e].toArray) (fun _ => []) (fun _ => []) := by
  have q := f55_spec (v := v) (cs := cs) (last := last) (h := h); rw [he] at q; exact q
theorem lives_slots (cs : List Cell) : LivesIn cs (slots cs 1) := fun i hi => slots_iff.1 hi

theorem f35_at {v : Value} {cs : List Cell} {last serial h : Int} {l : List Int} (h1 : outP cs h = l) (hn : cs.length ≤ 1000) (hI : ∀ c ∈ cs, InI c.gen) (hF : ∀ c ∈ cs, c.val.fields.length ≤ 1000) :
    Spec Try.prog 35 [stA v last serial, iV h] [] [sl cellK v cs] Value (fun v' => v') (fun _ => []) (fun v' => [sl intK v' l]) := by
  have q := f35_spec (v := v) (last := last) (serial := serial) (h := h) hn hI hF; rw [h1] at q; exact q
theorem f36_at {v : Value} {cs : List Cell} {last serial h n : Int} (h1 : inE h (edgesP cs) = n) (hG : Gens cs) (hA : Apart cs) (hF : ∀ c ∈ cs, c.val.fields.length ≤ 1000) (hE : (edgesP cs).length ≤ 100000) :
    Spec Try.prog 36 [stA v last serial, iV h] [] [sl cellK v cs] Unit (fun _ => iV n) (fun _ => []) (fun _ => []) := by
  have q := f36_spec (v := v) (last := last) (serial := serial) (h := h) hG hA hF hE; rw [h1] at q; exact q
theorem f37_at {v : Value} {cs : List Cell} {last serial : Int} {l : List Int} (h1 : danE cs (edgesP cs) = l) (hG : Gens cs) (hA : Apart cs) (hF : ∀ c ∈ cs, c.val.fields.length ≤ 1000) (hE : (edgesP cs).length ≤ 100000) :
    Spec Try.prog 37 [stA v last serial] [] [sl cellK v cs] Value (fun v' => v') (fun _ => []) (fun v' => [sl intK v' l]) := by
  have q := f37_spec (v := v) (last := last) (serial := serial) hG hA hF hE; rw [h1] at q; exact q
theorem f38_at {v : Value} {cs : List Cell} {last serial h : Int} {l : List Int} (h1 : (byE h (edgesP cs)).1 = l) (hG : Gens cs) (hA : Apart cs) (hF : ∀ c ∈ cs, c.val.fields.length ≤ 1000) (hE : (edgesP cs).length ≤ 100000) :
    Spec Try.prog 38 [stA v last serial, iV h] [] [sl cellK v cs] Value (fun v' => v') (fun _ => []) (fun v' => [sl intK v' l]) := by
  have q := f38_spec (v := v) (last := last) (serial := serial) (h := h) hG hA hF hE; rw [h1] at q; exact q
theorem f39_at {v : Value} {xs : List Int} {h n : Int} (h1 : times xs h = n) : Spec Try.prog 39 [v, iV h] [] [sl intK v xs] Unit (fun _ => iV n) (fun _ => []) (fun _ => []) := by
  have q := f39_spec (v := v) (xs := xs) (h := h); rw [h1] at q; exact q
end Go.Proofs.Ytjgacbopccfecaa
