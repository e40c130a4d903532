/-
  Numbers sorted by a key, in plain Lean; the objects that live.
-/
import Derived.Test.YtjgacbopccfecaaO
set_option linter.unusedVariables false
set_option linter.unusedSimpArgs false
namespace Go.Proofs.Ytjgacbopccfecaa

def insI (ser : Nat → Int) (i : Nat) : List Nat → List Nat
  | [] => [i]
  | j :: r => if ser i ≤ ser j then i :: j :: r else j :: insI ser i r
def sortI (ser : Nat → Int) : List Nat → List Nat
  | [] => []
  | i :: r => insI ser i (sortI ser r)
def ByKey (ser : Nat → Int) (l : List Nat) : Prop := l.Pairwise fun a b => ser a ≤ ser b

theorem insI_perm (ser : Nat → Int) (i : Nat) : ∀ l, (insI ser i l).Perm (i :: l)
  | [] => .refl _
  | j :: r => by
    unfold insI
    split
    · exact .refl _
    · exact ((insI_perm ser i r).cons j).trans (.swap i j r)
theorem sortI_perm (ser : Nat → Int) : ∀ l, (sortI ser l).Perm l
  | [] => .refl _
  | i :: r => (insI_perm ser i _).trans ((sortI_perm ser r).cons i)
theorem insI_sorted {ser : Nat → Int} {i : Nat} : ∀ {l : List Nat}, ByKey ser l → ByKey ser (insI ser i l)
  | [], _ => by simp [insI, ByKey]
  | j :: r, h => by
    obtain ⟨h1, h2⟩ := List.pairwise_cons.1 h
    unfold insI
    split
    · rename_i hle
      refine List.pairwise_cons.2 ⟨fun b hb => ?_, h⟩
      rcases List.mem_cons.1 hb with rfl | hb
      · exact hle
      · have := h1 b hb; omega
    · rename_i hle
      refine List.pairwise_cons.2 ⟨fun b hb => ?_, insI_sorted h2⟩
      rcases List.mem_cons.1 ((insI_perm ser i r).mem_iff.1 hb) with rfl | hb
      · omega
      · exact h1 b hb
theorem sortI_sorted (ser : Nat → Int) : ∀ l, ByKey ser (sortI ser l)
  | [] => List.Pairwise.nil
  | i :: r => insI_sorted (sortI_sorted ser r)
/-- Keys that tell apart: there is one order. -/
def Parts (ser : Nat → Int) (l : List Nat) : Prop := ∀ i ∈ l, ∀ j ∈ l, ser i = ser j → i = j
theorem byKey_unique {ser : Nat → Int} : ∀ {a b : List Nat}, a.Perm b → ByKey ser a → ByKey ser b → Parts ser a → a = b
  | [], b, hp, _, _, _ => (List.nil_perm.1 hp).symm ▸ rfl
  | x :: a, [], hp, _, _, _ => by have := hp.length_eq; simp at this
  | x :: a, y :: b, hp, ha, hb, hn => by
    obtain ⟨a1, a2⟩ := List.pairwise_cons.1 ha
    obtain ⟨b1, b2⟩ := List.pairwise_cons.1 hb
    have hxy : x = y := by
      have hx : x ∈ y :: b := hp.mem_iff.1 List.mem_cons_self
      have hy : y ∈ x :: a := hp.mem_iff.2 List.mem_cons_self
      rcases List.mem_cons.1 hx with rfl | hx'
      · rfl
      · rcases List.mem_cons.1 hy with rfl | hy'
        · rfl
        · exact hn x List.mem_cons_self y hy (by have := b1 x hx'; have := a1 y hy'; omega)
    subst hxy
    rw [byKey_unique (List.Perm.cons_inv hp) a2 b2 fun i hi j hj => hn i (List.mem_cons_of_mem _ hi) j (List.mem_cons_of_mem _ hj)]
theorem sortI_unique {ser : Nat → Int} {a l : List Nat} (hp : a.Perm l) (ha : ByKey ser a) (hn : Parts ser l) : a = sortI ser l :=
  byKey_unique (hp.trans (sortI_perm ser l).symm) ha (sortI_sorted ser l) fun i hi j hj => hn i (hp.mem_iff.1 hi) j (hp.mem_iff.1 hj)

def serN (cs : List Cell) (i : Nat) : Int := match cs[i]? with | some c => c.val.serial | none => 0
theorem serN_eq {cs : List Cell} {i : Nat} (h : i < cs.length) : serN cs i = cs[i].val.serial := by unfold serN; rw [List.getElem?_eq_getElem h]
def hd (cs : List Cell) (i : Nat) : Int := pack i (genAt cs i)
def liveI (cs : List Cell) : List Nat := sortI (serN cs) (slots cs 1)
def liveP (cs : List Cell) : List Int := (liveI cs).map (hd cs)
def Apart (cs : List Cell) : Prop := Parts (serN cs) (slots cs 1)
theorem slots_iff {cs : List Cell} {key : Int} {i : Nat} : i ∈ slots cs key ↔ ∃ h : i < cs.length, cs[i].state = key := by
  constructor
  · intro h
    obtain ⟨h1, h2⟩ := slots_lt h
    rw [stB_at h1] at h2
    exact ⟨h1, by simpa using h2⟩
  · rintro ⟨h, h2⟩
    unfold slots hits
    rw [List.mem_filter, List.mem_range]
    exact ⟨h, by rw [stB_at h]; simpa using h2⟩
theorem liveI_mem {cs : List Cell} {i : Nat} : i ∈ liveI cs ↔ ∃ h : i < cs.length, cs[i].state = 1 := by
  unfold liveI
  rw [(sortI_perm _ _).mem_iff, slots_iff]
theorem liveI_len (cs : List Cell) : (liveI cs).length = (slots cs 1).length := (sortI_perm _ _).length_eq
theorem slots_nodup (cs : List Cell) (key : Int) : (slots cs key).Nodup := by
  unfold slots hits
  exact List.nodup_range.sublist List.filter_sublist
theorem liveI_nodup (cs : List Cell) : (liveI cs).Nodup := (sortI_perm _ _).nodup_iff.2 (slots_nodup cs 1)
theorem slots_len (cs : List Cell) (key : Int) : (slots cs key).length ≤ cs.length := by
  unfold slots hits
  have := List.length_filter_le (stB cs key) (List.range cs.length)
  simpa using this

/-! ### What a store that is right tells -/
theorem right6_parts {cs : List Cell} {last serial : Int} (h : right6 ⟨cs, last, serial⟩ = true) :
    cs.length ≤ 24 ∧ 0 ≤ last ∧ last ≤ 9 ∧ 0 ≤ serial ∧ (∀ i (hi : i < cs.length), 0 ≤ cs[i].state ∧ cs[i].state ≤ 3 ∧ 0 ≤ cs[i].gen ∧ cs[i].gen ≤ last) ∧ ∀ i (hi : i < cs.length), okCell serial cs i cs[i] = true := by
  simp only [right6, right3, Bool.and_eq_true, decide_eq_true_eq, plainC_len] at h
  obtain ⟨⟨⟨⟨h1, h2, h3⟩, h4⟩, h5⟩, h6⟩ := h
  refine ⟨h1, h2, h3, h5, fun i hi => ?_, fun i hi => h6 ⟨i, hi⟩⟩
  have hg := plainC_get hi
  have h7 := List.all_eq_true.1 h4 _ (List.mem_of_getElem? hg)
  exact of_decide_eq_true h7
theorem right6_twins {cs : List Cell} {serial : Int} (h : ∀ i (hi : i < cs.length), okCell serial cs i cs[i] = true) {i j : Nat} (hi : i < cs.length) (hj : j < cs.length) (ti : there cs[i] = true) (tj : there cs[j] = true) (e : cs[i].val.serial = cs[j].val.serial) : i = j := by
  have key : ∀ i j (hi : i < cs.length) (hj : j < cs.length), there cs[i] = true → there cs[j] = true → cs[i].val.serial = cs[j].val.serial → ¬ i < j := by
    intro i j hi hj ti tj e hlt
    have h1 := h j hj
    rw [ok_twin tj (by omega) hlt ti e] at h1
    cases h1
  have h1 := key i j hi hj ti tj e
  have h2 := key j i hj hi tj ti e.symm
  omega
theorem right6_apart {cs : List Cell} {last serial : Int} (h : right6 ⟨cs, last, serial⟩ = true) : Apart cs := by
  obtain ⟨_, _, _, _, _, h6⟩ := right6_parts h
  intro i hi j hj e
  obtain ⟨hi1, hi2⟩ := slots_iff.1 hi
  obtain ⟨hj1, hj2⟩ := slots_iff.1 hj
  rw [serN_eq hi1, serN_eq hj1] at e
  exact right6_twins h6 hi1 hj1 (there_yes (.inl hi2)) (there_yes (.inl hj2)) e
theorem right6_gen {cs : List Cell} {last serial : Int} (h : right6 ⟨cs, last, serial⟩ = true) : ∀ c ∈ cs, InI c.gen := by
  obtain ⟨h1, h2, h3, h4, h5, h6⟩ := right6_parts h
  intro c hc
  obtain ⟨i, hi, rfl⟩ := List.getElem_of_mem hc
  have := h5 i hi
  unfold InI; omega
theorem fine_iff {top : Int} {o : Obj} : fine top o = true ↔ 1 ≤ o.serial ∧ o.serial ≤ top ∧ 0 ≤ o.strong ∧ 0 ≤ o.weak ∧ -1 ≤ o.prog ∧ o.prog ≤ 5 ∧ o.fields.length ≤ 4 := decide_eq_true_iff
theorem right6_fine {cs : List Cell} {last serial : Int} (h : right6 ⟨cs, last, serial⟩ = true) {i : Nat} (hi : i < cs.length) (ht : cs[i].state = 1 ∨ cs[i].state = 2) : fine serial cs[i].val = true := by
  have h1 := (right6_parts h).2.2.2.2.2 i hi
  unfold okCell at h1
  rw [there_yes ht] at h1
  simp only [if_true, Bool.and_eq_true] at h1
  exact h1.1
theorem right6_bare {cs : List Cell} {last serial : Int} (h : right6 ⟨cs, last, serial⟩ = true) {i : Nat} (hi : i < cs.length) (ht : cs[i].state ≠ 1 ∧ cs[i].state ≠ 2) : bare cs[i].val = true := by
  have h1 := (right6_parts h).2.2.2.2.2 i hi
  unfold okCell at h1
  rw [there_no ht] at h1
  simpa using h1
theorem right6_fields {cs : List Cell} {last serial : Int} (h : right6 ⟨cs, last, serial⟩ = true) : ∀ c ∈ cs, c.val.fields.length ≤ 4 := by
  intro c hc
  obtain ⟨i, hi, rfl⟩ := List.getElem_of_mem hc
  by_cases ht : cs[i].state = 1 ∨ cs[i].state = 2
  · have := fine_iff.1 (right6_fine h hi ht); omega
  · have h1 := right6_bare h hi (by omega)
    simp only [bare, decide_eq_true_eq] at h1
    rw [h1.2.2.2.2.2]; simp

/-! ### Handles -/
theorem pack_ok {s g : Int} (h1 : 0 ≤ s) (h2 : s ≤ 23) (h3 : 0 ≤ g) (h4 : g ≤ 9) : pack s g = 1 + (g * 32 + s) := by
  unfold pack inB; rw [if_pos (by simp; omega)]
theorem pack_slot {s g : Int} (h1 : 0 ≤ s) (h2 : s ≤ 23) (h3 : 0 ≤ g) (h4 : g ≤ 9) : slotOf (pack s g) = s ∧ genOf (pack s g) = g ∧ pack s g ≠ 0 ∧ valid (pack s g) = true := by
  have e := pack_ok h1 h2 h3 h4
  have hv : valid (pack s g) = true := by
    unfold valid
    rw [e]
    have e1 : (1 + (g * 32 + s) - 1) % 32 = s := by omega
    have e2 : (1 + (g * 32 + s) - 1) / 32 = g := by omega
    rw [e1, e2, e]
    simp; omega
  unfold slotOf genOf
  rw [hv, e]
  refine ⟨?_, ?_, by omega, rfl⟩
  · rw [if_pos rfl]; omega
  · rw [if_pos rfl]; omega
theorem pack_valid {h : Int} (hv : valid h = true) : pack (slotOf h) (genOf h) = h := by
  unfold slotOf genOf
  rw [if_pos hv, if_pos hv]
  simp only [valid, Bool.and_eq_true, decide_eq_true_eq] at hv
  exact hv.2
theorem slot_lo {h : Int} (hs : 0 ≤ slotOf h) : valid h = true := by
  unfold slotOf at hs
  split at hs
  · assumption
  · omega
theorem pack_zero {s g : Int} (h : pack s g ≠ 0) : 0 ≤ s ∧ s ≤ 23 ∧ 0 ≤ g ∧ g ≤ 9 := by
  unfold pack inB at h
  split at h
  · rename_i hh; simp at hh; omega
  · exact absurd rfl h

/-- In a store that is right both ways to look for a handle tell the same. -/
theorem findIn_iff {cs : List Cell} {key h : Int} (hl : cs.length ≤ 24) (hg : ∀ i (hi : i < cs.length), 0 ≤ cs[i].gen ∧ cs[i].gen ≤ 9) (h0 : h ≠ 0) {i : Nat} : findIn cs key h = some i ↔ ∃ hi : i < cs.length, cs[i].state = key ∧ pack i cs[i].gen = h := by
  have fwd : ∀ i, findIn cs key h = some i → ∃ hi : i < cs.length, cs[i].state = key ∧ pack i cs[i].gen = h := by
    intro i hf
    obtain ⟨hi, hs⟩ := slots_iff.1 (List.mem_of_find?_eq_some hf)
    have := List.find?_some hf
    rw [isAt_eq hi] at this
    exact ⟨hi, hs, by simpa using this⟩
  refine ⟨fwd i, ?_⟩
  rintro ⟨hi, hs, hp⟩
  cases hf : findIn cs key h with
  | none =>
    unfold findIn at hf
    have := List.find?_eq_none.1 hf i (slots_iff.2 ⟨hi, hs⟩)
    rw [isAt_eq hi] at this
    simp [hp] at this
  | some j =>
    obtain ⟨hj, hsj, hpj⟩ := fwd j hf
    have g1 := hg i hi; have g2 := hg j hj
    have e1 := (pack_slot (s := (i : Int)) (g := cs[i].gen) (by omega) (by omega) (by omega) (by omega)).1
    have e2 := (pack_slot (s := (j : Int)) (g := cs[j].gen) (by omega) (by omega) (by omega) (by omega)).1
    rw [hp] at e1; rw [hpj] at e2
    congr 1; omega

theorem find3_iff {cs : List Cell} {h : Int} (hl : cs.length ≤ 24) (hg : ∀ i (hi : i < cs.length), 0 ≤ cs[i].gen ∧ cs[i].gen ≤ 9) (h0 : h ≠ 0) {i : Nat} (hi : i < cs.length) (ht : cs[i].state = 1 ∨ cs[i].state = 2) (hp : pack i cs[i].gen = h) : find3 (plainC cs) h = ((i : Int), 0) := by
  have g1 := hg i hi
  obtain ⟨e1, e2, _, _⟩ := pack_slot (s := (i : Int)) (g := cs[i].gen) (by omega) (by omega) (by omega) (by omega)
  rw [hp] at e1 e2
  have hk : (slotOf h).toNat < (plainC cs).length := by rw [plainC_len]; omega
  have hgx : (plainC cs)[(slotOf h).toNat] = plainF i cs[i] := by
    have := plainC_get hi
    have e3 : (slotOf h).toNat = i := by omega
    have e4 : (plainC cs)[(slotOf h).toNat]? = some (plainF i cs[i]) := by rw [e3]; exact this
    rw [List.getElem?_eq_getElem hk] at e4
    exact Option.some.inj e4
  rw [find3_ok h0 (by omega) hk (by rw [hgx]; simp only [plainF]; omega), e1]
theorem find3_none {cs : List Cell} {h : Int} (hl : cs.length ≤ 24) (h0 : h ≠ 0) (hno : ∀ i (hi : i < cs.length), cs[i].state = 1 ∨ cs[i].state = 2 → pack i cs[i].gen ≠ h) : find3 (plainC cs) h = (-1, 3) := by
  by_cases hs : slotOf h < 0 ∨ ((plainC cs).length : Int) ≤ slotOf h
  · exact find3_out h0 hs
  · have hk : (slotOf h).toNat < (plainC cs).length := by omega
    have hi : (slotOf h).toNat < cs.length := by rw [plainC_len] at hk; exact hk
    have hgx : (plainC cs)[(slotOf h).toNat] = plainF (slotOf h).toNat cs[(slotOf h).toNat] := by
      have := plainC_get hi
      rw [List.getElem?_eq_getElem hk] at this
      simpa using this
    refine find3_bad h0 (by omega) hk ?_
    rw [hgx]
    simp only [plainF]
    by_cases hgen : cs[(slotOf h).toNat].gen = genOf h
    · right
      have := hno _ hi
      by_cases ht : cs[(slotOf h).toNat].state = 1 ∨ cs[(slotOf h).toNat].state = 2
      · refine absurd ?_ (this ht)
        rw [hgen, show (((slotOf h).toNat : Nat) : Int) = slotOf h by omega]
        exact pack_valid (slot_lo (by omega))
      · omega
    · exact .inl hgen
theorem find_same {cs : List Cell} {h : Int} (hl : cs.length ≤ 24) (hg : ∀ i (hi : i < cs.length), 0 ≤ cs[i].gen ∧ cs[i].gen ≤ 9) : findP cs h = find3 (plainC cs) h := by
  by_cases h0 : h = 0
  · subst h0; rw [find3_0]; simp [findP]
  unfold findP
  rw [if_neg h0]
  split
  · rename_i i hf
    obtain ⟨hi, hs, hp⟩ := (findIn_iff hl hg h0).1 hf
    rw [find3_iff hl hg h0 hi (.inl hs) hp]
  · rename_i hf1
    split
    · rename_i i hf
      obtain ⟨hi, hs, hp⟩ := (findIn_iff hl hg h0).1 hf
      rw [find3_iff hl hg h0 hi (.inr hs) hp]
    · rename_i hf2
      rw [find3_none hl h0]
      intro i hi ht hp
      rcases ht with ht | ht
      · rw [(findIn_iff hl hg h0).2 ⟨hi, ht, hp⟩] at hf1; cases hf1
      · rw [(findIn_iff hl hg h0).2 ⟨hi, ht, hp⟩] at hf2; cases hf2
theorem right6_find {cs : List Cell} {last serial : Int} (h : right6 ⟨cs, last, serial⟩ = true) (k : Int) : findP cs k = find3 (plainC cs) k := by
  obtain ⟨h1, h2, h3, h4, h5, h6⟩ := right6_parts h
  exact find_same h1 fun i hi => by have := h5 i hi; omega
end Go.Proofs.Ytjgacbopccfecaa
