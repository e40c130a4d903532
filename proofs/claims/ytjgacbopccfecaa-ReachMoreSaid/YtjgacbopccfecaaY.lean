/-
  The plain laws of the store.
-/
import Derived.Test.YtjgacbopccfecaaV
set_option linter.unusedVariables false
set_option linter.unusedSimpArgs false
namespace Go.Proofs.Ytjgacbopccfecaa

/-- bounds that a store that is right keeps. -/
def Gens (cs : List Cell) : Prop := cs.length ≤ 24 ∧ ∀ i (hi : i < cs.length), 0 ≤ cs[i].gen ∧ cs[i].gen ≤ 9
theorem right6_gens {cs : List Cell} {last serial : Int} (h : right6 ⟨cs, last, serial⟩ = true) : Gens cs := by
  obtain ⟨h1, h2, h3, h4, h5, h6⟩ := right6_parts h
  exact ⟨h1, fun i hi => by have := h5 i hi; omega⟩
theorem findP_iff {cs : List Cell} {h : Int} (g : Gens cs) {i : Nat} (hi : i < cs.length) (ht : cs[i].state = 1 ∨ cs[i].state = 2) (hp : hd cs i = h) : findP cs h = ((i : Int), 0) := by
  unfold hd at hp
  rw [genAt_eq hi] at hp
  have hg := g.2 i hi
  have hgl := g.1
  have h0 : h ≠ 0 := by
    rw [← hp]; exact (pack_slot (by omega) (by omega) (by omega) (by omega)).2.2.1
  rw [find_same g.1 g.2, find3_iff g.1 g.2 h0 hi ht hp]
theorem findP_back {cs : List Cell} {h : Int} (g : Gens cs) (he : (findP cs h).2 = 0) : ∃ i, ∃ hi : i < cs.length, (cs[i].state = 1 ∨ cs[i].state = 2) ∧ hd cs i = h ∧ findP cs h = ((i : Int), 0) := by
  by_cases h0 : h = 0
  · subst h0; simp [findP] at he
  unfold findP at he ⊢
  rw [if_neg h0] at he ⊢
  split at he
  · rename_i i hf
    obtain ⟨hi, hs, hp⟩ := (findIn_iff g.1 g.2 h0).1 hf
    exact ⟨i, hi, .inl hs, by unfold hd; rw [genAt_eq hi]; exact hp, rfl⟩
  · split at he
    · rename_i hf1 i hf
      obtain ⟨hi, hs, hp⟩ := (findIn_iff g.1 g.2 h0).1 hf
      exact ⟨i, hi, .inr hs, by unfold hd; rw [genAt_eq hi]; exact hp, rfl⟩
    · simp at he
theorem getP_live {cs : List Cell} (g : Gens cs) {i : Nat} (hi : i < cs.length) (hs : cs[i].state = 1) : getP cs (hd cs i) = (cs[i].val, 0) := by
  have e := findP_iff g hi (.inl hs) rfl
  have := getP_ok (cs := cs) (h := hd cs i) (by rw [e]) (by rw [e]; simpa using hi) (by simp only [e, Int.toNat_natCast]; omega)
  simpa [e] using this
theorem getP_back {cs : List Cell} {h : Int} (g : Gens cs) (he : (getP cs h).2 = 0) : ∃ i, ∃ hi : i < cs.length, cs[i].state = 1 ∧ hd cs i = h ∧ getP cs h = (cs[i].val, 0) := by
  by_cases hf : (findP cs h).2 = 0
  · obtain ⟨i, hi, ht, hp, e⟩ := findP_back g hf
    by_cases h2 : cs[i].state = 2
    · have := getP_2 (cs := cs) (h := h) hf (by rw [e]; simpa using hi) (by simp only [e, Int.toNat_natCast]; exact h2)
      rw [this] at he; simp at he
    · have hs : cs[i].state = 1 := by omega
      refine ⟨i, hi, hs, hp, ?_⟩
      rw [← hp]; exact getP_live g hi hs
  · rw [getP_no hf] at he; exact absurd he hf
theorem getP_bad {cs : List Cell} {h : Int} (he : (getP cs h).2 ≠ 0) : (getP cs h).1 = zeroObj := by
  unfold getP at he ⊢
  split
  · rfl
  · rename_i h1
    rw [if_neg h1] at he
    split at he
    · rfl
    · split at he
      · rename_i h2; rw [if_pos h2]
      · rename_i h2; simp at he

/-! ### Set -/
theorem turn_get {cs : List Cell} {i : Nat} {T : Cell → Cell} {j : Nat} (hj : j < cs.length) : ∃ hj' : j < (turnC cs i T).length, (turnC cs i T)[j] = if j = i then T cs[j] else cs[j] := by
  refine ⟨by rw [turnC_len]; exact hj, ?_⟩
  by_cases hi : i < cs.length
  · have e := turnC_at (T := T) hi
    simp only [e, List.getElem_set]
    by_cases e2 : i = j
    · subst e2; simp
    · rw [if_neg e2, if_neg (fun e' => e2 e'.symm)]
  · have e : turnC cs i T = cs := by unfold turnC; rw [List.getElem?_eq_none (by omega)]
    simp only [e]
    rw [if_neg (by omega)]
theorem same_slots {cs ds : List Cell} (hl : ds.length = cs.length) (h : ∀ i (hi : i < cs.length), (ds[i]'(by omega)).state = cs[i].state) (key : Int) : slots ds key = slots cs key := by
  unfold slots
  rw [hl]
  unfold hits
  refine List.filter_congr fun i hi => ?_
  have hi' : i < cs.length := List.mem_range.1 hi
  rw [stB_at (by omega), stB_at hi', h i hi']
theorem same_find {cs ds : List Cell} (hl : ds.length = cs.length) (h : ∀ i (hi : i < cs.length), (ds[i]'(by omega)).state = cs[i].state ∧ (ds[i]'(by omega)).gen = cs[i].gen) (k : Int) : findP ds k = findP cs k := by
  have e : ∀ key, findIn ds key k = findIn cs key k := fun key => by
    unfold findIn
    rw [same_slots hl (fun i hi => (h i hi).1) key]
    have : ∀ l : List Nat, (∀ i ∈ l, i < cs.length) → l.find? (isAt ds k) = l.find? (isAt cs k) := by
      intro l
      induction l with
      | nil => intro _; rfl
      | cons i l ih =>
        intro hm
        have hi : i < cs.length := hm i List.mem_cons_self
        rw [List.find?_cons, List.find?_cons, ih fun j hj => hm j (List.mem_cons_of_mem _ hj), isAt_eq hi, isAt_eq (by omega), (h i hi).2]
    exact this _ fun i hi => (slots_lt hi).1
  unfold findP
  rw [e 1, e 2]
theorem setP_shape {cs : List Cell} {h : Int} {o : Obj} : (foundC cs h (setT o)).length = cs.length ∧ ∀ i (hi : i < cs.length), ∃ hi' : i < (foundC cs h (setT o)).length, (foundC cs h (setT o))[i].state = cs[i].state ∧ (foundC cs h (setT o))[i].gen = cs[i].gen := by
  unfold foundC
  split
  · refine ⟨turnC_len _ _ _, fun i hi => ?_⟩
    obtain ⟨hi', e⟩ := turn_get (cs := cs) (i := (findP cs h).1.toNat) (T := setT o) hi
    refine ⟨hi', ?_⟩
    rw [e]
    split <;> simp [setT]
  · exact ⟨rfl, fun i hi => ⟨hi, rfl, rfl⟩⟩
theorem set_find {cs : List Cell} {h : Int} {o : Obj} (k : Int) : findP (foundC cs h (setT o)) k = findP cs k := by
  obtain ⟨h1, h2⟩ := setP_shape (cs := cs) (h := h) (o := o)
  exact same_find h1 (fun i hi => (h2 i hi).2) k
theorem set_get {cs : List Cell} {h : Int} {o : Obj} (g : Gens cs) : getP (foundC cs h (setT o)) h = if (getP cs h).2 = 0 then (o, 0) else (zeroObj, (getP cs h).2) := by
  have e := set_find (cs := cs) (h := h) (o := o) h
  by_cases hf : (findP cs h).2 = 0
  · obtain ⟨i, hi, ht, hp, e1⟩ := findP_back g hf
    have e2 : foundC cs h (setT o) = turnC cs i (setT o) := by unfold foundC; rw [if_pos hf, e1]; rfl
    obtain ⟨hi', e3⟩ := turn_get (cs := cs) (i := i) (T := setT o) hi
    rw [if_pos rfl] at e3
    rw [e1] at e
    rw [e2] at e ⊢
    have hk : (findP (turnC cs i (setT o)) h).1.toNat < (turnC cs i (setT o)).length := by rw [e]; simpa using hi'
    by_cases h2 : cs[i].state = 2
    · rw [getP_2 (by rw [e]) hk (by simp only [e, Int.toNat_natCast, e3]; exact h2), getP_2 hf (by rw [e1]; simpa using hi) (by simp only [e1, Int.toNat_natCast]; exact h2)]
      rfl
    · rw [getP_ok (by rw [e]) hk (by simp only [e, Int.toNat_natCast, e3]; exact h2), getP_ok hf (by rw [e1]; simpa using hi) (by simp only [e1, Int.toNat_natCast]; exact h2)]
      simp only [e, Int.toNat_natCast, e3, if_true]
      rfl
  · rw [getP_no hf, getP_no (by rw [e]; exact hf), e]
    simp [hf]
theorem set_gen {cs : List Cell} {h : Int} {o : Obj} (hI : ∀ c ∈ cs, InI c.gen) : ∀ c ∈ foundC cs h (setT o), InI c.gen := by
  obtain ⟨h1, h2⟩ := setP_shape (cs := cs) (h := h) (o := o)
  intro c hc
  obtain ⟨i, hi, rfl⟩ := List.getElem_of_mem hc
  obtain ⟨hi', _, e⟩ := h2 i (by omega)
  rw [e]; exact hI _ (List.getElem_mem (by omega))
theorem set_same {cs : List Cell} {last serial h : Int} {o : Obj} (hr : right6 ⟨cs, last, serial⟩ = true) : foundC cs h (setT o) = setC cs h o ∧ (findP cs h).2 = (find3 (plainC cs) h).2 := by
  have e := right6_find hr h
  refine ⟨?_, by rw [e]⟩
  unfold foundC setC
  rw [← e]
  split
  · unfold turnC withC; split <;> simp_all [setT]
  · rfl

/-! ### What lives -/
theorem liveP_len (cs : List Cell) : (liveP cs).length = (liveI cs).length := by simp [liveP]
theorem liveP_get {cs : List Cell} {k : Nat} (hk : k < (liveP cs).length) : ∃ hk' : k < (liveI cs).length, (liveP cs)[k] = hd cs (liveI cs)[k] := ⟨by rw [liveP_len] at hk; exact hk, by simp [liveP]⟩
theorem liveP_le (cs : List Cell) : (liveP cs).length ≤ cs.length := by rw [liveP_len, liveI_len]; exact slots_len _ _
theorem live_get {cs : List Cell} (g : Gens cs) {k : Nat} (hk : k < (liveP cs).length) : ∃ hi : (liveI cs)[k]'(by rw [liveP_len] at hk; exact hk) < cs.length, getP cs (liveP cs)[k] = (cs[(liveI cs)[k]'(by rw [liveP_len] at hk; exact hk)].val, 0) := by
  obtain ⟨hk', e⟩ := liveP_get hk
  obtain ⟨hi, hs⟩ := liveI_mem.1 (List.getElem_mem hk')
  exact ⟨hi, by rw [e]; exact getP_live g hi hs⟩
theorem get_live {cs : List Cell} (g : Gens cs) {h : Int} : (getP cs h).2 = 0 ↔ h ∈ liveP cs := by
  constructor
  · intro he
    obtain ⟨i, hi, hs, hp, _⟩ := getP_back g he
    exact List.mem_map.2 ⟨i, liveI_mem.2 ⟨hi, hs⟩, hp⟩
  · intro hm
    obtain ⟨i, hi, rfl⟩ := List.mem_map.1 hm
    obtain ⟨hi', hs⟩ := liveI_mem.1 hi
    rw [getP_live g hi' hs]
def lastS (cs : List Cell) : Nat → Int
  | 0 => 0
  | k + 1 => match (liveI cs)[k]? with | some i => serN cs i | none => 0
theorem live_rise {cs : List Cell} {last serial : Int} (h : right6 ⟨cs, last, serial⟩ = true) {k : Nat} (hk : k < (liveI cs).length) : lastS cs k < serN cs (liveI cs)[k] ∧ lastS cs (k + 1) = serN cs (liveI cs)[k] := by
  refine ⟨?_, by simp [lastS, List.getElem?_eq_getElem hk]⟩
  cases k with
  | zero =>
    obtain ⟨hi, hs⟩ := liveI_mem.1 (List.getElem_mem hk)
    have := fine_iff.1 (right6_fine h hi (.inl hs))
    rw [serN_eq hi]; simp only [lastS]; omega
  | succ k =>
    have hk1 : k < (liveI cs).length := by omega
    simp only [lastS, List.getElem?_eq_getElem hk1]
    have hs : ByKey (serN cs) (liveI cs) := sortI_sorted _ _
    have h1 := List.pairwise_iff_getElem.1 hs k (k + 1) hk1 hk (by omega)
    have hne : (liveI cs)[k] ≠ (liveI cs)[k + 1] := fun e => by
      exact (List.pairwise_iff_getElem.1 (liveI_nodup cs) k (k + 1) hk1 hk (by omega)) e
    have hm1 : (liveI cs)[k] ∈ slots cs 1 := (sortI_perm _ _).mem_iff.1 (List.getElem_mem hk1)
    have hm2 : (liveI cs)[k + 1] ∈ slots cs 1 := (sortI_perm _ _).mem_iff.1 (List.getElem_mem hk)
    have h2 : serN cs (liveI cs)[k] ≠ serN cs (liveI cs)[k + 1] := fun e => hne (right6_apart h _ hm1 _ hm2 e)
    omega

/-! ### Make -/
theorem make_no {cs : List Cell} {serial n prog : Int} (h : (makeP cs serial n prog).2.2.2 ≠ 0) : ∃ e, makeP cs serial n prog = (cs, serial, 0, e) := by
  unfold makeP at h ⊢
  split
  · exact ⟨_, rfl⟩
  · split
    · exact ⟨_, rfl⟩
    · split
      · exact ⟨_, rfl⟩
      · rename_i h1 h2 h3; rw [if_neg h1, if_neg h2, if_neg h3] at h; exact absurd rfl h
theorem make_yes {cs : List Cell} {serial n prog : Int} (h : (makeP cs serial n prog).2.2.2 = 0) : ∃ i, ∃ hi : i < cs.length, cs[i].state = 0 ∧ 0 ≤ n ∧ n ≤ 4 ∧ -1 ≤ prog ∧ prog ≤ 5 ∧ makeP cs serial n prog = (turnC cs i (makeT (newO serial prog n)), serial + 1, hd cs i, 0) := by
  by_cases h1 : 0 ≤ n ∧ n ≤ 4
  · by_cases h2 : prog < -1 ∨ 6 ≤ prog
    · rw [makeP_p h1 h2] at h; simp at h
    · by_cases h3 : (takeP cs (newO serial prog n)).2.2 = 0
      · cases hs : (slots cs 0).head? with
        | none => rw [takeP_none hs] at h3; simp at h3
        | some i =>
          have hi := slots_iff.1 (List.mem_of_head? hs)
          obtain ⟨hi, h0⟩ := hi
          refine ⟨i, hi, h0, h1.1, h1.2, by omega, by omega, ?_⟩
          rw [makeP_ok h1 h2 h3, takeP_some hs]; rfl
      · rw [makeP_t h1 h2 h3] at h; exact absurd h h3
  · rw [makeP_n h1] at h; simp at h
theorem make_live {cs : List Cell} {last serial : Int} {o : Obj} (hr : right6 ⟨cs, last, serial⟩ = true) {i : Nat} (hi : i < cs.length) (h0 : cs[i].state = 0) (ho : serial < o.serial) :
    liveP (turnC cs i (makeT o)) = liveP cs ++ [hd cs i] ∧ Apart (turnC cs i (makeT o)) ∧ Gens (turnC cs i (makeT o)) ∧ getP (turnC cs i (makeT o)) (hd cs i) = (o, 0) := by
  have hat : ∀ j (hj : j < cs.length), ∃ hj' : j < (turnC cs i (makeT o)).length, (turnC cs i (makeT o))[j] = if j = i then makeT o cs[j] else cs[j] := fun j hj => turn_get hj
  have hl : (turnC cs i (makeT o)).length = cs.length := turnC_len _ _ _
  obtain ⟨ds, hds⟩ : ∃ ds, turnC cs i (makeT o) = ds := ⟨_, rfl⟩
  rw [hds] at hl hat ⊢
  have g := right6_gens hr
  have gen : ∀ j (hj : j < cs.length), (ds[j]'(by omega)).gen = cs[j].gen := fun j hj => by
    obtain ⟨_, e⟩ := hat j hj
    rw [e]; split <;> rfl
  have st : ∀ j (hj : j < cs.length), (ds[j]'(by omega)).state = if j = i then 1 else cs[j].state := fun j hj => by
    obtain ⟨_, e⟩ := hat j hj
    rw [e]; split <;> rfl
  have ser : ∀ j (hj : j < cs.length), serN ds j = if j = i then o.serial else serN cs j := fun j hj => by
    obtain ⟨hj', e⟩ := hat j hj
    rw [serN_eq hj', e, serN_eq hj]; split <;> rfl
  have pke : ∀ j, j < cs.length → hd ds j = hd cs j := fun j hj => by
    unfold hd; rw [genAt_eq hj, genAt_eq (by omega), gen j hj]
  have g' : Gens ds := ⟨by have := g.1; omega, fun j hj => by rw [gen j (by omega)]; exact g.2 j (by omega)⟩
  have old : ∀ j ∈ slots cs 1, j < cs.length ∧ j ≠ i ∧ serN ds j = serN cs j ∧ serN cs j ≤ serial := fun j hj => by
    obtain ⟨hj1, hj2⟩ := slots_iff.1 hj
    have hne : j ≠ i := fun e => by subst e; omega
    have hf := fine_iff.1 (right6_fine hr hj1 (.inl hj2))
    refine ⟨hj1, hne, by rw [ser j hj1, if_neg hne], by rw [serN_eq hj1]; omega⟩
  have mem : ∀ j, j ∈ slots ds 1 ↔ j ∈ slots cs 1 ∨ j = i := fun j => by
    rw [slots_iff, slots_iff]
    constructor
    · rintro ⟨hj, h⟩
      have hj' : j < cs.length := by omega
      rw [st j hj'] at h
      by_cases e : j = i
      · exact .inr e
      · rw [if_neg e] at h; exact .inl ⟨hj', h⟩
    · rintro (⟨hj, h⟩ | rfl)
      · refine ⟨by omega, ?_⟩
        rw [st j hj]; split <;> simp [h]
      · exact ⟨by omega, by rw [st j hi]; simp⟩
  have hap : Apart ds := by
    intro a ha b hb e
    rcases (mem a).1 ha with h1 | rfl <;> rcases (mem b).1 hb with h2 | rfl
    · obtain ⟨_, _, e1, _⟩ := old a h1; obtain ⟨_, _, e2, _⟩ := old b h2
      exact right6_apart hr a h1 b h2 (by rw [← e1, ← e2]; exact e)
    · obtain ⟨_, _, e1, e2⟩ := old a h1
      rw [e1, ser b hi, if_pos rfl] at e; omega
    · obtain ⟨_, _, e1, e2⟩ := old b h2
      rw [e1, ser a hi, if_pos rfl] at e; omega
    · rfl
  have hperm : (liveI cs ++ [i]).Perm (slots ds 1) := by
    rw [List.perm_iff_count]
    intro a
    have hnd1 : (liveI cs ++ [i]).Nodup := by
      rw [List.nodup_append]
      refine ⟨liveI_nodup cs, by simp, ?_⟩
      intro x hx y hy e
      rw [List.mem_singleton] at hy
      subst hy; subst e
      exact (old x ((sortI_perm _ _).mem_iff.1 hx)).2.1 rfl
    have hnd2 := slots_nodup ds 1
    have hm : a ∈ liveI cs ++ [i] ↔ a ∈ slots ds 1 := by
      rw [mem a, List.mem_append, List.mem_singleton]
      unfold liveI
      rw [(sortI_perm _ _).mem_iff]
    rw [hnd1.count, hnd2.count]
    simp only [hm]
  have hsorted : ByKey (serN ds) (liveI cs ++ [i]) := by
    unfold ByKey
    rw [List.pairwise_append]
    refine ⟨?_, by simp, ?_⟩
    · refine (sortI_sorted (serN cs) (slots cs 1)).imp_of_mem fun {a b} ha hb h => ?_
      obtain ⟨_, _, e1, _⟩ := old a ((sortI_perm _ _).mem_iff.1 ha); obtain ⟨_, _, e2, _⟩ := old b ((sortI_perm _ _).mem_iff.1 hb)
      rw [e1, e2]; exact h
    · intro a ha b hb
      rw [List.mem_singleton] at hb; subst hb
      obtain ⟨_, _, e1, e2⟩ := old a ((sortI_perm _ _).mem_iff.1 ha)
      rw [e1, ser b hi, if_pos rfl]; omega
  have hlive : liveI ds = liveI cs ++ [i] := (sortI_unique hperm hsorted hap).symm
  refine ⟨?_, hap, g', ?_⟩
  · unfold liveP
    rw [hlive, List.map_append]
    congr 1
    · exact List.map_congr_left fun j hj => pke j (liveI_mem.1 hj).1
    · simp [pke i hi]
  · rw [← pke i hi]
    have := getP_live g' (i := i) (by omega) (by rw [st i hi]; simp)
    rw [this]
    obtain ⟨_, e⟩ := hat i hi
    rw [e, if_pos rfl]; rfl
end Go.Proofs.Ytjgacbopccfecaa
