/-
  What the store's reference computes, in plain Lean.
-/
import Derived.Test.YtjgacbopccfecaaM
import Derived.Test.YtjgacbopccfecaaBh
set_option linter.unusedVariables false
set_option linter.unusedSimpArgs false
namespace Go.Proofs.Ytjgacbopccfecaa

deriving instance DecidableEq for Obj
deriving instance DecidableEq for Cell
deriving instance DecidableEq for Store
deriving instance DecidableEq for C3

def smallB (cs : List Cell) : Bool := decide (cs.length ≤ 30) && cs.all fun c => decide (c.val.fields.length ≤ 10)
def bare (o : Obj) : Bool := decide (o.serial = 0 ∧ o.strong = 0 ∧ o.weak = 0 ∧ o.prog = 0 ∧ o.started = false ∧ o.fields = [])
def fine (top : Int) (o : Obj) : Bool := decide (1 ≤ o.serial ∧ o.serial ≤ top ∧ 0 ≤ o.strong ∧ 0 ≤ o.weak ∧ -1 ≤ o.prog ∧ o.prog ≤ 5 ∧ o.fields.length ≤ 4)
def there (c : Cell) : Bool := decide (c.state = 1 ∨ c.state = 2)
def okCell (top : Int) (cs : List Cell) (i : Nat) (c : Cell) : Bool := if there c then fine top c.val && (cs.take i).all (fun d => !(there d && decide (d.val.serial = c.val.serial))) else bare c.val
def okC3 (last : Int) (c : C3) : Bool := decide (0 ≤ c.state ∧ c.state ≤ 3 ∧ 0 ≤ c.gen ∧ c.gen ≤ last)
def right3 (cs : List C3) (last : Int) : Bool := decide (cs.length ≤ 24 ∧ 0 ≤ last ∧ last ≤ 9) && cs.all (okC3 last)
def plainF (i : Nat) (c : Cell) : C3 := ⟨c.state, c.gen, i⟩
def plainC (cs : List Cell) : List C3 := cs.mapIdx plainF
def right6 (st : Store) : Bool := right3 (plainC st.cells) st.last && decide (0 ≤ st.serial) && decide (∀ i : Fin st.cells.length, okCell st.serial st.cells i st.cells[i] = true)
/-- where a handle points to, and what is wrong with it. -/
def find3 (cs : List C3) (h : Int) : Int × Int :=
  if h = 0 then (-1, 2) else
  if slotOf h < 0 ∨ (cs.length : Int) ≤ slotOf h then (-1, 3) else
  match cs[(slotOf h).toNat]? with
  | none => (-1, 3)
  | some c => if c.gen ≠ genOf h ∨ (c.state ≠ 1 ∧ c.state ≠ 2) then (-1, 3) else (slotOf h, 0)
def withC (cs : List Cell) (i : Int) (o : Obj) : List Cell := match cs[i.toNat]? with
  | none => cs
  | some c => cs.set i.toNat { c with val := o }

theorem plainC_get {cs : List Cell} {i : Nat} (h : i < cs.length) : (plainC cs)[i]? = some (plainF i cs[i]) := by
  unfold plainC; rw [List.getElem?_mapIdx, List.getElem?_eq_getElem h]; rfl
theorem plainC_len (cs : List Cell) : (plainC cs).length = cs.length := by simp [plainC]
theorem plainC_take {cs : List Cell} {k : Nat} (h : k < cs.length) : (plainC cs).take (k + 1) = (plainC cs).take k ++ [plainF k cs[k]] := by
  have h' : k < (plainC cs).length := by rw [plainC_len]; exact h
  rw [List.take_succ_eq_append_getElem h']
  have := plainC_get h
  rw [List.getElem?_eq_getElem h'] at this
  simp only [Option.some.injEq] at this
  rw [this]
theorem there_eq (c : Cell) : there c = decide (c.state = 1 ∨ c.state = 2) := rfl
theorem find3_bound (cs : List C3) (h : Int) : (find3 cs h).2 = 0 → 0 ≤ (find3 cs h).1 ∧ (find3 cs h).1 < cs.length := by
  unfold find3
  split
  · simp
  · split
    · simp
    · split
      · simp
      · split
        · simp
        · intro _; simp only; omega

theorem at_k {α : Type} {xs : List α} {k : Nat} (h : k < xs.length) : xs[k]? = some xs[k] := List.getElem?_eq_getElem h
theorem cell_R {Γ : List PP} {o : Cell} {f : Value} (hm : sl intK f o.val.fields ∈ Γ) : ∀ ok h, (∀ p ∈ Γ, p.p ok h) → cellK.R ok h o (cellV o f) := fun ok h hp => ⟨f, rfl, hp _ hm⟩
theorem small_no {cs : List Cell} {k : Nat} (hk : k < cs.length) (h : (10 : Int) < cs[k].val.fields.length) : false = smallB cs := by
  unfold smallB
  rw [eq_comm, Bool.and_eq_false_iff]
  right
  rw [List.all_eq_false]
  exact ⟨cs[k], List.getElem_mem hk, by simp; omega⟩
theorem small_yes {cs : List Cell} {k : Nat} (hk : cs.length ≤ k ∨ 30 ≤ k) (h : ∀ c ∈ cs.take k, c.val.fields.length ≤ 10) : decide ((cs.length : Int) ≤ 30) = smallB cs := by
  unfold smallB
  by_cases hl : cs.length ≤ 30
  · have : cs.all (fun c => decide (c.val.fields.length ≤ 10)) = true := by
      rw [List.all_eq_true]
      intro c hc
      rw [List.take_of_length_le (by omega)] at h
      simpa using h c hc
    rw [this]; simp; omega
  · simp [hl]; omega
theorem take_mem {α : Type} {xs : List α} {k : Nat} (hk : k < xs.length) {p : α → Prop} (h : ∀ c ∈ xs.take k, p c) (h0 : p xs[k]) : ∀ c ∈ xs.take (k + 1), p c := by
  intro c hc
  rw [List.take_succ_eq_append_getElem hk] at hc
  rcases List.mem_append.1 hc with hc | hc
  · exact h c hc
  · rw [List.mem_singleton] at hc; subst hc; exact h0
theorem right3_no {cs : List C3} {last : Int} {k : Nat} (hk : k < cs.length) (h : okC3 last cs[k] = false) : false = right3 cs last := by
  unfold right3
  rw [eq_comm, Bool.and_eq_false_iff]
  right
  rw [List.all_eq_false]
  exact ⟨cs[k], List.getElem_mem hk, by rw [h]; simp⟩
theorem right3_yes {cs : List C3} {last : Int} {k : Nat} (h1 : cs.length ≤ 24) (h2 : 0 ≤ last) (h3 : last ≤ 9) (hk : cs.length ≤ k) (h : ∀ c ∈ cs.take k, okC3 last c = true) : true = right3 cs last := by
  unfold right3
  rw [eq_comm, Bool.and_eq_true]
  refine ⟨by simp; omega, ?_⟩
  rw [List.all_eq_true]
  rw [List.take_of_length_le hk] at h
  exact h

theorem alike_iff (a b : Obj) : decide (a = b) = (decide (a.serial = b.serial) && decide (a.strong = b.strong) && decide (a.weak = b.weak) && decide (a.prog = b.prog) && (a.started == b.started) && decide (a.fields = b.fields)) := by
  cases a; cases b
  simp only [Obj.mk.injEq]
  rw [Bool.eq_iff_iff]
  simp [and_assoc]
theorem right6_no {cs : List Cell} {last serial : Int} {k : Nat} (hk : k < cs.length) (h : okCell serial cs k cs[k] = false) : false = right6 ⟨cs, last, serial⟩ := by
  unfold right6
  rw [eq_comm, Bool.and_eq_false_iff]
  right
  apply decide_eq_false
  intro hall
  have h2 : okCell serial cs k cs[k] = true := hall ⟨k, hk⟩
  rw [h2] at h; cases h
theorem right6_yes {cs : List Cell} {last serial : Int} {k : Nat} (h3 : right3 (plainC cs) last = true) (hs : 0 ≤ serial) (hk : cs.length ≤ k) (h : ∀ i (hi : i < cs.length), i < k → okCell serial cs i cs[i] = true) : true = right6 ⟨cs, last, serial⟩ := by
  unfold right6
  simp only [h3, Bool.true_and, hs, decide_true]
  rw [eq_comm]
  apply decide_eq_true
  intro i
  exact h i.1 i.2 (by omega)
theorem right6_no3 {cs : List Cell} {last serial : Int} (h : right3 (plainC cs) last = false ∨ serial < 0) : false = right6 ⟨cs, last, serial⟩ := by
  unfold right6
  rcases h with h | h
  · simp [h]
  · rw [eq_comm, Bool.and_eq_false_iff]; left; rw [Bool.and_eq_false_iff]; right; apply decide_eq_false; simp only; omega
theorem ok_bare_no {top : Int} {cs : List Cell} {k : Nat} {c : Cell} (h : there c = false) (hb : bare c.val = false) : okCell top cs k c = false := by simp [okCell, h, hb]
theorem ok_bare {top : Int} {cs : List Cell} {k : Nat} {c : Cell} (h : there c = false) (hb : bare c.val = true) : okCell top cs k c = true := by simp [okCell, h, hb]
theorem ok_fine_no {top : Int} {cs : List Cell} {k : Nat} {c : Cell} (h : there c = true) (hb : fine top c.val = false) : okCell top cs k c = false := by simp [okCell, h, hb]
theorem ok_twin {top : Int} {cs : List Cell} {j k : Nat} {c : Cell} (h : there c = true) (hl : k ≤ cs.length) (hj : j < k) (h1 : there (cs[j]'(by omega)) = true) (h2 : (cs[j]'(by omega)).val.serial = c.val.serial) : okCell top cs k c = false := by
  have : (cs.take k).all (fun d => !(there d && decide (d.val.serial = c.val.serial))) = false := by
    rw [List.all_eq_false]
    refine ⟨(cs.take k)[j]'(by simp; omega), List.getElem_mem _, ?_⟩
    rw [List.getElem_take]
    simp [h1, h2]
  simp only [okCell, h, if_true, this, Bool.and_false]
theorem ok_fine {top : Int} {cs : List Cell} {j k : Nat} {c : Cell} (h : there c = true) (hf : fine top c.val = true) (hj : j = k) (ha : ∀ d ∈ cs.take j, (!(there d && decide (d.val.serial = c.val.serial))) = true) : okCell top cs k c = true := by
  subst hj
  have : (cs.take j).all (fun d => !(there d && decide (d.val.serial = c.val.serial))) = true := List.all_eq_true.2 ha
  simp only [okCell, h, if_true, this, hf, Bool.and_self]
theorem step_ok {top : Int} {cs : List Cell} {k : Nat} (hk : k < cs.length) (h : ∀ i (hi : i < cs.length), i < k → okCell top cs i cs[i] = true) (h0 : okCell top cs k cs[k] = true) : ∀ i (hi : i < cs.length), i < k + 1 → okCell top cs i cs[i] = true := fun i hi hlt => by
  rcases Nat.lt_or_ge i k with h' | h'
  · exact h i hi h'
  · have : i = k := by omega
    subst this; exact h0
theorem bare_no {o : Obj} (h : o.serial ≠ 0 ∨ o.strong ≠ 0 ∨ o.weak ≠ 0 ∨ o.prog ≠ 0 ∨ o.started = true ∨ o.fields ≠ []) : bare o = false := by
  apply decide_eq_false
  rintro ⟨h1, h2, h3, h4, h5, h6⟩
  rcases h with h | h | h | h | h | h
  · exact h h1
  · exact h h2
  · exact h h3
  · exact h h4
  · rw [h5] at h; cases h
  · exact h h6
theorem fields_nil {xs : List Int} (h : ¬ (xs.length : Int) ≠ 0) : xs = [] := List.eq_nil_of_length_eq_zero (by omega)
theorem fields_not {xs : List Int} (h : (xs.length : Int) ≠ 0) : xs ≠ [] := fun e => by subst e; simp at h
theorem withC_len (cs : List Cell) (i : Int) (o : Obj) : (withC cs i o).length = cs.length := by unfold withC; split <;> simp
theorem withC_at {cs : List Cell} {i : Int} {o : Obj} (h : i.toNat < cs.length) : withC cs i o = cs.set i.toNat { cs[i.toNat] with val := o } := by unfold withC; rw [List.getElem?_eq_getElem h]
def setC (cs : List Cell) (h : Int) (o : Obj) : List Cell := if (find3 (plainC cs) h).2 = 0 then withC cs (find3 (plainC cs) h).1 o else cs
def zeroObj : Obj := ⟨0, 0, 0, 0, false, []⟩
def zeroCell : Cell := ⟨0, 0, zeroObj⟩
def newOk (n last : Int) : Bool := decide (0 ≤ n ∧ n ≤ 24 ∧ 0 ≤ last ∧ last ≤ 9)
def newC (n last : Int) : List Cell := if newOk n last then List.replicate n.toNat zeroCell else []
def newC3 (n last : Int) : List C3 := if newOk n last then List.replicate n.toNat ⟨0, 0, 0⟩ else []
def newLast (n last : Int) : Int := if newOk n last then last else 0
theorem new_no {n last : Int} (h : n < 0 ∨ 24 < n ∨ last < 0 ∨ 9 < last) : newOk n last = false := decide_eq_false (by omega)
theorem new_yes {n last : Int} (h : 0 ≤ n ∧ n ≤ 24 ∧ 0 ≤ last ∧ last ≤ 9) : newOk n last = true := decide_eq_true h
theorem find3_0 (cs : List C3) : find3 cs 0 = (-1, 2) := by simp [find3]
theorem find3_out {cs : List C3} {h : Int} (h0 : h ≠ 0) (h1 : slotOf h < 0 ∨ (cs.length : Int) ≤ slotOf h) : find3 cs h = (-1, 3) := by unfold find3; rw [if_neg h0, if_pos h1]
theorem find3_bad {cs : List C3} {h : Int} (h0 : h ≠ 0) (h1 : 0 ≤ slotOf h) (h2 : (slotOf h).toNat < cs.length) (h3 : cs[(slotOf h).toNat].gen ≠ genOf h ∨ (cs[(slotOf h).toNat].state ≠ 1 ∧ cs[(slotOf h).toNat].state ≠ 2)) : find3 cs h = (-1, 3) := by
  unfold find3; rw [if_neg h0, if_neg (by omega), List.getElem?_eq_getElem h2]; simp only; rw [if_pos h3]
theorem find3_ok {cs : List C3} {h : Int} (h0 : h ≠ 0) (h1 : 0 ≤ slotOf h) (h2 : (slotOf h).toNat < cs.length) (h3 : ¬ (cs[(slotOf h).toNat].gen ≠ genOf h ∨ (cs[(slotOf h).toNat].state ≠ 1 ∧ cs[(slotOf h).toNat].state ≠ 2))) : find3 cs h = (slotOf h, 0) := by
  unfold find3; rw [if_neg h0, if_neg (by omega), List.getElem?_eq_getElem h2]; simp only; rw [if_neg h3]
theorem cell_ext {a b : Cell} (h1 : a.state = b.state) (h2 : a.gen = b.gen) (h3 : a.val = b.val) : a = b := by
  cases a; cases b; simp_all
theorem new_len3 (n last : Int) : (newC3 n last).length ≤ 24 := by
  unfold newC3
  split
  · rename_i h; simp only [newOk, decide_eq_true_eq] at h; simp; omega
  · simp
theorem newC_eq (n last : Int) : newC n last = List.replicate ((newC3 n last).length : Int).toNat zeroCell := by
  unfold newC newC3
  split
  · rw [List.length_replicate, Int.toNat_natCast]
  · rfl
def rightL (cs : List Cell) (last serial : Int) : Bool := smallB cs && decide (serial < 1000000000) && right6 ⟨cs, last, serial⟩
theorem small_le {cs : List Cell} (h : smallB cs = true) : cs.length ≤ 30 := by
  simp only [smallB, Bool.and_eq_true, decide_eq_true_eq] at h; exact h.1

/-! ### The slab -/
def stB (cs : List Cell) (key : Int) (i : Nat) : Bool := match cs[i]? with | some c => decide (c.state = key) | none => false
def slots (cs : List Cell) (key : Int) : List Nat := hits (stB cs key) cs.length
def idx (cs : List Cell) (key : Int) : List (List Value) := (slots cs key).map fun (i : Nat) => [iV (i : Int)]
def genAt (cs : List Cell) (i : Nat) : Int := match cs[i]? with | some c => c.gen | none => 0
def isAt (cs : List Cell) (h : Int) (i : Nat) : Bool := decide (pack i (genAt cs i) = h)
def findIn (cs : List Cell) (key h : Int) : Option Nat := (slots cs key).find? (isAt cs h)
def findP (cs : List Cell) (h : Int) : Int × Int := if h = 0 then (-1, 2) else match findIn cs 1 h with
  | some i => (i, 0)
  | none => match findIn cs 2 h with
    | some i => (i, 0)
    | none => (-1, 3)
theorem stB_at {cs : List Cell} {key : Int} {i : Nat} (h : i < cs.length) : stB cs key i = decide (cs[i].state = key) := by unfold stB; rw [List.getElem?_eq_getElem h]
theorem idx_at {cs : List Cell} {key : Int} {k : Nat} (hk : k < cs.length) (hs : stB cs key k = true) : ∃ h : (hits (stB cs key) k).length < (idx cs key).length, (idx cs key)[(hits (stB cs key) k).length] = [iV (k : Int)] := by
  have h := hits_at hk hs
  obtain ⟨h1, h2⟩ := List.getElem?_eq_some_iff.1 h
  refine ⟨by unfold idx slots; rw [List.length_map]; exact h1, ?_⟩
  unfold idx slots
  rw [List.getElem_map, h2]
theorem slots_lt {cs : List Cell} {key : Int} {i : Nat} (h : i ∈ slots cs key) : i < cs.length ∧ stB cs key i = true := by
  unfold slots hits at h
  rw [List.mem_filter, List.mem_range] at h
  exact h
theorem idx_len (cs : List Cell) (key : Int) : (idx cs key).length = (hits (stB cs key) cs.length).length := by unfold idx slots; rw [List.length_map]
theorem idx_get {cs : List Cell} {key : Int} {k : Nat} (hk : k < (idx cs key).length) : ∃ i, (slots cs key)[k]? = some i ∧ (idx cs key)[k] = [iV (i : Int)] ∧ i < cs.length ∧ stB cs key i = true := by
  have hk' : k < (slots cs key).length := by unfold idx at hk; rwa [List.length_map] at hk
  refine ⟨(slots cs key)[k], List.getElem?_eq_getElem hk', by simp only [idx, List.getElem_map], slots_lt (List.getElem_mem hk')⟩
theorem idx_len' (cs : List Cell) (key : Int) : (idx cs key).length = (slots cs key).length := by unfold idx; rw [List.length_map]
theorem find_step {xs : List Nat} {p : Nat → Bool} {k i : Nat} (h : (xs.take k).find? p = none) (hk : xs[k]? = some i) (hp : p i = false) : (xs.take (k + 1)).find? p = none := by
  obtain ⟨h1, h2⟩ := List.getElem?_eq_some_iff.1 hk
  rw [List.take_succ_eq_append_getElem h1, h2, List.find?_append, h]
  simp [hp]
theorem find_hit {xs : List Nat} {p : Nat → Bool} {k i : Nat} (h : (xs.take k).find? p = none) (hk : xs[k]? = some i) (hp : p i = true) : xs.find? p = some i := by
  obtain ⟨h1, h2⟩ := List.getElem?_eq_some_iff.1 hk
  have e : xs = xs.take k ++ i :: xs.drop (k + 1) := by
    have := List.take_append_drop k xs
    rw [List.drop_eq_getElem_cons h1, h2] at this
    exact this.symm
  rw [e, List.find?_append, h]
  simp [hp]
theorem find_done {cs : List Cell} {key h : Int} (hno : ((slots cs key).take (idx cs key).length).find? (isAt cs h) = none) : findIn cs key h = none := by
  rw [idx_len', List.take_length] at hno; exact hno
theorem isAt_eq {cs : List Cell} {h : Int} {i : Nat} (hi : i < cs.length) : isAt cs h i = decide (pack i cs[i].gen = h) := by unfold isAt genAt; rw [List.getElem?_eq_getElem hi]
theorem findP_0 {cs : List Cell} {h : Int} (hz : h = 0) : findP cs h = (-1, 2) := by unfold findP; rw [if_pos hz]
theorem findP_1 {cs : List Cell} {h : Int} {i : Nat} (hz : h ≠ 0) (h1 : findIn cs 1 h = some i) : findP cs h = ((i : Int), 0) := by unfold findP; rw [if_neg hz, h1]
theorem findP_2 {cs : List Cell} {h : Int} {i : Nat} (hz : h ≠ 0) (h1 : findIn cs 1 h = none) (h2 : findIn cs 2 h = some i) : findP cs h = ((i : Int), 0) := by unfold findP; rw [if_neg hz, h1]; simp only [h2]
theorem findP_3 {cs : List Cell} {h : Int} (hz : h ≠ 0) (h1 : findIn cs 1 h = none) (h2 : findIn cs 2 h = none) : findP cs h = (-1, 3) := by unfold findP; rw [if_neg hz, h1]; simp only [h2]
theorem perm3 {α : Type 1} (a b c : α) (l : List α) : (a :: b :: c :: l).Perm (b :: c :: a :: l) := ((List.Perm.swap b a (c :: l))).trans (List.Perm.cons b (List.Perm.swap c a l))

def getP (cs : List Cell) (h : Int) : Obj × Int := if (findP cs h).2 ≠ 0 then (zeroObj, (findP cs h).2) else match cs[(findP cs h).1.toNat]? with
  | none => (zeroObj, 3)
  | some c => if c.state = 2 then (zeroObj, 3) else (c.val, 0)
theorem findP_bound (cs : List Cell) (h : Int) : (findP cs h).2 = 0 → 0 ≤ (findP cs h).1 ∧ (findP cs h).1 < cs.length := by
  have key : ∀ key i, findIn cs key h = some i → i < cs.length := fun key i hi => (slots_lt (List.mem_of_find?_eq_some hi)).1
  unfold findP
  split
  · simp
  · split
    · rename_i i hi; intro _; have := key 1 i hi; simp only; omega
    · split
      · rename_i i hi; intro _; have := key 2 i hi; simp only; omega
      · simp
theorem getP_no {cs : List Cell} {h : Int} (h1 : (findP cs h).2 ≠ 0) : getP cs h = (zeroObj, (findP cs h).2) := by unfold getP; rw [if_pos h1]
theorem getP_2 {cs : List Cell} {h : Int} (h1 : (findP cs h).2 = 0) (hk : (findP cs h).1.toNat < cs.length) (h2 : cs[(findP cs h).1.toNat].state = 2) : getP cs h = (zeroObj, 3) := by
  unfold getP; rw [if_neg (by simpa using h1), List.getElem?_eq_getElem hk]; simp only; rw [if_pos h2]
theorem getP_ok {cs : List Cell} {h : Int} (h1 : (findP cs h).2 = 0) (hk : (findP cs h).1.toNat < cs.length) (h2 : cs[(findP cs h).1.toNat].state ≠ 2) : getP cs h = (cs[(findP cs h).1.toNat].val, 0) := by
  unfold getP; rw [if_neg (by simpa using h1), List.getElem?_eq_getElem hk]; simp only; rw [if_neg h2]
def turnC (cs : List Cell) (i : Nat) (T : Cell → Cell) : List Cell := match cs[i]? with
  | some c => cs.set i (T c)
  | none => cs
theorem turnC_at {cs : List Cell} {i : Nat} {T : Cell → Cell} (h : i < cs.length) : turnC cs i T = cs.set i (T cs[i]) := by unfold turnC; rw [List.getElem?_eq_getElem h]
theorem turnC_len (cs : List Cell) (i : Nat) (T : Cell → Cell) : (turnC cs i T).length = cs.length := by unfold turnC; split <;> simp
def foundC (cs : List Cell) (h : Int) (T : Cell → Cell) : List Cell := if (findP cs h).2 = 0 then turnC cs (findP cs h).1.toNat T else cs
def setT (o : Obj) (c : Cell) : Cell := { c with val := o }
def makeT (o : Obj) (c : Cell) : Cell := { c with state := 1, val := o }

def takeP (cs : List Cell) (o : Obj) : List Cell × Int × Int := match (slots cs 0).head? with
  | some i => (turnC cs i (makeT o), pack i (genAt cs i), 0)
  | none => (cs, 0, 4)
theorem takeP_some {cs : List Cell} {o : Obj} {i : Nat} (h : (slots cs 0).head? = some i) : takeP cs o = (turnC cs i (makeT o), pack i (genAt cs i), 0) := by unfold takeP; rw [h]
theorem takeP_none {cs : List Cell} {o : Obj} (h : (slots cs 0).head? = none) : takeP cs o = (cs, 0, 4) := by unfold takeP; rw [h]
theorem genAt_eq {cs : List Cell} {i : Nat} (h : i < cs.length) : genAt cs i = cs[i].gen := by unfold genAt; rw [List.getElem?_eq_getElem h]
def newO (serial prog n : Int) : Obj := ⟨serial + 1, 0, 0, prog, false, newI n⟩
def makeP (cs : List Cell) (serial n prog : Int) : List Cell × Int × Int × Int :=
  if ¬ (0 ≤ n ∧ n ≤ 4) then (cs, serial, 0, 1) else if prog < -1 ∨ 6 ≤ prog then (cs, serial, 0, 13) else
  if (takeP cs (newO serial prog n)).2.2 ≠ 0 then (cs, serial, 0, (takeP cs (newO serial prog n)).2.2) else
  ((takeP cs (newO serial prog n)).1, serial + 1, (takeP cs (newO serial prog n)).2.1, 0)
theorem makeP_n {cs : List Cell} {serial n prog : Int} (h : ¬ (0 ≤ n ∧ n ≤ 4)) : makeP cs serial n prog = (cs, serial, 0, 1) := by unfold makeP; rw [if_pos h]
theorem makeP_p {cs : List Cell} {serial n prog : Int} (h : 0 ≤ n ∧ n ≤ 4) (hp : prog < -1 ∨ 6 ≤ prog) : makeP cs serial n prog = (cs, serial, 0, 13) := by unfold makeP; rw [if_neg (by simpa using h), if_pos hp]
theorem makeP_t {cs : List Cell} {serial n prog : Int} (h : 0 ≤ n ∧ n ≤ 4) (hp : ¬ (prog < -1 ∨ 6 ≤ prog)) (ht : (takeP cs (newO serial prog n)).2.2 ≠ 0) : makeP cs serial n prog = (cs, serial, 0, (takeP cs (newO serial prog n)).2.2) := by
  unfold makeP; rw [if_neg (by simpa using h), if_neg hp, if_pos ht]
theorem makeP_ok {cs : List Cell} {serial n prog : Int} (h : 0 ≤ n ∧ n ≤ 4) (hp : ¬ (prog < -1 ∨ 6 ≤ prog)) (ht : (takeP cs (newO serial prog n)).2.2 = 0) : makeP cs serial n prog = ((takeP cs (newO serial prog n)).1, serial + 1, (takeP cs (newO serial prog n)).2.1, 0) := by
  unfold makeP; rw [if_neg (by simpa using h), if_neg hp, if_neg (by simpa using ht)]
def putO (cs : List Cell) (h i k : Int) : Obj := { (getP cs h).1 with fields := withI (getP cs h).1.fields i k }
def putP (cs : List Cell) (h i k : Int) : List Cell × Int := if (getP cs h).2 ≠ 0 then (cs, (getP cs h).2) else if hasI (getP cs h).1.fields i = true then (foundC cs h (setT (putO cs h i k)), (findP cs h).2) else (cs, 5)
theorem putP_no {cs : List Cell} {h i k : Int} (h1 : (getP cs h).2 ≠ 0) : putP cs h i k = (cs, (getP cs h).2) := by unfold putP; rw [if_pos h1]
theorem putP_5 {cs : List Cell} {h i k : Int} (h1 : (getP cs h).2 = 0) (h2 : ¬ hasI (getP cs h).1.fields i = true) : putP cs h i k = (cs, 5) := by unfold putP; rw [if_neg (by simpa using h1), if_neg h2]
theorem putP_ok {cs : List Cell} {h i k : Int} (h1 : (getP cs h).2 = 0) (h2 : hasI (getP cs h).1.fields i = true) : putP cs h i k = (foundC cs h (setT (putO cs h i k)), (findP cs h).2) := by unfold putP; rw [if_neg (by simpa using h1), if_pos h2]
def fieldP (cs : List Cell) (h i : Int) : Int × Int := if (getP cs h).2 ≠ 0 then (0, (getP cs h).2) else (atI (getP cs h).1.fields i, if hasI (getP cs h).1.fields i then 0 else 5)
theorem getP_fields {cs : List Cell} {h : Int} {n : Nat} (hF : ∀ c ∈ cs, c.val.fields.length ≤ n) : (getP cs h).1.fields.length ≤ n := by
  unfold getP
  split
  · simp [zeroObj]
  · split
    · simp [zeroObj]
    · rename_i c hc
      split
      · simp [zeroObj]
      · exact hF c (List.mem_of_getElem? hc)
theorem of_ite {p : Prop} [Decidable p] (h : (if p then (0 : Int) else 1) = 0) : p := Decidable.byContradiction fun hc => by rw [if_neg hc] at h; cases h
theorem of_ite5 {p : Prop} [Decidable p] (h : ¬ (if p then (0 : Int) else 5) ≠ 0) : p := Decidable.byContradiction fun hc => by rw [if_neg hc] at h; exact h (by decide)
end Go.Proofs.Ytjgacbopccfecaa
