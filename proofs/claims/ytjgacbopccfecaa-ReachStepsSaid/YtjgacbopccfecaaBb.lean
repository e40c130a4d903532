/-
  The logic of code over it: 'J c': from every state that is so, the code ends in a way that the postcondition takes; 'JO': likewise, of the operations of a region.
-/
import Derived.Test.YtjgacbopccfecaaBa
set_option linter.unusedVariables false
set_option linter.unusedSimpArgs false
set_option linter.unusedSectionVars false
namespace Go.Proofs.Ytjgacbopccfecaa

def FR (r : Option Nat) : Fence := { fn := fun _ => True, depth := none, alive := false, round := r }

theorem calls_in {r : Option Nat} {n : Nat} {P : Program} {f : FuncId} {args : Array Value} {w : World} {R : Ending → World → Prop} (h : Calls P f args w R) : CallsIn (FR r) n P f args w R := by
  have h1 : CallsIn Fence.wide n P f args w R := callsIn_wide.2 h
  exact h1

def OpsL (P : Program) (r : Option Nat) (all : Array Oper) (Q : Exit → Act → World → Prop) : List Oper → Act → World → Prop
  | [], a, w => Q .normal a w
  | o :: rest, a, w => if Region.wanted o (yielded all a.tmps) = true then o.wpIn (FR r) 0 P a w (OpsL P r all Q rest) Q else OpsL P r all Q rest (a.put o.dst undef) w

section
variable {P : Program} {r : Option Nat} {all : Array Oper} {Q : Exit → Act → World → Prop}

theorem Oper.wpIn_mono' {o : Oper} {a : Act} {w : World} {K K' : Act → World → Prop} (h : ∀ a w, K a w → K' a w) (hw : o.wpIn (FR r) 0 P a w K Q) : o.wpIn (FR r) 0 P a w K' Q := by
  refine ⟨hw.1, ?_⟩
  have h2 := hw.2
  generalize (o.semAt (FR r).round a.eval).run P w = res at h2 ⊢
  unfold Oper.uponIn at h2 ⊢
  split
  · exact h _ _ h2
  · exact h _ _ h2
  · exact h _ _ h2
  · exact ⟨h2.1, h2.2.mono fun e w' he => by cases e <;> first | exact h _ _ he | exact he⟩
  · exact ⟨h2.1, h2.2.mono fun e w' he => h _ _ he⟩
  · exact ⟨h2.1, h2.2.mono fun e w' he => by cases e <;> first | exact h _ _ he | exact he⟩
  · exact h2
  · simp_all

theorem opsL_at : ∀ (l : List Oper) (k : Nat) (a : Act) (w : World), all.toList.drop k = l → OpsL P r all Q l a w → wpOpsIn (FR r) 0 P all Q (List.range' k l.length) a w := by
  intro l
  induction l with
  | nil => intro k a w _ h; exact h
  | cons o rest ih =>
    intro k a w hd h
    have hk : all.toList[k]? = some o := by
      have : (all.toList.drop k)[0]? = some o := by rw [hd]; rfl
      simpa using this
    have hk' : all[k]? = some o := by simpa using hk
    have hd' : all.toList.drop (k + 1) = rest := by
      have : (all.toList.drop k).drop 1 = rest := by rw [hd]; rfl
      simpa [List.drop_drop] using this
    rw [List.length_cons, List.range'_succ]
    simp only [wpOpsIn, hk']
    simp only [OpsL] at h
    split
    · rename_i hw
      rw [if_pos hw] at h
      exact Oper.wpIn_mono' (fun a w => ih (k + 1) a w hd') h
    · rename_i hw
      rw [if_neg hw] at h
      exact ⟨fun _ _ => trivial, ih (k + 1) _ _ hd' h⟩

theorem opsL_region {id : Nat} {a : Act} {w : World} (h : OpsL P r all Q all.toList a w) : (Code.region id all false).wpIn (FR r) 0 P Q a w := by
  refine wpIn_region ?_
  have := opsL_at all.toList 0 a w (by simp) h
  rw [List.range_eq_range']
  simpa using this

/-- What an operation does: its value, and the world behind it, are so. -/
def DoesV (P : Program) (r : Option Nat) (o : Oper) (a : Act) (w : World) (K : Value → World → Prop) : Prop :=
  ∀ next Q, (∀ v w', K v w' → next (a.put o.dst v) w') → o.uponIn (FR r) 0 P a next Q ((o.semAt r a.eval).run P w)

theorem DoesV.mono {o : Oper} {a : Act} {w : World} {K K' : Value → World → Prop} (h : DoesV P r o a w K) (k : ∀ v w', K v w' → K' v w') : DoesV P r o a w K' :=
  fun next Q hn => h next Q fun v w' hv => hn v w' (k v w' hv)

def OkG (all : Array Oper) (o : Oper) (tmps : Array Value) : Prop := o.guard = none ∨ ∃ j want t, o.guard = some (j, want) ∧ (all[j]?).bind (·.dst) = some t ∧ tmps[t]? = some (.bool want)

theorem OkG.wanted {o : Oper} {tmps : Array Value} (h : OkG all o tmps) : Region.wanted o (yielded all tmps) = true := by
  rcases h with h | ⟨j, want, t, h, h1, h2⟩
  · simp [Region.wanted, h]
  · simp [Region.wanted, h, yielded, h1, h2]

theorem opsL_cons {o : Oper} {rest : List Oper} {a : Act} {w : World} {K : Value → World → Prop} (hg : OkG all o a.tmps) (h : DoesV P r o a w K) (hk : ∀ v w', K v w' → OpsL P r all Q rest (a.put o.dst v) w') :
    OpsL P r all Q (o :: rest) a w := by
  simp only [OpsL]
  rw [if_pos hg.wanted]
  exact ⟨fun _ _ => trivial, h _ _ hk⟩

theorem doesV_run {o : Oper} {a : Act} {w w' : World} {v : Value} (hnd : ∀ c, o.op ≠ .defer c) (h : (execOp a.eval o).run P w = .ok (.value v) w') : DoesV P r o a w fun v' w'' => v' = v ∧ w'' = w' := by
  intro next Q hn
  rw [Oper.semAt_eq r a.eval o hnd, h]
  exact hn v w' ⟨rfl, rfl⟩
theorem doesV_skip {o : Oper} {a : Act} {w w' : World} (hnd : ∀ c, o.op ≠ .defer c) (h : (execOp a.eval o).run P w = .ok .skip w') : DoesV P r o a w fun v' w'' => v' = undef ∧ w'' = w' := by
  intro next Q hn
  rw [Oper.semAt_eq r a.eval o hnd, h]
  exact hn undef w' ⟨rfl, rfl⟩
theorem doesV_enter {o : Oper} {a : Act} {w w' : World} {f : FuncId} {args : Array Value} {K : Value → World → Prop} (hnd : ∀ c, o.op ≠ .defer c) (h : (execOp a.eval o).run P w = .ok (.enter f args) w')
    (hc : Calls P f args w' fun e w'' => ∃ v, e = .returned v ∧ K v w'') : DoesV P r o a w K := by
  intro next Q hn
  rw [Oper.semAt_eq r a.eval o hnd, h]
  refine ⟨fun h => by simp [FR] at h, (calls_in hc).mono ?_⟩
  rintro e w'' ⟨v, rfl, hK⟩
  exact hn v w'' hK
theorem doesV_round {o : Oper} {a : Act} {w w' : World} {l : Nat} {f : FuncId} {tmps : Array Value} {assign body : Code} {K : Value → World → Prop} (hnd : ∀ c, o.op ≠ .defer c)
    (h : (execOp a.eval o).run P w = .ok (.round l f tmps assign body) w')
    (hc : RoundIn (FR r) 0 P l f tmps assign body w' fun e w'' => ∃ v, e = .returned v ∧ K v w'') : DoesV P r o a w K := by
  intro next Q hn
  rw [Oper.semAt_eq r a.eval o hnd, h]
  refine ⟨fun h => by simp [FR] at h, hc.mono ?_⟩
  rintro e w'' ⟨v, rfl, hK⟩
  exact hn v w'' hK
end

/-! ### States -/
structure Cx where
  P : Program
  r : Option Nat
  n : Nat
  ds : List Deferred
  ok : OkP
  w0 : World
  H0 : List Hl

def look : List (Nat × Value) → Nat → Option Value
  | [], _ => none
  | (k, v) :: r, t => cond (Nat.beq k t) (some v) (look r t)
theorem look_cons (k : Nat) (v : Value) (r : List (Nat × Value)) (t : Nat) : look ((k, v) :: r) t = if k = t then some v else look r t := by
  simp only [look]
  by_cases h : k = t
  · subst h; simp
  · rw [if_neg h]
    have : Nat.beq k t = false := by
      cases hb : Nat.beq k t with
      | true => exact absurd (Nat.eq_of_beq_eq_true hb) h
      | false => rfl
    rw [this]; rfl

def ev (l : List (Nat × Value)) : Operand → Option Value
  | .tmp t => look l t
  | .const v => some v
  | .func f => some (.func (.func f) #[] #[])
  | .global g => some (.pointer (some ⟨g, 0, none⟩))

structure Sat (C : Cx) (l : List (Nat × Value)) (H : List Hl) (Γ : List PP) (a : Act) (w : World) : Prop where
  n : a.tmps.size = C.n
  ds : a.defers = C.ds
  sl : ∀ t v, look l t = some v → a.tmps[t]? = some v
  hs : Hs C.ok C.w0 C.H0 H Γ w

section
variable {C : Cx} {l l' : List (Nat × Value)} {H H' : List Hl} {Γ Γ' : List PP} {a : Act} {w w' : World}

theorem Sat.ev (s : Sat C l H Γ a w) {x : Operand} {v : Value} (h : ev l x = some v) : a.eval x = v := by
  cases x with
  | tmp t =>
    have := s.sl t v h
    show a.tmps.getD t undef = v
    rw [Array.getD_eq_getD_getElem?, this]; rfl
  | const u => simpa [Ytjgacbopccfecaa.ev, Act.eval] using h
  | global g => simpa [Ytjgacbopccfecaa.ev, Act.eval] using h
  | func f => simpa [Ytjgacbopccfecaa.ev, Act.eval] using h

/-- what the frame is told: slot d holds v. -/
def upd (n : Nat) (dst : Option Tmp) (v : Value) (l : List (Nat × Value)) : List (Nat × Value) := match dst with
  | none => l
  | some d => (d, v) :: l

theorem Sat.put (s : Sat C l H Γ a w) {dst : Option Tmp} (hd : ∀ d, dst = some d → d < C.n) (v : Value) (h' : Hs C.ok C.w0 C.H0 H' Γ' w') : Sat C (upd C.n dst v l) H' Γ' (a.put dst v) w' := by
  cases dst with
  | none => exact ⟨s.n, s.ds, s.sl, h'⟩
  | some d =>
    have hd' := hd d rfl
    refine ⟨by simp [Act.put, s.n], s.ds, fun t u hu => ?_, h'⟩
    simp only [upd, look_cons] at hu
    simp only [Act.put, Array.getElem?_setIfInBounds]
    split at hu
    · rename_i e
      subst e
      rw [if_pos rfl, if_pos (by rw [s.n]; exact hd')]; exact hu
    · rename_i e
      rw [if_neg e]; exact s.sl t u hu

theorem Sat.to (s : Sat C l H Γ a w) (hl : ∀ t v, look l' t = some v → look l t = some v) (h' : Hs C.ok C.w0 C.H0 H' Γ' w) : Sat C l' H' Γ' a w := ⟨s.n, s.ds, fun t v h => s.sl t v (hl t v h), h'⟩
end

def J (C : Cx) (Q : Exit → Act → World → Prop) (c : Code) (l : List (Nat × Value)) (H : List Hl) (Γ : List PP) : Prop := ∀ a w, Sat C l H Γ a w → c.wpIn (FR C.r) 0 C.P Q a w
def JO (C : Cx) (all : Array Oper) (Q : Exit → Act → World → Prop) (ops : List Oper) (l : List (Nat × Value)) (H : List Hl) (Γ : List PP) : Prop := ∀ a w, Sat C l H Γ a w → OpsL C.P C.r all Q ops a w
def JE (C : Cx) (Q : Exit → Act → World → Prop) (e : Exit) (l : List (Nat × Value)) (H : List Hl) (Γ : List PP) : Prop := ∀ a w, Sat C l H Γ a w → Q e a w

section
variable {C : Cx} {Q : Exit → Act → World → Prop} {all : Array Oper} {l l' : List (Nat × Value)} {H H' : List Hl} {Γ Γ' : List PP}

/-! ### Code -/
theorem j_seq {x y : Code} (h : J C (Exit.then (fun a w => y.wpIn (FR C.r) 0 C.P Q a w) Q) x l H Γ) : J C Q (.seq x y) l H Γ := fun a w s => wpIn_seq (h a w s)
theorem j_region {id : Nat} (h : JO C all Q all.toList l H Γ) : J C Q (.region id all false) l H Γ := fun a w s => opsL_region (h a w s)
theorem jo_nil (h : JE C Q .normal l H Γ) : JO C all Q [] l H Γ := fun a w s => h a w s
theorem je_next {y : Code} (h : J C Q y l H Γ) : JE C (Exit.then (fun a w => y.wpIn (FR C.r) 0 C.P Q a w) Q) .normal l H Γ := fun a w s => h a w s
theorem je_then {K : Act → World → Prop} {e : Exit} (he : e ≠ .normal) (h : JE C Q e l H Γ) : JE C (Exit.then K Q) e l H Γ := fun a w s => by
  cases e with
  | normal => exact absurd rfl he
  | exit _ => exact h a w s
  | goto _ => exact h a w s
  | ret => exact h a w s
  | panic _ => exact h a w s
  | outgrown => exact h a w s
theorem j_skip (h : JE C Q .normal l H Γ) : J C Q .skip l H Γ := fun a w s => wpIn_skip (h a w s)
theorem j_ret (h : JE C Q .ret l H Γ) : J C Q .ret l H Γ := fun a w s => wpIn_ret (h a w s)
theorem j_exit {id : Nat} (h : JE C Q (.exit id) l H Γ) : J C Q (.exit id) l H Γ := fun a w s => wpIn_exit (h a w s)
theorem j_label {k : Nat} (h : JE C Q .normal l H Γ) : J C Q (.label k) l H Γ := fun a w s => wpIn_label (h a w s)
theorem j_block {id : Nat} {c : Code} (h : J C (Exit.inBlock id Q) c l H Γ) : J C Q (.block id c) l H Γ := fun a w s => wpIn_block (h a w s)
theorem je_block {id : Nat} (h : JE C Q .normal l H Γ) : JE C (Exit.inBlock id Q) .normal l H Γ := fun a w s => h a w s
theorem je_blockr {id : Nat} (h : JE C Q .ret l H Γ) : JE C (Exit.inBlock id Q) .ret l H Γ := fun a w s => h a w s
theorem je_hit {id : Nat} (h : JE C Q .normal l H Γ) : JE C (Exit.inBlock id Q) (.exit id) l H Γ := fun a w s => by
  show (if id = id then _ else _); rw [if_pos rfl]; exact h a w s
theorem je_miss {id k : Nat} (hk : k ≠ id) (h : JE C Q (.exit k) l H Γ) : JE C (Exit.inBlock id Q) (.exit k) l H Γ := fun a w s => by
  show (if k = id then _ else _); rw [if_neg hk]; exact h a w s
theorem j_if {c : Operand} {x y : Code} {b : Bool} (hc : ev l c = some (.bool b)) (ht : b = true → J C Q x l H Γ) (hf : b = false → J C Q y l H Γ) : J C Q (.cond c x y) l H Γ := fun a w s =>
  wpIn_cond_split (s.ev hc) (fun h => ht h a w s) (fun h => hf h a w s)
theorem j_ift {c : Operand} {x y : Code} (hc : ev l c = some (.bool true)) (h : J C Q x l H Γ) : J C Q (.cond c x y) l H Γ := j_if hc (fun _ => h) (fun e => by cases e)
theorem j_iff {c : Operand} {x y : Code} (hc : ev l c = some (.bool false)) (h : J C Q y l H Γ) : J C Q (.cond c x y) l H Γ := j_if hc (fun e => by cases e) (fun _ => h)

/-- A state is told less. -/
theorem j_to {c : Code} (hl : ∀ t v, look l' t = some v → look l t = some v) (hh : ∀ w, Hs C.ok C.w0 C.H0 H Γ w → Hs C.ok C.w0 C.H0 H' Γ' w) (h : J C Q c l' H' Γ') : J C Q c l H Γ := fun a w s => h a w (s.to hl (hh w s.hs))
theorem jo_to {ops : List Oper} (hl : ∀ t v, look l' t = some v → look l t = some v) (hh : ∀ w, Hs C.ok C.w0 C.H0 H Γ w → Hs C.ok C.w0 C.H0 H' Γ' w) (h : JO C all Q ops l' H' Γ') : JO C all Q ops l H Γ := fun a w s => h a w (s.to hl (hh w s.hs))
theorem je_to {e : Exit} (hl : ∀ t v, look l' t = some v → look l t = some v) (hh : ∀ w, Hs C.ok C.w0 C.H0 H Γ w → Hs C.ok C.w0 C.H0 H' Γ' w) (h : JE C Q e l' H' Γ') : JE C Q e l H Γ := fun a w s => h a w (s.to hl (hh w s.hs))

/-- A loop: the states at its head are told by a ghost g. -/
theorem j_loopd {G : Type} {c : Code} (L : G → List (Nat × Value)) (Hg : G → List Hl) (Γg : G → List PP) (D : G → List Deferred) (good : G → Prop) (μ : G → Nat) (g0 : G) (hg0 : good g0)
    (hD : D g0 = C.ds) (hl : ∀ t v, look (L g0) t = some v → look l t = some v) (hh : ∀ w, Hs C.ok C.w0 C.H0 H Γ w → Hs C.ok C.w0 C.H0 (Hg g0) (Γg g0) w)
    (round : ∀ g, good g → J { C with ds := D g } (Exit.then (fun a w => ∃ g', good g' ∧ μ g' < μ g ∧ Sat { C with ds := D g' } (L g') (Hg g') (Γg g') a w) Q) c (L g) (Hg g) (Γg g)) : J C Q (.loop c) l H Γ := by
  intro a w s
  classical
  let I : Act → World → Prop := fun a w => ∃ g, good g ∧ Sat { C with ds := D g } (L g) (Hg g) (Γg g) a w
  let M : Act → World → Nat → Prop := fun a w m => ∃ g, good g ∧ μ g = m ∧ Sat { C with ds := D g } (L g) (Hg g) (Γg g) a w
  let ν : Act → World → Nat := fun a w => if h : ∃ m, M a w m ∧ ∀ k, M a w k → m ≤ k then h.choose else 0
  have hmin : ∀ a w, I a w → M a w (ν a w) ∧ ∀ k, M a w k → ν a w ≤ k := by
    rintro a w ⟨g, hg, hs⟩
    have hex : ∃ m, M a w m ∧ ∀ k, M a w k → m ≤ k := by
      have : ∀ n m, m ≤ n → M a w m → ∃ m, M a w m ∧ ∀ k, M a w k → m ≤ k := by
        intro n
        induction n with
        | zero => intro m hm hM; exact ⟨m, hM, fun k _ => by omega⟩
        | succ n ih =>
          intro m hm hM
          by_cases hlow : ∃ k, M a w k ∧ k < m
          · obtain ⟨k, hk, hlt⟩ := hlow
            exact ih k (by omega) hk
          · exact ⟨m, hM, fun k hk => by
              rcases Nat.lt_or_ge k m with h | h
              · exact absurd ⟨k, hk, h⟩ hlow
              · exact h⟩
      exact this (μ g) (μ g) (Nat.le_refl _) ⟨g, hg, rfl, hs⟩
    have hv : ν a w = hex.choose := by simp only [ν]; rw [dif_pos hex]
    rw [hv]; exact hex.choose_spec
  refine wpIn_loop I ν ⟨g0, hg0, (s.n : _), (s.ds.trans hD.symm : _), fun t v h => s.sl t v (hl t v h), hh w s.hs⟩ ?_
  rintro a w hI
  obtain ⟨⟨g, hg, hm, hs⟩, hle⟩ := hmin a w hI
  refine wpIn_mono (round g hg a w hs) ?_
  intro e a' w' hq
  cases e with
  | normal =>
    obtain ⟨g', hg', hlt, hs'⟩ := hq
    refine ⟨⟨g', hg', hs'⟩, ?_⟩
    have := (hmin a' w' ⟨g', hg', hs'⟩).2 (μ g') ⟨g', hg', rfl, hs'⟩
    omega
  | exit _ => exact hq
  | goto _ => exact hq
  | ret => exact hq
  | panic _ => exact hq
  | outgrown => exact hq
theorem j_loop {G : Type} {c : Code} (L : G → List (Nat × Value)) (Hg : G → List Hl) (Γg : G → List PP) (good : G → Prop) (μ : G → Nat) (g0 : G) (hg0 : good g0)
    (hl : ∀ t v, look (L g0) t = some v → look l t = some v) (hh : ∀ w, Hs C.ok C.w0 C.H0 H Γ w → Hs C.ok C.w0 C.H0 (Hg g0) (Γg g0) w)
    (round : ∀ g, good g → J C (Exit.then (fun a w => ∃ g', good g' ∧ μ g' < μ g ∧ Sat C (L g') (Hg g') (Γg g') a w) Q) c (L g) (Hg g) (Γg g)) : J C Q (.loop c) l H Γ :=
  j_loopd L Hg Γg (fun _ => C.ds) good μ g0 hg0 rfl hl hh round
theorem je_round {G : Type} {L : G → List (Nat × Value)} {Hg : G → List Hl} {Γg : G → List PP} {good : G → Prop} {μ : G → Nat} {m : Nat} (g' : G) (hg' : good g') (hm : μ g' < m)
    (hl : ∀ t v, look (L g') t = some v → look l t = some v) (hh : ∀ w, Hs C.ok C.w0 C.H0 H Γ w → Hs C.ok C.w0 C.H0 (Hg g') (Γg g') w) :
    JE C (Exit.then (fun a w => ∃ g', good g' ∧ μ g' < m ∧ Sat C (L g') (Hg g') (Γg g') a w) Q) .normal l H Γ := fun a w s => ⟨g', hg', hm, s.to hl (hh w s.hs)⟩

/-! ### Operations -/
def Wn (all : Array Oper) (o : Oper) (l : List (Nat × Value)) : Prop := o.guard = none ∨ ∃ j want t, o.guard = some (j, want) ∧ (all[j]?).bind (·.dst) = some t ∧ look l t = some (.bool want)
theorem Wn.no {o : Oper} (h : o.guard = none) : Wn all o l := .inl h
theorem Wn.yes {o : Oper} {j : Nat} {want : Bool} {t : Nat} (h : o.guard = some (j, want)) (h1 : (all[j]?).bind (·.dst) = some t) (h2 : look l t = some (.bool want)) : Wn all o l := .inr ⟨j, want, t, h, h1, h2⟩
theorem Wn.ok {o : Oper} {a : Act} {w : World} (h : Wn all o l) (s : Sat C l H Γ a w) : OkG all o a.tmps := by
  rcases h with h | ⟨j, want, t, h, h1, h2⟩
  · exact .inl h
  · exact .inr ⟨j, want, t, h, h1, s.sl t _ h2⟩

/-- An operation that gives v and leaves the world as it is. -/
def OpV (C : Cx) (o : Oper) (l : List (Nat × Value)) (H : List Hl) (Γ : List PP) (v : Value) : Prop := (∀ c, o.op ≠ .defer c) ∧ ∀ a w, Sat C l H Γ a w → (execOp a.eval o).run C.P w = .ok (.value v) w
/-- An operation that reads: what it reads stays as long as nothing that is there turns. -/
def OpL (C : Cx) (o : Oper) (l : List (Nat × Value)) (H : List Hl) (Γ : List PP) (X : Type) (val : X → Value) (Γn : X → List PP) : Prop :=
  (∀ c, o.op ≠ .defer c) ∧ ∀ a w, Sat C l H Γ a w → ∃ x, (∀ w', Ext w w' → (execOp a.eval o).run C.P w' = .ok (.value (val x)) w') ∧ ∀ p ∈ Γn x, p.p (okm C.ok H) w.heap
/-- An operation that makes memory at most; what it gives, and what holds of it, is told by x. -/
def OpQ (C : Cx) (o : Oper) (l : List (Nat × Value)) (H : List Hl) (Γ : List PP) (X : Type) (val : X → Value) (Γn : X → List PP) : Prop :=
  ∀ a w, Sat C l H Γ a w → DoesV C.P C.r o a w fun v' w' => ∃ x, v' = val x ∧ Ext w w' ∧ ∀ p ∈ Γn x, p.p (okm C.ok H) w'.heap
theorem OpL.q {o : Oper} {X : Type} {val : X → Value} {Γn : X → List PP} (h : OpL C o l H Γ X val Γn) : OpQ C o l H Γ X val Γn := fun a w s => by
  obtain ⟨x, hr, hp⟩ := h.2 a w s
  exact (doesV_run h.1 (hr w (Ext.refl w))).mono fun v' w' ⟨e1, e2⟩ => ⟨x, e1, by subst e2; exact Ext.refl _, by subst e2; exact hp⟩
theorem OpV.toL {o : Oper} {v : Value} (h : OpV C o l H Γ v) : OpL C o l H Γ Unit (fun _ => v) (fun _ => []) :=
  ⟨h.1, fun a w s => ⟨(), fun w' e => h.2 a w' ⟨s.n, s.ds, s.sl, s.hs.ext e⟩, (fun p hp => by cases hp)⟩⟩
/-- Any operation. -/
def OpX (C : Cx) (o : Oper) (l : List (Nat × Value)) (H : List Hl) (Γ : List PP) (X : Type) (val : X → Value) (H' : X → List Hl) (Γ' : X → List PP) : Prop :=
  ∀ a w, Sat C l H Γ a w → DoesV C.P C.r o a w fun v' w' => ∃ x, v' = val x ∧ Hs C.ok C.w0 C.H0 (H' x) (Γ' x) w'

def dlt (n : Nat) : Option Tmp → Bool
  | none => true
  | some d => Nat.blt d n
theorem dlt_of {n : Nat} {dst : Option Tmp} (h : dlt n dst = true) : ∀ d, dst = some d → d < n := by
  rintro d rfl
  simpa [dlt, Nat.blt_eq] using h

theorem jv {o : Oper} {rest : List Oper} {v : Value} (h : OpV C o l H Γ v) (hg : Wn all o l) (hd : dlt C.n o.dst = true) (k : JO C all Q rest (upd C.n o.dst v l) H Γ) : JO C all Q (o :: rest) l H Γ := fun a w s =>
  opsL_cons (hg.ok s) (doesV_run h.1 (h.2 a w s)) fun v' w' ⟨e1, e2⟩ => by subst e1; subst e2; exact k _ _ (s.put (dlt_of hd) _ s.hs)
theorem jq {o : Oper} {rest : List Oper} {X : Type} {val : X → Value} {Γn : X → List PP} (h : OpQ C o l H Γ X val Γn) (hg : Wn all o l) (hd : dlt C.n o.dst = true)
    (k : ∀ x, JO C all Q rest (upd C.n o.dst (val x) l) H (Γn x ++ Γ)) : JO C all Q (o :: rest) l H Γ := fun a w s =>
  opsL_cons (hg.ok s) (h a w s) fun v' w' ⟨x, e1, e2, e3⟩ => by subst e1; exact k x _ _ (s.put (dlt_of hd) _ ((s.hs.ext e2).add e3))
theorem jx {o : Oper} {rest : List Oper} {X : Type} {val : X → Value} {H' : X → List Hl} {Γ' : X → List PP} (h : OpX C o l H Γ X val H' Γ') (hg : Wn all o l) (hd : dlt C.n o.dst = true)
    (k : ∀ x, JO C all Q rest (upd C.n o.dst (val x) l) (H' x) (Γ' x)) : JO C all Q (o :: rest) l H Γ := fun a w s =>
  opsL_cons (hg.ok s) (h a w s) fun v' w' ⟨x, e1, e2⟩ => by subst e1; exact k x _ _ (s.put (dlt_of hd) _ e2)
/-- A guarded operation that is passed over. -/
theorem j_off {o : Oper} {rest : List Oper} {j : Nat} {want : Bool} {t : Nat} {b : Bool} (h : o.guard = some (j, want)) (h1 : (all[j]?).bind (·.dst) = some t) (h2 : look l t = some (.bool b)) (hb : b ≠ want)
    (hd : dlt C.n o.dst = true) (k : JO C all Q rest (upd C.n o.dst undef l) H Γ) : JO C all Q (o :: rest) l H Γ := fun a w s => by
  have hw : Region.wanted o (yielded all a.tmps) = false := by
    have h3 := s.sl t _ h2
    simp [Region.wanted, h, yielded, h1, h3, hb]
  simp only [OpsL]
  rw [if_neg (by rw [hw]; simp)]
  exact k _ _ (s.put (dlt_of hd) _ s.hs)
theorem look_again {l : List (Nat × Value)} {t : Nat} {u : Value} (h : look l t = some u) : ∀ t' v, look ((t, u) :: l) t' = some v → look l t' = some v := by
  intro t' v hv
  rw [look_cons] at hv
  split at hv
  · rename_i e; rw [← e, h]; exact hv
  · exact hv
/-- A slot that holds a bool: both ways. -/
theorem j_split {ops : List Oper} (t : Nat) {b : Bool} (h : look l t = some (.bool b)) (ht : b = true → JO C all Q ops ((t, .bool true) :: l) H Γ) (hf : b = false → JO C all Q ops ((t, .bool false) :: l) H Γ) : JO C all Q ops l H Γ := by
  cases b with
  | true => exact jo_to (look_again h) (fun _ h => h) (ht rfl)
  | false => exact jo_to (look_again h) (fun _ h => h) (hf rfl)
end
end Go.Proofs.Ytjgacbopccfecaa
