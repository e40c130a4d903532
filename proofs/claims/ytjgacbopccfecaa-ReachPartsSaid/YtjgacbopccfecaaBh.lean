/-
  Range over a function, as the walks use it.
-/
import Derived.Test.YtjgacbopccfecaaBg
import Derived.LoopNIn
set_option linter.unusedVariables false
set_option linter.unusedSimpArgs false
set_option linter.unusedSectionVars false
namespace Go.Proofs.Ytjgacbopccfecaa
section
variable {C : Cx} {Q : Exit → Act → World → Prop} {l : List (Nat × Value)} {H : List Hl} {Γ : List PP}

theorem je_asg {l1 : List (Nat × Value)} {Q' : Exit → Act → World → Prop} (hl : ∀ t v, look l1 t = some v → look l t = some v) : JE C (Exit.then (fun a1 w1 => Sat C l1 H Γ a1 w1) Q') .normal l H Γ := fun a w s => s.to hl s.hs

theorem j_rangeS {P : Program} {gf : FuncId} {lb : List Value} {Γ0 : List PP} {xs : List (List Value)} {g : Operand} {ps : List Nat} {assign body : Code} (hit : Iter P gf lb Γ0 xs) (hc : ∀ args w, (callFunc gf args).run P w = .ok (.enter gf args) w) (hP : C.P = P) (hr : C.r = none) (hg : ev l g = some (.func (.func gf) #[] lb.toArray))
    (hΓ0 : ∀ p ∈ Γ0, p ∈ Γ) (hps : ∀ x ∈ xs, x.length = ps.length) (hpn : (ps.all fun p => Nat.blt p C.n) = true)
    (Ls : List (Nat × Value)) (hl : ∀ t v, look Ls t = some v → look l t = some v) (ld : List Value → List (Nat × Value) → List (Nat × Value))
    {G : Type} (Hg : G → List Hl → List Hl) {Hst : List Hl} (Γg : G → List PP) (good : Nat → G → Prop) (stop : G → Code → Prop) (g0 : G) (h0 : good 0 g0) (hH : H = Hg g0 Hst) (hΓ : Γg g0 = [])
    (hassign : ∀ x ∈ xs, ∀ g L D o ok w, J ⟨P, some L, C.n, [], ok, w, .obj L o :: objD D :: Hg g Hst⟩ (Exit.then (fun a1 w1 => Sat ⟨P, some L, C.n, [], ok, w, .obj L o :: objD D :: Hg g Hst⟩ (ld x Ls) (.obj L o :: objD D :: Hg g Hst) (Γg g ++ Γ) a1 w1) (fun _ _ _ => False)) assign (parl ps x Ls) (.obj L o :: objD D :: Hg g Hst) (Γg g ++ Γ))
    (hbody : ∀ k g (hk : k < xs.length), good k g → ∀ L D o o' ok w, J ⟨P, some L, C.n, [], ok, w, .obj L o :: objD D :: Hg g Hst⟩ (RPost ok w (.obj L o :: objD D :: Hg g Hst) [.obj L o', objD D] (fun g => Hg g Hst) Γg Γ (good (k + 1)) stop) body (ld xs[k] Ls) (.obj L o' :: objD D :: Hg g Hst) (Γg g ++ Γ))
    (hdone : ∀ g D, good xs.length g → JE { C with ds := mark D :: C.ds } Q .normal l (objD D :: Hg g Hst) (Γg g ++ Γ))
    (hstop : ∀ g c D, stop g c → J { C with ds := mark D :: C.ds } Q c l (objD D :: Hg g Hst) (Γg g ++ Γ)) : J C Q (.rangeFunc g ps.toArray assign body) l H Γ := by
  subst hP; subst hH
  refine j_range hit hr hg hc hΓ0 hps hpn (fun g => Hg g Hst) Γg good stop g0 h0 (fun w h => by rw [hΓ]; exact h) (fun x => ld x Ls) ?_ hbody hdone hstop
  intro x hx g L D o ok w
  refine j_to ?_ (fun _ h => h) (hassign x hx g L D o ok w)
  intro t v hv
  have key : ∀ (ps : List Nat) (x : List Value) (l l' : List (Nat × Value)), (∀ t v, look l' t = some v → look l t = some v) → ∀ t v, look (parl ps x l') t = some v → look (parl ps x l) t = some v := by
    intro ps
    induction ps with
    | nil => intro x l l' h; cases x <;> exact h
    | cons p ps ih =>
      intro x l l' h
      cases x with
      | nil => exact h
      | cons u x =>
        refine ih x _ _ fun t v hv => ?_
        rw [look_cons] at hv ⊢
        split at hv
        · rename_i e; rw [if_pos e]; exact hv
        · rename_i e; rw [if_neg e]; exact h t v hv
  exact key ps x l Ls hl t v hv
end

/-- A fact that is there. -/
class FindM (Γ : List PP) (p : PP) : Prop where
  mem : p ∈ Γ
instance findM_head {Γ : List PP} {p : PP} : FindM (p :: Γ) p := ⟨List.mem_cons_self⟩
instance findM_tail {Γ : List PP} {p q : PP} [h : FindM Γ p] : FindM (q :: Γ) p := ⟨List.mem_cons_of_mem _ h.mem⟩
instance findM_left {Γ Δ : List PP} {p : PP} [h : FindM Γ p] : FindM (Γ ++ Δ) p := ⟨List.mem_append_left _ h.mem⟩
instance findM_right {Γ Δ : List PP} {p : PP} [h : FindM Δ p] : FindM (Γ ++ Δ) p := ⟨List.mem_append_right _ h.mem⟩

/-! ### A loop, round by round -/
def JR (C : Cx) (Q : Exit → Act → World → Prop) (c : Code) (m : Nat) (l : List (Nat × Value)) (H : List Hl) (Γ : List PP) : Prop := ∀ a w, Sat C l H Γ a w → Code.roundsIn (FR C.r) 0 C.P c Q m a w
theorem j_loopN {C : Cx} {Q : Exit → Act → World → Prop} {l : List (Nat × Value)} {H : List Hl} {Γ : List PP} {c : Code} (m : Nat) (h : JR C Q c m l H Γ) : J C Q (.loop c) l H Γ := fun a w s => wpIn_loop_rounds m (h a w s)
theorem jr_succ {C : Cx} {Q : Exit → Act → World → Prop} {l : List (Nat × Value)} {H : List Hl} {Γ : List PP} {c : Code} {m : Nat} (h : J C (Exit.then (fun a w => Code.roundsIn (FR C.r) 0 C.P c Q m a w) Q) c l H Γ) : JR C Q c (m + 1) l H Γ := fun a w s => h a w s
theorem je_again {C : Cx} {Q : Exit → Act → World → Prop} {l : List (Nat × Value)} {H : List Hl} {Γ : List PP} {c : Code} {m : Nat} (h : JR C Q c m l H Γ) : JE C (Exit.then (fun a w => Code.roundsIn (FR C.r) 0 C.P c Q m a w) Q) .normal l H Γ := fun a w s => h a w s

theorem yx_go {G : Type} {good : Nat → G → Prop} {stop : G → Prop} {k : Nat} (x : YX good stop k) (h : x.1.1 = true) : good k x.1.2 := by
  have := x.2; rw [if_pos h] at this; exact this
theorem yx_stop {G : Type} {good : Nat → G → Prop} {stop : G → Prop} {k : Nat} (x : YX good stop k) (h : x.1.1 = false) : stop x.1.2 := by
  have := x.2; rw [if_neg (by rw [h]; simp)] at this; exact this

section
variable {C : Cx} {Q : Exit → Act → World → Prop} {l : List (Nat × Value)} {H : List Hl} {Γ : List PP} {dst : Option Tmp} {ty : TypeId} {pos : String} {after : Array Edge} {g : Option (Nat × Bool)}
theorem v_nilE {α : Type} {K : Kd α} {x : Operand} {v : Value} {xs : List α} {i f : Nat} (hx : ev l x = some (eptr K.sz v i f)) (h : Row C H Γ K v xs) (hp : i < xs.length) : OpV C ⟨dst, .nilCheck x, ty, pos, after, g⟩ l H Γ (eptr K.sz v i f) :=
  opv_of (fun c => by simp) fun a w s => by
    obtain ⟨A, c, e, _, _, hr⟩ := h.slice s
    obtain ⟨b, o, cs, eA, _⟩ := hr (by omega)
    subst eA; subst e
    simp [execOp, s.ev hx, eptr]

/-- An operation that makes a block, and turns nothing. -/
def OpE (C : Cx) (o : Oper) (l : List (Nat × Value)) (H : List Hl) (Γ : List PP) (X : Type) (val : X → Value) (H' : X → List Hl) : Prop :=
  ∀ a w, Sat C l H Γ a w → DoesV C.P C.r o a w fun v' w' => ∃ x, v' = val x ∧ Ext w w' ∧ Hs C.ok C.w0 C.H0 (H' x) Γ w'
theorem e_alloc {t : TypeId} {z : Value} {cs : List Value} (hz : ∀ w, (zeroValue t).run C.P w = .ok z w) (hv : Cells z cs) : OpE C ⟨dst, .alloc t, ty, pos, after, g⟩ l H Γ Nat (fun B => ptr B 0) (fun B => .blk B cs t :: H) := fun a w s => by
  have hv' : z.cells = cs.toArray := hv
  refine (doesV_run (w' := w.alloc (.cells cs.toArray t)) (v := ptr w.heap.size 0) (fun c => by simp) ?_).mono ?_
  · simp [execOp, Instr.alloc, newVar, run_newRow, hz, hv', ptr]
  · rintro v' w' ⟨rfl, rfl⟩
    exact ⟨_, rfl, alloc_ext _ _, hs_alloc s.hs cs t⟩
theorem jn_e {ops : Array Oper} {sp : List Nat} {f : Nat} {ls : Array Bool} {o : Oper} {X : Type} {val : X → Value} {H' : X → List Hl} {i : Nat} (hi : ops[i]? = some o) (h : OpE C o l H Γ X val H') (hg : Wn ops o l) (hd : dlt C.n o.dst = true)
    (k : ∀ x, JA C ops Q sp f (ls.setIfInBounds i true) (upd C.n o.dst (val x) l) (H' x) Γ) : JN C ops Q sp f ls l H Γ i := fun a w hc hr s =>
  wa_op hi (hg.ok s) (h a w s) fun v' w' ⟨x, e1, e2, e3⟩ => by
    subst e1
    exact ⟨fun _ => e2, k x _ _ (closed_add hc hr) (s.put (dlt_of hd) _ e3)⟩
theorem ja_three {ops : Array Oper} {sp : List Nat} {f : Nat} {ls : Array Bool} {i j k : Nat} (hr : Region.ready .any ops ls = [i, j, k]) (h1 : JN C ops Q sp f ls l H Γ i) (h2 : JN C ops Q sp f ls l H Γ j) (h3 : JN C ops Q sp f ls l H Γ k) : JA C ops Q sp (f + 1) ls l H Γ := ja_all hr (by simp) fun x hx => by
  rcases List.mem_cons.1 hx with rfl | hx
  · exact h1
  · rcases List.mem_cons.1 hx with rfl | hx
    · exact h2
    · rw [List.mem_singleton] at hx; subst hx; exact h3
end

section
variable {C : Cx} {Q : Exit → Act → World → Prop} {l : List (Nat × Value)} {H : List Hl} {Γ : List PP} {dst : Option Tmp} {ty : TypeId} {pos : String} {after : Array Edge} {g : Option (Nat × Bool)}
theorem x_callP1 {P : Program} {f : FuncId} {xs : List Operand} {vs : List Value} {ts : Array TypeId} {H0 R : List Hl} {Γ0 : List PP} {X : Type} {ret : X → Value} {h1 : X → Hl} {Γ1 : X → List PP}
    (hs : Spec P f vs H0 Γ0 X ret (fun x => [h1 x]) Γ1) (hc : ∀ args w, (callFunc f args).run P w = .ok (.enter f args) w) (hP : C.P = P) (hx : evs l xs = some vs) (hΓ : ∀ p ∈ Γ0, p ∈ Γ) (hd : Dels H H0 R) :
    OpX C ⟨dst, .call { callee := .value (.func f), args := xs.toArray, argTypes := ts }, ty, pos, after, g⟩ l H Γ X ret (fun x => h1 x :: R) (fun x => Γ1 x ++ Γ) := x_callP hs hc hP hx hΓ hd
theorem x_callcP1 {P : Program} {f : FuncId} {fo : Operand} {caps args : List Value} {xs : List Operand} {vs : List Value} {ts : Array TypeId} {H0 R : List Hl} {Γ0 : List PP} {X : Type} {ret : X → Value} {h1 : X → Hl} {Γ1 : X → List PP}
    (hs : Spec P f args H0 Γ0 X ret (fun x => [h1 x]) Γ1) (hc : ∀ args w, (callFunc f args).run P w = .ok (.enter f args) w) (hP : C.P = P) (hfo : ev l fo = some (.func (.func f) #[] caps.toArray)) (hx : evs l xs = some vs) (ha : vs ++ caps = args) (hΓ : ∀ p ∈ Γ0, p ∈ Γ) (hd : Dels H H0 R) :
    OpX C ⟨dst, .call { callee := .value fo, args := xs.toArray, argTypes := ts }, ty, pos, after, g⟩ l H Γ X ret (fun x => h1 x :: R) (fun x => Γ1 x ++ Γ) := x_callcP hs hc hP hfo hx ha hΓ hd
end

def nth : List Value → Nat → Option Value
  | [], _ => none
  | v :: _, 0 => some v
  | _ :: r, n + 1 => nth r n
theorem nth_eq : ∀ (l : List Value) (n : Nat), nth l n = l[n]?
  | [], n => by simp [nth]
  | v :: _, 0 => rfl
  | _ :: r, n + 1 => by rw [nth, nth_eq r n]; rfl
theorem v_ext {C : Cx} {l : List (Nat × Value)} {H : List Hl} {Γ : List PP} {dst : Option Tmp} {ty : TypeId} {pos : String} {after : Array Edge} {g : Option (Nat × Bool)} {x : Operand} {i : Nat} {vs : List Value} {v : Value} (h : ev l x = some (.tuple vs.toArray)) (hv : nth vs i = some v) : OpV C ⟨dst, .extract x i, ty, pos, after, g⟩ l H Γ v :=
  v_extract h (by rw [List.getElem?_toArray, ← nth_eq]; exact hv)

/-- The numbers below n of which p is so. -/
def hits (p : Nat → Bool) (n : Nat) : List Nat := (List.range n).filter p
theorem hits_succ (p : Nat → Bool) (n : Nat) : hits p (n + 1) = hits p n ++ if p n then [n] else [] := by
  unfold hits
  rw [List.range_succ, List.filter_append]
  congr 1
  by_cases h : p n <;> simp [h]
theorem hits_at {p : Nat → Bool} {k n : Nat} (hk : k < n) (hp : p k = true) : (hits p n)[(hits p k).length]? = some k := by
  obtain ⟨m, rfl⟩ : ∃ m, n = (k + 1) + m := ⟨n - (k + 1), by omega⟩
  unfold hits
  rw [List.range_add, List.filter_append, List.range_succ, List.filter_append]
  have : List.filter p [k] = [k] := by simp [hp]
  rw [this, List.append_assoc, List.getElem?_append_right (Nat.le_refl _)]
  simp
end Go.Proofs.Ytjgacbopccfecaa
