/-
  Range over a function: an iterator's contract ('Iter'), what its own walk is given of its caller ('x_yield'), the statement ('j_range'), the end of a function that ranges ('je_retM').
-/
import Derived.Test.YtjgacbopccfecaaBe
set_option linter.unusedVariables false
set_option linter.unusedSimpArgs false
set_option linter.unusedSectionVars false
namespace Go.Proofs.Ytjgacbopccfecaa

/-- What a call of yield does: the caller's own turns from m to m' x, and it tells whether to go on. -/
def YieldC (P : Program) (L : Nat) (args : List Value) (m : Opq) (X : Type) (go : X → Bool) (m' : X → Opq) : Prop :=
  ∀ ok w, Hs ok w [.opq m] [.opq m] [] w → ∃ f tmps assign body, (Instr.yield L args.toArray).run P w = .ok (.round L f tmps assign body) w ∧
    RoundIn (FR none) 0 P L f tmps assign body w (fun e w' => ∃ x, e = .returned (.bool (go x)) ∧ Hs ok w [.opq m] [.opq (m' x)] [] w')

def YX {G : Type} (good : Nat → G → Prop) (stop : G → Prop) (k : Nat) : Type := { p : Bool × G // if p.1 = true then good k p.2 else stop p.2 }

/-- The iterator gf yields xs, one by one, and stops when it is told to. -/
def Iter (P : Program) (gf : FuncId) (lb : List Value) (Γ0 : List PP) (xs : List (List Value)) : Prop :=
  ∀ (G : Type) (M : G → Opq) (good : Nat → G → Prop) (stop : G → Prop) (L : Nat),
    (∀ k g (hk : k < xs.length), good k g → YieldC P L xs[k] (M g) (YX good stop (k + 1)) (fun x => x.1.1) (fun x => M x.1.2)) →
    ∀ g0, good 0 g0 → Spec P gf (.func (.yield L) #[] #[] :: lb) [.opq (M g0)] Γ0 { g // good xs.length g ∨ stop g } (fun _ => .tuple #[]) (fun g => [.opq (M g.1)]) (fun _ => [])

section
variable {C : Cx} {l : List (Nat × Value)} {H : List Hl} {Γ : List PP} {dst : Option Tmp} {ty : TypeId} {pos : String} {after : Array Edge} {g : Option (Nat × Bool)}

theorem x_yield {L : Nat} {fo : Operand} {xs : List Operand} {vs : List Value} {ts : Array TypeId} {m : Opq} {X : Type} {go : X → Bool} {m' : X → Opq} {R : List Hl} (hy : YieldC C.P L vs m X go m')
    (hfo : ev l fo = some (.func (.yield L) #[] #[])) (hx : evs l xs = some vs) (hd : Dels H [.opq m] R) :
    OpX C ⟨dst, .call { callee := .value fo, args := xs.toArray, argTypes := ts }, ty, pos, after, g⟩ l H Γ X (fun x => .bool (go x)) (fun x => .opq (m' x) :: R) (fun _ => Γ) := fun a w s => by
  have e := s.evs hx
  have ef := s.ev hfo
  obtain ⟨f, tmps, assign, body, hrun, hround⟩ := hy _ w (s.hs.into hd (fun p hp => by cases hp))
  refine doesV_round (w' := w) (l := L) (f := f) (tmps := tmps) (assign := assign) (body := body) (fun c => by simp) ?_ ?_
  · simp only [execOp, resolve, ef, Deferred.ofValue, List.map_toArray, e]
    simp [invoke, hrun]
  · have h2 : RoundIn (FR C.r) 0 C.P L f tmps assign body w _ := hround
    refine h2.mono ?_
    rintro e w' ⟨x, rfl, h⟩
    exact ⟨_, rfl, x, rfl, s.hs.back hd h⟩
end

/-- the parameters of a loop's body, put. -/
def parl : List Nat → List Value → List (Nat × Value) → List (Nat × Value)
  | p :: ps, v :: vs, l => parl ps vs ((p, v) :: l)
  | _, _, l => l

theorem parl_put {n : Nat} : ∀ (ps : List Nat) (vs : List Value) (l : List (Nat × Value)) (t : Array Value), (ps.all fun p => Nat.blt p n) = true → t.size = n → (∀ k v, look l k = some v → t[k]? = some v) →
    ((ps.zip vs).foldl (fun t (x : Nat × Value) => t.setIfInBounds x.1 x.2) t).size = n ∧ ∀ k v, look (parl ps vs l) k = some v → ((ps.zip vs).foldl (fun t (x : Nat × Value) => t.setIfInBounds x.1 x.2) t)[k]? = some v := by
  intro ps
  induction ps with
  | nil => intro vs l t _ ht hl; cases vs <;> exact ⟨ht, hl⟩
  | cons p ps ih =>
    intro vs l t hp ht hl
    cases vs with
    | nil => exact ⟨ht, hl⟩
    | cons v vs =>
      simp only [List.all_cons, Bool.and_eq_true, Nat.blt_eq] at hp
      refine ih vs ((p, v) :: l) (t.setIfInBounds p v) (by simpa [List.all_eq_true, Nat.blt_eq] using hp.2) (by simpa using ht) fun k u hk => ?_
      rw [look_cons] at hk
      rw [Array.getElem?_setIfInBounds]
      split at hk
      · rename_i e; subst e; rw [if_pos rfl, if_pos (by omega)]; exact hk
      · rename_i e; rw [if_neg e]; exact hl k u hk

def mark (D : Nat) : Deferred := { target := .collected D, args := #[] }
def objD (D : Nat) : Hl := .obj D (.deferred (some []))

/-- How the body of a round may be left. -/
def RPost {G : Type} (ok : OkP) (w : World) (HH : List Hl) (top : List Hl) (Hg : G → List Hl) (Γg : G → List PP) (Γ : List PP) (good : G → Prop) (stop : G → Code → Prop) : Exit → Act → World → Prop
  | .normal, _, w' => ∃ g, good g ∧ Hs ok w HH (top ++ Hg g) (Γg g ++ Γ) w'
  | .ret, _, w' => ∃ g, stop g .ret ∧ Hs ok w HH (top ++ Hg g) (Γg g ++ Γ) w'
  | .exit id, _, w' => ∃ g, stop g (.exit id) ∧ Hs ok w HH (top ++ Hg g) (Γg g ++ Γ) w'
  | _, _, _ => False

theorem je_rpost {G : Type} {C : Cx} {ok : OkP} {w : World} {HH top : List Hl} {Hg : G → List Hl} {Γg : G → List PP} {Γ Γ1 : List PP} {good : G → Prop} {stop : G → Code → Prop} {l : List (Nat × Value)} {H1 : List Hl} (g : G) (hok : C.ok = ok) (hw : C.w0 = w) (hH : C.H0 = HH)
    (hg : good g) (hh : ∀ w', Hs ok w HH H1 Γ1 w' → Hs ok w HH (top ++ Hg g) (Γg g ++ Γ) w') : JE C (RPost ok w HH top Hg Γg Γ good stop) .normal l H1 Γ1 := fun a w' s => by
  subst hok; subst hw; subst hH; exact ⟨g, hg, hh w' s.hs⟩
theorem je_rret {G : Type} {C : Cx} {ok : OkP} {w : World} {HH top : List Hl} {Hg : G → List Hl} {Γg : G → List PP} {Γ Γ1 : List PP} {good : G → Prop} {stop : G → Code → Prop} {l : List (Nat × Value)} {H1 : List Hl} (g : G) (hok : C.ok = ok) (hw : C.w0 = w) (hH : C.H0 = HH)
    (hg : stop g .ret) (hh : ∀ w', Hs ok w HH H1 Γ1 w' → Hs ok w HH (top ++ Hg g) (Γg g ++ Γ) w') : JE C (RPost ok w HH top Hg Γg Γ good stop) .ret l H1 Γ1 := fun a w' s => by
  subst hok; subst hw; subst hH; exact ⟨g, hg, hh w' s.hs⟩

theorem putObj_ext {w : World} {L : Nat} {o : Obj} : (w.putObj L o).os = w.os ∧ (w.putObj L o).tape = w.tape ∧ (w.putObj L o).output = w.output := ⟨rfl, rfl, rfl⟩

theorem Hs.putO {ok : OkP} {w0 w : World} {H0 H H' : List Hl} {Γ : List PP} {L : Nat} {o : Obj} (o' : Obj) (s : Hs ok w0 H0 H Γ w) (hP : Put H (.obj L o) (.obj L o') H') : Hs ok w0 H0 H' Γ (w.putObj L o') := by
  have hat : w.heap[L]? = some o := s.sat _ hP.mem
  have hlt : L < w.heap.size := (Array.getElem?_eq_some_iff.1 hat).1
  have hz : (w.putObj L o').heap.size = w.heap.size := by simp [World.putObj]
  refine s.put hP rfl rfl ⟨rfl, Nat.le_refl _⟩ (by rw [hz]; exact Nat.le_refl _) (fun b hb hn => World.putObj_heap_other (fun e => hn (by first | exact e | exact e.symm))) (fun b hb => ⟨by rw [hz]; have : b = L := hb; omega, .inl hb⟩) fun _ => World.putObj_heap_same hlt

section
variable {C : Cx} {Q : Exit → Act → World → Prop} {l : List (Nat × Value)} {H : List Hl} {Γ : List PP}

theorem j_range {gf : FuncId} {lb : List Value} {Γ0 : List PP} {xs : List (List Value)} {g : Operand} {ps : List Nat} {assign body : Code} (hit : Iter C.P gf lb Γ0 xs) (hr : C.r = none) (hg : ev l g = some (.func (.func gf) #[] lb.toArray))
    (hc : ∀ args w, (callFunc gf args).run C.P w = .ok (.enter gf args) w) (hΓ0 : ∀ p ∈ Γ0, p ∈ Γ) (hps : ∀ x ∈ xs, x.length = ps.length) (hpn : (ps.all fun p => Nat.blt p C.n) = true)
    {G : Type} (Hg : G → List Hl) (Γg : G → List PP) (good : Nat → G → Prop) (stop : G → Code → Prop) (g0 : G) (h0 : good 0 g0) (hH : ∀ w, Hs C.ok C.w0 C.H0 H Γ w → Hs C.ok C.w0 C.H0 (Hg g0) (Γg g0 ++ Γ) w)
    (l1 : List Value → List (Nat × Value))
    (hassign : ∀ x ∈ xs, ∀ g L D o ok w, J ⟨C.P, some L, C.n, [], ok, w, .obj L o :: objD D :: Hg g⟩ (Exit.then (fun a1 w1 => Sat ⟨C.P, some L, C.n, [], ok, w, .obj L o :: objD D :: Hg g⟩ (l1 x) (.obj L o :: objD D :: Hg g) (Γg g ++ Γ) a1 w1) (fun _ _ _ => False)) assign (parl ps x l) (.obj L o :: objD D :: Hg g) (Γg g ++ Γ))
    (hbody : ∀ k g (hk : k < xs.length), good k g → ∀ L D o o' ok w, J ⟨C.P, some L, C.n, [], ok, w, .obj L o :: objD D :: Hg g⟩ (RPost ok w (.obj L o :: objD D :: Hg g) [.obj L o', objD D] Hg Γg Γ (good (k + 1)) stop) body (l1 xs[k]) (.obj L o' :: objD D :: Hg g) (Γg g ++ Γ))
    (hdone : ∀ g D, good xs.length g → JE { C with ds := mark D :: C.ds } Q .normal l (objD D :: Hg g) (Γg g ++ Γ))
    (hstop : ∀ g c D, stop g c → J { C with ds := mark D :: C.ds } Q c l (objD D :: Hg g) (Γg g ++ Γ)) : J C Q (.rangeFunc g ps.toArray assign body) l H Γ := by
  intro a w s
  obtain ⟨P, r, n, ds, ok, w0, H0⟩ := C
  simp only at hr
  subst hr
  refine wpIn_rangeFunc ?_
  intro fn hfn
  obtain ⟨rec, hrec⟩ : ∃ rec : LoopState → Option Code → Loop, rec = fun st pe => { state := st, pending := pe, fn, tmps := a.tmps, params := ps.toArray, assign, body, defers := w.heap.size } := ⟨_, rfl⟩
  obtain ⟨D, hD⟩ : ∃ D, w.heap.size = D := ⟨_, rfl⟩
  obtain ⟨L, hL⟩ : ∃ L, w.heap.size + 1 = L := ⟨_, rfl⟩
  have hgv := s.ev hg
  -- the two blocks
  have s1 : Hs ok w0 H0 (objD D :: Hg g0) (Γg g0 ++ Γ) (w.alloc (.deferred (some []))) := (hH w s.hs).alloc (x := objD D) (fun b => by show b = D ↔ _; rw [hD]) (alloc_ext _ _) (by simp) (by subst hD; exact alloc_at _ _)
  have s2 : Hs ok w0 H0 (.obj L (.loop (rec .ready none)) :: objD D :: Hg g0) (Γg g0 ++ Γ) ((w.alloc (.deferred (some []))).alloc (.loop (rec .ready none))) := s1.alloc (x := .obj L (.loop (rec .ready none))) (fun b => by show b = L ↔ _; rw [World.size_alloc, hL]) (alloc_ext _ _) (by simp) (by
    subst hL
    have := alloc_at (w.alloc (.deferred (some []))) (.loop (rec .ready none))
    rw [World.size_alloc] at this; exact this)
  obtain ⟨W1, hW1⟩ : ∃ W1, (w.alloc (.deferred (some []))).alloc (.loop (rec .ready none)) = W1 := ⟨_, rfl⟩
  rw [hW1] at s2
  refine ⟨L, [mark D], W1, { target := .fn (.func gf) lb.toArray, args := #[.func (.yield L) #[] #[]] }, W1, gf, #[.func (.yield L) #[] #[]] ++ lb.toArray, W1, ?_, ?_, ?_, ?_, fun h => by simp [FR] at h, ?_⟩
  · rw [← hW1, hrec, ← hL, ← hD]; exact run_enterLoop_outer _ _ _ _ _
  · simp only [resolve, hgv]
    simp [go_sem]
  · intro f' hf'; exact trivial
  · simp [invoke, go_sem, hc]
  let M : G × Option Code → Opq := fun p => match p.2 with
    | none => pk (.obj L (.loop (rec .ready none)) :: objD D :: Hg p.1) (Γg p.1 ++ Γ)
    | some c => pk (.obj L (.loop (rec .done (some c))) :: objD D :: Hg p.1) (Γg p.1 ++ Γ)
  have sp := hit (G × Option Code) M (fun k p => p.2 = none ∧ good k p.1) (fun p => ∃ c, p.2 = some c ∧ stop p.1 c) L ?_ (g0, none) ⟨rfl, h0⟩
  · have s3 := s2.into (Dels.whole _) (fun p hp => hp)
    have s4 : Hs _ W1 [.opq (M (g0, none))] [.opq (M (g0, none))] Γ0 W1 := (s3.close_ (Γ0 := Γg g0 ++ Γ)).sub fun p hp => List.mem_append_right _ (hΓ0 p hp)
    have h5 := sp _ W1 s4
    have hargs : (Value.func (.yield L) #[] #[] :: lb).toArray = #[.func (.yield L) #[] #[]] ++ lb.toArray := by simp
    rw [hargs] at h5
    refine (calls_in h5).mono ?_
    rintro e w3 ⟨⟨⟨gg, j⟩, hor⟩, rfl, h6⟩
    have fin : ∀ (st : LoopState) (pe : Option Code), st ≠ .busy → Hs _ W1 [.opq (M (g0, none))] [.opq (pk (.obj L (.loop (rec st pe)) :: objD D :: Hg gg) (Γg gg ++ Γ))] [] w3 →
        ∃ w4, (Instr.endLoop L).run P w3 = .ok pe w4 ∧ Hs ok w0 H0 (objD D :: Hg gg) (Γg gg ++ Γ) w4 := fun st pe hst h7 => by
      have h8 := s2.back (Dels.whole _) (Hs.open_ h7)
      have h9 : Hs ok w0 H0 (.obj L (.loop (rec st pe)) :: objD D :: Hg gg) (Γg gg ++ Γ) w3 := by
        rw [List.append_nil] at h8
        exact h8.sub fun p hp => List.mem_append_left _ (List.mem_append_left _ hp)
      have hat : w3.heap[L]? = some (.loop (rec st pe)) := h9.sat _ List.mem_cons_self
      have hrun := run_endLoop (P := P) hat (by rw [hrec]; exact hst)
      have hp : (rec st pe).pending = pe := by rw [hrec]
      rw [hp] at hrun
      exact ⟨_, hrun, (h9.putO _ .head).del .head⟩
    rcases hor with ⟨hj, hgood⟩ | ⟨c, hj, hst⟩
    · simp only at hj; subst hj
      obtain ⟨w4, hrun, h9⟩ := fin .ready none (by simp) h6
      exact ⟨none, w4, hrun, hdone gg D hgood _ w4 ⟨s.n, by show _ ++ _ = _; rw [s.ds]; rfl, s.sl, h9⟩⟩
    · simp only at hj; subst hj
      obtain ⟨w4, hrun, h9⟩ := fin .done (some c) (by simp) h6
      exact ⟨some c, w4, hrun, hstop gg c D hst _ w4 ⟨s.n, by show _ ++ _ = _; rw [s.ds]; rfl, s.sl, h9⟩⟩
  · -- a round
    rintro k ⟨gg, j⟩ hk ⟨hj, hgood⟩ ok' w' hs
    simp only at hj; subst hj
    have hs : Hs ok' w' [.opq (pk (.obj L (.loop (rec .ready none)) :: objD D :: Hg gg) (Γg gg ++ Γ))] [.opq (pk (.obj L (.loop (rec .ready none)) :: objD D :: Hg gg) (Γg gg ++ Γ))] [] w' := hs
    have h1 := hs.open_
    rw [List.append_nil] at h1
    have hat : w'.heap[L]? = some (.loop (rec .ready none)) := h1.sat _ List.mem_cons_self
    have hlen : xs[k].length = ps.length := hps _ (List.getElem_mem hk)
    have hy := run_yield (P := P) (args := xs[k].toArray) hat (by rw [hrec]; simpa using hlen)
    rw [hrec] at hy
    refine ⟨_, _, _, _, hy, ?_⟩
    have hz : (ps.toArray.zip xs[k].toArray).foldl (fun tmps (x : Nat × Value) => tmps.setIfInBounds x.1 x.2) a.tmps = (ps.zip xs[k]).foldl (fun t (x : Nat × Value) => t.setIfInBounds x.1 x.2) a.tmps := by simp
    obtain ⟨p1, p2⟩ := parl_put ps xs[k] l a.tmps hpn s.n s.sl
    have sat0 : Sat ⟨P, some L, n, [], ok', w', .obj L (.loop (rec .ready none)) :: objD D :: Hg gg⟩ (parl ps xs[k] l) (.obj L (.loop (rec .ready none)) :: objD D :: Hg gg) (Γg gg ++ Γ) { tmps := (ps.toArray.zip xs[k].toArray).foldl (fun tmps (x : Nat × Value) => tmps.setIfInBounds x.1 x.2) a.tmps, defers := [] } w' := by
      rw [hz]; exact ⟨p1, rfl, p2, h1⟩
    refine roundIn_of_wpIn hfn (wpIn_mono (hassign _ (List.getElem_mem hk) gg L D _ ok' w' _ w' sat0) ?_)
    intro e a1 w1 he
    cases e with
    | normal =>
      have he : Sat _ (l1 xs[k]) _ _ a1 w1 := he
      have hat1 : w1.heap[L]? = some (.loop (rec .ready none)) := he.hs.sat _ List.mem_cons_self
      refine ⟨_, run_beginRound hat1 (by rw [hrec]), ?_⟩
      have sat1 : Sat ⟨P, some L, n, [], ok', w', .obj L (.loop (rec .ready none)) :: objD D :: Hg gg⟩ (l1 xs[k]) (.obj L (.loop { rec .ready none with state := .busy }) :: objD D :: Hg gg) (Γg gg ++ Γ) a1 (w1.putObj L (.loop { rec .ready none with state := .busy })) := ⟨he.n, he.ds, he.sl, he.hs.putO _ .head⟩
      refine wpIn_mono (hbody k gg hk hgood L D _ _ ok' w' _ _ sat1) ?_
      intro e2 a2 w2 h2
      have fin : ∀ (jump : Option Code) (g' : G), Hs ok' w' (.obj L (.loop (rec .ready none)) :: objD D :: Hg gg) ([.obj L (.loop { rec .ready none with state := .busy }), objD D] ++ Hg g') (Γg g' ++ Γ) w2 →
          ∃ w5, (Instr.endRound L jump).run P w2 = .ok (.bool jump.isNone) w5 ∧ Hs ok' w' [.opq (pk (.obj L (.loop (rec .ready none)) :: objD D :: Hg gg) (Γg gg ++ Γ))] [.opq (pk (.obj L (.loop (rec (if jump.isNone then .ready else .done) jump)) :: objD D :: Hg g') (Γg g' ++ Γ))] [] w5 := fun jump g' hq => by
        have hat2 : w2.heap[L]? = some (.loop { rec .ready none with state := .busy }) := hq.sat _ List.mem_cons_self
        have := run_endRound (P := P) jump hat2
        refine ⟨_, this, ?_⟩
        have e3 : ({ ({ rec .ready none with state := .busy } : Loop) with state := if jump.isNone then .ready else .done, pending := jump } : Loop) = rec (if jump.isNone then .ready else .done) jump := by rw [hrec]
        rw [e3]
        exact ((hq.putO _ .head).close_).sub (fun p hp => by cases hp)
      cases e2 with
      | normal =>
        obtain ⟨g', hg', hq⟩ := h2
        obtain ⟨w5, hr5, hs5⟩ := fin none g' hq
        exact ⟨_, w5, hr5, ⟨(true, (g', none)), ⟨rfl, hg'⟩⟩, rfl, hs5⟩
      | ret =>
        obtain ⟨g', hg', hq⟩ := h2
        obtain ⟨w5, hr5, hs5⟩ := fin (some .ret) g' hq
        exact ⟨_, w5, hr5, ⟨(false, (g', some .ret)), by rw [if_neg (by simp)]; exact ⟨_, rfl, hg'⟩⟩, rfl, hs5⟩
      | exit id =>
        obtain ⟨g', hg', hq⟩ := h2
        obtain ⟨w5, hr5, hs5⟩ := fin (some (.exit id)) g' hq
        exact ⟨_, w5, hr5, ⟨(false, (g', some (.exit id))), by rw [if_neg (by simp)]; exact ⟨_, rfl, hg'⟩⟩, rfl, hs5⟩
      | goto _ => exact h2.elim
      | panic _ => exact h2.elim
      | outgrown => exact h2.elim
    | exit _ => exact he.elim
    | goto _ => exact he.elim
    | ret => exact he.elim
    | panic _ => exact he.elim
    | outgrown => exact he.elim

/-- the marks of the loops that were run, and what is left of their blocks. -/
inductive Marks : List Hl → List Nat → List Hl → Prop
  | nil {H : List Hl} : Marks H [] H
  | cons {D : Nat} {Ds : List Nat} {H H' H'' : List Hl} : Put H (objD D) (.obj D (.deferred none)) H' → Marks H' Ds H'' → Marks H (D :: Ds) H''

theorem leaves_marks {P : Program} {fn : Func} {tmps : Array Value} {R : Ending → World → Prop} {ok : OkP} {w0 : World} {H0 : List Hl} {Γ : List PP} : ∀ {Ds : List Nat} {H H' : List Hl}, Marks H Ds H' → ∀ w, Hs ok w0 H0 H Γ w →
    (∀ w', Hs ok w0 H0 H' Γ w' → LeavesIn (FR none) 0 P fn tmps R [] .returning w') → LeavesInM (FR none) 0 P fn tmps R (Ds.map mark) .returning w := by
  intro Ds
  induction Ds with
  | nil => intro H H' hm w hs k; cases hm; exact k w hs
  | cons D Ds ih =>
    intro H H' hm w hs k
    cases hm with
    | cons hP hm =>
      have hat : w.heap[D]? = some (.deferred (some [])) := hs.sat _ hP.mem
      exact ⟨by simp, .inl ⟨D, _, rfl, run_takeDeferred hat, ih hm _ (hs.putO _ hP) k⟩⟩

theorem je_retM {fn : Func} {rvs : List ResultVar} {vs : List Value} {X : Type} {ret : X → Value} {H1 : X → List Hl} {Γ1 : X → List PP} {ok : OkP} {w0 : World} {H0 : List Hl} {P : Program} (hP : C.P = P) (hok : C.ok = ok) (hw : C.w0 = w0) (hH : C.H0 = H0) (Ds : List Nat) (hds : C.ds = Ds.map mark) {H' : List Hl} (hm : Marks H Ds H')
    (hr : fn.results = rvs.toArray) (h : All2 (RVal C l H') rvs vs) (x : X) (hx : resVal vs = ret x) (hh : ∀ w, Hs ok w0 H0 H' Γ w → Hs ok w0 H0 (H1 x) (Γ1 x) w) {e : Exit} (he : e = .ret ∨ e = .normal) : JE C (bodyPostM (FR none) 0 P fn (SpecPost ok w0 H0 X ret H1 Γ1)) e l H Γ := fun a w s => by
  subst hP; subst hok; subst hw; subst hH
  have key : LeavesInM (FR none) 0 C.P fn a.tmps (SpecPost C.ok C.w0 C.H0 X ret H1 Γ1) a.defers .returning w := by
    rw [s.ds, hds]
    refine leaves_marks hm w s.hs fun w' hs' => ?_
    have s' : Sat C l H' Γ a w' := ⟨s.n, s.ds, s.sl, hs'⟩
    exact ⟨_, results_eq hr h s', x, by rw [hx], hh w' hs'⟩
  rcases he with rfl | rfl
  · exact key
  · exact key
end
end Go.Proofs.Ytjgacbopccfecaa
