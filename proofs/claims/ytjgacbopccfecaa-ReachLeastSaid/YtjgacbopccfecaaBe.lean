/-
  Regions whose order of evaluation is drawn: an operation that only reads is taken first ('ja_take', 'ja_takel'); where one alone is next, it is done ('ja_onlyq', 'ja_onlyx'); else every one that may be next is followed ('ja_all').
-/
import Derived.Test.YtjgacbopccfecaaBd
import Derived.OrdersIn
set_option linter.unusedVariables false
set_option linter.unusedSimpArgs false
set_option linter.unusedSectionVars false
namespace Go.Proofs.Ytjgacbopccfecaa

def nq : Exit → Act → World → Prop := fun _ _ _ => False

/-- 'wpAnyIn', where an operation that is not in 'sp' leaves what was there as it was. -/
def WA (P : Program) (r : Option Nat) (ops : Array Oper) (Q : Exit → Act → World → Prop) (sp : List Nat) : Nat → Array Bool → Act → World → Prop
  | 0, ls, a, w => Region.ready .any ops ls = [] ∧ Q .normal a w
  | f + 1, ls, a, w => (Region.ready .any ops ls = [] → Q .normal a w) ∧
    ∀ j ∈ Region.ready .any ops ls, wpOpIn (FR r) 0 P ops nq j (fun a' w' => (j ∉ sp → Ext w w') ∧ WA P r ops Q sp f (ls.setIfInBounds j true) a' w') a w

section
variable {P : Program} {r : Option Nat} {ops : Array Oper} {Q : Exit → Act → World → Prop} {sp : List Nat}

theorem upon_nq {o : Oper} {a : Act} {K : Act → World → Prop} {x : Result Next} (h : o.uponIn (FR r) 0 P a K nq x) : o.uponIn (FR r) 0 P a K Q x := by
  unfold Oper.uponIn at h ⊢
  split
  · exact h
  · exact h
  · exact h
  · exact ⟨h.1, h.2.mono fun e w' he => by
      cases e with
      | returned v => exact he
      | panicked c => exact he.elim
      | outgrown => obtain ⟨_, _, h⟩ := he; exact h.elim⟩
  · exact h
  · exact ⟨h.1, h.2.mono fun e w' he => by
      cases e with
      | returned v => exact he
      | panicked c => exact he.elim
      | outgrown => obtain ⟨_, _, h⟩ := he; exact h.elim⟩
  · exact h.elim
  · simp_all

theorem op_nq {j : Nat} {a : Act} {w : World} {K : Act → World → Prop} (h : wpOpIn (FR r) 0 P ops nq j K a w) : wpOpIn (FR r) 0 P ops Q j K a w := by
  unfold wpOpIn at h ⊢
  split
  · rename_i e; rw [e] at h; exact h
  · rename_i o e
    rw [e] at h
    split
    · rename_i hw; simp only [hw, if_true] at h; exact ⟨h.1, upon_nq h.2⟩
    · rename_i hw; simp only [hw] at h; exact h

theorem wa_any : ∀ (f : Nat) (ls : Array Bool) (a : Act) (w : World), WA P r ops Q sp f ls a w → wpAnyIn (FR r) 0 P .any ops Q f ls a w := by
  intro f
  induction f with
  | zero => exact fun ls a w h => h
  | succ f ih => exact fun ls a w h => ⟨h.1, fun j hj => op_nq (wpOpIn_mono (fun a w hk => ih _ a w hk.2) (h.2 j hj))⟩

/-- i must be done before k. -/
inductive Anc (ops : Array Oper) (i : Nat) : Nat → Prop
  | here {k : Nat} {o : Oper} {e : Edge} : ops[k]? = some o → e ∈ o.after → Region.binds .any e = true → e.on = i → Anc ops i k
  | there {k : Nat} {o : Oper} {e : Edge} : ops[k]? = some o → e ∈ o.after → Region.binds .any e = true → Anc ops i e.on → Anc ops i k

def Closed (ops : Array Oper) (ls : Array Bool) : Prop := ∀ k o, ops[k]? = some o → ls.getD k false = true → ∀ e ∈ o.after, Region.binds .any e = true → ls.getD e.on false = true

theorem anc_listed {ls : Array Bool} (hc : Closed ops ls) {i k : Nat} (h : Anc ops i k) : ls.getD k false = true → ls.getD i false = true := by
  induction h with
  | here ho he hb hi => intro hk; rw [← hi]; exact hc _ _ ho hk _ he hb
  | there ho he hb _ ih => intro hk; exact ih (hc _ _ ho hk _ he hb)
theorem anc_ready {ls : Array Bool} (hc : Closed ops ls) {i k : Nat} (h : Anc ops i k) (hk : k ∈ Region.ready .any ops ls) : ls.getD i false = true := by
  obtain ⟨_, o, ho, hall⟩ := mem_ready.1 hk
  cases h with
  | here ho' he hb hi => rw [ho] at ho'; cases ho'; rw [← hi]; exact hall _ he hb
  | there ho' he hb ha => rw [ho] at ho'; cases ho'; exact anc_listed hc ha (hall _ he hb)
theorem closed_add {ls : Array Bool} (hc : Closed ops ls) {j : Nat} (hj : j ∈ Region.ready .any ops ls) : Closed ops (ls.setIfInBounds j true) := by
  obtain ⟨_, oj, hoj, hall⟩ := mem_ready.1 hj
  intro k o ho hk e he hb
  by_cases hjk : j = k
  · subst hjk
    rw [hoj] at ho; cases ho
    exact getD_set_true (hall e he hb)
  · rw [getD_set_ne false hjk] at hk
    exact getD_set_true (hc k o ho hk e he hb)

def ancB (ops : Array Oper) (i : Nat) : Nat → Nat → Bool
  | 0, _ => false
  | f + 1, k => match ops[k]? with
    | none => false
    | some o => o.after.any (fun e => Region.binds .any e && e.on == i) || o.after.any (fun e => Region.binds .any e && ancB ops i f e.on)
theorem ancB_anc {i : Nat} : ∀ (f k : Nat), ancB ops i f k = true → Anc ops i k := by
  intro f
  induction f with
  | zero => intro k h; simp [ancB] at h
  | succ f ih =>
    intro k h
    simp only [ancB] at h
    split at h
    · cases h
    · rename_i o ho
      rcases Bool.or_eq_true_iff.1 h with h | h
      · obtain ⟨e, he, hb⟩ := Array.any_eq_true'.1 h
        simp only [Bool.and_eq_true, beq_iff_eq] at hb
        exact .here ho he hb.1 hb.2
      · obtain ⟨e, he, hb⟩ := Array.any_eq_true'.1 h
        simp only [Bool.and_eq_true] at hb
        exact .there ho he hb.1 (ih _ hb.2)

/-- What is to be seen of the region's text before i is taken first. -/
def takeB (ops : Array Oper) (sp : List Nat) (ls : Array Bool) (i : Nat) : Bool :=
  (Region.ready .any ops ls).contains i && Region.free .any ops ls i && Region.noSelect ops && sp.all (fun k => ls.getD k false || ancB ops i 8 k) && ops.all (fun o => match o.op with | .defer _ => false | _ => true)

/-- i gives v, now and as long as nothing turns. -/
def Ys (P : Program) (ops : Array Oper) (o : Oper) (v : Value) (a : Act) (w : World) : Prop :=
  (Region.wanted o (yielded ops a.tmps) = true ∧ (∀ c, o.op ≠ .defer c) ∧ ∀ w', Ext w w' → (execOp a.eval o).run P w' = .ok (.value v) w') ∨ (Region.wanted o (yielded ops a.tmps) = false ∧ v = undef)
theorem Ys.ext {o : Oper} {v : Value} {a : Act} {w w' : World} (e : Ext w w') (h : Ys P ops o v a w) : Ys P ops o v a w' := by
  rcases h with ⟨h1, h2, h3⟩ | h
  · exact .inl ⟨h1, h2, fun w'' e' => h3 w'' (e.trans e')⟩
  · exact .inr h
theorem Ys.same {o : Oper} {v : Value} {a a' : Act} {w : World} (he : execOp a'.eval o = execOp a.eval o) (hw : Region.wanted o (yielded ops a'.tmps) = Region.wanted o (yielded ops a.tmps)) (h : Ys P ops o v a w) : Ys P ops o v a' w := by
  unfold Ys at *
  rw [he, hw]; exact h
theorem Ys.op {i : Nat} {o : Oper} {v : Value} {a : Act} {w : World} (hi : ops[i]? = some o) (h : Ys P ops o v a w) {K : Act → World → Prop} (k : K (a.put o.dst v) w) : wpOpIn (FR r) 0 P ops nq i K a w := by
  unfold wpOpIn
  simp only [hi]
  rcases h with ⟨h1, h2, h3⟩ | ⟨h1, rfl⟩
  · simp only [h1, if_true]
    refine ⟨fun _ _ => trivial, ?_⟩
    rw [show (FR r).round = r from rfl, Oper.semAt_eq r a.eval o h2, h3 w (Ext.refl w)]
    exact k
  · simp only [h1, Bool.false_eq_true, if_false]
    exact ⟨fun _ _ => trivial, k⟩

theorem op_put {j : Nat} {oi oj : Oper} {v : Value} (hj : ops[j]? = some oj) (hap : oi.apart ops oj = true) (hsi : ∀ cs b, oi.op ≠ .select cs b) (hsj : ∀ cs b, oj.op ≠ .select cs b) (hdj : ∀ c, oj.op ≠ .defer c)
    {K : Act → World → Prop} {a : Act} {w : World} (hy : Ys P ops oi v a w) (h : wpOpIn (FR r) 0 P ops nq j K (a.put oi.dst v) w) :
    wpOpIn (FR r) 0 P ops nq j (fun a' w' => (∀ w'', Ext w w'' → Ys P ops oi v a' w'') ∧ K (a'.put oi.dst v) w') a w := by
  obtain ⟨h1, h2, h3⟩ := Oper.apart_spec hap
  have keep : ∀ (u : Value) w'', Ext w w'' → Ys P ops oi v (a.put oj.dst u) w'' := fun u w'' e => (hy.ext e).same (execOp_put oi hsi a oj.dst u h3) (wanted_put oi a oj.dst u h3)
  unfold wpOpIn at *
  simp only [hj] at *
  rw [wanted_put oj a oi.dst v h1] at h
  split
  · rename_i hw
    simp only [hw, if_true] at h
    unfold Oper.wpIn at *
    refine ⟨fun _ _ => trivial, ?_⟩
    have h := h.2
    rw [show (FR r).round = r from rfl, Oper.semAt_eq _ _ _ hdj, execOp_put oj hsj a oi.dst v h1] at h
    rw [show (FR r).round = r from rfl, Oper.semAt_eq _ _ _ hdj]
    generalize (execOp a.eval oj).run P w = x at *
    cases x with
    | ok x w' =>
      cases x <;> simp only [Oper.uponIn] at h ⊢
      case value u => exact ⟨keep u, by rw [← Act.put_comm a v u h2]; exact h⟩
      case skip => exact ⟨keep _, by rw [← Act.put_comm a v undef h2]; exact h⟩
      case defer d =>
        refine ⟨fun w'' e => ?_, ?_⟩
        · exact ((hy.ext e).same rfl rfl : Ys P ops oi v { a with defers := d :: a.defers } w'').same (execOp_put oi hsi _ oj.dst undef h3) (wanted_put oi _ oj.dst undef h3)
        · rw [← Act.put_comm _ v undef h2, ← Act.put_defers]; exact h
      case enter f args =>
        refine ⟨h.1, CallsIn.mono h.2 fun e w'' he => ?_⟩
        cases e with
        | returned u => exact ⟨keep u, by rw [← Act.put_comm a v u h2]; exact he⟩
        | panicked c => exact he
        | outgrown => exact he
      case row row args => exact ⟨h.1, RowsIn.mono h.2 fun u w'' he => ⟨keep u, by rw [← Act.put_comm a v u h2]; exact he⟩⟩
      case round l f tmps assign body =>
        refine ⟨h.1, RoundIn.mono h.2 fun e w'' he => ?_⟩
        cases e with
        | returned u => exact ⟨keep u, by rw [← Act.put_comm a v u h2]; exact he⟩
        | panicked c => exact he
        | outgrown => exact he
    | halt x w' =>
      cases x <;> simp only [Oper.uponIn] at h ⊢
      case panic u => exact h
  · rename_i hw
    simp only [hw] at h
    exact ⟨fun _ _ => trivial, keep _, by rw [← Act.put_comm a v undef h2]; exact h.2⟩

theorem wa_first {i : Nat} {oi : Oper} {v : Value} (hi : ops[i]? = some oi) (hsel : ∀ (j : Nat) (o : Oper) cs b, ops[j]? = some o → o.op ≠ .select cs b) (hdef : ∀ (j : Nat) (o : Oper) c, ops[j]? = some o → o.op ≠ .defer c) :
    ∀ (fuel : Nat) (ls : Array Bool) (a : Act) (w : World),
      (∀ j oj, ops[j]? = some oj → j ≠ i → ls.getD j true = false → (∀ e ∈ oj.after, Region.binds .any e = true → e.on ≠ i) → oi.apart ops oj = true) →
      Closed ops ls → (∀ k ∈ sp, ls.getD k false = true ∨ Anc ops i k) →
      i ∈ Region.ready .any ops ls → Ys P ops oi v a w → WA P r ops Q sp fuel (ls.setIfInBounds i true) (a.put oi.dst v) w → WA P r ops Q sp (fuel + 1) ls a w := by
  intro fuel
  induction fuel with
  | zero =>
    intro ls a w _ hc hsp hr hy H
    refine ⟨fun h => (by rw [h] at hr; cases hr), fun j hj => ?_⟩
    by_cases hji : j = i
    · subst hji; exact hy.op hi ⟨fun _ => Ext.refl w, H⟩
    · have := ready_mono hj hji
      rw [H.1] at this
      cases this
  | succ fuel ih =>
    intro ls a w hfree hc hsp hr hy H
    refine ⟨fun h => (by rw [h] at hr; cases hr), fun j hj => ?_⟩
    by_cases hji : j = i
    · subst hji; exact hy.op hi ⟨fun _ => Ext.refl w, H⟩
    · have h1 := H.2 j (ready_mono hj hji)
      obtain ⟨hjun, oj, hoj, hall⟩ := mem_ready.1 hj
      have hiun : ls.getD i false = false := by
        have h0 := (mem_ready.1 hr).1
        rcases Nat.lt_or_ge i ls.size with h' | h'
        · simp [h'] at h0 ⊢; exact h0
        · simp [Array.getElem?_eq_none h']
      have hnot : ∀ e ∈ oj.after, Region.binds .any e = true → e.on ≠ i := fun e he hb heq => by
        have h1 := hall e he hb
        rw [heq, hiun] at h1; cases h1
      have hjsp : j ∉ sp := fun hm => by
        rcases hsp j hm with h | h
        · rcases Nat.lt_or_ge j ls.size with h' | h'
          · simp [h'] at hjun h; rw [hjun] at h; cases h
          · simp [Array.getElem?_eq_none h'] at h
        · rw [anc_ready hc h hj] at hiun; cases hiun
      have h2 := op_put hoj (hfree j oj hoj hji hjun hnot) (fun cs b => hsel i oi cs b hi) (fun cs b => hsel j oj cs b hoj) (fun c => hdef j oj c hoj) hy h1
      have hfree' : ∀ k ok, ops[k]? = some ok → k ≠ i → (ls.setIfInBounds j true).getD k true = false →
          (∀ e ∈ ok.after, Region.binds .any e = true → e.on ≠ i) → oi.apart ops ok = true := fun k ok hk hki hun hno => by
        refine hfree k ok hk hki ?_ hno
        by_cases hjk : j = k
        · subst hjk; exact hjun
        · rw [getD_set_ne true hjk] at hun; exact hun
      have hsp' : ∀ k ∈ sp, (ls.setIfInBounds j true).getD k false = true ∨ Anc ops i k := fun k hk => (hsp k hk).imp getD_set_true id
      refine wpOpIn_mono (fun a' w' h3 => ?_) h2
      refine ⟨h3.2.1, ih (ls.setIfInBounds j true) a' w' hfree' (closed_add hc hj) hsp' (ready_mono hr (Ne.symm hji)) (h3.1 w' (h3.2.1 hjsp)) ?_⟩
      rw [Array.setIfInBounds_comm _ _ hji]
      exact h3.2.2
end

def JA (C : Cx) (ops : Array Oper) (Q : Exit → Act → World → Prop) (sp : List Nat) (f : Nat) (ls : Array Bool) (l : List (Nat × Value)) (H : List Hl) (Γ : List PP) : Prop :=
  ∀ a w, Closed ops ls → Sat C l H Γ a w → WA C.P C.r ops Q sp f ls a w

section
variable {C : Cx} {Q : Exit → Act → World → Prop} {ops : Array Oper} {sp : List Nat} {l l' : List (Nat × Value)} {H H' : List Hl} {Γ Γ' : List PP} {f : Nat} {ls : Array Bool}

theorem j_draw {id : Nat} (sp : List Nat) (hm : C.P.follows .mixedOrders = true) (h : JA C ops Q sp ops.size (Array.replicate ops.size false) l H Γ) : J C Q (.region id ops true) l H Γ := fun a w s => by
  refine wpIn_region_any hm (wa_any _ _ _ _ (h a _ ?_ ?_))
  · intro k o _ hk
    rw [Array.getD_eq_getD_getElem?, Array.getElem?_replicate] at hk
    split at hk <;> simp at hk
  · exact ⟨s.n, s.ds, s.sl, s.hs.ext (drew_ext w)⟩

theorem takeB_spec {i : Nat} {oi : Oper} (hi : ops[i]? = some oi) (h : takeB ops sp ls i = true) :
    i ∈ Region.ready .any ops ls ∧ (∀ j oj, ops[j]? = some oj → j ≠ i → ls.getD j true = false → (∀ e ∈ oj.after, Region.binds .any e = true → e.on ≠ i) → oi.apart ops oj = true) ∧
    (∀ (j : Nat) (o : Oper) cs b, ops[j]? = some o → o.op ≠ .select cs b) ∧ (∀ (j : Nat) (o : Oper) c, ops[j]? = some o → o.op ≠ .defer c) ∧ (∀ k ∈ sp, ls.getD k false = true ∨ Anc ops i k) := by
  simp only [takeB, Bool.and_eq_true] at h
  obtain ⟨⟨⟨⟨h1, h2⟩, h3⟩, h4⟩, h5⟩ := h
  refine ⟨by simpa using h1, Region.free_spec hi h2, Region.noSelect_spec h3, fun j o c ho heq => ?_, fun k hk => ?_⟩
  · have := Array.all_eq_true_iff_forall_mem.1 h5 o (Array.mem_of_getElem? ho)
    simp [heq] at this
  · have := List.all_eq_true.1 h4 k hk
    rcases Bool.or_eq_true_iff.1 this with h | h
    · exact .inl h
    · exact .inr (ancB_anc _ _ h)

theorem ja_takel {o : Oper} {X : Type} {val : X → Value} {Γn : X → List PP} (i : Nat) (hi : ops[i]? = some o) (hb : takeB ops sp ls i = true) (h : OpL C o l H Γ X val Γn) (hg : Wn ops o l) (hd : dlt C.n o.dst = true)
    (k : ∀ x, JA C ops Q sp f (ls.setIfInBounds i true) (upd C.n o.dst (val x) l) H (Γn x ++ Γ)) : JA C ops Q sp (f + 1) ls l H Γ := fun a w hc s => by
  obtain ⟨x, hr, hp⟩ := h.2 a w s
  obtain ⟨b1, b2, b3, b4, b5⟩ := takeB_spec hi hb
  exact wa_first hi b3 b4 f ls a w b2 hc b5 b1 (.inl ⟨(hg.ok s).wanted, h.1, hr⟩) (k x _ w (closed_add hc b1) (s.put (dlt_of hd) _ (s.hs.add hp)))
theorem ja_take {o : Oper} {v : Value} (i : Nat) (hi : ops[i]? = some o) (hb : takeB ops sp ls i = true) (h : OpV C o l H Γ v) (hg : Wn ops o l) (hd : dlt C.n o.dst = true)
    (k : JA C ops Q sp f (ls.setIfInBounds i true) (upd C.n o.dst v l) H Γ) : JA C ops Q sp (f + 1) ls l H Γ := ja_takel i hi hb h.toL hg hd fun _ => k
theorem ja_off {o : Oper} {j : Nat} {want : Bool} {t : Nat} {b : Bool} (i : Nat) (hi : ops[i]? = some o) (hb : takeB ops sp ls i = true) (h : o.guard = some (j, want)) (h1 : (ops[j]?).bind (·.dst) = some t) (h2 : look l t = some (.bool b)) (hw : b ≠ want) (hd : dlt C.n o.dst = true)
    (k : JA C ops Q sp f (ls.setIfInBounds i true) (upd C.n o.dst undef l) H Γ) : JA C ops Q sp (f + 1) ls l H Γ := fun a w hc s => by
  obtain ⟨b1, b2, b3, b4, b5⟩ := takeB_spec hi hb
  have hwf : Region.wanted o (yielded ops a.tmps) = false := by
    have h3 := s.sl t _ h2
    simp [Region.wanted, h, yielded, h1, h3, hw]
  exact wa_first hi b3 b4 f ls a w b2 hc b5 b1 (.inr ⟨hwf, rfl⟩) (k _ w (closed_add hc b1) (s.put (dlt_of hd) _ s.hs))

theorem wa_op {i : Nat} {o : Oper} {K : Value → World → Prop} {K' : Act → World → Prop} {a : Act} {w : World} (hi : ops[i]? = some o) (hg : OkG ops o a.tmps) (h : DoesV C.P C.r o a w K) (k : ∀ v w', K v w' → K' (a.put o.dst v) w') : wpOpIn (FR C.r) 0 C.P ops nq i K' a w := by
  unfold wpOpIn
  simp only [hi, hg.wanted, if_true]
  exact ⟨fun _ _ => trivial, h _ _ k⟩

/-- one of those that may be next. -/
def JN (C : Cx) (ops : Array Oper) (Q : Exit → Act → World → Prop) (sp : List Nat) (f : Nat) (ls : Array Bool) (l : List (Nat × Value)) (H : List Hl) (Γ : List PP) (i : Nat) : Prop :=
  ∀ a w, Closed ops ls → i ∈ Region.ready .any ops ls → Sat C l H Γ a w → wpOpIn (FR C.r) 0 C.P ops nq i (fun a' w' => (i ∉ sp → Ext w w') ∧ WA C.P C.r ops Q sp f (ls.setIfInBounds i true) a' w') a w
theorem jn_q {o : Oper} {X : Type} {val : X → Value} {Γn : X → List PP} {i : Nat} (hi : ops[i]? = some o) (h : OpQ C o l H Γ X val Γn) (hg : Wn ops o l) (hd : dlt C.n o.dst = true)
    (k : ∀ x, JA C ops Q sp f (ls.setIfInBounds i true) (upd C.n o.dst (val x) l) H (Γn x ++ Γ)) : JN C ops Q sp f ls l H Γ i := fun a w hc hr s =>
  wa_op hi (hg.ok s) (h a w s) fun v' w' ⟨x, e1, e2, e3⟩ => by
    subst e1
    exact ⟨fun _ => e2, k x _ _ (closed_add hc hr) (s.put (dlt_of hd) _ ((s.hs.ext e2).add e3))⟩
theorem jn_x {o : Oper} {X : Type} {val : X → Value} {H' : X → List Hl} {Γ' : X → List PP} {i : Nat} (hi : ops[i]? = some o) (hsp : i ∈ sp) (h : OpX C o l H Γ X val H' Γ') (hg : Wn ops o l) (hd : dlt C.n o.dst = true)
    (k : ∀ x, JA C ops Q sp f (ls.setIfInBounds i true) (upd C.n o.dst (val x) l) (H' x) (Γ' x)) : JN C ops Q sp f ls l H Γ i := fun a w hc hr s =>
  wa_op hi (hg.ok s) (h a w s) fun v' w' ⟨x, e1, e2⟩ => by
    subst e1
    exact ⟨fun hn => absurd hsp hn, k x _ _ (closed_add hc hr) (s.put (dlt_of hd) _ e2)⟩
theorem jn_v {o : Oper} {v : Value} {i : Nat} (hi : ops[i]? = some o) (h : OpV C o l H Γ v) (hg : Wn ops o l) (hd : dlt C.n o.dst = true)
    (k : JA C ops Q sp f (ls.setIfInBounds i true) (upd C.n o.dst v l) H Γ) : JN C ops Q sp f ls l H Γ i := fun a w hc hr s =>
  wa_op hi (hg.ok s) (doesV_run h.1 (h.2 a w s)) fun v' w' ⟨e1, e2⟩ => by
    subst e1; subst e2
    exact ⟨fun _ => Ext.refl _, k _ _ (closed_add hc hr) (s.put (dlt_of hd) _ s.hs)⟩
theorem ja_all {rs : List Nat} (hr : Region.ready .any ops ls = rs) (hne : rs ≠ []) (h : ∀ i ∈ rs, JN C ops Q sp f ls l H Γ i) : JA C ops Q sp (f + 1) ls l H Γ := fun a w hc s =>
  ⟨fun h0 => absurd (hr ▸ h0) hne, fun i hi => h i (hr ▸ hi) a w hc hi s⟩
theorem ja_one {i : Nat} (hr : Region.ready .any ops ls = [i]) (h : JN C ops Q sp f ls l H Γ i) : JA C ops Q sp (f + 1) ls l H Γ := ja_all hr (by simp) fun j hj => by rw [List.mem_singleton] at hj; subst hj; exact h
theorem ja_two {i j : Nat} (hr : Region.ready .any ops ls = [i, j]) (h : JN C ops Q sp f ls l H Γ i) (k : JN C ops Q sp f ls l H Γ j) : JA C ops Q sp (f + 1) ls l H Γ := ja_all hr (by simp) fun x hx => by
  rcases List.mem_cons.1 hx with rfl | hx
  · exact h
  · rw [List.mem_singleton] at hx; subst hx; exact k
theorem ja_nil (hr : Region.ready .any ops ls = []) (h : JE C Q .normal l H Γ) : JA C ops Q sp f ls l H Γ := fun a w hc s => by
  cases f with
  | zero => exact ⟨hr, h a w s⟩
  | succ f => exact ⟨fun _ => h a w s, by rw [hr]; simp⟩
theorem ja_to (hl : ∀ t v, look l' t = some v → look l t = some v) (hh : ∀ w, Hs C.ok C.w0 C.H0 H Γ w → Hs C.ok C.w0 C.H0 H' Γ' w) (h : JA C ops Q sp f ls l' H' Γ') : JA C ops Q sp f ls l H Γ := fun a w hc s => h a w hc (s.to hl (hh w s.hs))
/-- A slot that holds a bool: both ways. -/
theorem ja_split (t : Nat) {b : Bool} (h : look l t = some (.bool b)) (ht : b = true → JA C ops Q sp f ls ((t, .bool true) :: l) H Γ) (hf : b = false → JA C ops Q sp f ls ((t, .bool false) :: l) H Γ) : JA C ops Q sp f ls l H Γ := by
  cases b with
  | true => exact ja_to (look_again h) (fun _ h => h) (ht rfl)
  | false => exact ja_to (look_again h) (fun _ h => h) (hf rfl)
end
end Go.Proofs.Ytjgacbopccfecaa
