/-
  A small logic of a call's own memory: what is known of the heap is a list of blocks that the call owns ('Hl'), and a list of facts that last ('PP'), which speak of blocks that nobody writes any more.
-/
import Derived.RangeFuncWrites
import Derived.RangeFuncCalls
import Derived.RowKit3

set_option linter.unusedVariables false
set_option linter.unusedSimpArgs false
set_option linter.unusedSectionVars false
namespace Go.Proofs.Ytjgacbopccfecaa

abbrev Hp := Array Obj
abbrev OkP := Nat → Prop

def cell1 : Value → Bool
  | .agg _ | .tuple _ => false
  | _ => true

def hcell (h : Hp) (b k : Nat) : Option Value := match h[b]? with | some (.cells c _ _) => c[k]? | _ => none

theorem cell_eq (w : World) (b k : Nat) : w.cell? ⟨b, k, none⟩ = hcell w.heap b k := by
  unfold World.cell? hcell
  cases w.heap[b]? with
  | none => rfl
  | some o => cases o <;> simp

theorem hcell_same {h h' : Hp} {b : Nat} (e : h'[b]? = h[b]?) (k : Nat) : hcell h' b k = hcell h b k := by unfold hcell; rw [e]

/-- What lasts: 'ok' tells the blocks that may be looked at. -/
def Lasts (ok ok' : OkP) (h h' : Hp) : Prop := ∀ b, ok b → b < h.size → ok' b ∧ h'[b]? = h[b]? ∧ b < h'.size
theorem Lasts.of {ok ok' : OkP} {h h' : Hp} (hs : h.size ≤ h'.size) (k : ∀ b, ok b → b < h.size → ok' b ∧ h'[b]? = h[b]?) : Lasts ok ok' h h' := fun b h1 h2 => ⟨(k b h1 h2).1, (k b h1 h2).2, by omega⟩

structure Kd (α : Type) where
  sz : Nat
  R : OkP → Hp → α → List Value → Prop
  len : ∀ {ok h x cs}, R ok h x cs → cs.length = sz
  one : ∀ {ok h x cs}, R ok h x cs → ∀ v, v ∈ cs → cell1 v = true
  pers : ∀ {ok ok' h h' x cs}, Lasts ok ok' h h' → R ok h x cs → R ok' h' x cs

inductive Rws {α : Type} (K : Kd α) (ok : OkP) (h : Hp) : List α → List Value → Prop
  | nil : Rws K ok h [] []
  | cons {x xs c cs} : K.R ok h x c → Rws K ok h xs cs → Rws K ok h (x :: xs) (c ++ cs)

section
variable {α : Type} {K : Kd α} {ok ok' : OkP} {h h' : Hp} {xs ys : List α} {cs ds : List Value}

theorem Rws.len (r : Rws K ok h xs cs) : cs.length = xs.length * K.sz := by
  induction r with
  | nil => simp
  | cons hx _ ih => simp [K.len hx, ih, Nat.add_mul, Nat.add_comm]
theorem Rws.one (r : Rws K ok h xs cs) : ∀ v, v ∈ cs → cell1 v = true := by
  induction r with
  | nil => simp
  | cons hx _ ih =>
    intro v hv
    rcases List.mem_append.1 hv with h1 | h1
    · exact K.one hx v h1
    · exact ih v h1
theorem Rws.pers (l : Lasts ok ok' h h') (r : Rws K ok h xs cs) : Rws K ok' h' xs cs := by
  induction r with
  | nil => exact .nil
  | cons hx _ ih => exact .cons (K.pers l hx) ih
theorem Rws.app (r : Rws K ok h xs cs) (s : Rws K ok h ys ds) : Rws K ok h (xs ++ ys) (cs ++ ds) := by
  induction r with
  | nil => exact s
  | cons hx _ ih => rw [List.cons_append, List.append_assoc]; exact .cons hx ih
theorem Rws.one_ {x : α} {c : List Value} (hx : K.R ok h x c) : Rws K ok h [x] c := by have := Rws.cons hx (.nil (K := K) (ok := ok) (h := h)); simpa using this
theorem Rws.inv {x : α} (r : Rws K ok h (x :: xs) cs) : ∃ c ds, cs = c ++ ds ∧ K.R ok h x c ∧ Rws K ok h xs ds := by
  cases r with
  | cons hx hr => exact ⟨_, _, rfl, hx, hr⟩
theorem Rws.split (n : Nat) (r : Rws K ok h xs cs) : Rws K ok h (xs.take n) (cs.take (n * K.sz)) ∧ Rws K ok h (xs.drop n) (cs.drop (n * K.sz)) := by
  induction n generalizing xs cs with
  | zero => simp only [List.take_zero, List.drop_zero, Nat.zero_mul]; exact ⟨.nil, r⟩
  | succ n ih =>
    cases r with
    | nil => simp; exact .nil
    | @cons x xs c cs hx hr =>
      have hl := K.len hx
      obtain ⟨i1, i2⟩ := ih hr
      have e : (n + 1) * K.sz = c.length + n * K.sz := by rw [hl, Nat.add_mul, Nat.one_mul, Nat.add_comm]
      rw [e, List.take_length_add_append, List.drop_length_add_append, List.take_succ_cons, List.drop_succ_cons]
      exact ⟨.cons hx i1, i2⟩
theorem Rws.get {i : Nat} (hi : i < xs.length) (r : Rws K ok h xs cs) : ∃ c, K.R ok h xs[i] c ∧ ∀ j, j < K.sz → cs[i * K.sz + j]? = c[j]? := by
  induction r generalizing i with
  | nil => simp at hi
  | @cons x xs c cs hx hr ih =>
    have hl := K.len hx
    cases i with
    | zero => exact ⟨c, hx, fun j hj => by rw [Nat.zero_mul, Nat.zero_add, List.getElem?_append_left (by omega)]⟩
    | succ i =>
      obtain ⟨c', hc', hj⟩ := ih (by simpa using hi)
      refine ⟨c', hc', fun j hlt => ?_⟩
      rw [← hj j hlt, List.getElem?_append_right (by rw [hl, Nat.add_mul]; omega)]
      congr 1
      rw [hl, Nat.add_mul]; omega
/-- element i is written anew. -/
theorem Rws.set {i : Nat} {y : α} {c : List Value} (hy : K.R ok h y c) (r : Rws K ok h xs cs) (hi : i < xs.length) : Rws K ok h (xs.set i y) (cs.take (i * K.sz) ++ c ++ cs.drop ((i + 1) * K.sz)) := by
  have h1 := (r.split i).1
  have h2 := (r.split (i + 1)).2
  have e : xs.set i y = xs.take i ++ [y] ++ xs.drop (i + 1) := by
    rw [List.set_eq_take_append_cons_drop, if_pos hi]; simp
  rw [e]
  exact (h1.app (.one_ hy)).app h2
end

def maxN : Nat := 9223372036854775807

/-- The slice value v holds the elements xs, in a block that lasts. -/
def Sl {α : Type} (K : Kd α) (v : Value) (xs : List α) (ok : OkP) (h : Hp) : Prop :=
  ∃ A c, v = .slice A xs.length c ∧ xs.length ≤ c ∧ c ≤ maxN ∧
    (0 < xs.length → ∃ b o cs, A = some ⟨b, o, none⟩ ∧ ok b ∧ b < h.size ∧ Rws K ok h xs cs ∧ ∀ j, j < cs.length → hcell h b (o + j) = cs[j]?)

theorem Sl.pers {α : Type} {K : Kd α} {v : Value} {xs : List α} {ok ok' : OkP} {h h' : Hp} (l : Lasts ok ok' h h') (s : Sl K v xs ok h) : Sl K v xs ok' h' := by
  obtain ⟨A, c, hv, h1, h2, h3⟩ := s
  refine ⟨A, c, hv, h1, h2, fun hp => ?_⟩
  obtain ⟨b, o, cs, e, hb, hlt, hr, hc⟩ := h3 hp
  obtain ⟨l1, l2, l3⟩ := l b hb hlt
  exact ⟨b, o, cs, e, l1, l3, hr.pers l, fun j hj => by rw [hcell_same l2]; exact hc j hj⟩

theorem Sl.nil {α : Type} {K : Kd α} {ok : OkP} {h : Hp} {A : Option Addr} : Sl K (.slice A 0 0) [] ok h := ⟨A, 0, rfl, Nat.zero_le _, Nat.zero_le _, fun hp => absurd hp (Nat.lt_irrefl 0)⟩
theorem Sl.lenle {α : Type} {K : Kd α} {v : Value} {xs : List α} {ok : OkP} {h : Hp} (s : Sl K v xs ok h) : xs.length ≤ maxN := by
  obtain ⟨A, c, _, h1, h2, _⟩ := s; omega

structure PP where
  p : OkP → Hp → Prop
  pers : ∀ {ok ok' h h'}, Lasts ok ok' h h' → p ok h → p ok' h'

def sl {α : Type} (K : Kd α) (v : Value) (xs : List α) : PP := ⟨Sl K v xs, Sl.pers⟩

/-- A block that nobody writes any more. -/
def ro (B : Nat) (cs : List Value) (t : TypeId) : PP := ⟨fun ok h => ok B ∧ B < h.size ∧ h[B]? = some (.cells cs.toArray t (0, 0)), fun l ⟨h1, h2, h3⟩ => by
  obtain ⟨l1, l2, l3⟩ := l _ h1 h2
  exact ⟨l1, l3, by rw [l2]; exact h3⟩⟩

/-- What another one owns, which is not to be looked into. -/
structure Opq where
  at_ : Nat → Prop
  sat_ : OkP → Hp → Prop
  pers_ : ∀ {ok ok' h h'}, Lasts ok ok' h h' → (∀ b, at_ b → h'[b]? = h[b]?) → sat_ ok h → sat_ ok' h'

/-- What the call owns. -/
inductive Hl : Type 1
  | opq (m : Opq)
  | blk (B : Nat) (cs : List Value) (t : TypeId)
  | own {α : Type} (K : Kd α) (v : Value) (t : TypeId) (xs : List α)
  | obj (B : Nat) (o : Obj)

def Hl.at : Hl → Nat → Prop
  | .opq m, b => m.at_ b
  | .blk B _ _, b => b = B
  | .own _ v _ _, b => ∃ n c, v = .slice (some ⟨b, 0, none⟩) n c ∧ 0 < c
  | .obj B _, b => b = B

def Own {α : Type} (K : Kd α) (v : Value) (t : TypeId) (xs : List α) (ok : OkP) (h : Hp) : Prop :=
  ((∃ A, v = .slice A 0 0) ∧ xs = []) ∨ ∃ B cap cs junk, v = .slice (some ⟨B, 0, none⟩) xs.length cap ∧ 0 < cap ∧ xs.length ≤ cap ∧ cap ≤ maxN ∧ Rws K ok h xs cs ∧
    junk.length = (cap - xs.length) * K.sz ∧ h[B]? = some (.cells (cs ++ junk).toArray t (0, 0))

def Hl.sat : Hl → OkP → Hp → Prop
  | .opq m, ok, h => m.sat_ ok h
  | .blk B cs t, _, h => h[B]? = some (.cells cs.toArray t (0, 0))
  | .own K v t xs, ok, h => Own K v t xs ok h
  | .obj B o, _, h => h[B]? = some o

def okm (ok : OkP) (H : List Hl) : OkP := fun b => ok b ∧ ∀ x ∈ H, ¬ x.at b

theorem Own.pers {α : Type} {K : Kd α} {v : Value} {t : TypeId} {xs : List α} {ok ok' : OkP} {h h' : Hp} (l : Lasts ok ok' h h') (hb : ∀ b, (Hl.own K v t xs).at b → h'[b]? = h[b]?) (s : Own K v t xs ok h) : Own K v t xs ok' h' := by
  rcases s with ⟨e, e'⟩ | ⟨B, cap, cs, junk, e, h0, h1, h2, h3, h4, h5⟩
  · exact .inl ⟨e, e'⟩
  · exact .inr ⟨B, cap, cs, junk, e, h0, h1, h2, h3.pers l, h4, by rw [hb B ⟨_, _, e, h0⟩]; exact h5⟩

theorem Hl.sat_pers {x : Hl} {ok ok' : OkP} {h h' : Hp} (l : Lasts ok ok' h h') (hb : ∀ b, x.at b → h'[b]? = h[b]?) (s : x.sat ok h) : x.sat ok' h' := by
  cases x with
  | opq m => exact m.pers_ l hb s
  | blk B cs t => show h'[B]? = _; rw [hb B rfl]; exact s
  | own K v t xs => exact Own.pers l hb s
  | obj B o => show h'[B]? = _; rw [hb B rfl]; exact s

/-- Nothing is put out; lots may be drawn. -/
structure OutD (w w0 : World) : Prop where
  o : w.output = w0.output
  d : w0.drawn ≤ w.drawn
theorem OutD.refl (w : World) : OutD w w := ⟨rfl, Nat.le_refl _⟩
theorem OutD.trans {a b c : World} (h : OutD a b) (k : OutD b c) : OutD a c := ⟨h.o.trans k.o, Nat.le_trans k.d h.d⟩
/-- The frame of a call: what was there and is not among H0 stays. -/
structure Fr (w0 : World) (H0 : List Hl) (w : World) : Prop where
  os : w.os = w0.os
  tape : w.tape = w0.tape
  output : OutD w w0
  size : w0.heap.size ≤ w.heap.size
  old : ∀ b, b < w0.heap.size → (∀ y ∈ H0, ¬ y.at b) → w.heap[b]? = w0.heap[b]?

theorem Fr.refl (w : World) (H0 : List Hl) : Fr w H0 w := ⟨rfl, rfl, .refl w, Nat.le_refl _, fun _ _ _ => rfl⟩
theorem Fr.below {w0 w : World} (h : Fr w0 [] w) : RowKit.Below w0.heap.size w0 w := ⟨h.os, h.tape, h.output.o, h.size, fun k hk => h.old k hk (by simp)⟩

/-- What is known of memory. -/
structure Hs (ok : OkP) (w0 : World) (H0 H : List Hl) (Γ : List PP) (w : World) : Prop where
  fr : Fr w0 H0 w
  new : ∀ b, w0.heap.size ≤ b → ok b
  sat : ∀ x ∈ H, x.sat (okm ok H) w.heap
  lt : ∀ x ∈ H, ∀ b, x.at b → b < w.heap.size ∧ (w0.heap.size ≤ b ∨ ∃ y ∈ H0, y.at b)
  apart : H.Pairwise fun x y => ∀ b, x.at b → ¬ y.at b
  facts : ∀ p ∈ Γ, p.p (okm ok H) w.heap

/-- Nothing that was there turns. -/
def Ext (w w' : World) : Prop := Fr w [] w'
theorem Ext.refl (w : World) : Ext w w := Fr.refl w []
theorem Ext.trans {a b c : World} (h : Ext a b) (k : Ext b c) : Ext a c :=
  ⟨k.os.trans h.os, k.tape.trans h.tape, k.output.trans h.output, Nat.le_trans h.size k.size, fun i hi hn => (k.old i (Nat.lt_of_lt_of_le hi h.size) hn).trans (h.old i hi hn)⟩
theorem Ext.lasts {w w' : World} {ok ok' : OkP} (e : Ext w w') (h : ∀ b, ok b → b < w.heap.size → ok' b) : Lasts ok ok' w.heap w'.heap :=
  .of e.size fun b h1 h2 => ⟨h b h1 h2, e.old b h2 (by simp)⟩
theorem Fr.ext {w0 w w' : World} {H0 : List Hl} (f : Fr w0 H0 w) (e : Ext w w') : Fr w0 H0 w' :=
  ⟨e.os.trans f.os, e.tape.trans f.tape, e.output.trans f.output, Nat.le_trans f.size e.size, fun b h1 h2 => (e.old b (Nat.lt_of_lt_of_le h1 f.size) (by simp)).trans (f.old b h1 h2)⟩

section
variable {ok : OkP} {w0 w w' : World} {H0 H : List Hl} {Γ Γ' : List PP}

theorem Hs.ext (s : Hs ok w0 H0 H Γ w) (e : Ext w w') : Hs ok w0 H0 H Γ w' :=
  have l : Lasts (okm ok H) (okm ok H) w.heap w'.heap := e.lasts fun _ h _ => h
  ⟨s.fr.ext e, s.new, fun x hx => Hl.sat_pers l (fun b hb => e.old b (s.lt x hx b hb).1 (by simp)) (s.sat x hx),
    fun x hx b hb => ⟨Nat.lt_of_lt_of_le (s.lt x hx b hb).1 e.size, (s.lt x hx b hb).2⟩, s.apart, fun p hp => p.pers l (s.facts p hp)⟩

theorem Hs.add (s : Hs ok w0 H0 H Γ w) (h : ∀ p ∈ Γ', p.p (okm ok H) w.heap) : Hs ok w0 H0 H (Γ' ++ Γ) w :=
  ⟨s.fr, s.new, s.sat, s.lt, s.apart, fun p hp => (List.mem_append.1 hp).elim (h p) (s.facts p)⟩

theorem Hs.sub (s : Hs ok w0 H0 H Γ w) (h : ∀ p ∈ Γ', p ∈ Γ) : Hs ok w0 H0 H Γ' w :=
  ⟨s.fr, s.new, s.sat, s.lt, s.apart, fun p hp => s.facts p (h p hp)⟩

/-- A new block of the call's own. -/
theorem Hs.alloc (s : Hs ok w0 H0 H Γ w) {x : Hl} (hx : ∀ b, x.at b ↔ b = w.heap.size) (e : Ext w w') (hz : w.heap.size < w'.heap.size) (hs : x.sat (okm ok (x :: H)) w'.heap) : Hs ok w0 H0 (x :: H) Γ w' := by
  have l : Lasts (okm ok H) (okm ok (x :: H)) w.heap w'.heap := e.lasts fun b hb hlt => ⟨hb.1, fun y hy => by
    rcases List.mem_cons.1 hy with rfl | hy
    · intro hat; have := (hx b).1 hat; omega
    · exact hb.2 y hy⟩
  refine ⟨s.fr.ext e, s.new, ?_, ?_, ?_, fun p hp => p.pers l (s.facts p hp)⟩
  · intro y hy
    rcases List.mem_cons.1 hy with rfl | hy
    · exact hs
    · exact Hl.sat_pers l (fun b hb => e.old b (s.lt y hy b hb).1 (by simp)) (s.sat y hy)
  · intro y hy b hb
    rcases List.mem_cons.1 hy with rfl | hy
    · have := (hx b).1 hb; exact ⟨by omega, .inl (by have := s.fr.size; omega)⟩
    · exact ⟨Nat.lt_of_lt_of_le (s.lt y hy b hb).1 e.size, (s.lt y hy b hb).2⟩
  · refine List.pairwise_cons.2 ⟨fun y hy b hb hb' => ?_, s.apart⟩
    have := (hx b).1 hb
    have := (s.lt y hy b hb').1
    omega
end

/-- Element x of H is y from now on. -/
inductive Put : List Hl → Hl → Hl → List Hl → Prop
  | head {x y : Hl} {H : List Hl} : Put (x :: H) x y (y :: H)
  | tail {x y z : Hl} {H H' : List Hl} : Put H x y H' → Put (z :: H) x y (z :: H')

theorem Put.mem {H H' : List Hl} {x y : Hl} (h : Put H x y H') : x ∈ H := by
  induction h with
  | head => exact List.mem_cons_self
  | tail _ ih => exact List.mem_cons_of_mem _ ih
theorem Put.mem' {H H' : List Hl} {x y : Hl} (h : Put H x y H') : y ∈ H' := by
  induction h with
  | head => exact List.mem_cons_self
  | tail _ ih => exact List.mem_cons_of_mem _ ih
theorem Put.cases' {H H' : List Hl} {x y z : Hl} (h : Put H x y H') (hz : z ∈ H') : z = y ∨ z ∈ H := by
  induction h with
  | head => rcases List.mem_cons.1 hz with rfl | h; exact .inl rfl; exact .inr (List.mem_cons_of_mem _ h)
  | tail _ ih =>
    rcases List.mem_cons.1 hz with rfl | h
    · exact .inr List.mem_cons_self
    · rcases ih h with h | h
      · exact .inl h
      · exact .inr (List.mem_cons_of_mem _ h)
theorem Put.back {H H' : List Hl} {x y z : Hl} (h : Put H x y H') (hz : z ∈ H) : z = x ∨ z ∈ H' := by
  induction h with
  | head => rcases List.mem_cons.1 hz with rfl | h; exact .inl rfl; exact .inr (List.mem_cons_of_mem _ h)
  | tail _ ih =>
    rcases List.mem_cons.1 hz with rfl | h
    · exact .inr List.mem_cons_self
    · rcases ih h with h | h
      · exact .inl h
      · exact .inr (List.mem_cons_of_mem _ h)
/-- what is in H' beside y is apart from x. -/
theorem Put.apart {H H' : List Hl} {x y : Hl} (h : Put H x y H') (hp : H.Pairwise fun x y => ∀ b, x.at b → ¬ y.at b) :
    (∀ z ∈ H', z = y ∨ (z ∈ H ∧ ∀ b, z.at b → ¬ x.at b)) ∧ ((∀ b, y.at b → x.at b ∨ ∀ z ∈ H, ¬ z.at b) → H'.Pairwise fun x y => ∀ b, x.at b → ¬ y.at b) := by
  induction h with
  | head =>
    rename_i x y H
    obtain ⟨h1, h2⟩ := List.pairwise_cons.1 hp
    refine ⟨fun z hz => ?_, fun hy => List.pairwise_cons.2 ⟨fun z hz b hb hb' => ?_, h2⟩⟩
    · rcases List.mem_cons.1 hz with rfl | hz
      · exact .inl rfl
      · exact .inr ⟨List.mem_cons_of_mem _ hz, fun b hb hx => h1 z hz b hx hb⟩
    · rcases hy b hb with hx | hn
      · exact h1 z hz b hx hb'
      · exact hn z (List.mem_cons_of_mem _ hz) hb'
  | tail hP ih =>
    rename_i x y z H H'
    obtain ⟨h1, h2⟩ := List.pairwise_cons.1 hp
    obtain ⟨i1, i2⟩ := ih h2
    refine ⟨fun u hu => ?_, fun hy => List.pairwise_cons.2 ⟨fun u hu b hb hb' => ?_, i2 fun b hb => ?_⟩⟩
    · rcases List.mem_cons.1 hu with rfl | hu
      · exact .inr ⟨List.mem_cons_self, fun b hb hx => h1 x hP.mem b hb hx⟩
      · rcases i1 u hu with h | ⟨h, k⟩
        · exact .inl h
        · exact .inr ⟨List.mem_cons_of_mem _ h, k⟩
    · rcases i1 u hu with rfl | ⟨h, k⟩
      · rcases hy b hb' with hx | hn
        · exact h1 x hP.mem b hb hx
        · exact hn z List.mem_cons_self hb
      · exact h1 u h b hb hb'
    · rcases hy b hb with hx | hn
      · exact .inl hx
      · exact .inr fun u hu => hn u (List.mem_cons_of_mem _ hu)

/-- Something that owns no block. -/
theorem Hs.idle {ok : OkP} {w0 w : World} {H0 H : List Hl} {Γ : List PP} {x : Hl} (s : Hs ok w0 H0 H Γ w) (hx : ∀ b, ¬ x.at b) (hs : x.sat (okm ok (x :: H)) w.heap) : Hs ok w0 H0 (x :: H) Γ w := by
  have l : Lasts (okm ok H) (okm ok (x :: H)) w.heap w.heap := .of (Nat.le_refl _) fun b hb _ => ⟨⟨hb.1, fun y hy => by
    rcases List.mem_cons.1 hy with rfl | hy
    · exact hx b
    · exact hb.2 y hy⟩, rfl⟩
  refine ⟨s.fr, s.new, ?_, ?_, ?_, fun p hp => p.pers l (s.facts p hp)⟩
  · intro y hy
    rcases List.mem_cons.1 hy with rfl | hy
    · exact hs
    · exact Hl.sat_pers l (fun _ _ => rfl) (s.sat y hy)
  · intro y hy b hb
    rcases List.mem_cons.1 hy with rfl | hy
    · exact absurd hb (hx b)
    · exact s.lt y hy b hb
  · exact List.pairwise_cons.2 ⟨fun y hy b hb => absurd hb (hx b), s.apart⟩
theorem own_no_block {α : Type} {K : Kd α} {A : Option Addr} {t : TypeId} {xs : List α} (b : Nat) : ¬ (Hl.own K (.slice A 0 0) t xs).at b := by
  rintro ⟨n, c, e, h⟩
  simp only [Value.slice.injEq] at e
  omega
/-- The nil slice, as one of the call's own. -/
theorem Hs.own_nil {ok : OkP} {w0 w : World} {H0 H : List Hl} {Γ : List PP} (s : Hs ok w0 H0 H Γ w) {α : Type} (K : Kd α) (t : TypeId) {A : Option Addr} : Hs ok w0 H0 (.own K (.slice A 0 0) t [] :: H) Γ w :=
  s.idle own_no_block (.inl ⟨⟨A, rfl⟩, rfl⟩)

/-- One thing that the call owns is turned: nothing else is. y's blocks: x's, or new ones. -/
theorem Hs.put {ok : OkP} {w0 w w' : World} {H0 H H' : List Hl} {Γ : List PP} {x y : Hl} (s : Hs ok w0 H0 H Γ w) (hP : Put H x y H')
    (hos : w'.os = w.os) (ht : w'.tape = w.tape) (ho : OutD w' w) (hz : w.heap.size ≤ w'.heap.size)
    (hsame : ∀ b, b < w.heap.size → ¬ x.at b → w'.heap[b]? = w.heap[b]?)
    (hy : ∀ b, y.at b → b < w'.heap.size ∧ (x.at b ∨ w.heap.size ≤ b))
    (hs : Lasts (okm ok H) (okm ok H') w.heap w'.heap → y.sat (okm ok H') w'.heap) : Hs ok w0 H0 H' Γ w' := by
  obtain ⟨a1, a2⟩ := hP.apart s.apart
  have hxm := hP.mem
  have l : Lasts (okm ok H) (okm ok H') w.heap w'.heap := .of hz fun b hb hlt => ⟨⟨hb.1, fun z hz' hat => by
    rcases hP.cases' hz' with rfl | h
    · rcases (hy b hat).2 with h | h
      · exact hb.2 x hxm h
      · omega
    · exact hb.2 z h hat⟩, hsame b hlt (hb.2 x hxm)⟩
  have hylt : ∀ b, y.at b → x.at b ∨ ∀ z ∈ H, ¬ z.at b := fun b hb => by
    rcases (hy b hb).2 with h | h
    · exact .inl h
    · exact .inr fun z hz hat => by have := (s.lt z hz b hat).1; omega
  refine ⟨⟨hos.trans s.fr.os, ht.trans s.fr.tape, ho.trans s.fr.output, Nat.le_trans s.fr.size hz, fun b h1 h2 => ?_⟩, s.new, ?_, ?_, a2 hylt, fun p hp => p.pers l (s.facts p hp)⟩
  · rw [hsame b (by have := s.fr.size; omega) fun hat => by
      rcases (s.lt x hxm b hat).2 with h | ⟨u, hu, hat'⟩
      · omega
      · exact h2 u hu hat']
    exact s.fr.old b h1 h2
  · intro z hz'
    rcases a1 z hz' with rfl | ⟨h, k⟩
    · exact hs l
    · exact Hl.sat_pers l (fun b hb => hsame b (s.lt z h b hb).1 (k b hb)) (s.sat z h)
  · intro z hz' b hb
    rcases hP.cases' hz' with rfl | h
    · refine ⟨(hy b hb).1, ?_⟩
      rcases (hy b hb).2 with h | h
      · exact (s.lt x hxm b h).2
      · exact .inl (by have := s.fr.size; omega)
    · exact ⟨Nat.lt_of_lt_of_le (s.lt z h b hb).1 hz, (s.lt z h b hb).2⟩

/-- x is taken out of what the call owns. -/
inductive Del : List Hl → Hl → List Hl → Prop
  | head {x : Hl} {H : List Hl} : Del (x :: H) x H
  | tail {x z : Hl} {H H' : List Hl} : Del H x H' → Del (z :: H) x (z :: H')
theorem Del.mem {H H' : List Hl} {x : Hl} (h : Del H x H') : x ∈ H := by
  induction h with
  | head => exact List.mem_cons_self
  | tail _ ih => exact List.mem_cons_of_mem _ ih
theorem Del.sub {H H' : List Hl} {x : Hl} (h : Del H x H') : H'.Sublist H := by
  induction h with
  | head => exact List.sublist_cons_self _ _
  | tail _ ih => exact ih.cons_cons _
theorem Del.apart {H H' : List Hl} {x : Hl} (h : Del H x H') (hp : H.Pairwise fun x y => ∀ b, x.at b → ¬ y.at b) : ∀ z ∈ H', ∀ b, z.at b → ¬ x.at b := by
  induction h with
  | head => exact fun z hz b hb hx => (List.pairwise_cons.1 hp).1 z hz b hx hb
  | tail hd ih =>
    intro z hz b hb hx
    rcases List.mem_cons.1 hz with rfl | hz
    · exact (List.pairwise_cons.1 hp).1 _ hd.mem b hb hx
    · exact ih (List.pairwise_cons.1 hp).2 z hz b hb hx
theorem Hs.del {ok : OkP} {w0 w : World} {H0 H H' : List Hl} {Γ : List PP} {x : Hl} (s : Hs ok w0 H0 H Γ w) (hD : Del H x H') : Hs ok w0 H0 H' Γ w := by
  have l : Lasts (okm ok H) (okm ok H') w.heap w.heap := .of (Nat.le_refl _) fun b hb _ => ⟨⟨hb.1, fun z hz => hb.2 z (hD.sub.subset hz)⟩, rfl⟩
  exact ⟨s.fr, s.new, fun z hz => Hl.sat_pers l (fun _ _ => rfl) (s.sat z (hD.sub.subset hz)), fun z hz => s.lt z (hD.sub.subset hz), s.apart.sublist hD.sub, fun p hp => p.pers l (s.facts p hp)⟩
/-- What was built lasts from now on (where its block may be looked at). -/
theorem Hs.freeze {ok : OkP} {w0 w : World} {H0 H H' : List Hl} {Γ : List PP} {α : Type} {K : Kd α} {v : Value} {t : TypeId} {xs : List α} (s : Hs ok w0 H0 H Γ w) (hD : Del H (.own K v t xs) H')
    (hok : ∀ b, (Hl.own K v t xs).at b → ok b) : Hs ok w0 H0 H' (sl K v xs :: Γ) w := by
  have s' := s.del hD
  refine ⟨s'.fr, s'.new, s'.sat, s'.lt, s'.apart, fun p hp => ?_⟩
  rcases List.mem_cons.1 hp with rfl | hp
  · rcases s.sat _ hD.mem with ⟨⟨A, rfl⟩, rfl⟩ | ⟨B, cap, cs, junk, e, h0, h1, h2, h3, h4, h5⟩
    · exact ⟨A, 0, rfl, Nat.zero_le _, Nat.zero_le _, fun hp => absurd hp (Nat.lt_irrefl 0)⟩
    · have hat : (Hl.own K v t xs).at B := ⟨_, _, e, h0⟩
      have l : Lasts (okm ok H) (okm ok H') w.heap w.heap := .of (Nat.le_refl _) fun b hb _ => ⟨⟨hb.1, fun z hz => hb.2 z (hD.sub.subset hz)⟩, rfl⟩
      refine ⟨_, cap, e, h1, h2, fun _ => ⟨B, 0, cs, rfl, ⟨hok B hat, fun z hz hz' => hD.apart s.apart z hz B hz' hat⟩, (s.lt _ hD.mem B hat).1, h3.pers l, fun j hj => ?_⟩⟩
      unfold hcell
      rw [h5]
      simp [List.getElem?_append_left hj]
  · exact s'.facts p hp
/-- .. of a call that began with nothing. -/
theorem Hs.freeze0 {ok : OkP} {w0 w : World} {H H' : List Hl} {Γ : List PP} {α : Type} {K : Kd α} {v : Value} {t : TypeId} {xs : List α} (s : Hs ok w0 [] H Γ w) (hD : Del H (.own K v t xs) H') : Hs ok w0 [] H' (sl K v xs :: Γ) w :=
  s.freeze hD fun b hb => s.new b (by
    rcases (s.lt _ hD.mem b hb).2 with h | ⟨y, hy, _⟩
    · exact h
    · cases hy)
/-- A block that is not to be written any more. -/
theorem Hs.freezeB {ok : OkP} {w0 w : World} {H0 H H' : List Hl} {Γ : List PP} {B : Nat} {cs : List Value} {t : TypeId} (s : Hs ok w0 H0 H Γ w) (hD : Del H (.blk B cs t) H') (hok : ok B) : Hs ok w0 H0 H' (ro B cs t :: Γ) w := by
  have s' := s.del hD
  refine ⟨s'.fr, s'.new, s'.sat, s'.lt, s'.apart, fun p hp => ?_⟩
  rcases List.mem_cons.1 hp with rfl | hp
  · exact ⟨⟨hok, fun z hz hz' => hD.apart s.apart z hz B hz' rfl⟩, (s.lt _ hD.mem B rfl).1, s.sat _ hD.mem⟩
  · exact s'.facts p hp
theorem Hs.freezeB0 {ok : OkP} {w0 w : World} {H H' : List Hl} {Γ : List PP} {B : Nat} {cs : List Value} {t : TypeId} (s : Hs ok w0 [] H Γ w) (hD : Del H (.blk B cs t) H') : Hs ok w0 [] H' (ro B cs t :: Γ) w :=
  s.freezeB hD (s.new B (by
    rcases (s.lt _ hD.mem B rfl).2 with h | ⟨y, hy, _⟩
    · exact h
    · cases hy))
theorem Hs.perm {ok : OkP} {w0 w : World} {H0 H H' : List Hl} {Γ : List PP} (s : Hs ok w0 H0 H Γ w) (p : H.Perm H') : Hs ok w0 H0 H' Γ w := by
  have l : Lasts (okm ok H) (okm ok H') w.heap w.heap := .of (Nat.le_refl _) fun b hb _ => ⟨⟨hb.1, fun z hz => hb.2 z (p.mem_iff.2 hz)⟩, rfl⟩
  exact ⟨s.fr, s.new, fun x hx => Hl.sat_pers l (fun _ _ => rfl) (s.sat x (p.mem_iff.2 hx)), fun x hx => s.lt x (p.mem_iff.2 hx),
    (p.pairwise_iff (fun {x y} h b hb hb' => h b hb' hb)).1 s.apart, fun q hq => q.pers l (s.facts q hq)⟩
/-- At the end: nothing is owned any more. -/
theorem Hs.fin {ok : OkP} {w0 w : World} {H0 H : List Hl} {Γ Γ' : List PP} (s : Hs ok w0 H0 H Γ w) (h : ∀ p ∈ Γ', p ∈ Γ) : Hs ok w0 H0 [] Γ' w := by
  have l : Lasts (okm ok H) (okm ok []) w.heap w.heap := .of (Nat.le_refl _) fun b hb _ => ⟨⟨hb.1, (fun z hz => by cases hz)⟩, rfl⟩
  exact ⟨s.fr, s.new, (fun z hz => by cases hz), (fun z hz => by cases hz), List.Pairwise.nil, fun p hp => p.pers l (s.facts p (h p hp))⟩

/-! ### A call: what the callee is handed, and what stays with the caller -/
inductive Dels : List Hl → List Hl → List Hl → Prop
  | nil {H : List Hl} : Dels H [] H
  | cons {x : Hl} {H H' H1 R : List Hl} : Del H x H' → Dels H' H1 R → Dels H (x :: H1) R
theorem Dels.mem {H H1 R : List Hl} (d : Dels H H1 R) : (∀ x ∈ H1, x ∈ H) ∧ (∀ x ∈ R, x ∈ H) := by
  induction d with
  | nil => exact ⟨(fun x hx => by cases hx), fun x hx => hx⟩
  | cons hd _ ih =>
    refine ⟨fun x hx => ?_, fun x hx => hd.sub.subset (ih.2 x hx)⟩
    rcases List.mem_cons.1 hx with rfl | hx
    · exact hd.mem
    · exact hd.sub.subset (ih.1 x hx)
theorem Del.all {H H' : List Hl} {x : Hl} (d : Del H x H') : ∀ z ∈ H, z = x ∨ z ∈ H' := by
  induction d with
  | head => exact fun z hz => List.mem_cons.1 hz
  | tail _ ih =>
    intro z hz
    rcases List.mem_cons.1 hz with rfl | hz
    · exact .inr List.mem_cons_self
    · rcases ih z hz with h | h
      · exact .inl h
      · exact .inr (List.mem_cons_of_mem _ h)
theorem Dels.all {H H1 R : List Hl} (d : Dels H H1 R) : ∀ z ∈ H, z ∈ H1 ∨ z ∈ R := by
  induction d with
  | nil => exact fun z hz => .inr hz
  | cons hd _ ih =>
    intro z hz
    rcases hd.all z hz with rfl | h
    · exact .inl List.mem_cons_self
    · rcases ih z h with h | h
      · exact .inl (List.mem_cons_of_mem _ h)
      · exact .inr h
theorem Dels.apart {H H1 R : List Hl} (d : Dels H H1 R) (hp : H.Pairwise fun x y => ∀ b, x.at b → ¬ y.at b) :
    H1.Pairwise (fun x y => ∀ b, x.at b → ¬ y.at b) ∧ R.Pairwise (fun x y => ∀ b, x.at b → ¬ y.at b) ∧ ∀ x ∈ H1, ∀ y ∈ R, ∀ b, x.at b → ¬ y.at b := by
  induction d with
  | nil => exact ⟨List.Pairwise.nil, hp, (fun x hx => by cases hx)⟩
  | cons hd hds ih =>
    obtain ⟨i1, i2, i3⟩ := ih (hp.sublist hd.sub)
    have ha := hd.apart hp
    refine ⟨List.pairwise_cons.2 ⟨fun y hy b hb hb' => ha y (hds.mem.1 y hy) b hb' hb, i1⟩, i2, fun x hx y hy b hb hb' => ?_⟩
    rcases List.mem_cons.1 hx with rfl | hx
    · exact ha y (hds.mem.2 y hy) b hb' hb
    · exact i3 x hx y hy b hb hb'

theorem Hs.into {ok : OkP} {w0 w : World} {H0 H H1 R : List Hl} {Γ Γ1 : List PP} (s : Hs ok w0 H0 H Γ w) (d : Dels H H1 R) (hΓ : ∀ p ∈ Γ1, p ∈ Γ) : Hs (fun b => ok b ∧ ∀ x ∈ R, ¬ x.at b) w H1 H1 Γ1 w := by
  have l : Lasts (okm ok H) (okm (fun b => ok b ∧ ∀ x ∈ R, ¬ x.at b) H1) w.heap w.heap := .of (Nat.le_refl _) fun b hb _ => ⟨⟨⟨hb.1, fun z hz => hb.2 z (d.mem.2 z hz)⟩, fun z hz => hb.2 z (d.mem.1 z hz)⟩, rfl⟩
  obtain ⟨a1, a2, a3⟩ := d.apart s.apart
  refine ⟨Fr.refl _ _, fun b hb => ⟨s.new b (Nat.le_trans s.fr.size hb), fun x hx hat => ?_⟩, fun x hx => Hl.sat_pers l (fun _ _ => rfl) (s.sat x (d.mem.1 x hx)), fun x hx b hb => ⟨(s.lt x (d.mem.1 x hx) b hb).1, .inr ⟨x, hx, hb⟩⟩, a1, fun p hp => p.pers l (s.facts p (hΓ p hp))⟩
  have := (s.lt x (d.mem.2 x hx) b hat).1
  omega
theorem Hs.back {ok : OkP} {w0 w w' : World} {H0 H H1 R H2 : List Hl} {Γ Γ2 : List PP} (s : Hs ok w0 H0 H Γ w) (d : Dels H H1 R) (k : Hs (fun b => ok b ∧ ∀ x ∈ R, ¬ x.at b) w H1 H2 Γ2 w') : Hs ok w0 H0 (H2 ++ R) (Γ2 ++ Γ) w' := by
  obtain ⟨a1, a2, a3⟩ := d.apart s.apart
  have hold : ∀ b, b < w.heap.size → (∀ y ∈ H1, ¬ y.at b) → w'.heap[b]? = w.heap[b]? := k.fr.old
  have hR : ∀ x ∈ R, ∀ b, x.at b → b < w.heap.size ∧ w'.heap[b]? = w.heap[b]? := fun x hx b hb =>
    have hlt := (s.lt x (d.mem.2 x hx) b hb).1
    ⟨hlt, hold b hlt fun y hy hat => a3 y hy x hx b hat hb⟩
  have h2R : ∀ x ∈ H2, ∀ y ∈ R, ∀ b, x.at b → ¬ y.at b := fun x hx y hy b hb hb' => by
    rcases (k.lt x hx b hb).2 with h | ⟨z, hz, hz'⟩
    · have := (hR y hy b hb').1; omega
    · exact a3 z hz y hy b hz' hb'
  -- what the caller's facts look at lasts
  have l : Lasts (okm ok H) (okm ok (H2 ++ R)) w.heap w'.heap := .of k.fr.size fun b hb hlt => ⟨⟨hb.1, fun z hz hat => by
    rcases List.mem_append.1 hz with hz | hz
    · rcases (k.lt z hz b hat).2 with h | ⟨y, hy, hy'⟩
      · omega
      · exact hb.2 y (d.mem.1 y hy) hy'
    · exact hb.2 z (d.mem.2 z hz) hat⟩, hold b hlt fun y hy hat => hb.2 y (d.mem.1 y hy) hat⟩
  have l2 : Lasts (okm (fun b => ok b ∧ ∀ x ∈ R, ¬ x.at b) H2) (okm ok (H2 ++ R)) w'.heap w'.heap := .of (Nat.le_refl _) fun b hb _ => ⟨⟨hb.1.1, fun z hz => by
    rcases List.mem_append.1 hz with hz | hz
    · exact hb.2 z hz
    · exact hb.1.2 z hz⟩, rfl⟩
  refine ⟨⟨k.fr.os.trans s.fr.os, k.fr.tape.trans s.fr.tape, k.fr.output.trans s.fr.output, Nat.le_trans s.fr.size k.fr.size, fun b h1 h2 => ?_⟩, s.new, ?_, ?_, ?_, ?_⟩
  · rw [hold b (Nat.lt_of_lt_of_le h1 s.fr.size) fun y hy hat => by
      rcases (s.lt y (d.mem.1 y hy) b hat).2 with h | ⟨z, hz, hz'⟩
      · omega
      · exact h2 z hz hz']
    exact s.fr.old b h1 h2
  · intro x hx
    rcases List.mem_append.1 hx with hx | hx
    · exact Hl.sat_pers l2 (fun _ _ => rfl) (k.sat x hx)
    · exact Hl.sat_pers l (fun b hb => (hR x hx b hb).2) (s.sat x (d.mem.2 x hx))
  · intro x hx b hb
    rcases List.mem_append.1 hx with hx | hx
    · refine ⟨(k.lt x hx b hb).1, ?_⟩
      rcases (k.lt x hx b hb).2 with h | ⟨y, hy, hy'⟩
      · exact .inl (Nat.le_trans s.fr.size h)
      · exact (s.lt y (d.mem.1 y hy) b hy').2
    · exact ⟨Nat.lt_of_lt_of_le (hR x hx b hb).1 k.fr.size, (s.lt x (d.mem.2 x hx) b hb).2⟩
  · exact List.pairwise_append.2 ⟨k.apart, a2, fun x hx y hy b hb => h2R x hx y hy b hb⟩
  · intro p hp
    rcases List.mem_append.1 hp with hp | hp
    · exact p.pers l2 (k.facts p hp)
    · exact p.pers l (s.facts p hp)

/-! ### What is handed on unopened -/
def pk (H : List Hl) (Γ : List PP) : Opq where
  at_ b := ∃ x ∈ H, x.at b
  sat_ ok h := (∀ x ∈ H, x.sat (okm ok H) h) ∧ (∀ p ∈ Γ, p.p (okm ok H) h) ∧ H.Pairwise fun x y => ∀ b, x.at b → ¬ y.at b
  pers_ := fun {ok ok' h h'} l hb ⟨h1, h2, h3⟩ => by
    have l' : Lasts (okm ok H) (okm ok' H) h h' := fun b hok hlt => ⟨⟨(l b hok.1 hlt).1, hok.2⟩, (l b hok.1 hlt).2⟩
    exact ⟨fun x hx => Hl.sat_pers l' (fun b hat => hb b ⟨x, hx, hat⟩) (h1 x hx), fun p hp => p.pers l' (h2 p hp), h3⟩
theorem Hs.open_ {ok : OkP} {w0 w : World} {H0 H : List Hl} {Γ0 Γ Γ' : List PP} (s : Hs ok w0 [.opq (pk H0 Γ0)] [.opq (pk H Γ)] Γ' w) : Hs ok w0 H0 H (Γ ++ Γ') w := by
  have hm : Hl.opq (pk H Γ) ∈ [Hl.opq (pk H Γ)] := List.mem_cons_self
  obtain ⟨h1, h2, h3⟩ := s.sat _ hm
  have l1 : Lasts (okm (okm ok [.opq (pk H Γ)]) H) (okm ok H) w.heap w.heap := .of (Nat.le_refl _) fun b hb _ => ⟨⟨hb.1.1, hb.2⟩, rfl⟩
  have l2 : Lasts (okm ok [.opq (pk H Γ)]) (okm ok H) w.heap w.heap := .of (Nat.le_refl _) fun b hb _ => ⟨⟨hb.1, fun x hx hat => hb.2 _ hm ⟨x, hx, hat⟩⟩, rfl⟩
  refine ⟨⟨s.fr.os, s.fr.tape, s.fr.output, s.fr.size, fun b hb hn => s.fr.old b hb fun y hy hat => ?_⟩, s.new, fun x hx => Hl.sat_pers l1 (fun _ _ => rfl) (h1 x hx), fun x hx b hat => ?_, h3, fun p hp => ?_⟩
  · rw [List.mem_singleton] at hy; subst hy
    obtain ⟨x, hx, hx'⟩ := hat
    exact hn x hx hx'
  · obtain ⟨g1, g2⟩ := s.lt _ hm b ⟨x, hx, hat⟩
    refine ⟨g1, g2.imp id ?_⟩
    rintro ⟨y, hy, hy'⟩
    rw [List.mem_singleton] at hy; subst hy
    exact hy'
  · rcases List.mem_append.1 hp with hp | hp
    · exact p.pers l1 (h2 p hp)
    · exact p.pers l2 (s.facts p hp)
theorem Hs.close_ {ok : OkP} {w0 w : World} {H0 H : List Hl} {Γ0 Γ : List PP} (s : Hs ok w0 H0 H Γ w) : Hs ok w0 [.opq (pk H0 Γ0)] [.opq (pk H Γ)] Γ w := by
  have l1 : Lasts (okm ok H) (okm (okm ok [.opq (pk H Γ)]) H) w.heap w.heap := .of (Nat.le_refl _) fun b hb _ => ⟨⟨⟨hb.1, fun x hx hat => by
    rw [List.mem_singleton] at hx; subst hx
    obtain ⟨y, hy, hy'⟩ := hat
    exact hb.2 y hy hy'⟩, hb.2⟩, rfl⟩
  have l2 : Lasts (okm ok H) (okm ok [.opq (pk H Γ)]) w.heap w.heap := .of (Nat.le_refl _) fun b hb _ => ⟨⟨hb.1, fun x hx hat => by
    rw [List.mem_singleton] at hx; subst hx
    obtain ⟨y, hy, hy'⟩ := hat
    exact hb.2 y hy hy'⟩, rfl⟩
  refine ⟨⟨s.fr.os, s.fr.tape, s.fr.output, s.fr.size, fun b hb hn => s.fr.old b hb fun y hy hat => hn _ List.mem_cons_self ⟨y, hy, hat⟩⟩, s.new, fun x hx => ?_, fun x hx b hat => ?_, List.pairwise_singleton _ _, fun p hp => p.pers l2 (s.facts p hp)⟩
  · rw [List.mem_singleton] at hx; subst hx
    exact ⟨fun x hx => Hl.sat_pers l1 (fun _ _ => rfl) (s.sat x hx), fun p hp => p.pers l1 (s.facts p hp), s.apart⟩
  · rw [List.mem_singleton] at hx; subst hx
    obtain ⟨x, hx, hx'⟩ := hat
    obtain ⟨g1, g2⟩ := s.lt x hx b hx'
    exact ⟨g1, g2.imp id fun ⟨y, hy, hy'⟩ => ⟨_, List.mem_cons_self, y, hy, hy'⟩⟩
theorem Dels.whole : ∀ (H : List Hl), Dels H H []
  | [] => .nil
  | x :: H => .cons .head (Dels.whole H)
end Go.Proofs.Ytjgacbopccfecaa
