/-
  More rules: max; a slice of three bounds; append onto a full slice that lasts; a loop that tells facts by its ghost.
-/
import Derived.Test.YtjgacbopccfecaaBi
set_option linter.unusedVariables false
set_option linter.unusedSimpArgs false
namespace Go.Proofs.Ytjgacbopccfecaa
section
variable {C : Cx} {l : List (Nat × Value)} {H : List Hl} {Γ : List PP} {dst : Option Tmp} {ty : TypeId} {pos : String} {after : Array Edge} {g : Option (Nat × Bool)}

theorem v_maxr {x y : Operand} {p q r : Int} {ts : Array TypeId} (hx : ev l x = some (.int .i64 p)) (hy : ev l y = some (.int .i64 q)) (hr : (if p < q then q else p) = r) : OpV C ⟨dst, .call { callee := .builtin .max, args := #[x, y], argTypes := ts }, ty, pos, after, g⟩ l H Γ (.int .i64 r) :=
  opv_of (fun c => by simp) fun a w s => by
    subst hr
    simp only [execOp, resolve, List.map_toArray, List.map_cons, List.map_nil, s.ev hx, s.ev hy]
    by_cases h : p < q <;> simp [invoke, builtin, go_sem, h, Builtin.max_, Builtin.max2]

/-- xs[:n:n] of a slice that lasts: full. -/
theorem l_slice3 {α : Type} {K : Kd α} {x hi mx : Operand} {v : Value} {xs : List α} {t e : TypeId} {n : Nat} (hx : ev l x = some v) (h : sl K v xs ∈ Γ) (hu : ∀ w, (underlying t).run C.P w = .ok (.slice e) w) (hz : ∀ w, (sizeOf e).run C.P w = .ok K.sz w)
    (hhi : ev l hi = some (.int .i64 n)) (hmx : ev l mx = some (.int .i64 n)) (hn : n ≤ xs.length) :
    OpL C ⟨dst, .slice t x none (some hi) (some mx), ty, pos, after, g⟩ l H Γ (Option Addr) (fun A => .slice A n n) (fun A => [sl K (.slice A n n) (xs.take n)]) := ⟨fun c => by simp, fun a w s => by
  obtain ⟨A, c, e0, h1, h2, h3⟩ := s.hs.facts _ h
  have hlen : (xs.take n).length = n := by rw [List.length_take]; omega
  have hnc : n ≤ c := by omega
  refine ⟨(if n = 0 then A else A.map (·.add (0 * K.sz))), fun w' _ => ?_, fun p hp => ?_⟩
  · have e1 := s.ev hx
    have e2 := s.ev hhi
    have e3 := s.ev hmx
    simp only [execOp, e1, e0, Option.map_none, Option.map_some, e2, e3]
    simp [Instr.sliceAt, Instr.slice, Instr.sliceBounds, Instr.sliceBound, hu, hz, asIntOf, hnc]
  · rw [List.mem_singleton] at hp; subst hp
    refine ⟨_, n, by rw [hlen], by rw [hlen]; exact Nat.le_refl _, by omega, fun hpos => ?_⟩
    rw [hlen] at hpos
    obtain ⟨b, o, cs, eA, hok, hlt, hr, hc⟩ := h3 (by omega)
    have r1 := (hr.split n).1
    refine ⟨b, o, _, by rw [if_neg (by omega), eA, Nat.zero_mul]; simp [addr_add], hok, hlt, r1, fun m hm => ?_⟩
    have hl := hr.len
    rw [List.length_take] at hm
    rw [hc _ (by omega), List.getElem?_take, if_pos (by omega)]⟩

/-- append(s, y..) where s is full: a new slice that lasts. -/
theorem q_appendN {α : Type} {K : Kd α} {x y : Operand} {t e : TypeId} {A : Option Addr} {n : Nat} {vy z : Value} {xs ys : List α} {inf : TypeInfo} (hx : ev l x = some (.slice A n n)) (hy : ev l y = some vy) (hxs : sl K (.slice A n n) xs ∈ Γ) (hs : Row C H Γ K vy ys) (hn : xs.length = n) (hp : 0 < ys.length)
    (hu : ∀ w, (underlying t).run C.P w = .ok (.slice e) w) (hz : ∀ w, (sizeOf e).run C.P w = .ok K.sz w) (hzero : ∀ w, (zeroValue e).run C.P w = .ok z w) (hzs : z.cells.size = K.sz) (hinf : ∀ w, (typeInfo e).run C.P w = .ok inf w) (hb : inf.bytes ≤ 1000)
    (hpos : 0 < K.sz) (hlen : xs.length + ys.length ≤ 1000000) :
    OpQ C ⟨dst, .call { callee := .builtin .append, args := #[x, y], argTypes := #[t, t] }, ty, pos, after, g⟩ l H Γ Value (fun v => v) (fun v => [sl K v (xs ++ ys)]) := fun a w s => by
  obtain ⟨ds, cy, Ay, ey, hrd, hld, hfirst⟩ := row_first hs s
  obtain ⟨cs, cx, Ax, ex, hrc, hlc, hfirstx⟩ := row_first (.inl hxs : Row C H Γ K (.slice A n n) xs) s
  subst hn
  simp only [Value.slice.injEq, true_and] at ex
  obtain ⟨rfl, rfl⟩ := ex
  have eqx := s.ev hx
  have eqy := s.ev hy
  have hyl : (Builtin.lenOf vy).run C.P w = .ok ys.length w := by rw [ey]; rfl
  have hfit : ¬ xs.length + ys.length ≤ xs.length := by omega
  have hneed : xs.length < xs.length + ys.length := by omega
  have hnx := nextcap_le hlen hneed
  have hmul : Builtin.nextslicecap (xs.length + ys.length) xs.length * inf.bytes ≤ 300000000 * 1000 := Nat.mul_le_mul hnx hb
  obtain ⟨w1, hw1⟩ : ∃ w1 : World, w1 = { w with drawn := w.drawn + 1 } := ⟨_, rfl⟩
  obtain ⟨nc, hnc⟩ : ∃ nc, nc = (Question.appendCap (xs.length + ys.length) xs.length e).cut (w.tape w.drawn (Question.appendCap (xs.length + ys.length) xs.length e)) := ⟨_, rfl⟩
  have hnc1 : xs.length + ys.length ≤ nc := by rw [hnc]; simp [Question.cut]
  have hnc2 : nc ≤ maxN := by
    rw [hnc]; simp only [Question.cut, maxN]
    have := Nat.mod_lt (w.tape w.drawn (Question.appendCap (xs.length + ys.length) xs.length e)) (show 0 < 2 ^ 63 - (xs.length + ys.length) by omega)
    omega
  have hsame : ∀ b, (∃ y ∈ H, y.at b) ∨ okm C.ok H b → b < w.heap.size → w1.heap[b]? = w.heap[b]? := fun _ _ _ => by rw [hw1]
  obtain ⟨rest, hrest⟩ : ∃ rest, rest = Builtin.zeroCells z.cells (nc - (xs.length + ys.length)) := ⟨_, rfl⟩
  have hrl : rest.size = (nc - (xs.length + ys.length)) * K.sz := by rw [hrest]; simp [Builtin.zeroCells, hzs]
  have hrun : (execOp a.eval ⟨dst, .call { callee := .builtin .append, args := #[x, y], argTypes := #[t, t] }, ty, pos, after, g⟩).run C.P w = .ok (.value (.slice (some ⟨w.heap.size, 0, none⟩) (xs.length + ys.length) nc)) (w1.alloc (.cells (cs ++ ds ++ rest.toList).toArray e)) := by
    simp only [execOp, resolve, List.map_toArray, List.map_cons, List.map_nil, eqx, eqy, Sem.run_bind, Sem.run_pure, Result.andThen, invoke, builtin, Builtin.append_]
    simp only [List.getElem?_toArray, List.getElem?_cons_zero, List.getElem?_cons_succ, Sem.run_bind, hu, Result.andThen, hz]
    have hfx := hfirstx w1 hsame
    have hfy := hfirst w1 hsame
    simp only [Sem.run_bind, hu, Result.andThen, hz, Sem.run_pure]
    simp only [Bool.false_eq_true, if_false, Sem.run_bind, hyl, Result.andThen, Bool.not_false, hfit, hinf, false_or]
    have hbig : ¬ ((((xs.length + ys.length : Nat) : Int) > IntKind.i64.max) ∧ inf.bytes = 0) := by
      rintro ⟨h, _⟩
      have : IntKind.i64.max = 9223372036854775807 := by decide
      omega
    have hnx : ¬ Builtin.nextslicecap (xs.length + ys.length) xs.length * inf.bytes > 2 ^ 48 := by omega
    rw [if_neg hbig]
    simp only [Sem.run_bind, hinf, Result.andThen]
    rw [if_neg hnx]
    simp only [choose, Sem.run_bind, Sem.run, Question.forced, Bool.false_eq_true, if_false, Result.andThen, ← hnc, ← hw1]
    have hask : (askRoom (nc * inf.bytes)).run C.P w1 = .ok () w1 := by
      unfold askRoom; split
      · simp [mark, Sem.run]
      · rfl
    simp only [hinf, hask, hfx, hfy, if_true, hzero, Sem.run_bind, Result.andThen, Sem.run_pure]
    have hh : w1.heap.size = w.heap.size := by rw [hw1]
    simp only [← hrest, run_newRow, hh]
    have ecs : cs.toArray ++ ds.toArray ++ rest = (cs ++ ds ++ rest.toList).toArray := by simp
    rw [ecs]
  refine (doesV_run (fun c => by simp) hrun).mono ?_
  rintro v' w'' ⟨rfl, rfl⟩
  have hext : Ext w (w1.alloc (.cells (cs ++ ds ++ rest.toList).toArray e)) := by
    have := (drew_ext w).trans (alloc_ext { w with drawn := w.drawn + 1 } (.cells (cs ++ ds ++ rest.toList).toArray e))
    rw [← hw1] at this; exact this
  have hat : (w1.alloc (.cells (cs ++ ds ++ rest.toList).toArray e)).heap[w.heap.size]? = some (.cells (cs ++ ds ++ rest.toList).toArray e (0, 0)) := by
    have := alloc_at w1 (.cells (cs ++ ds ++ rest.toList).toArray e)
    rw [hw1] at this ⊢; exact this
  have hsz : (w1.alloc (.cells (cs ++ ds ++ rest.toList).toArray e)).heap.size = w.heap.size + 1 := by rw [hw1]; simp
  refine ⟨_, rfl, hext, fun p hp' => ?_⟩
  rw [List.mem_singleton] at hp'; subst hp'
  have l1 : Lasts (okm C.ok H) (okm C.ok H) w.heap (w1.alloc (.cells (cs ++ ds ++ rest.toList).toArray e)).heap := hext.lasts fun _ h _ => h
  refine ⟨_, nc, by rw [List.length_append], by rw [List.length_append]; exact hnc1, hnc2, fun _ => ⟨w.heap.size, 0, cs ++ ds, rfl, ⟨s.hs.new _ s.hs.fr.size, fun y hy' hat' => ?_⟩, by omega, (hrc.app hrd).pers l1, fun j hj => ?_⟩⟩
  · have := (s.hs.lt y hy' _ hat').1; omega
  · unfold hcell; rw [hat]; simp only [Nat.zero_add, List.getElem?_toArray]; rw [List.getElem?_append_left hj]
end
section
variable {C : Cx} {Q : Exit → Act → World → Prop} {l : List (Nat × Value)} {H : List Hl} {Γ : List PP}
/-- A loop: what turns is told ahead of what stays; the ghost tells facts, too. -/
theorem j_loopF {G : Type} {c : Code} (Ls : List (Nat × Value)) (Ld : G → List (Nat × Value) → List (Nat × Value)) (Hd : G → List Hl → List Hl) (Γd : G → List PP) {Hst : List Hl} (good : G → Prop) (μ : G → Nat) (g0 : G) (hg0 : good g0)
    (hl : ∀ t v, look (Ld g0 Ls) t = some v → look l t = some v) (hh : ∀ w, Hs C.ok C.w0 C.H0 H Γ w → Hs C.ok C.w0 C.H0 (Hd g0 Hst) (Γd g0 ++ Γ) w)
    (round : ∀ g, good g → J C (Exit.then (fun a w => ∃ g', good g' ∧ μ g' < μ g ∧ Sat C (Ld g' Ls) (Hd g' Hst) (Γd g' ++ Γ) a w) Q) c (Ld g Ls) (Hd g Hst) (Γd g ++ Γ)) : J C Q (.loop c) l H Γ :=
  j_loop (fun g => Ld g Ls) (fun g => Hd g Hst) (fun g => Γd g ++ Γ) good μ g0 hg0 hl hh round
end
end Go.Proofs.Ytjgacbopccfecaa
