/-
  An empty list written out, and append onto it, as operations that turn nothing that was there.
-/
import Derived.Test.YtjgacbopccfecaaBk
set_option linter.unusedVariables false
set_option linter.unusedSimpArgs false
namespace Go.Proofs.Ytjgacbopccfecaa
section
variable {C : Cx} {l : List (Nat × Value)} {H : List Hl} {Γ : List PP} {dst : Option Tmp} {ty : TypeId} {pos : String} {after : Array Edge} {g : Option (Nat × Bool)}
theorem q_lit0 {t e : TypeId} {ps : List (Nat × Operand)} (hps : ps = []) (hu : ∀ w, (underlying t).run C.P w = .ok (.slice e) w) {n : Nat} (hz : ∀ w, (sizeOf e).run C.P w = .ok n w) :
    OpQ C ⟨dst, .buildSlice t 0 ps.toArray, ty, pos, after, g⟩ l H Γ Nat (fun B => .slice (some ⟨B, 0, none⟩) 0 0) (fun _ => []) := fun a w s => by
  subst hps
  have e0 : ∀ f : Nat → Value, (Array.range 0).map f = #[] := fun f => Array.eq_empty_of_size_eq_zero (by simp)
  have hrun : (execOp a.eval ⟨dst, .buildSlice t 0 ([] : List (Nat × Operand)).toArray, ty, pos, after, g⟩).run C.P w = .ok (.value (.slice (some ⟨w.heap.size, 0, none⟩) 0 0)) (w.alloc (.cells #[] e)) := by
    simp [execOp, Instr.buildSlice, hu, hz, Instr.fill, run_newRow, e0]
  refine (doesV_run (fun c => by simp) hrun).mono ?_
  rintro v' w'' ⟨rfl, rfl⟩
  exact ⟨_, rfl, alloc_ext _ _, (fun p hp => by cases hp)⟩

theorem e_append0 {α : Type} {K : Kd α} {x y : Operand} {t e : TypeId} {A : Option Addr} {vy z : Value} {ys : List α} {inf : TypeInfo} (hx : ev l x = some (.slice A 0 0)) (hy : ev l y = some vy) (hs : Row C H Γ K vy ys)
    (hu : ∀ w, (underlying t).run C.P w = .ok (.slice e) w) (hz : ∀ w, (sizeOf e).run C.P w = .ok K.sz w) (hzero : ∀ w, (zeroValue e).run C.P w = .ok z w) (hzs : z.cells.size = K.sz) (hinf : ∀ w, (typeInfo e).run C.P w = .ok inf w) (hb : inf.bytes ≤ 1000)
    (hpos : 0 < K.sz) (hlen : ys.length ≤ 1000000) :
    OpE C ⟨dst, .call { callee := .builtin .append, args := #[x, y], argTypes := #[t, t] }, ty, pos, after, g⟩ l H Γ Value (fun v => v) (fun v => .own K v e ys :: H) := fun a w s => by
  obtain ⟨ds, cy, Ay, ey, hrd, hld, hfirst⟩ := row_first hs s
  have eqx := s.ev hx
  have eqy := s.ev hy
  have hyl : (Builtin.lenOf vy).run C.P w = .ok ys.length w := by rw [ey]; rfl
  have hsame0 : ∀ b, (∃ y ∈ H, y.at b) ∨ okm C.ok H b → b < w.heap.size → w.heap[b]? = w.heap[b]? := fun _ _ _ => rfl
  by_cases hy0 : ys = []
  · subst hy0
    have hds : ds = [] := List.eq_nil_of_length_eq_zero (by simpa using hld)
    subst hds
    have hf0 : ∀ w', (Builtin.firstCells K.sz 0 (.slice A 0 0)).run C.P w' = .ok #[] w' := fun w' => run_first0
    have hrun : (execOp a.eval ⟨dst, .call { callee := .builtin .append, args := #[x, y], argTypes := #[t, t] }, ty, pos, after, g⟩).run C.P w = .ok (.value (.slice A 0 0)) w := by
      simp only [execOp, resolve, List.map_toArray, List.map_cons, List.map_nil, eqx, eqy, Sem.run_bind, Sem.run_pure, Result.andThen, invoke, builtin, Builtin.append_]
      simp only [List.getElem?_toArray, List.getElem?_cons_zero, List.getElem?_cons_succ, Sem.run_bind, hu, Result.andThen, hz]
      simp only [Sem.run_bind, hu, Result.andThen, hz, Sem.run_pure]
      simp only [Bool.false_eq_true, if_false, Sem.run_bind, hyl, Result.andThen, List.length_nil, Nat.add_zero, Nat.zero_le, if_true, Bool.not_false]
      have hf := hfirst w hsame0
      simp only [List.length_nil] at hf
      rw [hf]
      cases A <;> simp [storeCells]
    refine (doesV_run (fun c => by simp) hrun).mono ?_
    rintro v' w'' ⟨rfl, rfl⟩
    exact ⟨_, rfl, Ext.refl _, s.hs.own_nil K e⟩
  have hp : 0 < ys.length := List.length_pos_iff.2 hy0
  have hfit : ¬ 0 + ys.length ≤ 0 := by omega
  have hnx := nextcap_le (need := 0 + ys.length) (cap := 0) (by omega) (by omega)
  have hmul : Builtin.nextslicecap (0 + ys.length) 0 * inf.bytes ≤ 300000000 * 1000 := Nat.mul_le_mul hnx hb
  obtain ⟨w1, hw1⟩ : ∃ w1 : World, w1 = { w with drawn := w.drawn + 1 } := ⟨_, rfl⟩
  obtain ⟨nc, hnc⟩ : ∃ nc, nc = (Question.appendCap (0 + ys.length) 0 e).cut (w.tape w.drawn (Question.appendCap (0 + ys.length) 0 e)) := ⟨_, rfl⟩
  have hnc1 : 0 + ys.length ≤ nc := by rw [hnc]; simp [Question.cut]
  have hnc2 : nc ≤ maxN := by
    rw [hnc]; simp only [Question.cut, maxN]
    have := Nat.mod_lt (w.tape w.drawn (Question.appendCap (0 + ys.length) 0 e)) (show 0 < 2 ^ 63 - (0 + ys.length) by omega)
    omega
  have hsame : ∀ b, (∃ y ∈ H, y.at b) ∨ okm C.ok H b → b < w.heap.size → w1.heap[b]? = w.heap[b]? := fun _ _ _ => by rw [hw1]
  obtain ⟨rest, hrest⟩ : ∃ rest, rest = Builtin.zeroCells z.cells (nc - (0 + ys.length)) := ⟨_, rfl⟩
  have hrl : rest.size = (nc - (0 + ys.length)) * K.sz := by rw [hrest]; simp [Builtin.zeroCells, hzs]
  have hrun : (execOp a.eval ⟨dst, .call { callee := .builtin .append, args := #[x, y], argTypes := #[t, t] }, ty, pos, after, g⟩).run C.P w = .ok (.value (.slice (some ⟨w.heap.size, 0, none⟩) (0 + ys.length) nc)) (w1.alloc (.cells (ds ++ rest.toList).toArray e)) := by
    simp only [execOp, resolve, List.map_toArray, List.map_cons, List.map_nil, eqx, eqy, Sem.run_bind, Sem.run_pure, Result.andThen, invoke, builtin, Builtin.append_]
    simp only [List.getElem?_toArray, List.getElem?_cons_zero, List.getElem?_cons_succ, Sem.run_bind, hu, Result.andThen, hz]
    have hfx : (Builtin.firstCells K.sz 0 (.slice A 0 0)).run C.P w1 = .ok #[] w1 := run_first0
    have hfy := hfirst w1 hsame
    simp only [Sem.run_bind, hu, Result.andThen, hz, Sem.run_pure]
    simp only [Bool.false_eq_true, if_false, Sem.run_bind, hyl, Result.andThen, Bool.not_false, hfit, hinf, false_or]
    have hbig : ¬ ((((0 + ys.length : Nat) : Int) > IntKind.i64.max) ∧ inf.bytes = 0) := by
      rintro ⟨h, _⟩
      have : IntKind.i64.max = 9223372036854775807 := by decide
      omega
    have hnx : ¬ Builtin.nextslicecap (0 + ys.length) 0 * inf.bytes > 2 ^ 48 := by omega
    rw [if_neg hbig]
    simp only [Sem.run_bind, hinf, Result.andThen]
    rw [if_neg hnx]
    simp only [choose, Sem.run_bind, Sem.run, Question.forced, Bool.false_eq_true, if_false, Result.andThen, ← hnc, ← hw1]
    have hask : (askRoom (nc * inf.bytes)).run C.P w1 = .ok () w1 := by
      unfold askRoom; split
      · simp [mark, Sem.run]
      · rfl
    simp only [hinf, hask, hfx, hfy, if_true, hzero, Sem.run_bind, Result.andThen, Sem.run_pure]
    have hh : w1.heap.size = w.heap.size := by rw [hw1]
    simp only [← hrest, run_newRow, hh]
    have ecs : (#[] : Array Value) ++ ds.toArray ++ rest = (ds ++ rest.toList).toArray := by simp
    rw [ecs]
  refine (doesV_run (fun c => by simp) hrun).mono ?_
  rintro v' w'' ⟨rfl, rfl⟩
  have hext : Ext w (w1.alloc (.cells (ds ++ rest.toList).toArray e)) := by
    have := (drew_ext w).trans (alloc_ext { w with drawn := w.drawn + 1 } (.cells (ds ++ rest.toList).toArray e))
    rw [← hw1] at this; exact this
  have hat : (w1.alloc (.cells (ds ++ rest.toList).toArray e)).heap[w.heap.size]? = some (.cells (ds ++ rest.toList).toArray e (0, 0)) := by
    have := alloc_at w1 (.cells (ds ++ rest.toList).toArray e)
    rw [hw1] at this ⊢; exact this
  have hsz : (w1.alloc (.cells (ds ++ rest.toList).toArray e)).heap.size = w.heap.size + 1 := by rw [hw1]; simp
  refine ⟨_, rfl, hext, ?_⟩
  refine s.hs.alloc (x := .own K (.slice (some ⟨w.heap.size, 0, none⟩) (0 + ys.length) nc) e ys) (fun b => ⟨?_, ?_⟩) hext (by omega) ?_
  · rintro ⟨k, c, e', h⟩
    simp only [Value.slice.injEq, Option.some.injEq, Addr.mk.injEq] at e'
    exact e'.1.1.symm
  · rintro rfl
    exact ⟨_, _, rfl, by omega⟩
  · have l1 : Lasts (okm C.ok H) (okm C.ok (Hl.own K (.slice (some ⟨w.heap.size, 0, none⟩) (0 + ys.length) nc) e ys :: H)) w.heap (w1.alloc (.cells (ds ++ rest.toList).toArray e)).heap := hext.lasts fun b hb' hlt => ⟨hb'.1, fun y hy' => by
      rcases List.mem_cons.1 hy' with rfl | hy'
      · rintro ⟨k, c, e', h⟩
        simp only [Value.slice.injEq, Option.some.injEq, Addr.mk.injEq] at e'
        have := e'.1.1; omega
      · exact hb'.2 y hy'⟩
    exact .inr ⟨w.heap.size, nc, ds, rest.toList, by simp, by omega, by omega, hnc2, hrd.pers l1, by simp [hrl], hat⟩
end
end Go.Proofs.Ytjgacbopccfecaa
