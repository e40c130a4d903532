/-
  The rules of the operations.
-/
import Derived.Test.YtjgacbopccfecaaBb
import Derived.WalkKit
import Derived.IntWalk
set_option linter.unusedVariables false
set_option linter.unusedSimpArgs false
set_option linter.unusedSectionVars false
namespace Go.Proofs.Ytjgacbopccfecaa

section
variable {C : Cx} {l : List (Nat × Value)} {H : List Hl} {Γ : List PP} {dst : Option Tmp} {ty : TypeId} {pos : String} {after : Array Edge} {g : Option (Nat × Bool)}

theorem opv_of {o : Oper} {v : Value} (hnd : ∀ c, o.op ≠ .defer c) (h : ∀ a w, Sat C l H Γ a w → (execOp a.eval o).run C.P w = .ok (.value v) w) : OpV C o l H Γ v := ⟨hnd, h⟩

theorem v_move {x : Operand} {v : Value} (h : ev l x = some v) : OpV C ⟨dst, .move x, ty, pos, after, g⟩ l H Γ v :=
  opv_of (fun c => by simp) fun a w s => by simp [execOp, s.ev h]
theorem v_assign {x : Operand} {v : Value} (h : ev l x = some v) : OpV C ⟨dst, .assign x, ty, pos, after, g⟩ l H Γ v :=
  opv_of (fun c => by simp) fun a w s => by simp [execOp, s.ev h]
theorem v_pickt {c x y : Operand} {v : Value} (hc : ev l c = some (.bool true)) (h : ev l x = some v) : OpV C ⟨dst, .pick c x y, ty, pos, after, g⟩ l H Γ v :=
  opv_of (fun c => by simp) fun a w s => by simp [execOp, s.ev hc, s.ev h, asBool]
theorem v_pickf {c x y : Operand} {v : Value} (hc : ev l c = some (.bool false)) (h : ev l y = some v) : OpV C ⟨dst, .pick c x y, ty, pos, after, g⟩ l H Γ v :=
  opv_of (fun c => by simp) fun a w s => by simp [execOp, s.ev hc, s.ev h, asBool]
theorem v_nilCheck {x : Operand} {p : Addr} (h : ev l x = some (.pointer (some p))) : OpV C ⟨dst, .nilCheck x, ty, pos, after, g⟩ l H Γ (.pointer (some p)) :=
  opv_of (fun c => by simp) fun a w s => by simp [execOp, s.ev h]
theorem v_not {x : Operand} {t : TypeId} {b : Bool} (h : ev l x = some (.bool b)) : OpV C ⟨dst, .unOp .not t x, ty, pos, after, g⟩ l H Γ (.bool (!b)) :=
  opv_of (fun c => by simp) fun a w s => by (simp only [execOp, s.ev h]; simp [go_sem])
theorem v_extract {x : Operand} {i : Nat} {vs : Array Value} {v : Value} (h : ev l x = some (.tuple vs)) (hv : vs[i]? = some v) : OpV C ⟨dst, .extract x i, ty, pos, after, g⟩ l H Γ v :=
  opv_of (fun c => by simp) fun a w s => by simp [execOp, s.ev h, Instr.extract, hv]

/-! ### Whole numbers -/
section
variable {x y : Operand} {t t2 : TypeId} {p q : Int}
theorem v_lss (hx : ev l x = some (.int .i64 p)) (hy : ev l y = some (.int .i64 q)) : OpV C ⟨dst, .binOp .lss t x y t2, ty, pos, after, g⟩ l H Γ (.bool (decide (p < q))) :=
  opv_of (fun c => by simp) fun a w s => by (simp only [execOp, s.ev hx, s.ev hy]; simp [eqGuard, go_sem])
theorem v_leq (hx : ev l x = some (.int .i64 p)) (hy : ev l y = some (.int .i64 q)) : OpV C ⟨dst, .binOp .leq t x y t2, ty, pos, after, g⟩ l H Γ (.bool (decide (p ≤ q))) :=
  opv_of (fun c => by simp) fun a w s => by (simp only [execOp, s.ev hx, s.ev hy]; simp [eqGuard, go_sem])
theorem v_gtr (hx : ev l x = some (.int .i64 p)) (hy : ev l y = some (.int .i64 q)) : OpV C ⟨dst, .binOp .gtr t x y t2, ty, pos, after, g⟩ l H Γ (.bool (decide (q < p))) :=
  opv_of (fun c => by simp) fun a w s => by (simp only [execOp, s.ev hx, s.ev hy]; simp [eqGuard, go_sem])
theorem v_geq (hx : ev l x = some (.int .i64 p)) (hy : ev l y = some (.int .i64 q)) : OpV C ⟨dst, .binOp .geq t x y t2, ty, pos, after, g⟩ l H Γ (.bool (decide (q ≤ p))) :=
  opv_of (fun c => by simp) fun a w s => by (simp only [execOp, s.ev hx, s.ev hy]; simp [eqGuard, go_sem])
theorem v_eql (hx : ev l x = some (.int .i64 p)) (hy : ev l y = some (.int .i64 q)) : OpV C ⟨dst, .binOp .eql t x y t2, ty, pos, after, g⟩ l H Γ (.bool (decide (p = q))) :=
  opv_of (fun c => by simp) fun a w s => by
    have : (p == q) = decide (p = q) := by by_cases h : p = q <;> simp [h]
    (simp only [execOp, s.ev hx, s.ev hy]; simp [eqGuard, go_sem, this])
theorem v_neq (hx : ev l x = some (.int .i64 p)) (hy : ev l y = some (.int .i64 q)) : OpV C ⟨dst, .binOp .neq t x y t2, ty, pos, after, g⟩ l H Γ (.bool (decide (p ≠ q))) :=
  opv_of (fun c => by simp) fun a w s => by
    have : (p != q) = decide (p ≠ q) := by by_cases h : p = q <;> simp [h]
    (simp only [execOp, s.ev hx, s.ev hy]; simp [eqGuard, go_sem, this])
theorem wrapi {n : Int} (h1 : -9223372036854775808 ≤ n) (h2 : n ≤ 9223372036854775807) : IntKind.i64.wrap n = n := IntWalk.i64_in _ (by omega)
theorem v_add (hx : ev l x = some (.int .i64 p)) (hy : ev l y = some (.int .i64 q)) (h1 : -9223372036854775808 ≤ p + q) (h2 : p + q ≤ 9223372036854775807) : OpV C ⟨dst, .binOp .add t x y t2, ty, pos, after, g⟩ l H Γ (.int .i64 (p + q)) :=
  opv_of (fun c => by simp) fun a w s => by
    have := wrapi h1 h2
    simp [execOp, s.ev hx, s.ev hy, eqGuard, binOp, Op.intArith, this]
theorem v_sub (hx : ev l x = some (.int .i64 p)) (hy : ev l y = some (.int .i64 q)) (h1 : -9223372036854775808 ≤ p - q) (h2 : p - q ≤ 9223372036854775807) : OpV C ⟨dst, .binOp .sub t x y t2, ty, pos, after, g⟩ l H Γ (.int .i64 (p - q)) :=
  opv_of (fun c => by simp) fun a w s => by
    have := wrapi h1 h2
    simp [execOp, s.ev hx, s.ev hy, eqGuard, binOp, Op.intArith, this]
theorem v_mul (hx : ev l x = some (.int .i64 p)) (hy : ev l y = some (.int .i64 q)) (h1 : -9223372036854775808 ≤ p * q) (h2 : p * q ≤ 9223372036854775807) : OpV C ⟨dst, .binOp .mul t x y t2, ty, pos, after, g⟩ l H Γ (.int .i64 (p * q)) :=
  opv_of (fun c => by simp) fun a w s => by
    have := wrapi h1 h2
    simp [execOp, s.ev hx, s.ev hy, eqGuard, binOp, Op.intArith, this]
theorem v_quo (hx : ev l x = some (.int .i64 p)) (hy : ev l y = some (.int .i64 q)) (h0 : 0 ≤ p) (h1 : p ≤ 9223372036854775807) (h2 : 0 < q) : OpV C ⟨dst, .binOp .quo t x y t2, ty, pos, after, g⟩ l H Γ (.int .i64 (p / q)) :=
  opv_of (fun c => by simp) fun a w s => by
    have hq : ¬ q = 0 := by omega
    have e : p.tdiv q = p / q := Int.tdiv_eq_ediv_of_nonneg h0
    have hb : 0 ≤ p / q ∧ p / q ≤ p := ⟨Int.ediv_nonneg h0 (by omega), Int.ediv_le_self _ h0⟩
    have := wrapi (n := p / q) (by omega) (by omega)
    simp [execOp, s.ev hx, s.ev hy, eqGuard, binOp, Op.intDiv, hq, e, this]
theorem v_rem (hx : ev l x = some (.int .i64 p)) (hy : ev l y = some (.int .i64 q)) (h0 : 0 ≤ p) (h1 : p ≤ 9223372036854775807) (h2 : 0 < q) : OpV C ⟨dst, .binOp .rem t x y t2, ty, pos, after, g⟩ l H Γ (.int .i64 (p % q)) :=
  opv_of (fun c => by simp) fun a w s => by
    have hq : ¬ q = 0 := by omega
    have e : p.tmod q = p % q := Int.tmod_eq_emod_of_nonneg h0
    have hb : 0 ≤ p % q := Int.emod_nonneg _ (by omega)
    have hb2 : p % q < q := Int.emod_lt_of_pos _ h2
    simp [execOp, s.ev hx, s.ev hy, eqGuard, binOp, Op.intDiv, hq, e]
end
section
variable {x y : Operand} {t t2 : TypeId} {p q : Bool}
theorem v_beql (hu : C.P.underlying t = some .bool) (hx : ev l x = some (.bool p)) (hy : ev l y = some (.bool q)) : OpV C ⟨dst, .binOp .eql t x y t2, ty, pos, after, g⟩ l H Γ (.bool (p == q)) :=
  opv_of (fun c => by simp) fun a w s => by (simp only [execOp, s.ev hx, s.ev hy]; simp [eqGuard, run_eql_bool _ _ _ _ hu])
theorem v_bneq (hu : C.P.underlying t = some .bool) (hx : ev l x = some (.bool p)) (hy : ev l y = some (.bool q)) : OpV C ⟨dst, .binOp .neq t x y t2, ty, pos, after, g⟩ l H Γ (.bool (!(p == q))) :=
  opv_of (fun c => by simp) fun a w s => by (simp only [execOp, s.ev hx, s.ev hy]; simp [eqGuard, binOp, run_equal_bool _ _ _ _ hu])
end

/-! ### Memory that the call owns -/
def ptr (B k : Nat) : Value := .pointer (some ⟨B, k, none⟩)

theorem addr_add (B k j : Nat) : (⟨B, k, none⟩ : Addr).add j = ⟨B, k + j, none⟩ := by unfold Addr.add; split <;> simp_all

theorem blk_at {B : Nat} {cs : List Value} {t : TypeId} {a : Act} {w : World} (s : Sat C l H Γ a w) (hm : Hl.blk B cs t ∈ H) : w.heap[B]? = some (.cells cs.toArray t (0, 0)) := s.hs.sat _ hm
/-- Block B holds cs: the call's own, or one that lasts. -/
def Cel (H : List Hl) (Γ : List PP) (B : Nat) (cs : List Value) : Prop := (∃ t, Hl.blk B cs t ∈ H) ∨ ∃ t, ro B cs t ∈ Γ
theorem Cel.heap {B : Nat} {cs : List Value} {a : Act} {w : World} (h : Cel H Γ B cs) (s : Sat C l H Γ a w) : ∃ t, w.heap[B]? = some (.cells cs.toArray t (0, 0)) := by
  rcases h with ⟨t, h⟩ | ⟨t, h⟩
  · exact ⟨t, s.hs.sat _ h⟩
  · exact ⟨t, (s.hs.facts _ h).2.2⟩
theorem blk_cell {B : Nat} {cs : List Value} {t : TypeId} {w : World} (h : w.heap[B]? = some (.cells cs.toArray t (0, 0))) (k : Nat) : w.cell? ⟨B, k, none⟩ = cs[k]? := by
  rw [cell_eq]; unfold hcell; rw [h]; simp

theorem run_load1 {P : Program} {w : World} {p : Addr} {v : Value} (h : w.cell? p = some v) : (load p).run P w = .ok v w := by simp [load, Sem.run, h]
theorem run_loadFrom {P : Program} {w : World} {B k : Nat} : ∀ (vs : List Value) (i : Nat) (acc : Array Value), (∀ j, j < vs.length → w.cell? ⟨B, k + (i + j), none⟩ = vs[j]?) → (loadCellsFrom ⟨B, k, none⟩ i vs.length acc).run P w = .ok (acc ++ vs.toArray) w := by
  intro vs
  induction vs with
  | nil => intro i acc _; simp [loadCellsFrom]
  | cons v vs ih =>
    intro i acc h
    have h0 := h 0 (by simp)
    simp only [Nat.add_zero, List.getElem?_cons_zero] at h0
    have := ih (i + 1) (acc.push v) fun j hj => by
      have := h (j + 1) (by simpa using hj)
      rw [show k + (i + 1 + j) = k + (i + (j + 1)) from by omega]; simpa using this
    simp only [List.length_cons, loadCellsFrom, addr_add, Sem.run_bind, run_load1 h0, Result.andThen]
    rw [this]; simp
theorem run_loadCells {P : Program} {w : World} {B k : Nat} (vs : List Value) (h : ∀ j, j < vs.length → w.cell? ⟨B, k + j, none⟩ = vs[j]?) : (loadCells ⟨B, k, none⟩ vs.length).run P w = .ok vs.toArray w := by
  have := run_loadFrom (P := P) (w := w) (B := B) (k := k) vs 0 #[] (by simpa using h)
  simpa [loadCells] using this

theorem v_load {x : Operand} {t : TypeId} {B k : Nat} {cs : List Value} {v : Value} (hx : ev l x = some (ptr B k)) (hm : Cel H Γ B cs) (ha : ∀ w, (isAgg t).run C.P w = .ok false w) (hv : cs[k]? = some v) :
    OpV C ⟨dst, .load t x, ty, pos, after, g⟩ l H Γ v :=
  opv_of (fun c => by simp) fun a w s => by
    obtain ⟨T, hT⟩ := hm.heap s
    have hc : w.cell? ⟨B, k, none⟩ = some v := by rw [blk_cell hT, hv]
    (simp only [execOp, s.ev hx, ptr]; simp [Instr.loadAt, Instr.sureAddr, loadVar, ha, hc])
theorem v_loadA {x : Operand} {t : TypeId} {B k n : Nat} {cs vs : List Value} (hx : ev l x = some (ptr B k)) (hm : Cel H Γ B cs) (ha : ∀ w, (isAgg t).run C.P w = .ok true w) (hz : ∀ w, (sizeOf t).run C.P w = .ok n w)
    (hv : (cs.drop k).take n = vs) (hn : vs.length = n) : OpV C ⟨dst, .load t x, ty, pos, after, g⟩ l H Γ (.agg vs.toArray) :=
  opv_of (fun c => by simp) fun a w s => by
    obtain ⟨T, hT⟩ := hm.heap s
    have hc : ∀ j, j < vs.length → w.cell? ⟨B, k + j, none⟩ = vs[j]? := fun j hj => by
      rw [blk_cell hT, ← hv, List.getElem?_take, if_pos (by omega), List.getElem?_drop]
    have := run_loadCells (P := C.P) vs hc
    rw [hn] at this
    simp [execOp, s.ev hx, ptr, Instr.loadAt, Instr.sureAddr, loadVar, ha, hz, this]

/-- A new block. -/
theorem alloc_ext (w : World) (o : Obj) : Ext w (w.alloc o) := ⟨rfl, rfl, ⟨rfl, Nat.le_refl _⟩, by simp, fun b hb _ => RowKit.Below.heap_alloc _ _ _ hb⟩
theorem alloc_at (w : World) (o : Obj) : (w.alloc o).heap[w.heap.size]? = some o := World.alloc_heap_new w o

theorem run_newRow {P : Program} {w : World} (t : TypeId) (cs : Array Value) : (newRow t cs).run P w = .ok ⟨w.heap.size, 0, none⟩ (w.alloc (.cells cs t)) := by
  simp [newRow]

theorem opx_of {o : Oper} {X : Type} {val : X → Value} {H' : X → List Hl} {Γ' : X → List PP} (hnd : ∀ c, o.op ≠ .defer c)
    (h : ∀ a w, Sat C l H Γ a w → ∃ x w', (execOp a.eval o).run C.P w = .ok (.value (val x)) w' ∧ Hs C.ok C.w0 C.H0 (H' x) (Γ' x) w') : OpX C o l H Γ X val H' Γ' := fun a w s => by
  obtain ⟨x, w', hr, hs⟩ := h a w s
  exact (doesV_run hnd hr).mono fun v' w'' ⟨e1, e2⟩ => ⟨x, e1, by subst e2; exact hs⟩
theorem opx_skip {o : Oper} {X : Type} {H' : X → List Hl} {Γ' : X → List PP} (hnd : ∀ c, o.op ≠ .defer c)
    (h : ∀ a w, Sat C l H Γ a w → ∃ x w', (execOp a.eval o).run C.P w = .ok .skip w' ∧ Hs C.ok C.w0 C.H0 (H' x) (Γ' x) w') : OpX C o l H Γ X (fun _ => undef) H' Γ' := fun a w s => by
  obtain ⟨x, w', hr, hs⟩ := h a w s
  exact (doesV_skip hnd hr).mono fun v' w'' ⟨e1, e2⟩ => ⟨x, e1, by subst e2; exact hs⟩

theorem hs_alloc {w : World} (s : Hs C.ok C.w0 C.H0 H Γ w) (cs : List Value) (t : TypeId) : Hs C.ok C.w0 C.H0 (.blk w.heap.size cs t :: H) Γ (w.alloc (.cells cs.toArray t)) :=
  s.alloc (x := .blk w.heap.size cs t) (fun b => Iff.rfl) (alloc_ext _ _) (by simp) (alloc_at w _)

/-- v's cells -/
def Cells (v : Value) (cs : List Value) : Prop := v.cells = cs.toArray
theorem Cells.agg {cs : List Value} : Cells (.agg cs.toArray) cs := rfl
theorem Cells.one {v : Value} (h : cell1 v = true) : Cells v [v] := by cases v <;> first | rfl | (simp [cell1] at h)

theorem x_box {x : Operand} {t : TypeId} {v : Value} {cs : List Value} (hx : ev l x = some v) (hv : Cells v cs) : OpX C ⟨dst, .box t x, ty, pos, after, g⟩ l H Γ Nat (fun B => ptr B 0) (fun B => .blk B cs t :: H) (fun _ => Γ) :=
  opx_of (fun c => by simp) fun a w s => ⟨w.heap.size, w.alloc (.cells cs.toArray t), by
    have hv' : v.cells = cs.toArray := hv
    simp [execOp, s.ev hx, Instr.box, newVar, run_newRow, hv', ptr], hs_alloc s.hs cs t⟩
theorem x_alloc {t : TypeId} {z : Value} {cs : List Value} (hz : ∀ w, (zeroValue t).run C.P w = .ok z w) (hv : Cells z cs) : OpX C ⟨dst, .alloc t, ty, pos, after, g⟩ l H Γ Nat (fun B => ptr B 0) (fun B => .blk B cs t :: H) (fun _ => Γ) :=
  opx_of (fun c => by simp) fun a w s => ⟨w.heap.size, w.alloc (.cells cs.toArray t), by
    have hv' : z.cells = cs.toArray := hv
    simp [execOp, Instr.alloc, newVar, run_newRow, hz, hv', ptr], hs_alloc s.hs cs t⟩

/-! ### stores -/
/-- cs with vs from place k on. -/
def over (cs : List Value) (k : Nat) (vs : List Value) : List Value := cs.take k ++ vs ++ cs.drop (k + vs.length)

theorem setCell_heap {w : World} {B k : Nat} {cs : Array Value} {t : TypeId} (h : w.heap[B]? = some (.cells cs t (0, 0))) (v : Value) : (w.setCell ⟨B, k, none⟩ v).heap[B]? = some (.cells (cs.setIfInBounds k v) t (0, 0)) := by
  simp [World.setCell, Array.getElem?_modify, h]
theorem setCell_other {w : World} {B k b : Nat} (h : b ≠ B) (v : Value) : (w.setCell ⟨B, k, none⟩ v).heap[b]? = w.heap[b]? := by
  simp only [World.setCell, Array.getElem?_modify]
  rw [if_neg (by omega)]

/-- A world in which block B alone has turned. -/
structure Turn (w : World) (B : Nat) (cs : List Value) (t : TypeId) (w' : World) : Prop where
  os : w'.os = w.os
  tape : w'.tape = w.tape
  output : OutD w' w
  size : w'.heap.size = w.heap.size
  at_ : w'.heap[B]? = some (.cells cs.toArray t (0, 0))
  other : ∀ b, b ≠ B → w'.heap[b]? = w.heap[b]?

theorem run_storeCells {P : Program} {B : Nat} {t : TypeId} : ∀ (vs : List Value) (k i : Nat) (cs : List Value) (w : World), (∀ v ∈ vs, cell1 v = true) → k + i + vs.length ≤ cs.length → w.heap[B]? = some (.cells cs.toArray t (0, 0)) →
    ∃ w', (storeCells ⟨B, k, none⟩ vs i).run P w = .ok () w' ∧ Turn w B (over cs (k + i) vs) t w' := by
  intro vs
  induction vs with
  | nil => intro k i cs w _ _ h; exact ⟨w, rfl, rfl, rfl, .refl _, rfl, by simp [over, h], fun _ _ => rfl⟩
  | cons v vs ih =>
    intro k i cs w h1 hlen h
    simp only [List.length_cons] at hlen
    have hc : w.cell? ⟨B, k + i, none⟩ = some cs[k + i] := by rw [blk_cell h, List.getElem?_eq_getElem (by omega)]
    have hf : w.frozen? ⟨B, k + i, none⟩ = false := by simp [World.frozen?, h]
    have hs : (store ((⟨B, k, none⟩ : Addr).add i) v).run P w = .ok () (w.setCell ⟨B, k + i, none⟩ v) := by
      have hv := h1 v List.mem_cons_self
      rw [addr_add]
      cases v <;> first | (simp only [store, Sem.run]; rw [hc]; simp [hf]; done) | (simp [cell1] at hv; done)
    have hset := setCell_heap (k := k + i) h v
    rw [List.setIfInBounds_toArray] at hset
    obtain ⟨w', hr, ht⟩ := ih k (i + 1) (cs.set (k + i) v) (w.setCell ⟨B, k + i, none⟩ v) (fun u hu => h1 u (List.mem_cons_of_mem _ hu)) (by simp; omega) hset
    refine ⟨w', ?_, ht.os, ht.tape, ht.output.trans ⟨rfl, Nat.le_refl _⟩, by rw [ht.size]; simp [World.setCell], ?_, fun b hb => (ht.other b hb).trans (setCell_other hb v)⟩
    · simp only [storeCells]
      rw [Sem.run_bind, hs]; exact hr
    · rw [ht.at_]
      congr 3
      unfold over
      apply List.ext_getElem?
      intro j
      simp only [List.getElem?_append, List.length_append, List.length_take, List.length_set, List.length_cons, List.getElem?_take, List.getElem?_drop, List.getElem?_set]
      by_cases c1 : j < k + i
      · simp [c1, show min (k + i) cs.length = k + i by omega, show min (k + (i + 1)) cs.length = k + (i + 1) by omega, show j < k + (i + 1) by omega, show k + i ≠ j by omega, show j < k + i + (vs.length + 1) by omega, show j < k + (i + 1) + vs.length by omega]
      · by_cases c2 : j = k + i
        · subst c2
          simp [show min (k + i) cs.length = k + i by omega, show min (k + (i + 1)) cs.length = k + (i + 1) by omega, show k + i < cs.length by omega, show k + i < k + (i + 1) + vs.length by omega]
        · by_cases c3 : j < k + i + (vs.length + 1)
          · simp [show min (k + i) cs.length = k + i by omega, show min (k + (i + 1)) cs.length = k + (i + 1) by omega, c1, c3, show j < k + (i + 1) + vs.length by omega, show ¬ j < k + (i + 1) by omega, show j - (k + i) = (j - (k + (i + 1))) + 1 by omega]
          · simp [show min (k + i) cs.length = k + i by omega, show min (k + (i + 1)) cs.length = k + (i + 1) by omega, c1, c3, show ¬ j < k + (i + 1) + vs.length by omega, show ¬ j < k + (i + 1) by omega]
            rw [show k + (i + 1) + vs.length + (j - (k + (i + 1) + vs.length)) = j by omega, show k + i + (vs.length + 1) + (j - (k + i + (vs.length + 1))) = j by omega]
            simp [show ¬ k + i = j by omega]

theorem x_store {x y : Operand} {t : TypeId} {B k n : Nat} {cs cs' vs : List Value} {T : TypeId} {v : Value} {H' : List Hl} (hx : ev l x = some (ptr B k)) (hy : ev l y = some v) (hv : Cells v vs) (h1 : ∀ u ∈ vs, cell1 u = true)
    (hz : ∀ w, (sizeOf t).run C.P w = .ok n w) (hn : vs.length = n) (hP : Put H (.blk B cs T) (.blk B cs' T) H') (hlen : k + n ≤ cs.length) (hcs : over cs k vs = cs') :
    OpX C ⟨dst, .store t x y, ty, pos, after, g⟩ l H Γ Unit (fun _ => undef) (fun _ => H') (fun _ => Γ) :=
  opx_skip (fun c => by simp) fun a w s => by
    obtain ⟨w', hr, ht⟩ := run_storeCells (P := C.P) vs k 0 cs w h1 (by omega) (blk_at s hP.mem)
    have hv' : v.cells = vs.toArray := hv
    refine ⟨(), w', ?_, ?_⟩
    · simp [execOp, s.ev hx, s.ev hy, ptr, Instr.storeAt, Instr.sureAddr, storeVar, hz, hv', hn, hr]
    · refine s.hs.put hP ht.os ht.tape ht.output (Nat.le_of_eq ht.size.symm) (fun b _ hb => ht.other b hb) (fun b hb => ⟨?_, .inl hb⟩) fun _ => ?_
      · rw [ht.size]; exact (s.hs.lt _ hP.mem b hb).1
      · have := ht.at_
        rw [Nat.add_zero, hcs] at this
        exact this

/-! ### addresses -/
theorem v_field {x : Operand} {S : TypeId} {B k f k' : Nat} {fs : Array Field} {fd : Field} {m : Nat} (hx : ev l x = some (ptr B k)) (hu : ∀ w, (underlying S).run C.P w = .ok (.struct fs) w) (hf : fs[f]? = some fd)
    (hz : ∀ w, (sizeOf fd.type).run C.P w = .ok m w) (hm : m ≠ 0) (hk : k + fd.offset = k') : OpV C ⟨dst, .fieldAddr S x f, ty, pos, after, g⟩ l H Γ (ptr B k') :=
  opv_of (fun c => by simp) fun a w s => by
    subst hk
    simp [execOp, s.ev hx, ptr, Instr.fieldAt, Instr.sureAddr, fieldPlace, hu, hf, hz, hm, addr_add]

/-- The address of cell f of element i of the row that a slice value shows. -/
def eptr (sz : Nat) (v : Value) (i f : Nat) : Value := match v with
  | .slice (some a) _ _ => .pointer (some (a.add (i * sz + f)))
  | _ => undef
theorem eptr_add (sz : Nat) (v : Value) (i k : Nat) {S : TypeId} {f : Nat} {fs : Array Field} {fd : Field} {m : Nat} {w : World} {P : Program} (hv : ∃ b o n c, v = .slice (some ⟨b, o, none⟩) n c) (hu : ∀ w, (underlying S).run P w = .ok (.struct fs) w) (hf : fs[f]? = some fd)
    (hz : ∀ w, (sizeOf fd.type).run P w = .ok m w) (hm : m ≠ 0) : (Instr.fieldAt S (eptr sz v i k) f).run P w = .ok (eptr sz v i (k + fd.offset)) w := by
  obtain ⟨b, o, n, c, rfl⟩ := hv
  simp [eptr, Instr.fieldAt, Instr.sureAddr, fieldPlace, hu, hf, hz, hm, addr_add, Nat.add_assoc]

/-- Where the elements of a slice value lie. -/
def Row (C : Cx) (H : List Hl) (Γ : List PP) {α : Type} (K : Kd α) (v : Value) (xs : List α) : Prop := sl K v xs ∈ Γ ∨ ∃ t, Hl.own K v t xs ∈ H

theorem Row.slice {α : Type} {K : Kd α} {v : Value} {xs : List α} (h : Row C H Γ K v xs) {a : Act} {w : World} (s : Sat C l H Γ a w) : ∃ A c, v = .slice A xs.length c ∧ xs.length ≤ c ∧ c ≤ maxN ∧
    (0 < xs.length → ∃ b o cs, A = some ⟨b, o, none⟩ ∧ Rws K (okm C.ok H) w.heap xs cs ∧ ∀ j, j < cs.length → w.cell? ⟨b, o + j, none⟩ = cs[j]?) := by
  rcases h with h | ⟨t, h⟩
  · obtain ⟨A, c, e, h1, h2, h3⟩ := s.hs.facts _ h
    refine ⟨A, c, e, h1, h2, fun hp => ?_⟩
    obtain ⟨b, o, cs, eA, _, _, hr, hc⟩ := h3 hp
    exact ⟨b, o, cs, eA, hr, fun j hj => by rw [cell_eq]; exact hc j hj⟩
  · rcases s.hs.sat _ h with ⟨⟨A, e⟩, rfl⟩ | ⟨B, cap, cs, junk, e, h0, h1, h2, hr, h4, h5⟩
    · exact ⟨A, 0, e, Nat.le_refl _, Nat.zero_le _, fun hp => absurd hp (Nat.lt_irrefl 0)⟩
    · exact ⟨_, cap, e, h1, h2, fun _ => ⟨B, 0, cs, rfl, hr, fun j hj => by rw [blk_cell h5, Nat.zero_add, List.getElem?_append_left hj]⟩⟩

theorem v_len {α : Type} {K : Kd α} {x : Operand} {v : Value} {xs : List α} {T e : TypeId} (hx : ev l x = some v) (h : Row C H Γ K v xs) (hu : ∀ w, (underlying T).run C.P w = .ok (.slice e) w) : OpV C ⟨dst, .call { callee := .builtin .len, args := #[x], argTypes := #[T] }, ty, pos, after, g⟩ l H Γ (.int .i64 xs.length) :=
  opv_of (fun c => by simp) fun a w s => by
    obtain ⟨A, c, e, _⟩ := h.slice s
    subst e
    simp only [execOp, resolve, List.map_toArray, List.map_cons, List.map_nil, s.ev hx]
    simp [invoke, builtin, Builtin.len_, hu, goInt]
theorem v_index {α : Type} {K : Kd α} {x y : Operand} {v : Value} {xs : List α} {T e : TypeId} {i : Int} (hx : ev l x = some v) (hy : ev l y = some (.int .i64 i)) (h : Row C H Γ K v xs) (hu : ∀ w, (underlying T).run C.P w = .ok (.slice e) w)
    (hz : ∀ w, (sizeOf e).run C.P w = .ok K.sz w) (h0 : 0 ≤ i) (h1 : i < xs.length) : OpV C ⟨dst, .indexAddr T x y, ty, pos, after, g⟩ l H Γ (eptr K.sz v i.toNat 0) :=
  opv_of (fun c => by simp) fun a w s => by
    obtain ⟨A, c, ev, hc1, hc2, hr⟩ := h.slice s
    obtain ⟨b, o, cs, eA, _⟩ := hr (by omega)
    subst eA
    subst ev
    simp [execOp, s.ev hx, s.ev hy, Instr.indexAt, asIntOf, hu, hz, h0, h1, eptr]
theorem v_efield {α : Type} {K : Kd α} {x : Operand} {v : Value} {xs : List α} {S : TypeId} {i k f k' : Nat} {fs : Array Field} {fd : Field} {m : Nat} (hx : ev l x = some (eptr K.sz v i k)) (h : Row C H Γ K v xs) (hp : i < xs.length)
    (hu : ∀ w, (underlying S).run C.P w = .ok (.struct fs) w) (hf : fs[f]? = some fd) (hz : ∀ w, (sizeOf fd.type).run C.P w = .ok m w) (hm : m ≠ 0) (hk : k + fd.offset = k') : OpV C ⟨dst, .fieldAddr S x f, ty, pos, after, g⟩ l H Γ (eptr K.sz v i k') :=
  opv_of (fun c => by simp) fun a w s => by
    obtain ⟨A, c, e, _, _, hr⟩ := h.slice s
    obtain ⟨b, o, cs, eA, _⟩ := hr (by omega)
    have := eptr_add (P := C.P) (w := w) K.sz v i k ⟨b, o, _, c, by rw [e, eA]⟩ hu hf hz hm
    simp [execOp, s.ev hx, this, hk]
/-- one cell of element i. -/
theorem v_eload {α : Type} {K : Kd α} {x : Operand} {v : Value} {xs : List α} {y : α} {t : TypeId} {i f : Nat} {u : Value} (hx : ev l x = some (eptr K.sz v i f)) (h : Row C H Γ K v xs) (hi : xs[i]? = some y) (hf : f < K.sz)
    (ha : ∀ w, (isAgg t).run C.P w = .ok false w) (hp : ∀ ok h c, K.R ok h y c → c[f]? = some u) : OpV C ⟨dst, .load t x, ty, pos, after, g⟩ l H Γ u :=
  opv_of (fun c => by simp) fun a w s => by
    obtain ⟨hi', rfl⟩ := List.getElem?_eq_some_iff.1 hi
    obtain ⟨A, c, e, _, _, hr⟩ := h.slice s
    obtain ⟨b, o, cs, eA, hR, hc⟩ := hr (by omega)
    obtain ⟨c', hc', hj⟩ := hR.get hi'
    have hl := hR.len
    have hlt : i * K.sz + f < cs.length := by
      rw [hl]
      have : (i + 1) * K.sz ≤ xs.length * K.sz := Nat.mul_le_mul_right _ hi'
      rw [Nat.add_mul, Nat.one_mul] at this; omega
    have hcell : w.cell? ⟨b, o + (i * K.sz + f), none⟩ = some u := by rw [hc _ hlt, hj f hf, hp _ _ _ hc']
    subst eA; subst e
    (simp only [execOp, s.ev hx, eptr, addr_add]; simp [Instr.loadAt, Instr.sureAddr, loadVar, ha, hcell])
theorem Ext.cell {w w' : World} (e : Ext w w') {b k : Nat} {v : Value} (h : w.cell? ⟨b, k, none⟩ = some v) : w'.cell? ⟨b, k, none⟩ = some v := by
  rw [cell_eq] at h ⊢
  unfold hcell at h ⊢
  have hb : b < w.heap.size := by
    rcases Nat.lt_or_ge b w.heap.size with h' | h'
    · exact h'
    · rw [Array.getElem?_eq_none h'] at h; cases h
  rw [e.old b hb (by simp)]
  exact h
/-- some cells of element i; what is not known of them is told by X. -/
theorem l_eload {α : Type} {K : Kd α} {X : Type} {vs : X → List Value} {Γn : X → List PP} {x : Operand} {v : Value} {xs : List α} {y : α} {t : TypeId} {i f n : Nat} (hx : ev l x = some (eptr K.sz v i f)) (h : Row C H Γ K v xs) (hi : xs[i]? = some y)
    (hf : f + n ≤ K.sz) (ha : ∀ w, (isAgg t).run C.P w = .ok true w) (hz : ∀ w, (sizeOf t).run C.P w = .ok n w)
    (hp : ∀ ok h c, K.R ok h y c → ∃ x, (c.drop f).take n = vs x ∧ ∀ p ∈ Γn x, p.p ok h) : OpL C ⟨dst, .load t x, ty, pos, after, g⟩ l H Γ X (fun x => .agg (vs x).toArray) Γn := ⟨fun c => by simp, fun a w s => by
  obtain ⟨hi', rfl⟩ := List.getElem?_eq_some_iff.1 hi
  obtain ⟨A, c, e, _, _, hr⟩ := h.slice s
  obtain ⟨b, o, cs, eA, hR, hc⟩ := hr (by omega)
  obtain ⟨c', hc', hj⟩ := hR.get hi'
  obtain ⟨z, hz1, hz2⟩ := hp _ _ _ hc'
  have hl := hR.len
  have hc'l := K.len hc'
  have hlt : ∀ j, j < n → i * K.sz + (f + j) < cs.length := fun j hj' => by
    rw [hl]
    have : (i + 1) * K.sz ≤ xs.length * K.sz := Nat.mul_le_mul_right _ hi'
    rw [Nat.add_mul, Nat.one_mul] at this; omega
  have hn : (vs z).length = n := by rw [← hz1]; simp; omega
  have hcell : ∀ j, j < (vs z).length → w.cell? ⟨b, o + (i * K.sz + f) + j, none⟩ = (vs z)[j]? := fun j hj' => by
    rw [show o + (i * K.sz + f) + j = o + (i * K.sz + (f + j)) by omega, hc _ (hlt j (by omega)), hj _ (by omega), ← hz1, List.getElem?_take, if_pos (by omega), List.getElem?_drop]
  subst eA; subst e
  refine ⟨z, fun w' e' => ?_, hz2⟩
  have hrun := run_loadCells (P := C.P) (w := w') (B := b) (k := o + (i * K.sz + f)) (vs z) fun j hj' => by
    have h1 := hcell j hj'
    rw [List.getElem?_eq_getElem hj'] at h1 ⊢
    exact e'.cell h1
  rw [hn] at hrun
  simp [execOp, s.ev hx, eptr, addr_add, Instr.loadAt, Instr.sureAddr, loadVar, ha, hz, hrun]⟩
/-- one cell of element i that is a slice: told by a letter. -/
theorem l_eload1 {α : Type} {K : Kd α} {X : Type} {vx : X → Value} {Γn : X → List PP} {x : Operand} {v : Value} {xs : List α} {y : α} {t : TypeId} {i f : Nat} (hx : ev l x = some (eptr K.sz v i f)) (h : Row C H Γ K v xs) (hi : xs[i]? = some y)
    (hf : f < K.sz) (ha : ∀ w, (isAgg t).run C.P w = .ok false w) (hp : ∀ ok h c, K.R ok h y c → ∃ x, c[f]? = some (vx x) ∧ ∀ p ∈ Γn x, p.p ok h) : OpL C ⟨dst, .load t x, ty, pos, after, g⟩ l H Γ X vx Γn := ⟨fun c => by simp, fun a w s => by
  obtain ⟨hi', rfl⟩ := List.getElem?_eq_some_iff.1 hi
  obtain ⟨A, c, e, _, _, hr⟩ := h.slice s
  obtain ⟨b, o, cs, eA, hR, hc⟩ := hr (by omega)
  obtain ⟨c', hc', hj⟩ := hR.get hi'
  obtain ⟨z, hz1, hz2⟩ := hp _ _ _ hc'
  have hl := hR.len
  have hlt : i * K.sz + f < cs.length := by
    rw [hl]
    have : (i + 1) * K.sz ≤ xs.length * K.sz := Nat.mul_le_mul_right _ hi'
    rw [Nat.add_mul, Nat.one_mul] at this; omega
  have hcell : w.cell? ⟨b, o + (i * K.sz + f), none⟩ = some (vx z) := by rw [hc _ hlt, hj f hf, hz1]
  subst eA; subst e
  refine ⟨z, fun w' e' => ?_, hz2⟩
  have hcell' := e'.cell hcell
  simp only [execOp, s.ev hx, eptr, addr_add]; simp [Instr.loadAt, Instr.sureAddr, loadVar, ha, hcell']⟩
end

/-! ### What is looked for by itself -/
class FindS (Γ : List PP) (v : Value) {α : outParam Type} (K : outParam (Kd α)) (xs : outParam (List α)) : Prop where
  mem : sl K v xs ∈ Γ
instance findS_head {α : Type} {K : Kd α} {v : Value} {xs : List α} {Γ : List PP} : FindS (sl K v xs :: Γ) v K xs := ⟨List.mem_cons_self⟩
instance findS_tail {α : Type} {K : Kd α} {v : Value} {xs : List α} {Γ : List PP} {p : PP} [h : FindS Γ v K xs] : FindS (p :: Γ) v K xs := ⟨List.mem_cons_of_mem _ h.mem⟩
instance findS_left {α : Type} {K : Kd α} {v : Value} {xs : List α} {Γ Δ : List PP} [h : FindS Γ v K xs] : FindS (Γ ++ Δ) v K xs := ⟨List.mem_append_left _ h.mem⟩
instance findS_right {α : Type} {K : Kd α} {v : Value} {xs : List α} {Γ Δ : List PP} [h : FindS Δ v K xs] : FindS (Γ ++ Δ) v K xs := ⟨List.mem_append_right _ h.mem⟩
class FindO (H : List Hl) (v : Value) {α : outParam Type} (K : outParam (Kd α)) (t : outParam TypeId) (xs : outParam (List α)) : Prop where
  mem : Hl.own K v t xs ∈ H
instance findO_head {α : Type} {K : Kd α} {v : Value} {t : TypeId} {xs : List α} {H : List Hl} : FindO (.own K v t xs :: H) v K t xs := ⟨List.mem_cons_self⟩
instance findO_tail {α : Type} {K : Kd α} {v : Value} {t : TypeId} {xs : List α} {H : List Hl} {x : Hl} [h : FindO H v K t xs] : FindO (x :: H) v K t xs := ⟨List.mem_cons_of_mem _ h.mem⟩
class FindR (C : Cx) (H : List Hl) (Γ : List PP) (v : Value) {α : outParam Type} (K : outParam (Kd α)) (xs : outParam (List α)) : Prop where
  row : Row C H Γ K v xs
instance findR_s {α : Type} {K : Kd α} {v : Value} {xs : List α} {C : Cx} {H : List Hl} {Γ : List PP} [h : FindS Γ v K xs] : FindR C H Γ v K xs := ⟨.inl h.mem⟩
instance findR_o {α : Type} {K : Kd α} {v : Value} {t : TypeId} {xs : List α} {C : Cx} {H : List Hl} {Γ : List PP} [h : FindO H v K t xs] : FindR C H Γ v K xs := ⟨.inr ⟨t, h.mem⟩⟩
class FindB (H : List Hl) (B : Nat) (cs : outParam (List Value)) (t : outParam TypeId) : Prop where
  mem : Hl.blk B cs t ∈ H
instance findB_head {B : Nat} {cs : List Value} {t : TypeId} {H : List Hl} : FindB (.blk B cs t :: H) B cs t := ⟨List.mem_cons_self⟩
instance findB_tail {B : Nat} {cs : List Value} {t : TypeId} {H : List Hl} {x : Hl} [h : FindB H B cs t] : FindB (x :: H) B cs t := ⟨List.mem_cons_of_mem _ h.mem⟩
class FindF (Γ : List PP) (B : Nat) (cs : outParam (List Value)) : Prop where
  mem : ∃ t, ro B cs t ∈ Γ
instance findF_head {B : Nat} {cs : List Value} {t : TypeId} {Γ : List PP} : FindF (ro B cs t :: Γ) B cs := ⟨t, List.mem_cons_self⟩
instance findF_tail {B : Nat} {cs : List Value} {Γ : List PP} {p : PP} [h : FindF Γ B cs] : FindF (p :: Γ) B cs := ⟨h.mem.imp fun _ h => List.mem_cons_of_mem _ h⟩
instance findF_left {B : Nat} {cs : List Value} {Γ Δ : List PP} [h : FindF Γ B cs] : FindF (Γ ++ Δ) B cs := ⟨h.mem.imp fun _ h => List.mem_append_left _ h⟩
instance findF_right {B : Nat} {cs : List Value} {Γ Δ : List PP} [h : FindF Δ B cs] : FindF (Γ ++ Δ) B cs := ⟨h.mem.imp fun _ h => List.mem_append_right _ h⟩
class FindC (H : List Hl) (Γ : List PP) (B : Nat) (cs : outParam (List Value)) : Prop where
  cel : Cel H Γ B cs
instance findC_b {H : List Hl} {Γ : List PP} {B : Nat} {cs : List Value} {t : TypeId} [h : FindB H B cs t] : FindC H Γ B cs := ⟨.inl ⟨t, h.mem⟩⟩
instance findC_f {H : List Hl} {Γ : List PP} {B : Nat} {cs : List Value} [h : FindF Γ B cs] : FindC H Γ B cs := ⟨.inr h.mem⟩
class SetB (H : List Hl) (B : Nat) (cs : outParam (List Value)) (t : outParam TypeId) (cs' : List Value) (H' : outParam (List Hl)) : Prop where
  put : Put H (.blk B cs t) (.blk B cs' t) H'
instance setB_head {B : Nat} {cs cs' : List Value} {t : TypeId} {H : List Hl} : SetB (.blk B cs t :: H) B cs t cs' (.blk B cs' t :: H) := ⟨.head⟩
instance setB_tail {B : Nat} {cs cs' : List Value} {t : TypeId} {H H' : List Hl} {x : Hl} [h : SetB H B cs t cs' H'] : SetB (x :: H) B cs t cs' (x :: H') := ⟨.tail h.put⟩
/-- v is the value of one cell. -/
def One (C : Cx) (l : List (Nat × Value)) (H : List Hl) (Γ : List PP) (v : Value) : Prop := ∀ a w, Sat C l H Γ a w → cell1 v = true
class OneC (C : Cx) (H : List Hl) (Γ : List PP) (v : Value) : Prop where
  one : ∀ l, One C l H Γ v
section
variable {C : Cx} {H : List Hl} {Γ : List PP}
instance oneC_int {k : IntKind} {n : Int} : OneC C H Γ (.int k n) := ⟨fun _ _ _ _ => rfl⟩
instance oneC_bool {b : Bool} : OneC C H Γ (.bool b) := ⟨fun _ _ _ _ => rfl⟩
instance oneC_ptr {B k : Nat} : OneC C H Γ (ptr B k) := ⟨fun _ _ _ _ => rfl⟩
instance oneC_pointer {p : Option Addr} : OneC C H Γ (.pointer p) := ⟨fun _ _ _ _ => rfl⟩
instance oneC_slice {p : Option Addr} {n c : Nat} : OneC C H Γ (.slice p n c) := ⟨fun _ _ _ _ => rfl⟩
instance oneC_func {f : Fn} {x y : Array Value} : OneC C H Γ (.func f x y) := ⟨fun _ _ _ _ => rfl⟩
instance oneC_nilFunc : OneC C H Γ .nilFunc := ⟨fun _ _ _ _ => rfl⟩
instance oneC_map {r : Option Nat} : OneC C H Γ (.map r) := ⟨fun _ _ _ _ => rfl⟩
instance oneC_row {α : Type} {K : Kd α} {v : Value} {xs : List α} [h : FindR C H Γ v K xs] : OneC C H Γ v := ⟨fun l a w s => by
  obtain ⟨A, c, rfl, _⟩ := h.row.slice s; rfl⟩
class Ones (C : Cx) (H : List Hl) (Γ : List PP) (vs : List Value) : Prop where
  one : ∀ l a w, Sat C l H Γ a w → ∀ v ∈ vs, cell1 v = true
instance ones_nil : Ones C H Γ [] := ⟨fun _ _ _ _ v hv => by cases hv⟩
instance ones_cons {v : Value} {vs : List Value} [h : OneC C H Γ v] [h2 : Ones C H Γ vs] : Ones C H Γ (v :: vs) := ⟨fun l a w s u hu => by
  rcases List.mem_cons.1 hu with rfl | hu
  · exact h.one l a w s
  · exact h2.one l a w s u hu⟩
/-- The cells of a value. -/
class CellsC (C : Cx) (H : List Hl) (Γ : List PP) (v : Value) (cs : outParam (List Value)) : Prop where
  cells : ∀ l a w, Sat C l H Γ a w → Cells v cs ∧ ∀ u ∈ cs, cell1 u = true
instance cellsC_agg {cs : List Value} [h : Ones C H Γ cs] : CellsC C H Γ (.agg cs.toArray) cs := ⟨fun l a w s => ⟨Cells.agg, h.one l a w s⟩⟩
instance (priority := low) cellsC_one {v : Value} [h : OneC C H Γ v] : CellsC C H Γ v [v] := ⟨fun l a w s => by
  have h1 := h.one l a w s
  exact ⟨Cells.one h1, fun u hu => by rw [List.mem_singleton] at hu; subst hu; exact h1⟩⟩
end

section
variable {C : Cx} {l : List (Nat × Value)} {H : List Hl} {Γ : List PP} {dst : Option Tmp} {ty : TypeId} {pos : String} {after : Array Edge} {g : Option (Nat × Bool)}
theorem x_boxc {x : Operand} {t : TypeId} {v : Value} {cs : List Value} (hx : ev l x = some v) [hv : CellsC C H Γ v cs] : OpX C ⟨dst, .box t x, ty, pos, after, g⟩ l H Γ Nat (fun B => ptr B 0) (fun B => .blk B cs t :: H) (fun _ => Γ) :=
  fun a w s => x_box hx (hv.cells l a w s).1 a w s
theorem x_storec {x y : Operand} {t : TypeId} {B k n : Nat} {cs cs' vs : List Value} {T : TypeId} {v : Value} {H' : List Hl} (hx : ev l x = some (ptr B k)) (hy : ev l y = some v) [hv : CellsC C H Γ v vs] [hb : FindB H B cs T] (hcs : over cs k vs = cs') [hP : SetB H B cs T cs' H']
    (hz : ∀ w, (sizeOf t).run C.P w = .ok n w) (hn : vs.length = n) (hlen : Nat.ble (k + n) cs.length = true) :
    OpX C ⟨dst, .store t x y, ty, pos, after, g⟩ l H Γ Unit (fun _ => undef) (fun _ => H') (fun _ => Γ) :=
  fun a w s => x_store hx hy (hv.cells l a w s).1 (hv.cells l a w s).2 hz hn hP.put (Nat.le_of_ble_eq_true hlen) hcs a w s
theorem v_loadc {x : Operand} {t : TypeId} {B k : Nat} {cs : List Value} {v : Value} (hx : ev l x = some (ptr B k)) [hm : FindC H Γ B cs] (ha : ∀ w, (isAgg t).run C.P w = .ok false w) (hv : cs[k]? = some v) :
    OpV C ⟨dst, .load t x, ty, pos, after, g⟩ l H Γ v := v_load hx hm.cel ha hv
theorem v_loadAc {x : Operand} {t : TypeId} {B k n : Nat} {cs vs : List Value} (hx : ev l x = some (ptr B k)) [hm : FindC H Γ B cs] (ha : ∀ w, (isAgg t).run C.P w = .ok true w) (hz : ∀ w, (sizeOf t).run C.P w = .ok n w)
    (hv : (cs.drop k).take n = vs) (hn : vs.length = n) : OpV C ⟨dst, .load t x, ty, pos, after, g⟩ l H Γ (.agg vs.toArray) := v_loadA hx hm.cel ha hz hv hn
end

/-- Where something of the call's own stands among what it owns. -/
class Hole (H : List Hl) (v : Value) {α : outParam Type} (K : outParam (Kd α)) (t : outParam TypeId) (xs : outParam (List α)) (fill : outParam (Hl → List Hl)) : Prop where
  put : ∀ y, Put H (.own K v t xs) y (fill y)
instance hole_head {α : Type} {K : Kd α} {v : Value} {t : TypeId} {xs : List α} {H : List Hl} : Hole (.own K v t xs :: H) v K t xs (fun y => y :: H) := ⟨fun _ => .head⟩
instance hole_tail {α : Type} {K : Kd α} {v : Value} {t : TypeId} {xs : List α} {H : List Hl} {x : Hl} {fill : Hl → List Hl} [h : Hole H v K t xs fill] : Hole (x :: H) v K t xs (fun y => x :: fill y) := ⟨fun y => .tail (h.put y)⟩
end Go.Proofs.Ytjgacbopccfecaa
