/-
  More rules: literals, append, make, copy, calls; a function's contract ('Spec') from its body.
-/
import Derived.Test.YtjgacbopccfecaaBc
import Derived.RangeFuncLeaves
set_option linter.unusedVariables false
set_option linter.unusedSimpArgs false
set_option linter.unusedSectionVars false
namespace Go.Proofs.Ytjgacbopccfecaa

section
variable {C : Cx} {l : List (Nat × Value)} {H : List Hl} {Γ : List PP} {dst : Option Tmp} {ty : TypeId} {pos : String} {after : Array Edge} {g : Option (Nat × Bool)}

def evp (l : List (Nat × Value)) : List (Nat × Operand) → Option (List (Nat × Value))
  | [] => some []
  | (i, x) :: r => match ev l x, evp l r with
    | some v, some vs => some ((i, v) :: vs)
    | _, _ => none
def evs (l : List (Nat × Value)) : List Operand → Option (List Value)
  | [] => some []
  | x :: r => match ev l x, evs l r with
    | some v, some vs => some (v :: vs)
    | _, _ => none
theorem Sat.evp {a : Act} {w : World} (s : Sat C l H Γ a w) : ∀ {ps : List (Nat × Operand)} {vs : List (Nat × Value)}, evp l ps = some vs → ps.map (fun (i, x) => (i, a.eval x)) = vs := by
  intro ps
  induction ps with
  | nil => intro vs h; simp only [Ytjgacbopccfecaa.evp, Option.some.injEq] at h; subst h; rfl
  | cons p ps ih =>
    intro vs h
    obtain ⟨i, x⟩ := p
    simp only [Ytjgacbopccfecaa.evp] at h
    split at h
    · rename_i v vs' h1 h2
      simp only [Option.some.injEq] at h; subst h
      simp [s.ev h1, ih h2]
    · cases h
theorem Sat.evs {a : Act} {w : World} (s : Sat C l H Γ a w) : ∀ {ps : List Operand} {vs : List Value}, evs l ps = some vs → ps.map a.eval = vs := by
  intro ps
  induction ps with
  | nil => intro vs h; simp only [Ytjgacbopccfecaa.evs, Option.some.injEq] at h; subst h; rfl
  | cons x ps ih =>
    intro vs h
    simp only [Ytjgacbopccfecaa.evs] at h
    split at h
    · rename_i v vs' h1 h2
      simp only [Option.some.injEq] at h; subst h
      simp [s.ev h1, ih h2]
    · cases h

/-- A struct built: its run is told ahead. -/
theorem v_build {t : TypeId} {ps : List (Nat × Operand)} {vs : List (Nat × Value)} {v : Value} (hx : evp l ps = some vs) (hr : ∀ w, (Instr.build t vs.toArray).run C.P w = .ok v w) : OpV C ⟨dst, .build t ps.toArray, ty, pos, after, g⟩ l H Γ v :=
  opv_of (fun c => by simp) fun a w s => by
    have e := s.evp hx
    have e2 : ps.toArray.map (fun (x : Nat × Operand) => (x.1, a.eval x.2)) = vs.toArray := by rw [← e]; simp
    simp only [execOp]
    rw [e2]
    simp [hr]

/-- .. one part of which is told to be of one cell. -/
theorem v_build1 {t : TypeId} {ps : List (Nat × Operand)} {vs : List (Nat × Value)} {v : Value} (u : Value) [hu : OneC C H Γ u] (hx : evp l ps = some vs) (hr : cell1 u = true → ∀ w, (Instr.build t vs.toArray).run C.P w = .ok v w) : OpV C ⟨dst, .build t ps.toArray, ty, pos, after, g⟩ l H Γ v :=
  ⟨fun c => by simp, fun a w s => (v_build hx (hr (hu.one l a w s))).2 a w s⟩

/-! ### slices written out -/
theorem fill_self {size : Nat} {v : Value} {cs : List Value} (hv : Cells v cs) (hn : cs.length = size) (zs : Array Value) (hz : zs.size = size) : Instr.fill (fun i => some (i * size, size)) zs [(0, v)] = some cs.toArray := by
  have hv' : v.cells = cs.toArray := hv
  have key : ∀ (ds : List Value) (k : Nat) (acc : Array Value), k + ds.length = acc.size → (ds.zipIdx k).foldl (fun (cs : Array Value) (x : Value × Nat) => cs.setIfInBounds (0 + x.2) x.1) acc = (acc.toList.take k ++ ds).toArray := by
    intro ds
    induction ds with
    | nil => intro k acc hk; simp only [List.zipIdx_nil, List.foldl_nil]; simp at hk; rw [hk, List.take_of_length_le (by simp)]; simp
    | cons d ds ih =>
      intro k acc hk
      simp only [List.zipIdx_cons, List.foldl_cons, Nat.zero_add]
      simp only [List.length_cons] at hk
      have := ih (k + 1) (acc.setIfInBounds k d) (by simp; omega)
      simp only [Nat.zero_add] at this
      rw [this]
      congr 1
      simp only [Array.toList_setIfInBounds]
      rw [List.take_succ_eq_append_getElem (by simp; omega), List.take_set_of_le (Nat.le_refl _)]
      simp
  simp only [Instr.fill, Nat.zero_mul, hv', List.size_toArray, hn, hz, ne_eq, not_true, decide_false, Nat.zero_add, Bool.false_or]
  rw [if_neg (by simp)]
  congr 1
  rw [← Array.foldl_toList]
  have := key cs 0 zs (by omega)
  simp only [Nat.zero_add, List.take_zero, List.nil_append] at this
  simpa using this

/-- '[]T{x}': a slice of one element, in a new block that lasts. -/
theorem q_lit1 {α : Type} {K : Kd α} {t e : TypeId} {x : Operand} {v z : Value} {cs : List Value} (u : α) (hx : ev l x = some v) (hv : Cells v cs) (hu : ∀ w, (underlying t).run C.P w = .ok (.slice e) w)
    (hz : ∀ w, (sizeOf e).run C.P w = .ok K.sz w) (hzero : ∀ w, (zeroValue e).run C.P w = .ok z w) (hsz : z.cells.size = K.sz) (hpos : 0 < K.sz) (hbig : K.sz ≤ 100) (hK : ∀ ok h, (∀ p ∈ Γ, p.p ok h) → K.R ok h u cs) :
    OpQ C ⟨dst, .buildSlice t 1 #[(0, x)], ty, pos, after, g⟩ l H Γ Value (fun v => v) (fun v => [sl K v [u]]) := fun a w s => by
  have hR := hK _ _ s.hs.facts
  have hlen : cs.length = K.sz := K.len hR
  have e1 : a.eval x = v := s.ev hx
  have hfill := fill_self (size := K.sz) hv hlen ((Array.range (1 * K.sz)).map (z.cells[· % z.cells.size]!)) (by simp)
  have hrun : (execOp a.eval ⟨dst, .buildSlice t 1 #[(0, x)], ty, pos, after, g⟩).run C.P w = .ok (.value (.slice (some ⟨w.heap.size, 0, none⟩) 1 1)) (w.alloc (.cells cs.toArray e)) := by
    simp only [execOp, List.map_toArray, List.map_cons, List.map_nil, e1]
    simp only [Instr.buildSlice, Sem.run_bind, hu, Result.andThen, hz, Nat.one_mul]
    rw [if_neg (by omega), if_neg (by omega)]
    simp only [Nat.one_mul] at hfill
    simp only [hzero, Sem.run_bind, Result.andThen, Sem.run_pure, hfill, run_newRow]
  refine (doesV_run (fun c => by simp) hrun).mono ?_
  rintro v' w'' ⟨rfl, rfl⟩
  have hext := alloc_ext w (.cells cs.toArray e)
  refine ⟨_, rfl, hext, ?_⟩
  intro p hp
  rw [List.mem_singleton] at hp
  subst hp
  have l1 : Lasts (okm C.ok H) (okm C.ok H) w.heap (w.alloc (.cells cs.toArray e)).heap := hext.lasts fun _ h _ => h
  refine ⟨_, 1, rfl, Nat.le_refl _, by decide, fun _ => ⟨w.heap.size, 0, cs, rfl, ⟨s.hs.new _ s.hs.fr.size, fun y hy hat => ?_⟩, by simp, .one_ (K.pers l1 hR), fun j hj => ?_⟩⟩
  · have := (s.hs.lt y hy _ hat).1; omega
  · unfold hcell; rw [alloc_at]; simp

/-- '[]T{}': nothing is owned yet. -/
theorem x_lit0 {α : Type} (K : Kd α) {t e : TypeId} {ps : List (Nat × Operand)} (hps : ps = []) (hu : ∀ w, (underlying t).run C.P w = .ok (.slice e) w) {n : Nat} (hz : ∀ w, (sizeOf e).run C.P w = .ok n w) :
    OpX C ⟨dst, .buildSlice t 0 ps.toArray, ty, pos, after, g⟩ l H Γ Value (fun v => v) (fun v => .own K v e [] :: H) (fun _ => Γ) :=
  opx_of (fun c => by simp) fun a w s => by
    subst hps
    refine ⟨.slice (some ⟨w.heap.size, 0, none⟩) 0 0, w.alloc (.cells #[] e), ?_, (s.hs.ext (alloc_ext _ _)).own_nil K e⟩
    have e0 : ∀ f : Nat → Value, (Array.range 0).map f = #[] := fun f => Array.eq_empty_of_size_eq_zero (by simp)
    simp [execOp, Instr.buildSlice, hu, hz, Instr.fill, run_newRow, e0]

/-! ### append -/
theorem growBy_le : ∀ (r n c : Nat), Builtin.growBy n r c ≤ 4 ^ r * (c + 768) := by
  intro r
  induction r with
  | zero => intro n c; simp [Builtin.growBy]
  | succ r ih =>
    intro n c
    unfold Builtin.growBy
    split
    · have : 1 ≤ 4 ^ (r + 1) := Nat.one_le_pow _ _ (by decide)
      calc c ≤ 1 * (c + 768) := by omega
        _ ≤ _ := Nat.mul_le_mul_right _ this
    · have h := ih n (c + (c + 768) / 4)
      refine Nat.le_trans h ?_
      rw [Nat.pow_succ, Nat.mul_assoc]
      exact Nat.mul_le_mul_left _ (by omega)
theorem growBy4_le (need cap : Nat) : Builtin.growBy need 4 cap ≤ 256 * cap + 196608 := by
  have h := growBy_le 4 need cap
  simp only [Nat.reducePow, Nat.mul_add, Nat.reduceMul] at h
  exact h
theorem nextcap_le {need cap : Nat} (h1 : need ≤ 1000000) (h2 : cap < need) : Builtin.nextslicecap need cap ≤ 300000000 := by
  have h := growBy4_le need cap
  obtain ⟨z, hz⟩ : ∃ z, z = Builtin.growBy need 4 cap := ⟨_, rfl⟩
  rw [← hz] at h
  unfold Builtin.nextslicecap
  rw [← hz]
  clear hz
  split
  · omega
  · split <;> omega

/-- what is read of a source: its cells -/
theorem run_first {P : Program} {w : World} {b o n size : Nat} (cs : List Value) {c : Nat} (hlen : cs.length = n * size) (h : 0 < n → ∀ j, j < cs.length → w.cell? ⟨b, o + j, none⟩ = cs[j]?) :
    (Builtin.firstCells size n (.slice (some ⟨b, o, none⟩) n c)).run P w = .ok cs.toArray w := by
  simp only [Builtin.firstCells]
  rw [← hlen]
  refine run_loadCells cs fun j hj => ?_
  rcases Nat.eq_zero_or_pos n with h0 | h0
  · subst h0; rw [hlen] at hj; simp at hj
  · exact h h0 j hj
theorem run_first0 {P : Program} {w : World} {A : Option Addr} {size c : Nat} : (Builtin.firstCells size 0 (.slice A 0 c)).run P w = .ok #[] w := by
  cases A <;> simp [Builtin.firstCells, loadCells, loadCellsFrom]

theorem row_first {α : Type} {K : Kd α} {v : Value} {xs : List α} (h : Row C H Γ K v xs) {a : Act} {w : World} (s : Sat C l H Γ a w) : ∃ cs c A, v = .slice A xs.length c ∧ Rws K (okm C.ok H) w.heap xs cs ∧ cs.length = xs.length * K.sz ∧
    ∀ w' : World, (∀ b, (∃ y ∈ H, y.at b) ∨ okm C.ok H b → b < w.heap.size → w'.heap[b]? = w.heap[b]?) → (Builtin.firstCells K.sz xs.length v).run C.P w' = .ok cs.toArray w' := by
  rcases Nat.eq_zero_or_pos xs.length with h0 | h0
  · obtain ⟨A, c, e, _⟩ := h.slice s
    have : xs = [] := List.eq_nil_of_length_eq_zero h0
    subst this
    exact ⟨[], c, A, e, .nil, by simp, fun w' _ => by rw [e]; exact run_first0⟩
  · rcases h with h | ⟨t, h⟩
    · obtain ⟨A, c, e, h1, h2, h3⟩ := s.hs.facts _ h
      obtain ⟨b, o, cs, eA, hok, hlt, hr, hc⟩ := h3 h0
      refine ⟨cs, c, A, e, hr, hr.len, fun w' hs => ?_⟩
      subst eA; rw [e]
      exact run_first cs hr.len fun _ j hj => by rw [cell_eq, hcell_same (hs b (.inr hok) hlt)]; exact hc j hj
    · rcases s.hs.sat _ h with ⟨⟨A, e⟩, rfl⟩ | ⟨B, cap, cs, junk, e, h0', h1, h2, hr, h4, h5⟩
      · simp at h0
      · have hat : (Hl.own K v t xs).at B := ⟨_, _, e, h0'⟩
        refine ⟨cs, cap, _, e, hr, hr.len, fun w' hs => ?_⟩
        rw [e]
        exact run_first cs hr.len fun _ j hj => by
          rw [cell_eq, hcell_same (hs B (.inl ⟨_, h, hat⟩) (s.hs.lt _ h B hat).1), ← cell_eq, blk_cell h5, Nat.zero_add, List.getElem?_append_left hj]

theorem drew_ext (w : World) : Ext w { w with drawn := w.drawn + 1 } := ⟨rfl, rfl, ⟨rfl, Nat.le_succ _⟩, Nat.le_refl _, fun _ _ _ => rfl⟩

/-- append(s, x...): s is the call's own. -/
theorem x_append {α : Type} {K : Kd α} {x y : Operand} {t e : TypeId} {v vy z : Value} {xs ys : List α} {H' : Value → List Hl} {inf : TypeInfo} (hx : ev l x = some v) (hy : ev l y = some vy) (hP : ∀ v', Put H (.own K v e xs) (.own K v' e (xs ++ ys)) (H' v')) (hs : Row C H Γ K vy ys)
    (hu : ∀ w, (underlying t).run C.P w = .ok (.slice e) w) (hz : ∀ w, (sizeOf e).run C.P w = .ok K.sz w) (hzero : ∀ w, (zeroValue e).run C.P w = .ok z w) (hzs : z.cells.size = K.sz) (hinf : ∀ w, (typeInfo e).run C.P w = .ok inf w) (hb : inf.bytes ≤ 1000)
    (hpos : 0 < K.sz) (hlen : xs.length + ys.length ≤ 1000000) :
    OpX C ⟨dst, .call { callee := .builtin .append, args := #[x, y], argTypes := #[t, t] }, ty, pos, after, g⟩ l H Γ Value (fun v => v) H' (fun _ => Γ) :=
  opx_of (fun c => by simp) fun a w s => by
    obtain ⟨ds, cy, Ay, ey, hrd, hld, hfirst⟩ := row_first hs s
    have hm := (hP v).mem
    have ow : Row C H Γ K v xs := .inr ⟨e, hm⟩
    obtain ⟨cs, cx, Ax, ex, hrc, hlc, hfirstx⟩ := row_first ow s
    have own := s.hs.sat _ hm
    have eqx := s.ev hx
    have eqy := s.ev hy
    -- the operation, as far as the test on the capacity
    have hyl : (Builtin.lenOf vy).run C.P w = .ok ys.length w := by rw [ey]; rfl
    by_cases hfit : xs.length + ys.length ≤ cx
    · -- there is room
      have hsame : ∀ b, (∃ y ∈ H, y.at b) ∨ okm C.ok H b → b < w.heap.size → w.heap[b]? = w.heap[b]? := fun _ _ _ => rfl
      rcases own with ⟨⟨A, e0⟩, rfl⟩ | ⟨B, cap, cs', junk, e0, h0, h1, h2, hr, h4, h5⟩
      · -- nothing owned: nothing comes
        rw [ex] at e0
        simp only [Value.slice.injEq] at e0
        have hy0 : ys = [] := List.eq_nil_of_length_eq_zero (by have := e0.2.2; simp at hfit; omega)
        subst hy0
        refine ⟨v, w, ?_, ?_⟩
        · simp only [execOp, resolve, List.map_toArray, List.map_cons, List.map_nil, eqx, eqy, Sem.run_bind, Sem.run_pure, Result.andThen, invoke, builtin, Builtin.append_]
          simp only [List.getElem?_toArray, List.getElem?_cons_zero, List.getElem?_cons_succ, Sem.run_bind, hu, Result.andThen, hz]
          rw [ex]
          simp only [Sem.run_bind, hu, Result.andThen, hz, Sem.run_pure]
          simp only [Bool.false_eq_true, if_false, Sem.run_bind, hyl, Result.andThen, List.length_nil, Nat.add_zero, Nat.zero_le, if_true, Bool.not_false]
          have hf := hfirst w hsame
          simp only [List.length_nil] at hf
          rw [hf]
          have hds : ds = [] := List.eq_nil_of_length_eq_zero (by simpa using hld)
          subst hds
          cases Ax <;> simp [storeCells]
        · refine s.hs.put (hP v) rfl rfl (.refl _) (Nat.le_refl _) (fun _ _ _ => rfl) (fun b hb => absurd hb ?_) fun _ => .inl ⟨⟨Ax, ?_⟩, by simp⟩
          · rw [ex, e0.2.2]; exact own_no_block b
          · rw [ex, e0.2.2]; rfl
      · rw [ex] at e0
        simp only [Value.slice.injEq] at e0
        obtain ⟨eA, _, ecap⟩ := e0
        subst eA
        subst ecap
        have hcc : cs' = cs := by
          -- both are the row's cells
          have l1 := hr.len
          apply List.ext_getElem (by rw [l1, hlc])
          intro j h1' h2'
          have hf := hfirstx w hsame
          rw [ex] at hf
          have hx0 : 0 < xs.length := by
            rcases Nat.eq_zero_or_pos xs.length with h | h
            · rw [l1, h] at h1'; simp at h1'
            · exact h
          have hg := run_first (P := C.P) (w := w) (b := B) (o := 0) (n := xs.length) (size := K.sz) cs' (c := cx) l1 fun _ j hj => by rw [blk_cell h5, Nat.zero_add, List.getElem?_append_left hj]
          rw [hf] at hg
          simp only [Result.ok.injEq, and_true] at hg
          have : cs = cs' := by simpa using hg
          simp [this]
        subst hcc
        have hroom : 0 + xs.length * K.sz + ds.length ≤ (cs' ++ junk).length := by
          rw [List.length_append, hlc, h4, hld, Nat.zero_add, ← Nat.add_mul, ← Nat.add_mul]
          exact Nat.mul_le_mul_right _ (by omega)
        obtain ⟨w', hrun, ht⟩ := run_storeCells (P := C.P) (t := e) ds (0 + xs.length * K.sz) 0 (cs' ++ junk) w hrd.one (by simpa using hroom) h5
        have hover : over (cs' ++ junk) (0 + xs.length * K.sz + 0) ds = (cs' ++ ds) ++ junk.drop ds.length := by
          unfold over
          rw [Nat.zero_add, Nat.add_zero, ← hlc, List.take_left', List.drop_append, List.drop_eq_nil_of_le (by omega), List.nil_append, Nat.add_sub_cancel_left]
          rfl
        rw [hover] at ht
        refine ⟨.slice (some ⟨B, 0, none⟩) (xs.length + ys.length) cx, w', ?_, ?_⟩
        · simp only [execOp, resolve, List.map_toArray, List.map_cons, List.map_nil, eqx, eqy, Sem.run_bind, Sem.run_pure, Result.andThen, invoke, builtin, Builtin.append_]
          simp only [List.getElem?_toArray, List.getElem?_cons_zero, List.getElem?_cons_succ, Sem.run_bind, hu, Result.andThen, hz]
          rw [ex]
          simp only [Sem.run_bind, hu, Result.andThen, hz, Sem.run_pure]
          simp only [Bool.false_eq_true, if_false, Sem.run_bind, hyl, Result.andThen, if_true, Bool.not_false, hfit]
          rw [hfirst w hsame]
          simp only [addr_add]
          simp only [hrun, Sem.run_pure]
        · refine s.hs.put (hP _) ht.os ht.tape ht.output (Nat.le_of_eq ht.size.symm) (fun b _ hb => ht.other b fun e' => hb ⟨xs.length, cx, by rw [ex, e'], h0⟩) ?_ fun lasts => ?_
          · rintro b ⟨n, c, e', h⟩
            simp only [Value.slice.injEq, Option.some.injEq, Addr.mk.injEq] at e'
            obtain ⟨⟨rfl, _⟩, _⟩ := e'
            have hat : (Hl.own K v e xs).at B := ⟨_, _, ex, h0⟩
            exact ⟨by rw [ht.size]; exact (s.hs.lt _ hm B hat).1, .inl hat⟩
          · refine .inr ⟨B, cx, cs' ++ ds, junk.drop ds.length, by simp, h0, by simpa using hfit, h2, (hrc.app hrd).pers lasts, ?_, ht.at_⟩
            rw [List.length_drop, h4, hld, List.length_append, ← Nat.sub_mul]
            congr 1; omega
    · -- it grows
      have hneed : cx < xs.length + ys.length := by omega
      have hn := nextcap_le hlen hneed
      have hmul : Builtin.nextslicecap (xs.length + ys.length) cx * inf.bytes ≤ 300000000 * 1000 := Nat.mul_le_mul hn hb
      obtain ⟨w1, hw1⟩ : ∃ w1 : World, w1 = { w with drawn := w.drawn + 1 } := ⟨_, rfl⟩
      obtain ⟨nc, hnc⟩ : ∃ nc, nc = (Question.appendCap (xs.length + ys.length) cx e).cut (w.tape w.drawn (Question.appendCap (xs.length + ys.length) cx e)) := ⟨_, rfl⟩
      have hnc1 : xs.length + ys.length ≤ nc := by rw [hnc]; simp [Question.cut]
      have hnc2 : nc ≤ maxN := by
        rw [hnc]; simp only [Question.cut, maxN]
        have := Nat.mod_lt (w.tape w.drawn (Question.appendCap (xs.length + ys.length) cx e)) (show 0 < 2 ^ 63 - (xs.length + ys.length) by omega)
        omega
      have hsame : ∀ b, (∃ y ∈ H, y.at b) ∨ okm C.ok H b → b < w.heap.size → w1.heap[b]? = w.heap[b]? := fun _ _ _ => by rw [hw1]
      obtain ⟨rest, hrest⟩ : ∃ rest, rest = Builtin.zeroCells z.cells (nc - (xs.length + ys.length)) := ⟨_, rfl⟩
      have hrl : rest.size = (nc - (xs.length + ys.length)) * K.sz := by rw [hrest]; simp [Builtin.zeroCells, hzs]
      refine ⟨.slice (some ⟨w.heap.size, 0, none⟩) (xs.length + ys.length) nc, w1.alloc (.cells (cs ++ ds ++ rest.toList).toArray e), ?_, ?_⟩
      · simp only [execOp, resolve, List.map_toArray, List.map_cons, List.map_nil, eqx, eqy, Sem.run_bind, Sem.run_pure, Result.andThen, invoke, builtin, Builtin.append_]
        simp only [List.getElem?_toArray, List.getElem?_cons_zero, List.getElem?_cons_succ, Sem.run_bind, hu, Result.andThen, hz]
        have hfx := hfirstx w1 hsame
        have hfy := hfirst w1 hsame
        rw [ex] at hfx ⊢
        simp only [Sem.run_bind, hu, Result.andThen, hz, Sem.run_pure]
        simp only [Bool.false_eq_true, if_false, Sem.run_bind, hyl, Result.andThen, Bool.not_false, hfit, hinf, false_or]
        have hbig : ¬ ((((xs.length + ys.length : Nat) : Int) > IntKind.i64.max) ∧ inf.bytes = 0) := by
          rintro ⟨h, _⟩
          have : IntKind.i64.max = 9223372036854775807 := by decide
          omega
        have hnx : ¬ Builtin.nextslicecap (xs.length + ys.length) cx * inf.bytes > 2 ^ 48 := by omega
        rw [if_neg hbig]
        simp only [Sem.run_bind, hinf, Result.andThen]
        rw [if_neg hnx]
        simp only [choose, Sem.run_bind, Sem.run, Question.forced, Bool.false_eq_true, if_false, Result.andThen, ← hnc, ← hw1]
        have hask : (askRoom (nc * inf.bytes)).run C.P w1 = .ok () w1 := by
          unfold askRoom; split
          · simp [mark, Sem.run]
          · rfl
        simp only [hinf, hask, hfx, hfy, if_true, hzero, Sem.run_bind, Result.andThen, Sem.run_pure]
        have hh : w1.heap.size = w.heap.size := by rw [hw1]
        simp only [← hrest, run_newRow, hh]
        have ecs : cs.toArray ++ ds.toArray ++ rest = (cs ++ ds ++ rest.toList).toArray := by simp
        rw [ecs]
      · have hlt : ∀ b, (Hl.own K v e xs).at b → b < w.heap.size := fun b hb => (s.hs.lt _ hm b hb).1
        have hext : Ext w (w1.alloc (.cells (cs ++ ds ++ rest.toList).toArray e)) := by
          have := (drew_ext w).trans (alloc_ext { w with drawn := w.drawn + 1 } (.cells (cs ++ ds ++ rest.toList).toArray e))
          rw [← hw1] at this; exact this
        have hat : (w1.alloc (.cells (cs ++ ds ++ rest.toList).toArray e)).heap[w.heap.size]? = some (.cells (cs ++ ds ++ rest.toList).toArray e (0, 0)) := by
          have := alloc_at w1 (.cells (cs ++ ds ++ rest.toList).toArray e)
          rw [hw1] at this ⊢; exact this
        have hsz : (w1.alloc (.cells (cs ++ ds ++ rest.toList).toArray e)).heap.size = w.heap.size + 1 := by rw [hw1]; simp
        refine s.hs.put (hP _) hext.os hext.tape hext.output hext.size (fun b hb _ => hext.old b hb (by simp)) ?_ fun lasts => ?_
        · rintro b ⟨n, c, e', h⟩
          simp only [Value.slice.injEq, Option.some.injEq, Addr.mk.injEq] at e'
          obtain ⟨⟨rfl, _⟩, _⟩ := e'
          exact ⟨by omega, .inr (Nat.le_refl _)⟩
        · refine .inr ⟨w.heap.size, nc, cs ++ ds, rest.toList, by simp, by omega, by simpa using hnc1, hnc2, (hrc.app hrd).pers lasts, by simp [hrl], hat⟩

/-! ### make -/
theorem rws_rep {α : Type} {K : Kd α} {ok : OkP} {h : Hp} {x : α} {zs : List Value} (hx : K.R ok h x zs) : ∀ n, Rws K ok h (List.replicate n x) (List.replicate n zs).flatten
  | 0 => .nil
  | n + 1 => by rw [List.replicate_succ, List.replicate_succ, List.flatten_cons]; exact .cons hx (rws_rep hx n)
theorem zero_flat (zs : List Value) (n : Nat) (hp : 0 < zs.length) : ((Array.range (n * zs.length)).map (fun i => zs.toArray[i % zs.toArray.size]!)) = (List.replicate n zs).flatten.toArray := by
  have hl : (List.replicate n zs).flatten.length = n * zs.length := by simp
  apply Array.ext
  · simp
  · intro i h1 h2
    simp only [Array.getElem_map, Array.getElem_range, List.size_toArray, List.getElem_toArray]
    have hi : i < n * zs.length := by simpa using h1
    have key : ∀ (n i : Nat) (hi : i < n * zs.length) (h : i < (List.replicate n zs).flatten.length), (List.replicate n zs).flatten[i] = zs[i % zs.length]'(Nat.mod_lt _ hp) := by
      intro n
      induction n with
      | zero => intro i hi; simp at hi
      | succ n ih =>
        intro i hi h
        simp only [List.replicate_succ, List.flatten_cons, List.getElem_append]
        split
        · rename_i hlt; congr 1; rw [Nat.mod_eq_of_lt hlt]
        · rename_i hge
          have hi' : i - zs.length < n * zs.length := by rw [Nat.add_mul, Nat.one_mul] at hi; omega
          rw [ih (i - zs.length) hi']
          congr 1
          rw [Nat.mod_eq_sub_mod (by omega : zs.length ≤ i)]
    rw [key n i hi (by rw [hl]; exact hi)]
    rw [getElem!_pos _ _ (by simp; exact Nat.mod_lt _ hp)]
    simp

theorem x_make {α : Type} {K : Kd α} {x y : Operand} {t e : TypeId} {z : Value} {zs : List Value} {n : Int} {inf : TypeInfo} (x0 : α) (hx : ev l x = some (.int .i64 n)) (hy : ev l y = some (.int .i64 n)) (h0 : 0 ≤ n) (h1 : n ≤ 1000000)
    (hu : ∀ w, (underlying t).run C.P w = .ok (.slice e) w) (hz : ∀ w, (sizeOf e).run C.P w = .ok K.sz w) (hzero : ∀ w, (zeroValue e).run C.P w = .ok z w) (hzs : Cells z zs) (hinf : ∀ w, (typeInfo e).run C.P w = .ok inf w) (hb : inf.bytes ≤ 1000)
    (hpos : 0 < K.sz) (hK : ∀ ok h, K.R ok h x0 zs) :
    OpX C ⟨dst, .makeSlice t x y, ty, pos, after, g⟩ l H Γ Value (fun v => v) (fun v => .own K v e (List.replicate n.toNat x0) :: H) (fun _ => Γ) :=
  opx_of (fun c => by simp) fun a w s => by
    have hzl : zs.length = K.sz := K.len (hK (fun _ => True) #[])
    have hzc : z.cells = zs.toArray := hzs
    have eqx := s.ev hx
    have eqy := s.ev hy
    have hwn : IntKind.i64.wrap n = n := wrapi (by omega) (by omega)
    have hbytes : ¬ ((inf.bytes : Int) * n > 2 ^ 48) := by
      have : (inf.bytes : Int) * n ≤ 1000 * 1000000 := Int.mul_le_mul (by omega) h1 h0 (by omega)
      omega
    have hask : ∀ k, (askRoom k).run C.P w = .ok () w := fun k => by
      unfold askRoom; split
      · simp [mark, Sem.run]
      · rfl
    have hrun : (execOp a.eval ⟨dst, .makeSlice t x y, ty, pos, after, g⟩).run C.P w = .ok (.value (.slice (some ⟨w.heap.size, 0, none⟩) n.toNat n.toNat)) (w.alloc (.cells (List.replicate n.toNat zs).flatten.toArray e)) := by
      simp only [execOp, eqx, eqy]
      simp only [Instr.makeSlice, Sem.run_bind, hu, Result.andThen, asInt, asIntOf, Sem.run_pure, hinf, hwn]
      rw [if_neg (by simp; omega)]
      simp only [Sem.run_bind, hask, Result.andThen, hz]
      by_cases hn0 : n.toNat = 0
      · rw [hn0]
        have e0 : ∀ f : Nat → Value, (Array.range 0).map f = #[] := fun f => Array.eq_empty_of_size_eq_zero (by simp)
        simp [run_newRow, e0]
      · rw [if_neg (by
          intro h
          rcases Nat.mul_eq_zero.1 h with h | h <;> omega)]
        simp only [hzero, Sem.run_bind, Result.andThen, Sem.run_pure, hzc]
        rw [← hzl, zero_flat zs n.toNat (by omega), run_newRow]
    refine ⟨_, _, hrun, ?_⟩
    by_cases hn0 : n.toNat = 0
    · rw [hn0]
      exact (s.hs.ext (alloc_ext _ _)).own_nil K e
    · refine s.hs.alloc (x := .own K (.slice (some ⟨w.heap.size, 0, none⟩) n.toNat n.toNat) e (List.replicate n.toNat x0)) (fun b => ⟨?_, ?_⟩) (alloc_ext _ _) (by simp) ?_
      · rintro ⟨k, c, e', h⟩
        simp only [Value.slice.injEq, Option.some.injEq, Addr.mk.injEq] at e'
        exact e'.1.1.symm
      · rintro rfl
        exact ⟨_, _, rfl, by omega⟩
      · refine .inr ⟨w.heap.size, n.toNat, (List.replicate n.toNat zs).flatten, [], by simp, by omega, by simp, by unfold maxN; omega, rws_rep (hK _ _) _, by simp, ?_⟩
        rw [List.append_nil]; exact alloc_at w _

theorem v_func {f : Nat} {cap : List Operand} {vs : List Value} (h : evs l cap = some vs) : OpV C ⟨dst, .makeFunc (.func f) #[] cap.toArray, ty, pos, after, g⟩ l H Γ (.func (.func f) #[] vs.toArray) :=
  opv_of (fun c => by simp) fun a w s => by
    have e := s.evs h
    simp [execOp, Instr.makeFunc, e]
end

/-! ### A function's contract -/
def Spec (P : Program) (f : FuncId) (args : List Value) (H0 : List Hl) (Γ0 : List PP) (X : Type) (ret : X → Value) (H1 : X → List Hl) (Γ1 : X → List PP) : Prop :=
  ∀ ok w, Hs ok w H0 H0 Γ0 w → Calls P f args.toArray w fun e w' => ∃ x, e = .returned (ret x) ∧ Hs ok w H0 (H1 x) (Γ1 x) w'

def SpecPost (ok : OkP) (w : World) (H0 : List Hl) (X : Type) (ret : X → Value) (H1 : X → List Hl) (Γ1 : X → List PP) : Ending → World → Prop := fun e w' => ∃ x, e = .returned (ret x) ∧ Hs ok w H0 (H1 x) (Γ1 x) w'

def enum : List Value → Nat → List (Nat × Value)
  | [], _ => []
  | v :: vs, k => (k, v) :: enum vs (k + 1)
theorem look_enum : ∀ (vs : List Value) (k t : Nat) (v : Value), look (enum vs k) t = some v → k ≤ t ∧ vs[t - k]? = some v := by
  intro vs
  induction vs with
  | nil => intro k t v h; cases h
  | cons u vs ih =>
    intro k t v h
    simp only [enum, look_cons] at h
    split at h
    · rename_i e; subst e; refine ⟨Nat.le_refl _, ?_⟩; rw [Nat.sub_self]; simpa using h
    · rename_i ne
      obtain ⟨h1, h2⟩ := ih (k + 1) t v h
      refine ⟨by omega, ?_⟩
      rw [show t - k = (t - (k + 1)) + 1 by omega]; simpa using h2

section
variable {P : Program} {f : FuncId} {fn : Func} {c : Code} {args : List Value} {H0 : List Hl} {Γ0 : List PP} {X : Type} {ret : X → Value} {H1 : X → List Hl} {Γ1 : X → List PP} {n : Nat}

theorem sat_enter {ok : OkP} {w : World} {r : Option Nat} (hn : fn.ntmps = n) (ha : args.length ≤ n) (h : Hs ok w H0 H0 Γ0 w) : Sat ⟨P, r, n, [], ok, w, H0⟩ (enum args 0) H0 Γ0 { tmps := args.toArray ++ Array.replicate (fn.ntmps - args.toArray.size) undef, defers := [] } w :=
  ⟨by simp; omega, rfl, fun t v hv => by
    obtain ⟨_, h2⟩ := look_enum args 0 t v hv
    rw [Nat.sub_zero] at h2
    have hlt := (List.getElem?_eq_some_iff.1 h2).1
    rw [Array.getElem?_append_left (by simpa using hlt)]
    simpa using h2, h⟩

theorem spec_of (hf : P.funcs[f]? = some fn) (hb : fn.body = some c) (hn : fn.ntmps = n) (ha : args.length ≤ n)
    (h : ∀ ok w, J ⟨P, none, n, [], ok, w, H0⟩ (bodyPost P fn (SpecPost ok w H0 X ret H1 Γ1)) c (enum args 0) H0 Γ0) : Spec P f args H0 Γ0 X ret H1 Γ1 := fun ok w hs =>
  (callsIn_wide (n := 0)).1 (callsIn_of_wp hf hb trivial (h ok w _ w (sat_enter hn ha hs)))
/-- .. where the body ranges over functions. -/
theorem spec_ofM (hf : P.funcs[f]? = some fn) (hb : fn.body = some c) (hn : fn.ntmps = n) (ha : args.length ≤ n)
    (h : ∀ ok w, J ⟨P, none, n, [], ok, w, H0⟩ (bodyPostM (FR none) 0 P fn (SpecPost ok w H0 X ret H1 Γ1)) c (enum args 0) H0 Γ0) : Spec P f args H0 Γ0 X ret H1 Γ1 := fun ok w hs =>
  (callsIn_wide (n := 0)).1 (callsIn_of_wp_marks hf hb trivial (h ok w _ w (sat_enter hn ha hs)))
end

section
variable {C : Cx} {l : List (Nat × Value)} {H : List Hl} {Γ : List PP} {dst : Option Tmp} {ty : TypeId} {pos : String} {after : Array Edge} {g : Option (Nat × Bool)}

theorem call_run {C : Cx} {l : List (Nat × Value)} {H : List Hl} {Γ : List PP} {a : Act} {w : World} (s : Sat C l H Γ a w) {f : FuncId} {fo : Operand} {caps : List Value} {xs : List Operand} {vs : List Value} {ts : Array TypeId} (hfo : ev l fo = some (.func (.func f) #[] caps.toArray)) (hx : evs l xs = some vs)
    (hc : ∀ args w, (callFunc f args).run C.P w = .ok (.enter f args) w) : (execOp a.eval ⟨dst, .call { callee := .value fo, args := xs.toArray, argTypes := ts }, ty, pos, after, g⟩).run C.P w = .ok (.enter f (vs ++ caps).toArray) w := by
  have e := s.evs hx
  have ef := s.ev hfo
  simp only [execOp, resolve, ef, Deferred.ofValue, List.map_toArray, e]
  simp [invoke, hc]

/-- A call. H0: what the callee is handed of what is owned. -/
theorem x_call {f : FuncId} {fo : Operand} {caps : List Value} {xs : List Operand} {vs : List Value} {ts : Array TypeId} {H0 R : List Hl} {Γ0 : List PP} {X : Type} {ret : X → Value} {H1 : X → List Hl} {Γ1 : X → List PP}
    (hs : Spec C.P f (vs ++ caps) H0 Γ0 X ret H1 Γ1) (hfo : ev l fo = some (.func (.func f) #[] caps.toArray)) (hx : evs l xs = some vs) (hc : ∀ args w, (callFunc f args).run C.P w = .ok (.enter f args) w) (hd : Dels H H0 R) (hΓ : ∀ p ∈ Γ0, p ∈ Γ) :
    OpX C ⟨dst, .call { callee := .value fo, args := xs.toArray, argTypes := ts }, ty, pos, after, g⟩ l H Γ X ret (fun x => H1 x ++ R) (fun x => Γ1 x ++ Γ) := fun a w s => by
  refine doesV_enter (w' := w) (f := f) (args := (vs ++ caps).toArray) (fun c => by simp) (call_run s hfo hx hc) ?_
  refine (hs _ w (s.hs.into hd hΓ)).mono ?_
  rintro e w' ⟨x, rfl, h⟩
  exact ⟨ret x, rfl, x, rfl, s.hs.back hd h⟩
/-- .. that is handed nothing, and hands nothing back. -/
theorem q_call {f : FuncId} {fo : Operand} {caps : List Value} {xs : List Operand} {vs : List Value} {ts : Array TypeId} {Γ0 : List PP} {X : Type} {ret : X → Value} {Γ1 : X → List PP}
    (hs : Spec C.P f (vs ++ caps) [] Γ0 X ret (fun _ => []) Γ1) (hfo : ev l fo = some (.func (.func f) #[] caps.toArray)) (hx : evs l xs = some vs) (hc : ∀ args w, (callFunc f args).run C.P w = .ok (.enter f args) w) (hΓ : ∀ p ∈ Γ0, p ∈ Γ) :
    OpQ C ⟨dst, .call { callee := .value fo, args := xs.toArray, argTypes := ts }, ty, pos, after, g⟩ l H Γ X ret Γ1 := fun a w s => by
  refine doesV_enter (w' := w) (f := f) (args := (vs ++ caps).toArray) (fun c => by simp) (call_run s hfo hx hc) ?_
  have hd : Dels H [] H := .nil
  refine (hs _ w (s.hs.into hd hΓ)).mono ?_
  rintro e w' ⟨x, rfl, h⟩
  have hb := s.hs.back hd h
  exact ⟨ret x, rfl, x, rfl, h.fr, fun p hp => hb.facts p (List.mem_append_left _ hp)⟩

theorem x_callf {f : FuncId} {xs : List Operand} {vs : List Value} {ts : Array TypeId} {H0 R : List Hl} {Γ0 : List PP} {X : Type} {ret : X → Value} {H1 : X → List Hl} {Γ1 : X → List PP}
    (hs : Spec C.P f vs H0 Γ0 X ret H1 Γ1) (hx : evs l xs = some vs) (hc : ∀ args w, (callFunc f args).run C.P w = .ok (.enter f args) w) (hΓ : ∀ p ∈ Γ0, p ∈ Γ) (hd : Dels H H0 R) :
    OpX C ⟨dst, .call { callee := .value (.func f), args := xs.toArray, argTypes := ts }, ty, pos, after, g⟩ l H Γ X ret (fun x => H1 x ++ R) (fun x => Γ1 x ++ Γ) :=
  x_call (caps := []) (by rw [List.append_nil]; exact hs) rfl hx hc hd hΓ
theorem q_callf {f : FuncId} {xs : List Operand} {vs : List Value} {ts : Array TypeId} {Γ0 : List PP} {X : Type} {ret : X → Value} {Γ1 : X → List PP}
    (hs : Spec C.P f vs [] Γ0 X ret (fun _ => []) Γ1) (hx : evs l xs = some vs) (hc : ∀ args w, (callFunc f args).run C.P w = .ok (.enter f args) w) (hΓ : ∀ p ∈ Γ0, p ∈ Γ) :
    OpQ C ⟨dst, .call { callee := .value (.func f), args := xs.toArray, argTypes := ts }, ty, pos, after, g⟩ l H Γ X ret Γ1 :=
  q_call (caps := []) (by rw [List.append_nil]; exact hs) rfl hx hc hΓ
theorem x_callc {f : FuncId} {fo : Operand} {caps args : List Value} {xs : List Operand} {vs : List Value} {ts : Array TypeId} {H0 R : List Hl} {Γ0 : List PP} {X : Type} {ret : X → Value} {H1 : X → List Hl} {Γ1 : X → List PP}
    (hs : Spec C.P f args H0 Γ0 X ret H1 Γ1) (hfo : ev l fo = some (.func (.func f) #[] caps.toArray)) (hx : evs l xs = some vs) (ha : vs ++ caps = args) (hc : ∀ args w, (callFunc f args).run C.P w = .ok (.enter f args) w) (hΓ : ∀ p ∈ Γ0, p ∈ Γ) (hd : Dels H H0 R) :
    OpX C ⟨dst, .call { callee := .value fo, args := xs.toArray, argTypes := ts }, ty, pos, after, g⟩ l H Γ X ret (fun x => H1 x ++ R) (fun x => Γ1 x ++ Γ) :=
  x_call (caps := caps) (by rw [ha]; exact hs) hfo hx hc hd hΓ

theorem mem0 {Γ : List PP} : ∀ p ∈ ([] : List PP), p ∈ Γ := fun _ h => by cases h
theorem memc {q : PP} {Δ Γ : List PP} (h : q ∈ Γ) (k : ∀ p ∈ Δ, p ∈ Γ) : ∀ p ∈ q :: Δ, p ∈ Γ := fun p hp => by
  rcases List.mem_cons.1 hp with rfl | hp
  · exact h
  · exact k p hp
theorem lsub0 {l : List (Nat × Value)} : ∀ t v, look [] t = some v → look l t = some v := fun _ _ h => by cases h
theorem lsub {l l' : List (Nat × Value)} {t : Nat} {v : Value} (h : look l t = some v) (k : ∀ t v, look l' t = some v → look l t = some v) : ∀ t' u, look ((t, v) :: l') t' = some u → look l t' = some u := fun t' u hu => by
  rw [look_cons] at hu
  split at hu
  · rename_i e; subst e; rw [h]; exact hu
  · exact k t' u hu

/-! ### The end of a function -/
inductive RVal (C : Cx) (l : List (Nat × Value)) (H : List Hl) : ResultVar → Value → Prop
  | tmp {t : Nat} {v : Value} : look l t = some v → RVal C l H (.tmp t) v
  | cell {t B k : Nat} {T : TypeId} {cs : List Value} {U : TypeId} {v : Value} : look l t = some (ptr B k) → Hl.blk B cs U ∈ H → (∀ w, (isAgg T).run C.P w = .ok false w) → cs[k]? = some v → RVal C l H (.cell t T) v
  | agg {t B k n : Nat} {T : TypeId} {cs vs : List Value} {U : TypeId} : look l t = some (ptr B k) → Hl.blk B cs U ∈ H → (∀ w, (isAgg T).run C.P w = .ok true w) → (∀ w, (sizeOf T).run C.P w = .ok n w) → (cs.drop k).take n = vs → vs.length = n → RVal C l H (.cell t T) (.agg vs.toArray)

theorem RVal.run {rv : ResultVar} {v : Value} (h : RVal C l H rv v) {a : Act} {w : World} (s : Sat C l H Γ a w) :
    (match rv with | .tmp t => (pure (a.tmps.getD t undef) : Sem Value) | .cell x t => do loadVar t (← asAddr (a.tmps.getD x undef))).run C.P w = .ok v w := by
  have getD_of : ∀ {t : Nat} {u : Value}, look l t = some u → a.tmps.getD t undef = u := fun {t u} h => by
    rw [Array.getD_eq_getD_getElem?, s.sl t u h]; rfl
  cases h with
  | tmp h => simp [getD_of h]
  | cell h hm ha hv =>
    rename_i t B k T cs U
    have hc : w.cell? ⟨B, k, none⟩ = some v := by rw [blk_cell (blk_at s hm), hv]
    simp only [getD_of h, ptr]
    simp [asAddr, loadVar, ha, hc]
  | agg h hm ha hz hv hn =>
    rename_i t B k n T cs vs U
    have hc : ∀ j, j < vs.length → w.cell? ⟨B, k + j, none⟩ = vs[j]? := fun j hj => by
      rw [blk_cell (blk_at s hm), ← hv, List.getElem?_take, if_pos (by omega), List.getElem?_drop]
    have := run_loadCells (P := C.P) vs hc
    rw [hn] at this
    simp only [getD_of h, ptr]
    simp [asAddr, loadVar, ha, hz, this]

inductive All2 {α β : Type} (R : α → β → Prop) : List α → List β → Prop
  | nil : All2 R [] []
  | cons {x : α} {y : β} {xs : List α} {ys : List β} : R x y → All2 R xs ys → All2 R (x :: xs) (y :: ys)
def resOne (a : Act) (x : ResultVar) : Sem Value := match x with | .tmp t => (pure (a.tmps.getD t undef) : Sem Value) | .cell x t => do loadVar t (← asAddr (a.tmps.getD x undef))
theorem results_run : ∀ {rvs : List ResultVar} {vs : List Value}, All2 (RVal C l H) rvs vs → ∀ {a : Act} {w : World}, Sat C l H Γ a w → (rvs.mapM (resOne a)).run C.P w = .ok vs w := by
  intro rvs
  induction rvs with
  | nil => intro vs h a w s; cases h; simp
  | cons rv rvs ih =>
    intro vs h a w s
    cases h with
    | cons h1 h2 =>
      have h0 : (resOne a rv).run C.P w = _ := h1.run s
      rw [List.mapM_cons, Sem.run_bind, h0]
      simp only [Result.andThen]
      rw [Sem.run_bind, ih h2 s]
      simp [Result.andThen]
def resVal : List Value → Value
  | [v] => v
  | vs => .tuple vs.toArray
theorem results_eq {fn : Func} {rvs : List ResultVar} {vs : List Value} (hr : fn.results = rvs.toArray) (h : All2 (RVal C l H) rvs vs) {a : Act} {w : World} (s : Sat C l H Γ a w) : (results fn a.tmps).run C.P w = .ok (resVal vs) w := by
  unfold results
  rw [hr]
  have h0 := results_run h s
  have h1 : ((rvs.toArray).mapM (resOne a)).run C.P w = .ok vs.toArray w := by
    rw [List.mapM_toArray, Sem.run_map, h0]; rfl
  rw [Sem.run_bind]
  erw [h1]
  simp only [Result.andThen, Sem.run_pure]
  match vs with
  | [] => rfl
  | [v] => rfl
  | v :: u :: r => simp [resVal]

theorem je_ret {fn : Func} {rvs : List ResultVar} {vs : List Value} {X : Type} {ret : X → Value} {H1 : X → List Hl} {Γ1 : X → List PP} {ok : OkP} {w0 : World} {H0 : List Hl} {P : Program} (hP : C.P = P) (hok : C.ok = ok) (hw : C.w0 = w0) (hH : C.H0 = H0) (hds : C.ds = [])
    (hr : fn.results = rvs.toArray) (h : All2 (RVal C l H) rvs vs) (x : X) (hx : resVal vs = ret x) (hh : ∀ w, Hs ok w0 H0 H Γ w → Hs ok w0 H0 (H1 x) (Γ1 x) w) {e : Exit} (he : e = .ret ∨ e = .normal) : JE C (bodyPost P fn (SpecPost ok w0 H0 X ret H1 Γ1)) e l H Γ := fun a w s => by
  subst hP; subst hok; subst hw; subst hH
  have hd : a.defers = [] := s.ds.trans hds
  have hrun := results_eq hr h s
  rcases he with rfl | rfl
  · exact ⟨hd, _, hrun, x, by rw [hx], hh w s.hs⟩
  · exact ⟨hd, _, hrun, x, by rw [hx], hh w s.hs⟩
end
end Go.Proofs.Ytjgacbopccfecaa
