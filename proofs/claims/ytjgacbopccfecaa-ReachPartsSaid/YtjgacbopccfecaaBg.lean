/-
  More rules: whole numbers of other kinds, shifts, conversions; a slice of a slice; 'copy'; a store into an element of one's own; nil slices; sets of numbers kept in a map.
-/
import Derived.Test.YtjgacbopccfecaaBf
set_option linter.unusedVariables false
set_option linter.unusedSimpArgs false
set_option linter.unusedSectionVars false
namespace Go.Proofs.Ytjgacbopccfecaa

section
variable {C : Cx} {l : List (Nat × Value)} {H : List Hl} {Γ : List PP} {dst : Option Tmp} {ty : TypeId} {pos : String} {after : Array Edge} {g : Option (Nat × Bool)}

theorem v_uleq {x y : Operand} {t t2 : TypeId} {k : IntKind} {p q : Int} (hx : ev l x = some (.int k p)) (hy : ev l y = some (.int k q)) : OpV C ⟨dst, .binOp .leq t x y t2, ty, pos, after, g⟩ l H Γ (.bool (decide (p ≤ q))) :=
  opv_of (fun c => by simp) fun a w s => by (simp only [execOp, s.ev hx, s.ev hy]; simp [eqGuard, go_sem])
theorem v_conv {x : Operand} {t t2 : TypeId} {k k2 : IntKind} {p q : Int} {d : TypeDesc} (hx : ev l x = some (.int k p)) (hu : ∀ w, (underlying t).run C.P w = .ok d w) (hu2 : ∀ w, (underlying t2).run C.P w = .ok (.int k2) w) (hq : k2.wrap p = q) : OpV C ⟨dst, .convert t t2 x, ty, pos, after, g⟩ l H Γ (.int k2 q) :=
  opv_of (fun c => by simp) fun a w s => by
    subst hq
    simp only [execOp, s.ev hx]; simp [convert, hu, hu2, Conv.intToInt]
theorem v_shl {x y : Operand} {t t2 : TypeId} {k2 : IntKind} {p q r : Int} (hx : ev l x = some (.int .i64 p)) (hy : ev l y = some (.int k2 q)) (hq : 0 ≤ q ∧ q < 64) (hr : p * 2 ^ q.toNat = r) (h1 : -9223372036854775808 ≤ r) (h2 : r ≤ 9223372036854775807) :
    OpV C ⟨dst, .binOp .shl t x y t2, ty, pos, after, g⟩ l H Γ (.int .i64 r) :=
  opv_of (fun c => by simp) fun a w s => by
    have hw := wrapi h1 h2
    have hm : min q.toNat IntKind.i64.bits = q.toNat := Nat.min_eq_left (by simp [IntKind.bits]; omega)
    have hn : ¬ q < 0 := by omega
    simp only [execOp, s.ev hx, s.ev hy]
    simp [eqGuard, binOp, Op.shift, hn, hm, hr, hw]
theorem v_or {x y : Operand} {t t2 : TypeId} {p q r : Int} (hx : ev l x = some (.int .i64 p)) (hy : ev l y = some (.int .i64 q)) (hr : ∀ w, (Op.intBits .or .i64 p q).run C.P w = .ok (.int .i64 r) w) :
    OpV C ⟨dst, .binOp .or t x y t2, ty, pos, after, g⟩ l H Γ (.int .i64 r) :=
  opv_of (fun c => by simp) fun a w s => by
    simp only [execOp, s.ev hx, s.ev hy]
    simp [eqGuard, binOp, hr]
theorem v_min {x y : Operand} {p q : Int} {ts : Array TypeId} (hx : ev l x = some (.int .i64 p)) (hy : ev l y = some (.int .i64 q)) : OpV C ⟨dst, .call { callee := .builtin .min, args := #[x, y], argTypes := ts }, ty, pos, after, g⟩ l H Γ (.int .i64 (if q < p then q else p)) :=
  opv_of (fun c => by simp) fun a w s => by
    simp only [execOp, resolve, List.map_toArray, List.map_cons, List.map_nil, s.ev hx, s.ev hy]
    by_cases h : q < p <;> simp [invoke, builtin, go_sem, h, Builtin.min_, Builtin.min2]

/-- element k of an array written out. -/
theorem v_aindex {x y : Operand} {t e : TypeId} {cs : List Value} {i : Int} {v : Value} {n : Nat} (hx : ev l x = some (.agg cs.toArray)) (hy : ev l y = some (.int .i64 i)) (hu : ∀ w, (underlying t).run C.P w = .ok (.array n e) w) (hz : ∀ w, (sizeOf e).run C.P w = .ok 1 w) (ha : ∀ w, (isAgg e).run C.P w = .ok false w)
    (h0 : 0 ≤ i) (h1 : i < n) (hv : cs[i.toNat]? = some v) : OpV C ⟨dst, .index t x y, ty, pos, after, g⟩ l H Γ v :=
  opv_of (fun c => by simp) fun a w s => by
    simp only [execOp, s.ev hx, s.ev hy]
    simp [Instr.index, asIntOf, hu, hz, h0, h1, part, ha, hv]

theorem run_eqnil {P : Program} {w : World} {t e : TypeId} {A : Option Addr} {n c : Nat} (hu : ∀ w, (underlying t).run P w = .ok (.slice e) w) (d : Nat) : (Op.equalIn (d + 1) t (.slice A n c) (.slice none 0 0)).run P w = .ok A.isNone w := by
  cases A <;> simp [Op.equalIn, hu]
/-- a slice value against nil. -/
theorem l_nil {α : Type} {K : Kd α} {x : Operand} {v : Value} {xs : List α} {t t2 e : TypeId} (hx : ev l x = some v) (h : Row C H Γ K v xs) (hu : ∀ w, (underlying t).run C.P w = .ok (.slice e) w) :
    OpL C ⟨dst, .binOp .eql t x (.const (.slice none 0 0)) t2, ty, pos, after, g⟩ l H Γ { b : Bool // b = true → xs = [] } (fun b => .bool b.1) (fun _ => []) := ⟨fun c => by simp, fun a w s => by
  obtain ⟨A, c, e, h1, h2, h3⟩ := h.slice s
  refine ⟨⟨A.isNone, fun hb => ?_⟩, fun w' _ => ?_, fun p hp => by cases hp⟩
  · rcases Nat.eq_zero_or_pos xs.length with h | h
    · exact List.eq_nil_of_length_eq_zero h
    · obtain ⟨b, o, cs, eA, _⟩ := h3 h; rw [eA] at hb; simp at hb
  · simp only [execOp, s.ev hx, e]
    have key := run_eqnil (A := A) (n := xs.length) (c := c) (w := w') hu 9999
    have key' : (Op.equalIn Op.maxDepth t (.slice A xs.length c) (.slice none 0 0)).run C.P w' = .ok A.isNone w' := key
    simp [Act.eval, eqGuard, binOp, Op.equal, key']⟩

/-- a slice of a slice that lasts. -/
theorem l_slice {α : Type} {K : Kd α} {x : Operand} {v : Value} {xs : List α} {t e : TypeId} {lo hi : Option Operand} {i j : Nat} (hx : ev l x = some v) (h : sl K v xs ∈ Γ) (hu : ∀ w, (underlying t).run C.P w = .ok (.slice e) w) (hz : ∀ w, (sizeOf e).run C.P w = .ok K.sz w)
    (hlo : (lo = none ∧ i = 0) ∨ ∃ o, lo = some o ∧ ev l o = some (.int .i64 i)) (hhi : (hi = none ∧ j = xs.length) ∨ ∃ o, hi = some o ∧ ev l o = some (.int .i64 j)) (hij : i ≤ j) (hj : j ≤ xs.length) :
    OpL C ⟨dst, .slice t x lo hi none, ty, pos, after, g⟩ l H Γ Value (fun v => v) (fun v' => [sl K v' ((xs.take j).drop i)]) := ⟨fun c => by simp, fun a w s => by
  obtain ⟨A, c, e0, h1, h2, h3⟩ := s.hs.facts _ h
  have hlen : ((xs.take j).drop i).length = j - i := by simp; omega
  refine ⟨.slice (if c = i then A else A.map (·.add (i * K.sz))) (j - i) (c - i), fun w' _ => ?_, fun p hp => ?_⟩
  · have hi2 : (hi.map a.eval = none ∧ j = xs.length) ∨ hi.map a.eval = some (.int .i64 j) := by
      rcases hhi with ⟨rfl, e⟩ | ⟨o, rfl, e⟩
      · exact .inl ⟨rfl, e⟩
      · exact .inr (by simp [s.ev e])
    have lo2 : (lo.map a.eval = none ∧ i = 0) ∨ lo.map a.eval = some (.int .i64 i) := by
      rcases hlo with ⟨rfl, e⟩ | ⟨o, rfl, e⟩
      · exact .inl ⟨rfl, e⟩
      · exact .inr (by simp [s.ev e])
    have hjc : j ≤ c := by omega
    have hij' : (i : Int) ≤ j := by omega
    simp only [execOp, s.ev hx, e0]
    rcases hi2 with ⟨e1, e2⟩ | e1 <;> rcases lo2 with ⟨e3, e4⟩ | e3 <;> rw [e1, e3]
    · simp [Instr.sliceAt, Instr.slice, Instr.sliceBounds, Instr.sliceBound, hu, hz, asIntOf, e2, e4]
    · subst e2
      simp [Instr.sliceAt, Instr.slice, Instr.sliceBounds, Instr.sliceBound, hu, hz, asIntOf, hij]
    · subst e4
      simp [Instr.sliceAt, Instr.slice, Instr.sliceBounds, Instr.sliceBound, hu, hz, asIntOf, hjc]
    · simp [Instr.sliceAt, Instr.slice, Instr.sliceBounds, Instr.sliceBound, hu, hz, asIntOf, hjc, hij]
  · rw [List.mem_singleton] at hp; subst hp
    refine ⟨_, c - i, by rw [hlen], by rw [hlen]; omega, by omega, fun hpos => ?_⟩
    rw [hlen] at hpos
    obtain ⟨b, o, cs, eA, hok, hlt, hr, hc⟩ := h3 (by omega)
    have hne : ¬ c = i := by omega
    have r1 := (hr.split j).1
    have r2 := (r1.split i).2
    refine ⟨b, o + i * K.sz, _, by rw [if_neg hne, eA]; simp [addr_add], hok, hlt, r2, fun m hm => ?_⟩
    have hl := hr.len
    have hl2 := r2.len
    simp only [List.length_drop, List.length_take] at hm
    rw [Nat.add_assoc, hc _ (by omega), List.getElem?_drop, List.getElem?_take, if_pos (by omega)]⟩

theorem q_make {α : Type} {K : Kd α} {x y : Operand} {t e : TypeId} {z : Value} {zs : List Value} {n : Int} {inf : TypeInfo} (x0 : α) (hx : ev l x = some (.int .i64 n)) (hy : ev l y = some (.int .i64 n)) (h0 : 0 ≤ n) (h1 : n ≤ 1000000)
    (hu : ∀ w, (underlying t).run C.P w = .ok (.slice e) w) (hz : ∀ w, (sizeOf e).run C.P w = .ok K.sz w) (hzero : ∀ w, (zeroValue e).run C.P w = .ok z w) (hzs : Cells z zs) (hinf : ∀ w, (typeInfo e).run C.P w = .ok inf w) (hb : inf.bytes ≤ 1000)
    (hpos : 0 < K.sz) (hK : ∀ ok h, K.R ok h x0 zs) :
    OpQ C ⟨dst, .makeSlice t x y, ty, pos, after, g⟩ l H Γ Value (fun v => v) (fun v => [sl K v (List.replicate n.toNat x0)]) := fun a w s => by
    have hzl : zs.length = K.sz := K.len (hK (fun _ => True) #[])
    have hzc : z.cells = zs.toArray := hzs
    have eqx := s.ev hx
    have eqy := s.ev hy
    have hwn : IntKind.i64.wrap n = n := wrapi (by omega) (by omega)
    have hbytes : ¬ ((inf.bytes : Int) * n > 2 ^ 48) := by
      have : (inf.bytes : Int) * n ≤ 1000 * 1000000 := Int.mul_le_mul (by omega) h1 h0 (by omega)
      omega
    have hask : ∀ k, (askRoom k).run C.P w = .ok () w := fun k => by
      unfold askRoom; split
      · simp [mark, Sem.run]
      · rfl
    have hrun : (execOp a.eval ⟨dst, .makeSlice t x y, ty, pos, after, g⟩).run C.P w = .ok (.value (.slice (some ⟨w.heap.size, 0, none⟩) n.toNat n.toNat)) (w.alloc (.cells (List.replicate n.toNat zs).flatten.toArray e)) := by
      simp only [execOp, eqx, eqy]
      simp only [Instr.makeSlice, Sem.run_bind, hu, Result.andThen, asInt, asIntOf, Sem.run_pure, hinf, hwn]
      rw [if_neg (by simp; omega)]
      simp only [Sem.run_bind, hask, Result.andThen, hz]
      by_cases hn0 : n.toNat = 0
      · rw [hn0]
        have e0 : ∀ f : Nat → Value, (Array.range 0).map f = #[] := fun f => Array.eq_empty_of_size_eq_zero (by simp)
        simp [run_newRow, e0]
      · rw [if_neg (by
          intro h
          rcases Nat.mul_eq_zero.1 h with h | h <;> omega)]
        simp only [hzero, Sem.run_bind, Result.andThen, Sem.run_pure, hzc]
        rw [← hzl, zero_flat zs n.toNat (by omega), run_newRow]
    refine (doesV_run (fun c => by simp) hrun).mono ?_
    rintro v' w'' ⟨rfl, rfl⟩
    have hext := alloc_ext w (.cells (List.replicate n.toNat zs).flatten.toArray e)
    refine ⟨_, rfl, hext, ?_⟩
    intro p hp
    rw [List.mem_singleton] at hp
    subst hp
    have hrows : ∀ (k : Nat) ok h, Rws K ok h (List.replicate k x0) (List.replicate k zs).flatten := by
      intro k
      induction k with
      | zero => intro ok h; exact .nil
      | succ k ih => intro ok h; rw [List.replicate_succ, List.replicate_succ, List.flatten_cons]; exact .cons (hK ok h) (ih ok h)
    refine ⟨_, n.toNat, by rw [List.length_replicate], by rw [List.length_replicate]; exact Nat.le_refl _, by unfold maxN; omega, fun _ => ⟨w.heap.size, 0, _, rfl, ⟨s.hs.new _ s.hs.fr.size, fun y hy hat => ?_⟩, by simp, hrows _ _ _, fun j hj => ?_⟩⟩
    · have := (s.hs.lt y hy _ hat).1; omega
    · unfold hcell; rw [alloc_at]; simp

/-! ### Stores into one's own -/
theorem x_storeE {α : Type} {K : Kd α} {x y : Operand} {t T : TypeId} {v : Value} {xs : List α} {e e' : α} {i f n : Nat} {vs : List Value} {vy : Value} {H' : List Hl} (hx : ev l x = some (eptr K.sz v i f)) (hy : ev l y = some vy) [hv : CellsC C H Γ vy vs] (hi : xs[i]? = some e)
    (hP : Put H (.own K v T xs) (.own K v T (xs.set i e')) H') (hz : ∀ w, (sizeOf t).run C.P w = .ok n w) (hn : vs.length = n) (hf : f + n ≤ K.sz) (hK : ∀ ok h c, (∀ p ∈ Γ, p.p ok h) → K.R ok h e c → K.R ok h e' (over c f vs)) :
    OpX C ⟨dst, .store t x y, ty, pos, after, g⟩ l H Γ Unit (fun _ => undef) (fun _ => H') (fun _ => Γ) :=
  opx_skip (fun c => by simp) fun a w s => by
    obtain ⟨hi', rfl⟩ := List.getElem?_eq_some_iff.1 hi
    obtain ⟨hcl, hone⟩ := hv.cells l a w s
    rcases s.hs.sat _ hP.mem with ⟨_, rfl⟩ | ⟨B, cap, cs, junk, ev, h0, h1, h2, hr, h4, h5⟩
    · simp at hi'
    · have hl := hr.len
      have hroom : (i + 1) * K.sz ≤ cs.length := by rw [hl]; exact Nat.mul_le_mul_right _ hi'
      rw [Nat.add_mul, Nat.one_mul] at hroom
      obtain ⟨w', hrun, ht⟩ := run_storeCells (P := C.P) (t := T) vs (0 + (i * K.sz + f)) 0 (cs ++ junk) w hone (by rw [List.length_append]; omega) h5
      refine ⟨(), w', ?_, ?_⟩
      · have hv' : vy.cells = vs.toArray := hcl
        subst ev
        have hrun' : (storeCells ⟨B, i * K.sz + f, none⟩ vs 0).run C.P w = .ok () w' := by simpa using hrun
        simp [execOp, s.ev hx, s.ev hy, eptr, Instr.storeAt, Instr.sureAddr, storeVar, hz, hv', hn, addr_add, hrun']
      · obtain ⟨c, hc, hcj⟩ := hr.get hi'
        have hcl' := K.len hc
        refine s.hs.put hP ht.os ht.tape ht.output (Nat.le_of_eq ht.size.symm) (fun b _ hb => ht.other b fun e => hb (by subst e; exact ⟨_, _, ev, h0⟩)) (fun b hb => ⟨?_, .inl ?_⟩) fun lst => ?_
        · rw [ht.size]; exact (s.hs.lt _ hP.mem b (by obtain ⟨n', c', e1, e2⟩ := hb; exact ⟨n', c', e1, e2⟩)).1
        · obtain ⟨n', c', e1, e2⟩ := hb; exact ⟨n', c', e1, e2⟩
        · refine .inr ⟨B, cap, cs.take (i * K.sz) ++ over c f vs ++ cs.drop ((i + 1) * K.sz), junk, by rw [ev, List.length_set], h0, by rw [List.length_set]; exact h1, h2, ?_, by rw [List.length_set]; exact h4, ?_⟩
          · exact Rws.set (K.pers lst (hK _ _ _ s.hs.facts hc)) (hr.pers lst) hi'
          · have hat := ht.at_
            rw [hat]
            congr 2
            rw [Nat.add_zero, Nat.zero_add]
            have hce : (cs.drop (i * K.sz)).take K.sz = c := by
              apply List.ext_getElem?
              intro j
              rw [List.getElem?_take]
              split
              · rw [List.getElem?_drop, hcj j (by assumption)]
              · rw [List.getElem?_eq_none]; omega
            have e1 : (i + 1) * K.sz = i * K.sz + K.sz := by rw [Nat.add_mul, Nat.one_mul]
            unfold over
            rw [List.take_append_of_le_length (by omega), List.drop_append_of_le_length (by omega), ← hce, e1]
            congr 1
            rw [List.take_take, Nat.min_eq_left (by omega), List.take_drop, List.take_drop]
            simp only [List.append_assoc]
            have e2 : cs.take (i * K.sz + f) = cs.take (i * K.sz) ++ (cs.take (i * K.sz + f)).drop (i * K.sz) := by
              have := List.take_append_drop (i * K.sz) (cs.take (i * K.sz + f))
              rw [List.take_take, Nat.min_eq_left (by omega)] at this
              exact this.symm
            have e3 : cs.drop (i * K.sz + f + vs.length) = (List.drop (i * K.sz) (List.take (i * K.sz + K.sz) cs)).drop (f + vs.length) ++ cs.drop (i * K.sz + K.sz) := by
              rw [List.drop_drop]
              have h3 := List.take_append_drop (i * K.sz + K.sz) cs
              conv => lhs; rw [← h3]
              rw [List.drop_append_of_le_length (by rw [List.length_take]; omega), Nat.add_assoc]
            conv => lhs; rw [e2, e3]
            simp only [List.append_assoc]

/-- copy(dst, src), as long as each other. -/
theorem x_copy {α : Type} {K : Kd α} {x y : Operand} {t e t2 : TypeId} {v vy : Value} {xs ys : List α} {H' : List Hl} (hx : ev l x = some v) (hy : ev l y = some vy) (hP : Put H (.own K v e xs) (.own K v e ys) H') (hs : Row C H Γ K vy ys) (hlen : xs.length = ys.length)
    (hu : ∀ w, (underlying t).run C.P w = .ok (.slice e) w) (hz : ∀ w, (sizeOf e).run C.P w = .ok K.sz w) :
    OpX C ⟨dst, .call { callee := .builtin .copy, args := #[x, y], argTypes := #[t, t2] }, ty, pos, after, g⟩ l H Γ Unit (fun _ => .int .i64 ys.length) (fun _ => H') (fun _ => Γ) :=
  opx_of (fun c => by simp) fun a w s => by
    obtain ⟨ds, cy, Ay, ey, hrd, hld, hfirst⟩ := row_first hs s
    have eqx := s.ev hx
    have eqy := s.ev hy
    have hyl : (Builtin.lenOf vy).run C.P w = .ok ys.length w := by rw [ey]; rfl
    have hf := hfirst w (fun _ _ _ => rfl)
    have hmin : Nat.min ys.length xs.length = ys.length := by rw [hlen]; exact Nat.min_self _
    rcases s.hs.sat _ hP.mem with ⟨⟨A, e0⟩, rfl⟩ | ⟨B, cap, cs, junk, e0, h0, h1, h2, hr, h4, h5⟩
    · have hy0 : ys = [] := List.eq_nil_of_length_eq_zero (by simpa using hlen.symm)
      subst hy0
      have hds : ds = [] := List.eq_nil_of_length_eq_zero (by simpa using hld)
      subst hds
      refine ⟨(), w, ?_, ?_⟩
      · simp only [execOp, resolve, List.map_toArray, List.map_cons, List.map_nil, eqx, eqy, e0]
        simp only [List.length_nil] at hf hyl
        cases A <;> simp [invoke, builtin, Builtin.copy_, hu, hyl, hz, hf, storeCells, goInt]
      · refine s.hs.put hP rfl rfl (.refl _) (Nat.le_refl _) (fun _ _ _ => rfl) (fun b hb => absurd hb ?_) fun _ => .inl ⟨⟨A, e0⟩, rfl⟩
        rw [e0]; exact own_no_block b
    · have hl := hr.len
      have hdl : ds.length = cs.length := by rw [hld, hl, hlen]
      obtain ⟨w', hrun, ht⟩ := run_storeCells (P := C.P) (t := e) ds 0 0 (cs ++ junk) w hrd.one (by rw [List.length_append]; omega) h5
      have hover : over (cs ++ junk) (0 + 0) ds = ds ++ junk := by
        unfold over
        rw [Nat.zero_add, List.take_zero, List.nil_append, Nat.zero_add, hdl, List.drop_left]
      rw [hover] at ht
      refine ⟨(), w', ?_, ?_⟩
      · simp only [execOp, resolve, List.map_toArray, List.map_cons, List.map_nil, eqx, eqy, e0]
        simp [invoke, builtin, Builtin.copy_, hu, hyl, hz, hmin, hf, hrun, goInt]
      · refine s.hs.put hP ht.os ht.tape ht.output (Nat.le_of_eq ht.size.symm) (fun b _ hb => ht.other b fun e' => hb (by subst e'; exact ⟨_, _, e0, h0⟩)) (fun b hb => ⟨?_, .inl ?_⟩) fun lst => ?_
        · rw [ht.size]; exact (s.hs.lt _ hP.mem b (by obtain ⟨n', c', e1, e2⟩ := hb; exact ⟨n', c', e1, e2⟩)).1
        · obtain ⟨n', c', e1, e2⟩ := hb; exact ⟨n', c', e1, e2⟩
        · exact .inr ⟨B, cap, ds, junk, by rw [e0, hlen], h0, by omega, h2, hrd.pers lst, by rw [h4, hlen], ht.at_⟩

/-! ### A set of numbers, kept in a map -/
def ents : Nat → List Int → List MapEntry
  | _, [] => []
  | i, k :: ks => { key := .int .i64 k, val := .bool true, born := i } :: ents (i + 1) ks
def mp (ks : List Int) : Obj := .map (ents 0 ks).toArray ks.length

theorem ents_app : ∀ (ks : List Int) (i : Nat) (k : Int), ents i (ks ++ [k]) = ents i ks ++ [{ key := .int .i64 k, val := .bool true, born := i + ks.length }] := by
  intro ks
  induction ks with
  | nil => intro i k; rfl
  | cons x ks ih =>
    intro i k
    simp only [List.cons_append, ents, ih, List.length_cons]
    congr 4
    omega

theorem x_mkmap {t : TypeId} : OpX C ⟨dst, .makeMap t none, ty, pos, after, g⟩ l H Γ Nat (fun B => .map (some B)) (fun B => .obj B (mp []) :: H) (fun _ => Γ) :=
  opx_of (fun c => by simp) fun a w s => by
    refine ⟨w.heap.size, w.alloc (.map #[] 0), ?_, ?_⟩
    · simp only [execOp, Option.map_none]
      simp only [Sem.run_bind]
      have : (Instr.makeMap t none).run C.P w = .ok (.map (some w.heap.size)) (w.alloc (.map #[] 0)) := rfl
      rw [this]; rfl
    · exact s.hs.alloc (x := .obj w.heap.size (mp [])) (fun b => Iff.rfl) (alloc_ext _ _) (by simp) (alloc_at w _)

theorem find_set : ∀ (ks : List Int) (k : Int) (i j : Nat), Instr.findNow (.int .i64) (.int .i64 k) (ents i ks) j = some (if k ∈ ks then some (j + ks.idxOf k, .bool true) else none) := by
  intro ks
  induction ks with
  | nil => intro k i j; rfl
  | cons x ks ih =>
    intro k i j
    simp only [ents, Instr.findNow, Instr.sameNow, if_true]
    by_cases h : k = x
    · subst h; simp
    · have h' : x ≠ k := fun e => h e.symm
      have hb : (k == x) = false := by simpa using h
      rw [hb]
      simp only []
      rw [ih]
      simp only [List.mem_cons, h, false_or]
      rw [List.idxOf_cons, show (x == k) = false by simpa using h']
      simp only [cond_false]
      split
      · congr 3; omega
      · rfl

theorem run_check {P : Program} {w : World} {kt : TypeId} {k : Int} (hk : ∀ w, (underlying kt).run P w = .ok (.int .i64) w) (b : Bool) (n : Nat) : (Instr.checkKey b (n + 1) kt (.int .i64 k)).run P w = .ok () w := by
  simp [Instr.checkKey, hk]
theorem same_bits (n : Nat) (k : Int) : Instr.sameBits n (.int .i64 k) (.int .i64 k) = true := by
  cases n <;> simp [Instr.sameBits]
theorem v_has {x y : Operand} {t kt et : TypeId} {B : Nat} {ks : List Int} {k : Int} (hx : ev l x = some (.map (some B))) (hy : ev l y = some (.int .i64 k)) (hm : Hl.obj B (mp ks) ∈ H) (hu : ∀ w, (underlying t).run C.P w = .ok (.map kt et) w) (hk : ∀ w, (underlying kt).run C.P w = .ok (.int .i64) w)
    (hz : ∀ w, (zeroValue et).run C.P w = .ok (.bool false) w) : OpV C ⟨dst, .lookup t x y false, ty, pos, after, g⟩ l H Γ (.bool (decide (k ∈ ks))) :=
  opv_of (fun c => by simp) fun a w s => by
    have hat : w.heap[B]? = some (mp ks) := s.hs.sat _ hm
    have hck : ∀ b, (Instr.checkKey b 10000 kt (.int .i64 k)).run C.P w = .ok () w := fun b => run_check hk b 9999
    have hg : (getObj B).run C.P w = .ok (mp ks) w := by simp [getObj, Sem.run, hat, mp]
    simp only [execOp, s.ev hx, s.ev hy]
    simp only [Instr.lookup, Sem.run_bind, hu, Result.andThen, hg, mp, Sem.run_pure, hck, Instr.findKey, hk, find_set]
    by_cases h : k ∈ ks
    · simp [h]
    · simp [h, hz]

theorem ents_get : ∀ (ks : List Int) (i j : Nat) (h : j < ks.length), (ents i ks)[j]? = some { key := .int .i64 ks[j], val := .bool true, born := i + j } := by
  intro ks
  induction ks with
  | nil => intro i j h; simp at h
  | cons x ks ih =>
    intro i j h
    cases j with
    | zero => rfl
    | succ j =>
      simp only [ents, List.getElem?_cons_succ, List.getElem_cons_succ]
      rw [ih (i + 1) j (by simpa using h)]
      congr 2; omega

/-- the set with k. -/
def add1 (ks : List Int) (k : Int) : List Int := if k ∈ ks then ks else ks ++ [k]
theorem x_add {x y : Operand} {t kt et : TypeId} {B : Nat} {ks : List Int} {k : Int} {H' : List Hl} (hx : ev l x = some (.map (some B))) (hy : ev l y = some (.int .i64 k)) (hP : Put H (.obj B (mp ks)) (.obj B (mp (add1 ks k))) H') (hu : ∀ w, (underlying t).run C.P w = .ok (.map kt et) w) (hk : ∀ w, (underlying kt).run C.P w = .ok (.int .i64) w) :
    OpX C ⟨dst, .mapUpdate t x y (.const (.bool true)), ty, pos, after, g⟩ l H Γ Unit (fun _ => undef) (fun _ => H') (fun _ => Γ) :=
  opx_skip (fun c => by simp) fun a w s => by
    have hat : w.heap[B]? = some (mp ks) := s.hs.sat _ hP.mem
    have hck : ∀ b, (Instr.checkKey b 10000 kt (.int .i64 k)).run C.P w = .ok () w := fun b => run_check hk b 9999
    have hg : (getObj B).run C.P w = .ok (mp ks) w := by simp [getObj, Sem.run, hat, mp]
    have hset : ∀ o', (setObj B o').run C.P w = .ok () (w.putObj B o') := fun o' => by
      have hlt : B < w.heap.size := (Array.getElem?_eq_some_iff.1 hat).1
      simp [setObj, Sem.run, World.putObj, hat, mp]
    refine ⟨(), w.putObj B (mp (add1 ks k)), ?_, s.hs.putO _ hP⟩
    simp only [execOp, s.ev hx, s.ev hy]
    simp only [Instr.mapUpdate, Sem.run_bind, hu, Result.andThen, hg, mp, Sem.run_pure, hck, Instr.findKey, hk, find_set, Act.eval]
    by_cases h : k ∈ ks
    · have hi : ks.idxOf k < ks.length := List.idxOf_lt_length_of_mem h
      have he := ents_get ks 0 (ks.idxOf k) hi
      have hke : ks[ks.idxOf k] = k := List.getElem_idxOf hi
      simp only [h, if_true, add1, Sem.run_bind, Sem.run_pure, Result.andThen, Nat.zero_add, List.getElem?_toArray, he, Option.map_some, Option.getD_some, Instr.keyThatStays, hke]
      have hsb : Instr.sameBits 10000 (.int .i64 k) (.int .i64 k) = true := same_bits 10000 k
      rw [hsb]
      simp only [if_true, Sem.run_pure, Result.andThen]
      have hmod : (ents 0 ks).toArray.modify (ks.idxOf k) (fun e => { e with key := .int .i64 k, val := .bool true }) = (ents 0 ks).toArray := by
        apply Array.ext_getElem?
        intro j
        rw [Array.getElem?_modify]
        split
        · rename_i e; subst e
          simp only [List.getElem?_toArray, he, Option.map_some, hke]
        · rfl
      rw [hmod, hset]
    · simp only [h, if_false, add1]
      have : (ents 0 ks).toArray.push { key := .int .i64 k, val := .bool true, born := ks.length } = (ents 0 (ks ++ [k])).toArray := by rw [ents_app]; simp
      rw [this, hset]
      simp
end
section
variable {C : Cx} {Q : Exit → Act → World → Prop} {l : List (Nat × Value)} {H : List Hl} {Γ : List PP}
theorem j_len {α : Type} {K : Kd α} (v : Value) {xs : List α} {c : Code} [hr : FindR C H Γ v K xs] (k : xs.length ≤ 9223372036854775807 → J C Q c l H Γ) : J C Q c l H Γ := fun a w s => by
  obtain ⟨A, cp, e, h1, h2, _⟩ := hr.row.slice s
  refine k ?_ a w s
  unfold maxN at h2; omega
/-- A loop: what turns is told ahead of what stays. -/
theorem j_loopS {G : Type} {c : Code} (Ls : List (Nat × Value)) (Ld : G → List (Nat × Value) → List (Nat × Value)) (Hd : G → List Hl → List Hl) {Hst : List Hl} (good : G → Prop) (μ : G → Nat) (g0 : G) (hg0 : good g0)
    (hl : ∀ t v, look (Ld g0 Ls) t = some v → look l t = some v) (hH : H = Hd g0 Hst)
    (round : ∀ g, good g → J C (Exit.then (fun a w => ∃ g', good g' ∧ μ g' < μ g ∧ Sat C (Ld g' Ls) (Hd g' Hst) Γ a w) Q) c (Ld g Ls) (Hd g Hst) Γ) : J C Q (.loop c) l H Γ := by
  subst hH
  exact j_loop (fun g => Ld g Ls) (fun g => Hd g Hst) (fun _ => Γ) good μ g0 hg0 hl (fun _ h => h) round
/-- .. passed over, because what it hangs on was. -/
theorem j_offu {all : Array Oper} {o : Oper} {rest : List Oper} {j : Nat} {want : Bool} {t : Nat} (h : o.guard = some (j, want)) (h1 : (all[j]?).bind (·.dst) = some t) (h2 : look l t = some undef)
    (hd : dlt C.n o.dst = true) (k : JO C all Q rest (upd C.n o.dst undef l) H Γ) : JO C all Q (o :: rest) l H Γ := fun a w s => by
  have hw : Region.wanted o (yielded all a.tmps) = false := by
    have h3 := s.sl t _ h2
    simp [Region.wanted, h, yielded, h1, h3, undef]
  simp only [OpsL]
  rw [if_neg (by rw [hw]; simp)]
  exact k _ _ (s.put (dlt_of hd) _ s.hs)
theorem ja_offu {ops : Array Oper} {sp : List Nat} {f : Nat} {ls : Array Bool} {o : Oper} {j : Nat} {want : Bool} {t : Nat} (i : Nat) (hi : ops[i]? = some o) (hb : takeB ops sp ls i = true) (h : o.guard = some (j, want)) (h1 : (ops[j]?).bind (·.dst) = some t) (h2 : look l t = some undef) (hd : dlt C.n o.dst = true)
    (k : JA C ops Q sp f (ls.setIfInBounds i true) (upd C.n o.dst undef l) H Γ) : JA C ops Q sp (f + 1) ls l H Γ := fun a w hc s => by
  obtain ⟨b1, b2, b3, b4, b5⟩ := takeB_spec hi hb
  have hwf : Region.wanted o (yielded ops a.tmps) = false := by
    have h3 := s.sl t _ h2
    simp [Region.wanted, h, yielded, h1, h3, undef]
  exact wa_first hi b3 b4 f ls a w b2 hc b5 b1 (.inr ⟨hwf, rfl⟩) (k _ w (closed_add hc b1) (s.put (dlt_of hd) _ s.hs))
theorem q_callP {dst : Option Tmp} {ty : TypeId} {pos : String} {after : Array Edge} {g : Option (Nat × Bool)} {P : Program} {f : FuncId} {xs : List Operand} {vs : List Value} {ts : Array TypeId} {Γ0 : List PP} {X : Type} {ret : X → Value} {Γ1 : X → List PP}
    (hs : Spec P f vs [] Γ0 X ret (fun _ => []) Γ1) (hc : ∀ args w, (callFunc f args).run P w = .ok (.enter f args) w) (hP : C.P = P) (hx : evs l xs = some vs) (hΓ : ∀ p ∈ Γ0, p ∈ Γ) :
    OpQ C ⟨dst, .call { callee := .value (.func f), args := xs.toArray, argTypes := ts }, ty, pos, after, g⟩ l H Γ X ret Γ1 := by
  subst hP; exact q_callf hs hx hc hΓ
theorem x_callP {dst : Option Tmp} {ty : TypeId} {pos : String} {after : Array Edge} {g : Option (Nat × Bool)} {P : Program} {f : FuncId} {xs : List Operand} {vs : List Value} {ts : Array TypeId} {H0 R : List Hl} {Γ0 : List PP} {X : Type} {ret : X → Value} {H1 : X → List Hl} {Γ1 : X → List PP}
    (hs : Spec P f vs H0 Γ0 X ret H1 Γ1) (hc : ∀ args w, (callFunc f args).run P w = .ok (.enter f args) w) (hP : C.P = P) (hx : evs l xs = some vs) (hΓ : ∀ p ∈ Γ0, p ∈ Γ) (hd : Dels H H0 R) :
    OpX C ⟨dst, .call { callee := .value (.func f), args := xs.toArray, argTypes := ts }, ty, pos, after, g⟩ l H Γ X ret (fun x => H1 x ++ R) (fun x => Γ1 x ++ Γ) := by
  subst hP; exact x_callf hs hx hc hΓ hd
theorem x_callcP {dst : Option Tmp} {ty : TypeId} {pos : String} {after : Array Edge} {g : Option (Nat × Bool)} {P : Program} {f : FuncId} {fo : Operand} {caps args : List Value} {xs : List Operand} {vs : List Value} {ts : Array TypeId} {H0 R : List Hl} {Γ0 : List PP} {X : Type} {ret : X → Value} {H1 : X → List Hl} {Γ1 : X → List PP}
    (hs : Spec P f args H0 Γ0 X ret H1 Γ1) (hc : ∀ args w, (callFunc f args).run P w = .ok (.enter f args) w) (hP : C.P = P) (hfo : ev l fo = some (.func (.func f) #[] caps.toArray)) (hx : evs l xs = some vs) (ha : vs ++ caps = args) (hΓ : ∀ p ∈ Γ0, p ∈ Γ) (hd : Dels H H0 R) :
    OpX C ⟨dst, .call { callee := .value fo, args := xs.toArray, argTypes := ts }, ty, pos, after, g⟩ l H Γ X ret (fun x => H1 x ++ R) (fun x => Γ1 x ++ Γ) := by
  subst hP; exact x_callc hs hfo hx ha hc hΓ hd
theorem q_callcP {dst : Option Tmp} {ty : TypeId} {pos : String} {after : Array Edge} {g : Option (Nat × Bool)} {P : Program} {f : FuncId} {fo : Operand} {caps args : List Value} {xs : List Operand} {vs : List Value} {ts : Array TypeId} {Γ0 : List PP} {X : Type} {ret : X → Value} {Γ1 : X → List PP}
    (hs : Spec P f args [] Γ0 X ret (fun _ => []) Γ1) (hc : ∀ args w, (callFunc f args).run P w = .ok (.enter f args) w) (hP : C.P = P) (hfo : ev l fo = some (.func (.func f) #[] caps.toArray)) (hx : evs l xs = some vs) (ha : vs ++ caps = args) (hΓ : ∀ p ∈ Γ0, p ∈ Γ) :
    OpQ C ⟨dst, .call { callee := .value fo, args := xs.toArray, argTypes := ts }, ty, pos, after, g⟩ l H Γ X ret Γ1 := by
  subst hP; exact q_call (caps := caps) (by rw [ha]; exact hs) hfo hx hc hΓ
end
end Go.Proofs.Ytjgacbopccfecaa
