/-
  What store.Right asks, in plain Lean; four numbers compared.
-/
import Derived.Test.YtjgacbopccfecaaN
set_option maxRecDepth 100000
set_option linter.unusedVariables false
set_option linter.unusedSimpArgs false
namespace Go.Proofs.Ytjgacbopccfecaa

theorem run_eq_int {w : World} (d : Nat) (a b : Int) : (Op.equalIn (d + 1) 3 (.int .i64 a) (.int .i64 b)).run Try.prog w = .ok (a == b) w := by
  simp [Op.equalIn, Try.runUnderlying3]
theorem run_eq121 {w : World} (d : Nat) {a b c e a' b' c' e' : Int} : (Op.equalIn (d + 1 + 1) 121 (.agg [iV a, iV b, iV c, iV e].toArray) (.agg [iV a', iV b', iV c', iV e'].toArray)).run Try.prog w = .ok (a == a' && (b == b' && (c == c' && e == e'))) w := by
  have hp : ∀ (xs : List Value) (i : Nat) (v : Value), xs[i]? = some v → (part 3 xs.toArray i).run Try.prog w = .ok v w := fun xs i v h => by
    have : xs.toArray[i]? = some v := by simpa using h
    simp [part, Try.isAgg3, h]
  have r : List.range' 0 4 1 = [0, 1, 2, 3] := rfl
  rw [Op.equalIn]
  simp only [Sem.run_bind, Try.runUnderlying121, Result.andThen, Try.sizeOf3]
  simp only [Std.Legacy.Range.forIn_eq_forIn_range', Std.Legacy.Range.size, Nat.sub_zero, Nat.add_sub_cancel, Nat.div_one, r, Nat.mul_one]
  have p := fun i v h => hp [iV a, iV b, iV c, iV e] i v h
  have q := fun i v h => hp [iV a', iV b', iV c', iV e'] i v h
  have p0 := p 0 _ rfl; have p1 := p 1 _ rfl; have p2 := p 2 _ rfl; have p3 := p 3 _ rfl
  have q0 := q 0 _ rfl; have q1 := q 1 _ rfl; have q2 := q 2 _ rfl; have q3 := q 3 _ rfl
  simp only [List.forIn_cons, List.forIn_nil, Sem.run_bind, p0, q0, Result.andThen, run_eq_int, Sem.run_pure]
  cases h1 : (a == a')
  · simp
  simp only [Bool.not_true, Bool.false_eq_true, if_false, Sem.run_bind, Sem.run_pure, Result.andThen, p1, q1, run_eq_int, Bool.true_and]
  cases h2 : (b == b')
  · simp
  simp only [Bool.not_true, Bool.false_eq_true, if_false, Sem.run_bind, Sem.run_pure, Result.andThen, p2, q2, run_eq_int, Bool.true_and]
  cases h3 : (c == c')
  · simp
  simp only [Bool.not_true, Bool.false_eq_true, if_false, Sem.run_bind, Sem.run_pure, Result.andThen, p3, q3, run_eq_int, Bool.true_and]
  cases h4 : (e == e') <;> simp
theorem v_eq121 {C : Cx} {l : List (Nat × Value)} {H : List Hl} {Γ : List PP} {dst : Option Tmp} {ty : TypeId} {pos : String} {after : Array Edge} {g : Option (Nat × Bool)} {x y : Operand} {t2 : TypeId} {a b c e a' b' c' e' : Int} (hP : C.P = Try.prog) (hx : ev l x = some (.agg [iV a, iV b, iV c, iV e].toArray)) (hy : ev l y = some (.agg [iV a', iV b', iV c', iV e'].toArray)) :
    OpV C ⟨dst, .binOp .eql 121 x y t2, ty, pos, after, g⟩ l H Γ (.bool (a == a' && (b == b' && (c == c' && e == e')))) :=
  opv_of (fun c => by simp) fun w0 w s => by
    rw [hP]
    have k : (Op.equalIn Op.maxDepth 121 (.agg [iV a, iV b, iV c, iV e].toArray) (.agg [iV a', iV b', iV c', iV e'].toArray)).run Try.prog w = _ := run_eq121 (w := w) 9998
    have hg : Try.prog.eqGuardType Try.prog.depth 121 = false := by kernel_rfl
    simp only [execOp, s.ev hx, s.ev hy]
    simp [eqGuard, binOp, Op.equal, k, hg]

theorem bare_eq (o : Obj) : bare o = ((o.serial == 0 && (o.strong == 0 && (o.weak == 0 && o.prog == 0))) && (!o.started && decide ((o.fields.length : Int) = 0))) := by
  unfold bare
  rw [Bool.eq_iff_iff]
  simp only [decide_eq_true_eq, Bool.and_eq_true, beq_iff_eq, Bool.not_eq_true']
  constructor
  · rintro ⟨h1, h2, h3, h4, h5, h6⟩; exact ⟨⟨h1, h2, h3, h4⟩, h5, by rw [h6]; rfl⟩
  · rintro ⟨⟨h1, h2, h3, h4⟩, h5, h6⟩; exact ⟨h1, h2, h3, h4, h5, List.eq_nil_of_length_eq_zero (by omega)⟩

/-- Values of one cell, as they stand. -/
def valK : Kd Value where
  sz := 1
  R := fun _ _ x cs => cs = [x] ∧ cell1 x = true
  len := by rintro _ _ _ _ ⟨rfl, _⟩; rfl
  one := by rintro _ _ _ _ ⟨rfl, h⟩ v hv; rw [List.mem_singleton] at hv; subst hv; exact h
  pers := fun _ h => h
theorem val_at {ok : OkP} {h : Hp} {x : Value} {c : List Value} (r : valK.R ok h x c) : c[0]? = some x := by rw [r.1]; rfl

theorem q_lit4 {C : Cx} {l : List (Nat × Value)} {H : List Hl} {Γ : List PP} {dst : Option Tmp} {ty : TypeId} {pos : String} {after : Array Edge} {g : Option (Nat × Bool)} {t e : TypeId} {x0 x1 x2 x3 : Operand} {f0 f1 f2 f3 : Fn} {c0 c1 c2 c3 : List Value} {z : Value}
    (h0 : ev l x0 = some (.agg [.func f0 #[] c0.toArray].toArray)) (h1 : ev l x1 = some (.agg [.func f1 #[] c1.toArray].toArray)) (h2 : ev l x2 = some (.agg [.func f2 #[] c2.toArray].toArray)) (h3 : ev l x3 = some (.agg [.func f3 #[] c3.toArray].toArray))
    (hu : ∀ w, (underlying t).run C.P w = .ok (.slice e) w) (hz : ∀ w, (sizeOf e).run C.P w = .ok 1 w) (hzero : ∀ w, (zeroValue e).run C.P w = .ok (.agg [z].toArray) w) :
    OpQ C ⟨dst, .buildSlice t 4 #[(0, x0), (1, x1), (2, x2), (3, x3)], ty, pos, after, g⟩ l H Γ Value (fun v => v) (fun v => [sl valK v [.func f0 #[] c0.toArray, .func f1 #[] c1.toArray, .func f2 #[] c2.toArray, .func f3 #[] c3.toArray]]) := fun a w s => by
  let cs : List Value := [.func f0 #[] c0.toArray, .func f1 #[] c1.toArray, .func f2 #[] c2.toArray, .func f3 #[] c3.toArray]
  have hrun : (execOp a.eval ⟨dst, .buildSlice t 4 #[(0, x0), (1, x1), (2, x2), (3, x3)], ty, pos, after, g⟩).run C.P w = .ok (.value (.slice (some ⟨w.heap.size, 0, none⟩) 4 4)) (w.alloc (.cells cs.toArray e)) := by
    have r : (Array.range 4) = #[0, 1, 2, 3] := rfl
    simp only [execOp, List.map_toArray, List.map_cons, List.map_nil, s.ev h0, s.ev h1, s.ev h2, s.ev h3]
    simp only [Instr.buildSlice, Sem.run_bind, hu, Result.andThen, hz, Nat.mul_one]
    rw [if_neg (by decide), if_neg (by decide)]
    simp only [hzero, Sem.run_bind, Result.andThen, Sem.run_pure, r]
    simp [Instr.fill, Value.cells, run_newRow, cs]
  refine (doesV_run (fun c => by simp) hrun).mono ?_
  rintro v' w'' ⟨rfl, rfl⟩
  have hext := alloc_ext w (.cells cs.toArray e)
  refine ⟨_, rfl, hext, ?_⟩
  intro p hp
  rw [List.mem_singleton] at hp
  subst hp
  have one : ∀ ok h (x : Value), cell1 x = true → valK.R ok h x [x] := fun _ _ x hx => ⟨rfl, hx⟩
  have rows : ∀ ok h, Rws valK ok h cs cs := fun ok h => .cons (c := [_]) (one ok h _ rfl) (.cons (c := [_]) (one ok h _ rfl) (.cons (c := [_]) (one ok h _ rfl) (.cons (c := [_]) (one ok h _ rfl) .nil)))
  refine ⟨_, 4, rfl, Nat.le_refl _, by decide, fun _ => ⟨w.heap.size, 0, cs, rfl, ⟨s.hs.new _ s.hs.fr.size, fun y hy hat => ?_⟩, by simp, rows _ _, fun j hj => ?_⟩⟩
  · have := (s.hs.lt y hy _ hat).1; omega
  · unfold hcell; rw [alloc_at]; simp
def rulesV (B : Nat) : List Value := [.func (.func 94) #[] [ptr B 0].toArray, .func (.func 95) #[] ([] : List Value).toArray, .func (.func 96) #[] ([] : List Value).toArray, .func (.func 97) #[] ([] : List Value).toArray]
theorem val_all {ok : OkP} {h : Hp} {x : Value} {c : List Value} (r : valK.R ok h x c) : ∃ u : Unit, (c.drop 0).take 1 = [x] ∧ ∀ p ∈ ([] : List PP), p.p ok h := ⟨(), by rw [r.1]; rfl, by simp⟩
def Seen (cs : List Cell) (k : Nat) (ks : List Int) : Prop := ∀ x, x ∈ ks ↔ ∃ d ∈ cs.take k, there d = true ∧ d.val.serial = x
def OkS (last serial : Int) (cs : List Cell) (k : Nat) (c : Cell) : Prop := okC3 last (plainF k c) = true ∧ okCell serial cs k c = true
theorem seen_0 (cs : List Cell) : Seen cs 0 [] := fun x => by simp
theorem seen_bare {cs : List Cell} {k : Nat} {ks : List Int} (hk : k < cs.length) (ht : there cs[k] = false) (h : Seen cs k ks) : Seen cs (k + 1) ks := fun x => by
  rw [h x, List.take_succ_eq_append_getElem hk]
  constructor
  · rintro ⟨d, h1, h2⟩; exact ⟨d, List.mem_append_left _ h1, h2⟩
  · rintro ⟨d, h1, h2, h3⟩
    rcases List.mem_append.1 h1 with h1 | h1
    · exact ⟨d, h1, h2, h3⟩
    · rw [List.mem_singleton] at h1; subst h1; rw [ht] at h2; cases h2
theorem seen_add {cs : List Cell} {k : Nat} {ks : List Int} (hk : k < cs.length) (ht : there cs[k] = true) (h : Seen cs k ks) : Seen cs (k + 1) (add1 ks cs[k].val.serial) := fun x => by
  have hx : x ∈ add1 ks cs[k].val.serial ↔ x ∈ ks ∨ x = cs[k].val.serial := by
    unfold add1
    split
    · rename_i hm
      constructor
      · exact .inl
      · rintro (h | rfl)
        · exact h
        · exact hm
    · simp
  rw [hx, h x, List.take_succ_eq_append_getElem hk]
  constructor
  · rintro (⟨d, h1, h2, h3⟩ | h)
    · exact ⟨d, List.mem_append_left _ h1, h2, h3⟩
    · exact ⟨cs[k], List.mem_append_right _ (List.mem_singleton.2 rfl), ht, h.symm⟩
  · rintro ⟨d, h1, h2, h3⟩
    rcases List.mem_append.1 h1 with h1 | h1
    · exact .inl ⟨d, h1, h2, h3⟩
    · rw [List.mem_singleton] at h1; subst h1; exact .inr h3.symm
theorem seen_fine {top : Int} {cs : List Cell} {k : Nat} {ks : List Int} (hk : k < cs.length) (ht : there cs[k] = true) (hf : fine top cs[k].val = true) (hm : cs[k].val.serial ∉ ks) (h : Seen cs k ks) : okCell top cs k cs[k] = true :=
  ok_fine ht hf rfl fun d hd => by
    cases hb : (there d && decide (d.val.serial = cs[k].val.serial)) with
    | false => rfl
    | true =>
      simp only [Bool.and_eq_true, decide_eq_true_eq] at hb
      exact absurd ((h _).2 ⟨d, hd, hb.1, hb.2⟩) hm
theorem seen_twin {top : Int} {cs : List Cell} {k : Nat} {ks : List Int} (hk : k < cs.length) (ht : there cs[k] = true) (hm : cs[k].val.serial ∈ ks) (h : Seen cs k ks) : okCell top cs k cs[k] = false := by
  obtain ⟨d, hd, h1, h2⟩ := (h _).1 hm
  obtain ⟨j, hj, rfl⟩ := List.getElem_of_mem hd
  rw [List.length_take] at hj
  rw [List.getElem_take] at h1 h2
  exact ok_twin ht (by omega) (by omega) h1 h2
theorem right6_nok {cs : List Cell} {last serial : Int} {k : Nat} (hk : k < cs.length) (h : okC3 last (plainF k cs[k]) = false ∨ okCell serial cs k cs[k] = false) : false = right6 ⟨cs, last, serial⟩ := by
  rcases h with h | h
  · refine right6_no3 (.inl ?_)
    have hk' : k < (plainC cs).length := by rw [plainC_len]; exact hk
    have hg := plainC_get hk
    rw [List.getElem?_eq_getElem hk'] at hg
    simp only [Option.some.injEq] at hg
    exact (right3_no hk' (by rw [hg]; exact h)).symm
  · exact right6_no hk h
theorem right6_top {cs : List Cell} {last serial : Int} (h : 24 < (cs.length : Int) ∨ last < 0 ∨ 9 < last ∨ serial < 0) : false = right6 ⟨cs, last, serial⟩ := by
  refine right6_no3 ?_
  rcases h with h | h | h | h
  · left; unfold right3; rw [plainC_len, Bool.and_eq_false_iff]; left; exact decide_eq_false (by omega)
  · left; unfold right3; rw [plainC_len, Bool.and_eq_false_iff]; left; exact decide_eq_false (by omega)
  · left; unfold right3; rw [plainC_len, Bool.and_eq_false_iff]; left; exact decide_eq_false (by omega)
  · exact .inr h
theorem right6_all {cs : List Cell} {last serial : Int} {k : Nat} (h1 : (cs.length : Int) ≤ 24) (h2 : 0 ≤ last) (h3 : last ≤ 9) (h4 : 0 ≤ serial) (hk : cs.length ≤ k) (h : ∀ i (hi : i < cs.length), i < k → OkS last serial cs i cs[i]) : true = right6 ⟨cs, last, serial⟩ := by
  refine right6_yes ?_ h4 hk fun i hi hlt => (h i hi hlt).2
  unfold right3
  rw [Bool.and_eq_true, plainC_len]
  refine ⟨decide_eq_true (by omega), List.all_eq_true.2 fun c hc => ?_⟩
  obtain ⟨i, hi, rfl⟩ := List.getElem_of_mem hc
  have hi' : i < cs.length := by rw [plainC_len] at hi; exact hi
  have hg := plainC_get hi'
  rw [List.getElem?_eq_getElem hi] at hg
  simp only [Option.some.injEq] at hg
  rw [hg]; exact (h i hi' (by omega)).1
theorem step_okS {last serial : Int} {cs : List Cell} {k : Nat} (hk : k < cs.length) (h : ∀ i (hi : i < cs.length), i < k → OkS last serial cs i cs[i]) (h0 : OkS last serial cs k cs[k]) : ∀ i (hi : i < cs.length), i < k + 1 → OkS last serial cs i cs[i] := fun i hi hlt => by
  rcases Nat.lt_or_ge i k with h' | h'
  · exact h i hi h'
  · have : i = k := by omega
    subst this; exact h0
theorem okC3_of {last : Int} {k : Nat} {c : Cell} (h : 0 ≤ c.state ∧ c.state ≤ 3 ∧ 0 ≤ c.gen ∧ c.gen ≤ last) : okC3 last (plainF k c) = true := decide_eq_true h
theorem okC3_no {last : Int} {k : Nat} {c : Cell} (h : ¬ (0 ≤ c.state ∧ c.state ≤ 3 ∧ 0 ≤ c.gen ∧ c.gen ≤ last)) : okC3 last (plainF k c) = false := decide_eq_false h
theorem there_no {c : Cell} (h : c.state ≠ 1 ∧ c.state ≠ 2) : there c = false := decide_eq_false (by omega)
theorem there_yes {c : Cell} (h : c.state = 1 ∨ c.state = 2) : there c = true := decide_eq_true h
/-- A branch on a slot: what it holds is told behind. -/
theorem j_ifs {C : Cx} {Q : Exit → Act → World → Prop} {l : List (Nat × Value)} {H : List Hl} {Γ : List PP} {t : Nat} {x y : Code} {b : Bool} (hc : look l t = some (.bool b)) (ht : b = true → J C Q x ((t, .bool true) :: l) H Γ) (hf : b = false → J C Q y ((t, .bool false) :: l) H Γ) : J C Q (.cond (.tmp t) x y) l H Γ := by
  refine j_if hc (fun h => ?_) (fun h => ?_)
  · subst h; exact j_to (look_again hc) (fun _ h => h) (ht rfl)
  · subst h; exact j_to (look_again hc) (fun _ h => h) (hf rfl)
end Go.Proofs.Ytjgacbopccfecaa
