/-
  How a row hands its arguments to the walks: a store, an object, a list, opened.
-/
import Derived.Test.YtjgacbopccfecaaL
import Derived.Test.YtjgacbopccfecaaRows
import Derived.WalkKit
import Derived.ProofKit
import Derived.OpenShut
import Derived.ChangeOld
import Derived.Below
import Derived.Carry
import Derived.Deep.Slices
set_option maxRecDepth 100000
set_option linter.unusedVariables false
set_option linter.unusedSimpArgs false
namespace Go.Proofs.Ytjgacbopccfecaa
open Go.ChangeShapes Go.WideShapes Go.ChangeAt Go.RowKit Go.Deep

theorem ownN : ownKnob Try.prog.godebug = none := by kernel_rfl
theorem laidOut : laidOutB Try.prog = true := by kernel_rfl
theorem cellsOf3 : Try.prog.cellsOf 3 = 1 := by kernel_rfl
theorem cellsOf4 : Try.prog.cellsOf 4 = 1 := by kernel_rfl
theorem cellsOf22 : Try.prog.cellsOf 22 = 1 := by kernel_rfl
theorem cellsOf24 : Try.prog.cellsOf 24 = 2 := by kernel_rfl
theorem cellsOf26 : Try.prog.cellsOf 26 = 3 := by kernel_rfl
theorem cellsOf27 : Try.prog.cellsOf 27 = 1 := by kernel_rfl
theorem cellsOf29 : Try.prog.cellsOf 29 = 6 := by kernel_rfl
theorem cellsOf81 : Try.prog.cellsOf 81 = 8 := by kernel_rfl

section
variable {H : Type} {enc : TypeId × Value → H} {w : World} {base : Nat} {held : Bool}
abbrev tr {H : Type} (enc : TypeId × Value → H) (w : World) (base : Nat) (held : Bool) (fuel : Nat) (t : TypeId) (cs : List Value) (x : DataW H × List MemPlace) : Prop := DataW.trod enc Try.prog w base (fun _ => true) held fuel t cs = some x
def allOk : OkP := fun _ => True

theorem cell_lt {b o : Nat} {v : Value} (h : w.cell? ⟨b, o, none⟩ = some v) : b < w.heap.size := by
  rw [cell_eq] at h
  unfold hcell at h
  rcases Nat.lt_or_ge b w.heap.size with h' | h'
  · exact h'
  · rw [Array.getElem?_eq_none h'] at h; cases h

theorem op_int {fuel : Nat} {cs : List Value} {x : DataW H × List MemPlace} (h : tr enc w base held fuel 3 cs x) : ∃ n, cs = [.int .i64 n] := by
  obtain ⟨n, e, _⟩ := DataW.trod_int Try.underlying3 h
  exact ⟨n, e⟩
theorem op_list {fuel : Nat} {cs : List Value} {x : DataW H × List MemPlace} (h : tr enc w base held fuel 27 cs x) : ∃ v xs, cs = [v] ∧ Sl intK v xs allOk w.heap := by
  rcases open_ints Try.underlying27 Try.underlying3 cellsOf3 h with ⟨e, _⟩ | ⟨a, len, cap, zs, e, _, hl, hm, hz, _, hc, _⟩
  · exact ⟨_, [], e, Sl.nil⟩
  · simp only [if_true] at hz
    refine ⟨_, zs.take len, e, ?_⟩
    have hzl : (zs.take len).length = len := by rw [List.length_take]; omega
    refine ⟨some a, cap, by rw [hzl], by rw [hzl]; exact hl, by unfold maxN; unfold maxLen at hm; omega, fun hp => ?_⟩
    rw [hzl] at hp
    have hc0 := hc 0 (by omega)
    have hs := World.cell?_spot hc0
    obtain ⟨b, o, sp⟩ := a
    simp only [Addr.add] at hs
    subst hs
    refine ⟨b, o, (zs.take len).map (fun x => (.int .i64 x : Value)), rfl, trivial, cell_lt hc0, ?_, fun j hj => ?_⟩
    · generalize zs.take len = xs
      induction xs with
      | nil => exact .nil
      | cons x xs ih => exact .cons (c := [_]) rfl ih
    · rw [List.length_map, hzl] at hj
      have := hc j (by omega)
      rw [List.getElem?_map, List.getElem?_take, if_pos hj, List.getElem?_eq_getElem (by omega), ← cell_eq]
      rw [addr_add] at this
      rw [this]
      simp [List.getD, List.getElem?_eq_getElem (show j < zs.length by omega)]

theorem op_obj {fuel : Nat} {cs : List Value} {x : DataW H × List MemPlace} (h : tr enc w base held fuel 29 cs x) : ∃ o f, cs = objV o f ∧ Sl intK f o.fields allOk w.heap := by
  obtain ⟨xs, n, _, _, hl, hlen, hf⟩ := DataW.trod_struct Try.underlying29 h
  rw [cellsOf29] at hl
  have g : ∀ i (hi : i < xs.length), xs[i]? = some (xs[i]) := fun i hi => List.getElem?_eq_getElem hi
  simp only [List.size_toArray, List.length_cons, List.length_nil] at hlen
  match cs, hl, hf with
  | [c0, c1, c2, c3, c4, c5], _, hf =>
    have f0 : tr enc w base held n 3 [c0] (xs[0]'(by omega)) := by have h := (hf 0 _ rfl).trans (List.getElem?_eq_getElem (show 0 < xs.length by omega)); simpa [cellsOf3, cellsOf4, cellsOf27, cellsOf29, cellsOf24, cellsOf22] using h
    have f1 : tr enc w base held n 3 [c1] (xs[1]'(by omega)) := by have h := (hf 1 _ rfl).trans (List.getElem?_eq_getElem (show 1 < xs.length by omega)); simpa [cellsOf3, cellsOf4, cellsOf27, cellsOf29, cellsOf24, cellsOf22] using h
    have f2 : tr enc w base held n 3 [c2] (xs[2]'(by omega)) := by have h := (hf 2 _ rfl).trans (List.getElem?_eq_getElem (show 2 < xs.length by omega)); simpa [cellsOf3, cellsOf4, cellsOf27, cellsOf29, cellsOf24, cellsOf22] using h
    have f3 : tr enc w base held n 3 [c3] (xs[3]'(by omega)) := by have h := (hf 3 _ rfl).trans (List.getElem?_eq_getElem (show 3 < xs.length by omega)); simpa [cellsOf3, cellsOf4, cellsOf27, cellsOf29, cellsOf24, cellsOf22] using h
    have f4 : tr enc w base held n 4 [c4] (xs[4]'(by omega)) := by have h := (hf 4 _ rfl).trans (List.getElem?_eq_getElem (show 4 < xs.length by omega)); simpa [cellsOf3, cellsOf4, cellsOf27, cellsOf29, cellsOf24, cellsOf22] using h
    have f5 : tr enc w base held n 27 [c5] (xs[5]'(by omega)) := by have h := (hf 5 _ rfl).trans (List.getElem?_eq_getElem (show 5 < xs.length by omega)); simpa [cellsOf3, cellsOf4, cellsOf27, cellsOf29, cellsOf24, cellsOf22] using h
    obtain ⟨a0, e0⟩ := op_int f0
    obtain ⟨a1, e1⟩ := op_int f1
    obtain ⟨a2, e2⟩ := op_int f2
    obtain ⟨a3, e3⟩ := op_int f3
    obtain ⟨a4, e4, _⟩ := DataW.trod_bool Try.underlying4 f4
    obtain ⟨v, ys, e5, hs⟩ := op_list f5
    simp only [List.cons.injEq, and_true] at e0 e1 e2 e3 e4 e5
    subst e0; subst e1; subst e2; subst e3; subst e4; subst e5
    exact ⟨⟨a0, a1, a2, a3, a4, ys⟩, _, rfl, hs⟩

theorem op_cell {fuel : Nat} {cs : List Value} {x : DataW H × List MemPlace} (h : tr enc w base held fuel 81 cs x) : ∃ c : Cell, cellK.R allOk w.heap c cs := by
  obtain ⟨xs, n, _, _, hl, hlen, hf⟩ := DataW.trod_struct Try.underlying81 h
  rw [cellsOf81] at hl
  have g : ∀ i (hi : i < xs.length), xs[i]? = some (xs[i]) := fun i hi => List.getElem?_eq_getElem hi
  simp only [List.size_toArray, List.length_cons, List.length_nil] at hlen
  match cs, hl, hf with
  | [c0, c1, c2, c3, c4, c5, c6, c7], _, hf =>
    have f0 : tr enc w base held n 3 [c0] (xs[0]'(by omega)) := by have h := (hf 0 _ rfl).trans (List.getElem?_eq_getElem (show 0 < xs.length by omega)); simpa [cellsOf3, cellsOf4, cellsOf27, cellsOf29, cellsOf24, cellsOf22] using h
    have f1 : tr enc w base held n 3 [c1] (xs[1]'(by omega)) := by have h := (hf 1 _ rfl).trans (List.getElem?_eq_getElem (show 1 < xs.length by omega)); simpa [cellsOf3, cellsOf4, cellsOf27, cellsOf29, cellsOf24, cellsOf22] using h
    have f2 : tr enc w base held n 29 [c2, c3, c4, c5, c6, c7] (xs[2]'(by omega)) := by have h := (hf 2 _ rfl).trans (List.getElem?_eq_getElem (show 2 < xs.length by omega)); simpa [cellsOf3, cellsOf4, cellsOf27, cellsOf29, cellsOf24, cellsOf22] using h
    obtain ⟨a0, e0⟩ := op_int f0
    obtain ⟨a1, e1⟩ := op_int f1
    obtain ⟨o, f, e2, hs⟩ := op_obj f2
    simp only [objV, List.cons.injEq, and_true] at e0 e1 e2
    obtain ⟨r0, r1, r2, r3, r4, r5⟩ := e2
    subst e0; subst e1; subst r0; subst r1; subst r2; subst r3; subst r4; subst r5
    exact ⟨⟨a0, a1, o⟩, _, rfl, hs⟩

theorem op_cells {fuel : Nat} {cs : List Value} {x : DataW H × List MemPlace} (h : tr enc w base held fuel 22 cs x) : ∃ v xs, cs = [v] ∧ Sl cellK v xs allOk w.heap := by
  rcases open_slice Try.underlying22 h with ⟨e, _⟩ | ⟨a, len, cap, m, n, D, Pl, e, _, hl, hm, hmm, _, hi⟩
  · exact ⟨_, [], e, Sl.nil⟩
  · simp only [if_true] at hmm
    rw [cellsOf81] at hi
    have key : ∀ k, k ≤ m → ∃ xs ds, xs.length = k ∧ Rws cellK allOk w.heap xs ds ∧ ∀ j, j < ds.length → w.cell? (a.add j) = ds[j]? := by
      intro k
      induction k with
      | zero => intro _; exact ⟨[], [], rfl, .nil, fun j hj => by simp at hj⟩
      | succ k ih =>
        intro hk
        obtain ⟨xs, ds, h1, h2, h3⟩ := ih (by omega)
        obtain ⟨cs', hc, ht⟩ := hi k (by omega)
        obtain ⟨_, hcl, hat⟩ := World.cells?_some hc
        obtain ⟨c, hR⟩ := op_cell ht
        have hdl : ds.length = k * 8 := by rw [h2.len, h1]; rfl
        refine ⟨xs ++ [c], ds ++ cs', by simp [h1], h2.app (.one_ hR), fun j hj => ?_⟩
        rw [List.length_append] at hj
        by_cases hjd : j < ds.length
        · rw [List.getElem?_append_left hjd]; exact h3 j hjd
        · rw [List.getElem?_append_right (by omega), ← hat (j - ds.length) (by omega)]
          rw [Go.Deep.add_add, show k * 8 + (j - ds.length) = j by omega]
    obtain ⟨xs, ds, h1, h2, h3⟩ := key len (by omega)
    refine ⟨_, xs, e, some a, cap, by rw [h1], by omega, by unfold maxN; unfold maxLen at hm; omega, fun hp => ?_⟩
    rw [h1] at hp
    have hdl : ds.length = len * 8 := by rw [h2.len, h1]; rfl
    have h30 := h3 0 (by omega)
    rw [List.getElem?_eq_getElem (by omega)] at h30
    have hs := World.cell?_spot h30
    obtain ⟨b, o, sp⟩ := a
    simp only [Addr.add] at hs
    subst hs
    refine ⟨b, o, ds, rfl, trivial, cell_lt h30, h2, fun j hj => ?_⟩
    rw [← cell_eq, ← addr_add]
    exact h3 j hj

theorem op_store {fuel : Nat} {cs : List Value} {x : DataW H × List MemPlace} (h : tr enc w base held fuel 26 cs x) : ∃ v xs last serial, cs = [v, .int .i64 last, .int .i64 serial] ∧ Sl cellK v xs allOk w.heap := by
  obtain ⟨ys, n, _, _, hl, hlen, hf⟩ := DataW.trod_struct Try.underlying26 h
  rw [cellsOf26] at hl
  simp only [List.size_toArray, List.length_cons, List.length_nil] at hlen
  match cs, hl, hf with
  | [c0, c1, c2], _, hf =>
    have f0 : tr enc w base held n 24 [c0, c1] (ys[0]'(by omega)) := by have h := (hf 0 _ rfl).trans (List.getElem?_eq_getElem (show 0 < ys.length by omega)); simpa [cellsOf3, cellsOf4, cellsOf27, cellsOf29, cellsOf24, cellsOf22] using h
    have f1 : tr enc w base held n 3 [c2] (ys[1]'(by omega)) := by have h := (hf 1 _ rfl).trans (List.getElem?_eq_getElem (show 1 < ys.length by omega)); simpa [cellsOf3, cellsOf4, cellsOf27, cellsOf29, cellsOf24, cellsOf22] using h
    obtain ⟨zs, n', _, _, hl', hlen', hf'⟩ := DataW.trod_struct Try.underlying24 f0
    simp only [List.size_toArray, List.length_cons, List.length_nil] at hlen'
    have g0 : tr enc w base held n' 22 [c0] (zs[0]'(by omega)) := by have h := (hf' 0 _ rfl).trans (List.getElem?_eq_getElem (show 0 < zs.length by omega)); simpa [cellsOf3, cellsOf4, cellsOf27, cellsOf29, cellsOf24, cellsOf22] using h
    have g1 : tr enc w base held n' 3 [c1] (zs[1]'(by omega)) := by have h := (hf' 1 _ rfl).trans (List.getElem?_eq_getElem (show 1 < zs.length by omega)); simpa [cellsOf3, cellsOf4, cellsOf27, cellsOf29, cellsOf24, cellsOf22] using h
    obtain ⟨v, xs, e0, hs⟩ := op_cells g0
    obtain ⟨a1, e1⟩ := op_int g1
    obtain ⟨a2, e2⟩ := op_int f1
    simp only [List.cons.injEq, and_true] at e0 e1 e2
    subst e0; subst e1; subst e2
    exact ⟨_, xs, a1, a2, rfl, hs⟩

theorem arg_store {r : Reach} {b0 : Nat} {v : Value} {d : DataW H} {p : List MemPlace} (hv : Value.okWide Try.prog w r b0 26 v) (h : DataW.Trod enc Try.prog w base (fun _ => true) held 26 v d p) : ∃ u xs last serial, v = stA u last serial ∧ Sl cellK u xs allOk w.heap := by
  obtain ⟨cs, rfl, _⟩ := okWide_struct Try.underlying26 hv
  obtain ⟨fuel, hf⟩ := h
  obtain ⟨u, xs, last, serial, e, hs⟩ := op_store hf
  refine ⟨u, xs, last, serial, ?_, hs⟩
  have : cs = [u, .int .i64 last, .int .i64 serial].toArray := by
    have e' : cs.toList = [u, .int .i64 last, .int .i64 serial] := e
    rw [← e']
  rw [this]
theorem arg_obj {r : Reach} {b0 : Nat} {v : Value} {d : DataW H} {p : List MemPlace} (hv : Value.okWide Try.prog w r b0 29 v) (h : DataW.Trod enc Try.prog w base (fun _ => true) held 29 v d p) : ∃ o f, v = objA o f ∧ Sl intK f o.fields allOk w.heap := by
  obtain ⟨cs, rfl, _⟩ := okWide_struct Try.underlying29 hv
  obtain ⟨fuel, hf⟩ := h
  obtain ⟨o, f, e, hs⟩ := op_obj hf
  refine ⟨o, f, ?_, hs⟩
  have : cs = (objV o f).toArray := by
    have e' : cs.toList = objV o f := e
    rw [← e']
  rw [this]
theorem arg_list {r : Reach} {b0 : Nat} {v : Value} {d : DataW H} {p : List MemPlace} (hv : Value.okWide Try.prog w r b0 27 v) (h : DataW.Trod enc Try.prog w base (fun _ => true) held 27 v d p) : ∃ xs, Sl intK v xs allOk w.heap := by
  obtain ⟨a, n, c, rfl⟩ := okWide_slice Try.underlying27 hv
  obtain ⟨fuel, hf⟩ := h
  obtain ⟨u, xs, e, hs⟩ := op_list hf
  have e' : [Value.slice a n c] = [u] := e
  simp only [List.cons.injEq, and_true] at e'
  subst e'
  exact ⟨xs, hs⟩
end

/-- A walk, as a row asks it. -/
theorem Spec.row {n : FuncId} {args : List Value} {Γ : List PP} {W : World} (h : Spec Try.prog n args [] Γ Unit (fun _ => .bool true) (fun _ => []) (fun _ => [])) (hΓ : ∀ p ∈ Γ, p.p allOk W.heap) :
    Calls Try.prog n args.toArray W fun e W' => e = .returned (.bool true) ∧ Below W.heap.size W W' := by
  have hs : Hs allOk W [] [] Γ W := ⟨Fr.refl _ _, fun _ _ => trivial, (fun x hx => by cases hx), (fun x hx => by cases hx), List.Pairwise.nil, fun p hp => p.pers (.of (Nat.le_refl _) fun b _ _ => ⟨⟨trivial, fun z hz => by cases hz⟩, rfl⟩) (hΓ p hp)⟩
  refine (h allOk W hs).mono ?_
  rintro e w' ⟨_, rfl, h6⟩
  exact ⟨rfl, h6.fr.below⟩
end Go.Proofs.Ytjgacbopccfecaa
