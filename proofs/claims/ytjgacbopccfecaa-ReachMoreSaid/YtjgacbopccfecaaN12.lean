/-
  A list of two written out; the reach's contracts at stores that are written out.
-/
import Derived.Test.YtjgacbopccfecaaZ
import Derived.Test.YtjgacbopccfecaaW33
set_option maxRecDepth 100000
set_option linter.unusedVariables false
set_option linter.unusedSimpArgs false
namespace Go.Proofs.Ytjgacbopccfecaa

theorem q_lit2 {C : Cx} {l : List (Nat × Value)} {H : List Hl} {Γ : List PP} {dst : Option Tmp} {ty : TypeId} {pos : String} {after : Array Edge} {g : Option (Nat × Bool)} {t e : TypeId} {x0 x1 : Operand} {a b : Int}
    (h0 : ev l x0 = some (iV a)) (h1 : ev l x1 = some (iV b)) (hu : ∀ w, (underlying t).run C.P w = .ok (.slice e) w) (hz : ∀ w, (sizeOf e).run C.P w = .ok 1 w) (hzero : ∀ w, (zeroValue e).run C.P w = .ok (.int .i64 0) w) :
    OpQ C ⟨dst, .buildSlice t 2 #[(0, x0), (1, x1)], ty, pos, after, g⟩ l H Γ Value (fun v => v) (fun v => [sl intK v [a, b]]) := fun act w s => by
  let cs : List Value := [iV a, iV b]
  have hrun : (execOp act.eval ⟨dst, .buildSlice t 2 #[(0, x0), (1, x1)], ty, pos, after, g⟩).run C.P w = .ok (.value (.slice (some ⟨w.heap.size, 0, none⟩) 2 2)) (w.alloc (.cells cs.toArray e)) := by
    have r : (Array.range 2) = #[0, 1] := rfl
    simp only [execOp, List.map_toArray, List.map_cons, List.map_nil, s.ev h0, s.ev h1]
    simp only [Instr.buildSlice, Sem.run_bind, hu, Result.andThen, hz, Nat.mul_one]
    rw [if_neg (by decide), if_neg (by decide)]
    simp only [hzero, Sem.run_bind, Result.andThen, Sem.run_pure, r]
    simp [Instr.fill, Value.cells, run_newRow, cs]
  refine (doesV_run (fun c => by simp) hrun).mono ?_
  rintro v' w'' ⟨rfl, rfl⟩
  have hext := alloc_ext w (.cells cs.toArray e)
  refine ⟨_, rfl, hext, ?_⟩
  intro p hp
  rw [List.mem_singleton] at hp
  subst hp
  have rows : ∀ ok h, Rws intK ok h [a, b] cs := fun ok h => .cons (c := [_]) rfl (.cons (c := [_]) rfl .nil)
  refine ⟨_, 2, rfl, Nat.le_refl _, by decide, fun _ => ⟨w.heap.size, 0, cs, rfl, ⟨s.hs.new _ s.hs.fr.size, fun y hy hat => ?_⟩, by simp, rows _ _, fun j hj => ?_⟩⟩
  · have := (s.hs.lt y hy _ hat).1; omega
  · unfold hcell; rw [alloc_at]; simp

theorem f43_at {vs vl : Value} {cs : List Cell} {last serial : Int} {l r : List Int} (h1 : fromR cs l = r) (hG : Gens cs) (hA : Apart cs) (hF : ∀ c ∈ cs, c.val.fields.length ≤ 1000) (hl : l.length ≤ 1000000) :
    Spec Try.prog 43 [stA vs last serial, vl] [] [sl cellK vs cs, sl intK vl l] Value (fun v' => v') (fun _ => []) (fun v' => [sl intK v' r]) := by
  have q := f43_spec (vs := vs) (vl := vl) (last := last) (serial := serial) hG hA hF hl; rw [h1] at q; exact q
theorem f45_at {vs vl : Value} {cs : List Cell} {last serial : Int} {l r : List Int} (h1 : lostR cs l = r) (hG : Gens cs) (hA : Apart cs) (hF : ∀ c ∈ cs, c.val.fields.length ≤ 1000) (hl : l.length ≤ 1000000) :
    Spec Try.prog 45 [stA vs last serial, vl] [] [sl cellK vs cs, sl intK vl l] Value (fun v' => v') (fun _ => []) (fun v' => [sl intK v' r]) := by
  have q := f45_spec (vs := vs) (vl := vl) (last := last) (serial := serial) hG hA hF hl; rw [h1] at q; exact q
theorem f47_at {vs : Value} {cs : List Cell} {last serial a b : Int} {r : Bool} (h1 : decide (b ∈ fromR cs [a]) = r) (hG : Gens cs) (hA : Apart cs) (hF : ∀ c ∈ cs, c.val.fields.length ≤ 1000) :
    Spec Try.prog 47 [stA vs last serial, iV a, iV b] [] [sl cellK vs cs] Unit (fun _ => .bool r) (fun _ => []) (fun _ => []) := by
  have q := f47_spec (vs := vs) (last := last) (serial := serial) (a := a) (b := b) hG hA hF; rw [h1] at q; exact q
theorem f49_at {vs vl : Value} {cs : List Cell} {last serial : Int} {l : List Int} {r : Bool} (h1 : closedR cs l = r) (hG : Gens cs) (hA : Apart cs) (hF : ∀ c ∈ cs, c.val.fields.length ≤ 1000) (hl : l.length ≤ 1000000) :
    Spec Try.prog 49 [stA vs last serial, vl] [] [sl cellK vs cs, sl intK vl l] Unit (fun _ => .bool r) (fun _ => []) (fun _ => []) := by
  have q := f49_spec (vs := vs) (vl := vl) (last := last) (serial := serial) hG hA hF hl; rw [h1] at q; exact q
end Go.Proofs.Ytjgacbopccfecaa
