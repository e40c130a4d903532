/-
  The kinds of data of this program, as Lean sees them, and how they lie in cells.
-/
import Derived.Test.YtjgacbopccfecaaBg
set_option linter.unusedVariables false
set_option linter.unusedSimpArgs false
namespace Go.Proofs.Ytjgacbopccfecaa

def intK : Kd Int where
  sz := 1
  R := fun _ _ x cs => cs = [.int .i64 x]
  len := by rintro _ _ _ _ rfl; rfl
  one := by rintro _ _ _ _ rfl v hv; rw [List.mem_singleton] at hv; subst hv; rfl
  pers := fun _ h => h

theorem Sl.cell1 {α : Type} {K : Kd α} {v : Value} {xs : List α} {ok : OkP} {h : Hp} (s : Sl K v xs ok h) : cell1 v = true := by
  obtain ⟨A, c, rfl, _⟩ := s; rfl

structure Obj where
  serial : Int
  strong : Int
  weak : Int
  prog : Int
  started : Bool
  fields : List Int

structure Cell where
  state : Int
  gen : Int
  val : Obj

structure Store where
  cells : List Cell
  last : Int
  serial : Int

abbrev objV (o : Obj) (f : Value) : List Value := [.int .i64 o.serial, .int .i64 o.strong, .int .i64 o.weak, .int .i64 o.prog, .bool o.started, f]
def objK : Kd Obj where
  sz := 6
  R := fun ok h o cs => ∃ f, cs = objV o f ∧ Sl intK f o.fields ok h
  len := by rintro _ _ _ _ ⟨f, rfl, _⟩; rfl
  one := by
    rintro _ _ _ _ ⟨f, rfl, hf⟩ v hv
    simp only [objV, List.mem_cons, List.not_mem_nil, or_false] at hv
    rcases hv with rfl | rfl | rfl | rfl | rfl | rfl <;> first | rfl | exact hf.cell1
  pers := fun l ⟨f, e, hf⟩ => ⟨f, e, hf.pers l⟩

abbrev cellV (c : Cell) (f : Value) : List Value := [.int .i64 c.state, .int .i64 c.gen, .int .i64 c.val.serial, .int .i64 c.val.strong, .int .i64 c.val.weak, .int .i64 c.val.prog, .bool c.val.started, f]
def cellK : Kd Cell where
  sz := 8
  R := fun ok h c cs => ∃ f, cs = cellV c f ∧ Sl intK f c.val.fields ok h
  len := by rintro _ _ _ _ ⟨f, rfl, _⟩; rfl
  one := by
    rintro _ _ _ _ ⟨f, rfl, hf⟩ v hv
    simp only [cellV, List.mem_cons, List.not_mem_nil, or_false] at hv
    rcases hv with rfl | rfl | rfl | rfl | rfl | rfl | rfl | rfl <;> first | rfl | exact hf.cell1
  pers := fun l ⟨f, e, hf⟩ => ⟨f, e, hf.pers l⟩

/-- A cell of the plain slab: its state, its generation, a number. -/
structure C3 where
  state : Int
  gen : Int
  val : Int
def c3K : Kd C3 where
  sz := 3
  R := fun _ _ c cs => cs = [.int .i64 c.state, .int .i64 c.gen, .int .i64 c.val]
  len := by rintro _ _ _ _ rfl; rfl
  one := by
    rintro _ _ _ _ rfl v hv
    simp only [List.mem_cons, List.not_mem_nil, or_false] at hv
    rcases hv with rfl | rfl | rfl <;> rfl
  pers := fun _ h => h

theorem int_at {ok : OkP} {h : Hp} {x : Int} {c : List Value} (r : intK.R ok h x c) : c[0]? = some (.int .i64 x) := by rw [show c = _ from r]; rfl
theorem obj_at {ok : OkP} {h : Hp} {o : Obj} {c : List Value} (r : objK.R ok h o c) : ∃ f, c = objV o f ∧ Sl intK f o.fields ok h := r
theorem cell_at {ok : OkP} {h : Hp} {o : Cell} {c : List Value} (r : cellK.R ok h o c) : ∃ f, c = cellV o f ∧ Sl intK f o.val.fields ok h := r
end Go.Proofs.Ytjgacbopccfecaa
