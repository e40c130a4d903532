/-
  Structs built, type by type.
-/
import Derived.Test.YtjgacbopccfecaaL
set_option linter.unusedVariables false
set_option linter.unusedSimpArgs false
namespace Go.Proofs.Ytjgacbopccfecaa

theorem cells1 {v : Value} (h : cell1 v = true) : v.cells = #[v] := by cases v <;> first | rfl | (simp [cell1] at h)

theorem mapM1 {P : Program} {w : World} {fs : List Field} {ss : List Nat} (h : fs.length = ss.length) (hs : ∀ x ∈ fs.zip ss, (sizeOf x.1.type).run P w = .ok x.2 w) :
    (fs.toArray.mapM fun (f : Field) => (do pure (f.offset, ← sizeOf f.type) : Sem (Nat × Nat))).run P w = .ok ((fs.zip ss).map fun (x : Field × Nat) => (x.1.offset, x.2)).toArray w := by
  have key : ∀ (fs : List Field) (ss : List Nat), fs.length = ss.length → (∀ x ∈ fs.zip ss, (sizeOf x.1.type).run P w = .ok x.2 w) → (fs.mapM fun (f : Field) => (do pure (f.offset, ← sizeOf f.type) : Sem (Nat × Nat))).run P w = .ok ((fs.zip ss).map fun (x : Field × Nat) => (x.1.offset, x.2)) w := by
    intro fs
    induction fs with
    | nil => intro ss h _; cases ss <;> simp at h ⊢
    | cons f fs ih =>
      intro ss h hs
      cases ss with
      | nil => simp at h
      | cons s ss =>
        have h0 := hs (f, s) (by simp)
        have := ih ss (by simpa using h) (fun x hx => hs x (by simp [hx]))
        simp only at h0
        rw [List.mapM_cons, Sem.run_bind]
        simp only [Sem.run_bind, h0, Result.andThen, Sem.run_pure, this]
        simp
  rw [List.mapM_toArray, Sem.run_map, key fs ss h hs]; rfl

theorem run_build {P : Program} {t : TypeId} {fs : List Field} {ss : List Nat} {z : Value} {parts : List (Nat × Value)} {cs : Array Value} (hz : ∀ w, (zeroValue t).run P w = .ok z w) (hu : ∀ w, (underlying t).run P w = .ok (.struct fs.toArray) w)
    (hl : fs.length = ss.length) (hs : ∀ x ∈ fs.zip ss, ∀ w, (sizeOf x.1.type).run P w = .ok x.2 w) (hf : Instr.fill (fun i => ((fs.zip ss).map fun (x : Field × Nat) => (x.1.offset, x.2)).toArray[i]?) z.cells parts = some cs) (w : World) : (Instr.build t parts.toArray).run P w = .ok (.agg cs) w := by
  have h1 := mapM1 (P := P) (w := w) hl (fun x hx => hs x hx w)
  unfold Instr.build
  simp only [Sem.run_bind, hz, Result.andThen, hu, h1]
  have hf' : Instr.fill (fun i => ((fs.zip ss).map fun (x : Field × Nat) => (x.1.offset, x.2)).toArray[i]?) z.cells parts.toArray.toList = some cs := hf
  rw [hf']
  rfl

theorem b41 {a b c d : Int} {e : Bool} {f : Value} (hf : cell1 f = true) : ∀ w, (Instr.build 41 #[(0, iV a), (1, iV b), (2, iV c), (3, iV d), (4, .bool e), (5, f)]).run Try.prog w = .ok (.agg [iV a, iV b, iV c, iV d, .bool e, f].toArray) w :=
  run_build (ss := [1, 1, 1, 1, 1, 1]) Try.zeroValue41 Try.runUnderlying41 rfl (by simp [Try.sizeOf3, Try.sizeOf4, Try.sizeOf27]) (by cases f <;> first | (simp [cell1] at hf; done) | simp [Instr.fill, Value.cells])
theorem b29 {a d : Int} {f : Value} (hf : cell1 f = true) : ∀ w, (Instr.build 29 #[(0, iV a), (3, iV d), (5, f)]).run Try.prog w = .ok (.agg [iV a, iV 0, iV 0, iV d, .bool false, f].toArray) w :=
  run_build (ss := [1, 1, 1, 1, 1, 1]) Try.zeroValue29 Try.runUnderlying29 rfl (by simp [Try.sizeOf3, Try.sizeOf4, Try.sizeOf27]) (by cases f <;> first | (simp [cell1] at hf; done) | simp [Instr.fill, Value.cells])
theorem b83 {x y a b c d : Int} {e : Bool} {f : Value} (hf : cell1 f = true) : ∀ w, (Instr.build 83 #[(0, iV x), (1, iV y), (2, .agg [iV a, iV b, iV c, iV d, .bool e, f].toArray)]).run Try.prog w = .ok (.agg [iV x, iV y, iV a, iV b, iV c, iV d, .bool e, f].toArray) w :=
  run_build (ss := [1, 1, 6]) Try.zeroValue83 Try.runUnderlying83 rfl (by simp [Try.sizeOf3, Try.sizeOf41]) (by cases f <;> first | (simp [cell1] at hf; done) | simp [Instr.fill, Value.cells])
theorem b119 {x y z : Int} : ∀ w, (Instr.build 119 #[(0, iV x), (1, iV y), (2, iV z)]).run Try.prog w = .ok (.agg [iV x, iV y, iV z].toArray) w :=
  run_build (ss := [1, 1, 1]) Try.zeroValue119 Try.runUnderlying119 rfl (by simp [Try.sizeOf3]) (by simp [Instr.fill, Value.cells])
theorem b37 {y z : Int} {f : Value} (hf : cell1 f = true) : ∀ w, (Instr.build 37 #[(0, f), (1, iV y), (2, iV z)]).run Try.prog w = .ok (.agg [f, iV y, iV z].toArray) w :=
  run_build (ss := [1, 1, 1]) Try.zeroValue37 Try.runUnderlying37 rfl (by simp [Try.sizeOf3, Try.sizeOf35]) (by cases f <;> first | (simp [cell1] at hf; done) | simp [Instr.fill, Value.cells])
theorem b37b {y : Int} {f : Value} (hf : cell1 f = true) : ∀ w, (Instr.build 37 #[(0, f), (1, iV y)]).run Try.prog w = .ok (.agg [f, iV y, iV 0].toArray) w :=
  run_build (ss := [1, 1, 1]) Try.zeroValue37 Try.runUnderlying37 rfl (by simp [Try.sizeOf3, Try.sizeOf35]) (by cases f <;> first | (simp [cell1] at hf; done) | simp [Instr.fill, Value.cells])
theorem b77 {y : Int} {f : Value} (hf : cell1 f = true) : ∀ w, (Instr.build 77 #[(0, f), (1, iV y)]).run Try.prog w = .ok (.agg [f, iV y].toArray) w :=
  run_build (ss := [1, 1]) Try.zeroValue77 Try.runUnderlying77 rfl (by simp [Try.sizeOf3, Try.sizeOf75]) (by cases f <;> first | (simp [cell1] at hf; done) | simp [Instr.fill, Value.cells])
theorem b77b {y : Int} : ∀ w, (Instr.build 77 #[(1, iV y)]).run Try.prog w = .ok (.agg [.slice none 0 0, iV y].toArray) w :=
  run_build (ss := [1, 1]) Try.zeroValue77 Try.runUnderlying77 rfl (by simp [Try.sizeOf3, Try.sizeOf75]) (by simp [Instr.fill, Value.cells])
theorem b77c : ∀ w, (Instr.build 77 #[]).run Try.prog w = .ok (.agg [.slice none 0 0, iV 0].toArray) w :=
  run_build (ss := [1, 1]) (parts := []) Try.zeroValue77 Try.runUnderlying77 rfl (by simp [Try.sizeOf3, Try.sizeOf75]) (by simp [Instr.fill, Value.cells])
theorem b24 {y : Int} {f : Value} (hf : cell1 f = true) : ∀ w, (Instr.build 24 #[(0, f), (1, iV y)]).run Try.prog w = .ok (.agg [f, iV y].toArray) w :=
  run_build (ss := [1, 1]) Try.zeroValue24 Try.runUnderlying24 rfl (by simp [Try.sizeOf3, Try.sizeOf22]) (by cases f <;> first | (simp [cell1] at hf; done) | simp [Instr.fill, Value.cells])
theorem b26 {y z : Int} {f : Value} (hf : cell1 f = true) : ∀ w, (Instr.build 26 #[(0, .agg [f, iV y].toArray), (1, iV z)]).run Try.prog w = .ok (.agg [f, iV y, iV z].toArray) w :=
  run_build (ss := [2, 1]) Try.zeroValue26 Try.runUnderlying26 rfl (by simp [Try.sizeOf3, Try.sizeOf24]) (by cases f <;> first | (simp [cell1] at hf; done) | simp [Instr.fill, Value.cells])
theorem b26b {y : Int} {f : Value} (hf : cell1 f = true) : ∀ w, (Instr.build 26 #[(0, .agg [f, iV y].toArray)]).run Try.prog w = .ok (.agg [f, iV y, iV 0].toArray) w :=
  run_build (ss := [2, 1]) Try.zeroValue26 Try.runUnderlying26 rfl (by simp [Try.sizeOf3, Try.sizeOf24]) (by cases f <;> first | (simp [cell1] at hf; done) | simp [Instr.fill, Value.cells])
theorem b93 {f : Fn} {x y : Array Value} : ∀ w, (Instr.build 93 #[(0, .func f x y)]).run Try.prog w = .ok (.agg [.func f x y].toArray) w :=
  run_build (ss := [1]) Try.zeroValue93 Try.runUnderlying93 rfl (by simp [Try.sizeOf89]) (by simp [Instr.fill, Value.cells])
theorem b41b : ∀ w, (Instr.build 41 #[]).run Try.prog w = .ok (.agg [iV 0, iV 0, iV 0, iV 0, .bool false, .slice none 0 0].toArray) w :=
  run_build (ss := [1, 1, 1, 1, 1, 1]) (parts := []) Try.zeroValue41 Try.runUnderlying41 rfl (by simp [Try.sizeOf3, Try.sizeOf4, Try.sizeOf27]) (by simp [Instr.fill, Value.cells])
theorem b133 {y : Int} : ∀ w, (Instr.build 133 #[(1, iV y)]).run Try.prog w = .ok (.agg [.slice none 0 0, iV y].toArray) w :=
  run_build (ss := [1, 1]) Try.zeroValue133 Try.runUnderlying133 rfl (by simp [Try.sizeOf3, Try.sizeOf27]) (by simp [Instr.fill, Value.cells])
theorem b121 {a b c d : Int} : ∀ w, (Instr.build 121 #[(0, iV a), (1, iV b), (2, iV c), (3, iV d)]).run Try.prog w = .ok (.agg [iV a, iV b, iV c, iV d].toArray) w := fun w => by
  simp [Instr.build, Try.zeroValue121, Try.runUnderlying121, Try.sizeOf3, Instr.fill, Value.cells]
theorem b121b : ∀ w, (Instr.build 121 #[]).run Try.prog w = .ok (.agg [iV 0, iV 0, iV 0, iV 0].toArray) w := fun w => by
  simp [Instr.build, Try.zeroValue121, Try.runUnderlying121, Try.sizeOf3, Instr.fill, Value.cells]
theorem b144 {a b : Int} : ∀ w, (Instr.build 144 #[(0, iV a), (1, iV b)]).run Try.prog w = .ok (.agg [iV a, iV b].toArray) w := fun w => by
  simp [Instr.build, Try.zeroValue144, Try.runUnderlying144, Try.sizeOf3, Instr.fill, Value.cells]
end Go.Proofs.Ytjgacbopccfecaa
