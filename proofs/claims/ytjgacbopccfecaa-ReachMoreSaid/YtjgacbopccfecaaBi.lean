/-
  A scope whose code jumps nowhere.
-/
import Derived.Test.YtjgacbopccfecaaBh
import Derived.Scope
set_option linter.unusedVariables false
namespace Go.Proofs.Ytjgacbopccfecaa
section
variable {C : Cx} {Q : Exit → Act → World → Prop} {l : List (Nat × Value)} {H : List Hl} {Γ : List PP}
theorem j_scope {c : Code} (hr : C.r = none) (h : J C (Exit.noGoto Q) c l H Γ) : J C Q (.scope c) l H Γ := fun a w s => by
  obtain ⟨P, r, n, ds, ok, w0, H0⟩ := C
  simp only at hr
  subst hr
  have h1 : c.wpIn Fence.wide 0 P (Exit.noGoto Q) a w := h a w s
  have h2 : (Code.scope c).wpIn Fence.wide 0 P Q a w := wpIn_wide.2 (wp_scope_straight (wpIn_wide.1 h1))
  exact h2
theorem je_scopeN (h : JE C Q .normal l H Γ) : JE C (Exit.noGoto Q) .normal l H Γ := h
theorem je_scopeR (h : JE C Q .ret l H Γ) : JE C (Exit.noGoto Q) .ret l H Γ := h
theorem je_scopeX {i : Nat} (h : JE C Q (.exit i) l H Γ) : JE C (Exit.noGoto Q) (.exit i) l H Γ := h
end
end Go.Proofs.Ytjgacbopccfecaa
