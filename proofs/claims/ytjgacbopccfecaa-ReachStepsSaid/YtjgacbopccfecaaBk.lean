/-
  A call of a closure that owns two things.
-/
import Derived.Test.YtjgacbopccfecaaBj
set_option linter.unusedVariables false
namespace Go.Proofs.Ytjgacbopccfecaa
section
variable {C : Cx} {l : List (Nat × Value)} {H : List Hl} {Γ : List PP} {dst : Option Tmp} {ty : TypeId} {pos : String} {after : Array Edge} {g : Option (Nat × Bool)}
theorem x_callcP2 {P : Program} {f : FuncId} {fo : Operand} {caps args : List Value} {xs : List Operand} {vs : List Value} {ts : Array TypeId} {H0 R : List Hl} {Γ0 : List PP} {X : Type} {ret : X → Value} {h1 h2 : X → Hl} {Γ1 : X → List PP}
    (hs : Spec P f args H0 Γ0 X ret (fun x => [h1 x, h2 x]) Γ1) (hc : ∀ args w, (callFunc f args).run P w = .ok (.enter f args) w) (hP : C.P = P) (hfo : ev l fo = some (.func (.func f) #[] caps.toArray)) (hx : evs l xs = some vs) (ha : vs ++ caps = args) (hΓ : ∀ p ∈ Γ0, p ∈ Γ) (hd : Dels H H0 R) :
    OpX C ⟨dst, .call { callee := .value fo, args := xs.toArray, argTypes := ts }, ty, pos, after, g⟩ l H Γ X ret (fun x => h1 x :: h2 x :: R) (fun x => Γ1 x ++ Γ) := x_callcP hs hc hP hfo hx ha hΓ hd
end
theorem Hs.freeze0a {ok : OkP} {w0 w : World} {H H' : List Hl} {Γ : List PP} {α : Type} {K : Kd α} {v : Value} {t : TypeId} {xs : List α} (s : Hs ok w0 [] H Γ w) (hD : Del H (.own K v t xs) H') : Hs ok w0 [] H' ([sl K v xs] ++ Γ) w := s.freeze0 hD
end Go.Proofs.Ytjgacbopccfecaa
