/-
  What the small functions compute, in plain Lean; and facts of the program that every walk wants.
-/
import Derived.Test.YtjgacbopccfecaaK
import Derived.Test.YtjgacbopccfecaaProg
set_option linter.unusedVariables false
set_option linter.unusedSimpArgs false
namespace Go.Proofs.Ytjgacbopccfecaa

theorem mixed : Try.prog.follows .mixedOrders = true := by kernel_rfl

def InI (x : Int) : Prop := -9223372036854775808 ≤ x ∧ x ≤ 9223372036854775807

abbrev iV (n : Int) : Value := .int .i64 n
abbrev objA (o : Obj) (f : Value) : Value := .agg (objV o f).toArray
abbrev slabA (v : Value) (last : Int) : Value := .agg [v, .int .i64 last].toArray
abbrev stA (v : Value) (last serial : Int) : Value := .agg [v, .int .i64 last, .int .i64 serial].toArray

def inB (a b : Int) : Bool := decide (0 ≤ a ∧ a ≤ b)
def pack (s g : Int) : Int := if inB s 23 && inB g 9 then 1 + (g * 32 + s) else 0
def valid (h : Int) : Bool := decide (1 ≤ h ∧ h ≤ 400) && decide (pack ((h - 1) % 32) ((h - 1) / 32) = h)
def slotOf (h : Int) : Int := if valid h then (h - 1) % 32 else -1
def genOf (h : Int) : Int := if valid h then (h - 1) / 32 else -1

theorem pack_a {s g r : Int} (h : (r = 0 ∧ (s < 0 ∨ 23 < s ∨ g < 0 ∨ 9 < g)) ∨ (0 ≤ s ∧ s ≤ 23 ∧ 0 ≤ g ∧ g ≤ 9 ∧ r = 1 + s + 32 * g)) : r = pack s g := by
  unfold pack inB
  rcases h with ⟨rfl, h⟩ | ⟨h1, h2, h3, h4, rfl⟩
  · rw [if_neg]; simp; omega
  · rw [if_pos (by simp; omega)]; omega
theorem valid_le {h : Int} (hv : valid h = true) : 1 ≤ h ∧ h ≤ 400 := by
  simp only [valid, Bool.and_eq_true, decide_eq_true_eq] at hv; exact hv.1
theorem within_eq {a b : Int} (ha : InI a) (hb : 0 ≤ b) (hb2 : b ≤ 9223372036854775807) : decide (IntKind.u64.wrap a ≤ IntKind.u64.wrap b) = inB a b := by
  unfold InI at ha
  have e : ∀ x : Int, IntKind.u64.wrap x = x % 18446744073709551616 := fun x => by simp [IntKind.wrap, IntKind.bits, IntKind.signed]
  rw [e, e]
  simp only [inB, decide_eq_decide]
  omega

theorem or_small : ∀ s : Fin 24, ∀ g : Fin 10, (BitVec.ofInt 64 ((g.val : Int) * 32) ||| BitVec.ofInt 64 (s.val : Int)).toNat = g.val * 32 + s.val := by decide +kernel
theorem or_run {s g : Int} (hs : inB s 23 = true) (hg : inB g 9 = true) (P : Program) (w : World) : (Op.intBits .or .i64 (g * 32) s).run P w = .ok (.int .i64 (g * 32 + s)) w := by
  simp only [inB, decide_eq_true_eq] at hs hg
  obtain ⟨s', rfl⟩ := Int.eq_ofNat_of_zero_le hs.1
  obtain ⟨g', rfl⟩ := Int.eq_ofNat_of_zero_le hg.1
  have h := or_small ⟨s', by omega⟩ ⟨g', by omega⟩
  simp only at h
  have hb : IntKind.i64.bits = 64 := rfl
  have hw : IntKind.i64.wrap ((g' * 32 + s' : Nat) : Int) = ((g' * 32 + s' : Nat) : Int) := IntWalk.i64_in _ (by omega)
  simp only [Op.intBits]
  show (pure (Value.int IntKind.i64 (IntKind.i64.wrap ((BitVec.ofInt 64 ((g' : Int) * 32) ||| BitVec.ofInt 64 (s' : Int)).toNat : Int))) : Sem Value).run P w = _
  rw [h, hw]
  simp

/-! ### How the data are read -/
theorem cell_f {ok : OkP} {h : Hp} {o : Cell} {c : List Value} (r : cellK.R ok h o c) : ∃ f, c[7]? = some f ∧ ∀ p ∈ [sl intK f o.val.fields], p.p ok h := by
  obtain ⟨f, rfl, hf⟩ := cell_at r
  exact ⟨f, rfl, by simp only [List.mem_singleton]; rintro p rfl; exact hf⟩
theorem cell_all {ok : OkP} {h : Hp} {o : Cell} {c : List Value} (r : cellK.R ok h o c) : ∃ f, (c.drop 0).take 8 = cellV o f ∧ ∀ p ∈ [sl intK f o.val.fields], p.p ok h := by
  obtain ⟨f, rfl, hf⟩ := cell_at r
  exact ⟨f, rfl, by simp only [List.mem_singleton]; rintro p rfl; exact hf⟩
theorem cell_obj {ok : OkP} {h : Hp} {o : Cell} {c : List Value} (r : cellK.R ok h o c) : ∃ f, (c.drop 2).take 6 = objV o.val f ∧ ∀ p ∈ [sl intK f o.val.fields], p.p ok h := by
  obtain ⟨f, rfl, hf⟩ := cell_at r
  exact ⟨f, rfl, by simp only [List.mem_singleton]; rintro p rfl; exact hf⟩
abbrev c3V (c : C3) : List Value := [.int .i64 c.state, .int .i64 c.gen, .int .i64 c.val]
theorem c3_all {ok : OkP} {h : Hp} {o : C3} {c : List Value} (r : c3K.R ok h o c) : ∃ u : Unit, (c.drop 0).take 3 = c3V o ∧ ∀ p ∈ ([] : List PP), p.p ok h := by
  rw [show c = _ from r]; exact ⟨(), rfl, by simp⟩

theorem Hs.nilS {α : Type} {ok : OkP} {w0 w : World} {H0 H : List Hl} {Γ : List PP} {A : Option Addr} (K : Kd α) (s : Hs ok w0 H0 H Γ w) : Hs ok w0 H0 H (sl K (.slice A 0 0) [] :: Γ) w :=
  s.add (Γ' := [sl K (.slice A 0 0) []]) (by simp only [List.mem_singleton]; rintro p rfl; exact Sl.nil)

/-! ### Numbers in rows -/
def times (xs : List Int) (c : Int) : Int := if c = 0 then 0 else (xs.count c : Int)
def newI (n : Int) : List Int := if 0 ≤ n ∧ n ≤ 4 then List.replicate n.toNat 0 else []
def hasI (xs : List Int) (k : Int) : Bool := decide (0 ≤ k ∧ k < xs.length)
def withI (xs : List Int) (i k : Int) : List Int := if hasI xs i then xs.set i.toNat k else xs
def atI (xs : List Int) (i : Int) : Int := if hasI xs i then xs.getD i.toNat 0 else 0
theorem times_succ {xs : List Int} {c : Int} {k : Nat} (hk : k < xs.length) : times (xs.take (k + 1)) c = times (xs.take k) c + (if xs[k] = c ∧ c ≠ 0 then 1 else 0) := by
  unfold times
  by_cases h0 : c = 0
  · simp [h0]
  · rw [if_neg h0, if_neg h0, List.take_succ_eq_append_getElem hk, List.count_append, List.count_singleton]
    by_cases h : xs[k] = c
    · simp [h, h0]
    · simp [h, h0]
theorem times_lo (xs : List Int) (c : Int) : 0 ≤ times xs c ∧ times xs c ≤ xs.length := by
  unfold times
  split
  · omega
  · have := List.count_le_length (a := c) (l := xs); omega
end Go.Proofs.Ytjgacbopccfecaa
