/-
  What the walk of store.Live wants: the sort's contract at the places of what lives; the row half turned into handles.
-/
import Derived.Test.YtjgacbopccfecaaV
import Derived.Test.YtjgacbopccfecaaS
set_option maxRecDepth 100000
set_option linter.unusedVariables false
set_option linter.unusedSimpArgs false
namespace Go.Proofs.Ytjgacbopccfecaa

theorem serAt_nat (cs : List Cell) (i : Nat) : serAt cs (i : Int) = serN cs i := by simp only [serAt, serN, Int.toNat_natCast]; cases cs[i]? <;> rfl
theorem f65_live {v vs : Value} {cs : List Cell} {last serial : Int} {B : Nat} (hA : Apart cs) (hn : cs.length ≤ 1000) :
    Spec Try.prog 65 [v, .func (.func 66) #[] [ptr B 0].toArray] [.own intK v 3 ((slots cs 1).map fun (i : Nat) => (i : Int))] [ro B [vs, iV last, iV serial] 26, sl cellK vs cs] Unit (fun _ => .tuple #[]) (fun _ => [.own intK v 3 ((liveI cs).map fun (i : Nat) => (i : Int))]) (fun _ => []) := by
  intro ok w hs
  have hx : ∀ x ∈ ((slots cs 1).map fun (i : Nat) => (i : Int)), 0 ≤ x ∧ x < (cs.length : Int) := by
    intro x hx
    obtain ⟨i, hi, rfl⟩ := List.mem_map.1 hx
    have := (slots_lt hi).1
    omega
  have hl : ((slots cs 1).map fun (i : Nat) => (i : Int)).length ≤ 1000 := by rw [List.length_map]; have := slots_len cs 1; omega
  refine (f65_spec (v := v) (vs := vs) (last := last) (serial := serial) (B := B) hx hl ok w hs).mono ?_
  rintro e w' ⟨⟨ys, hp, hy⟩, rfl, h⟩
  refine ⟨(), rfl, ?_⟩
  have hnn : ∀ y ∈ ys, ((y.toNat : Nat) : Int) = y := fun y hm => by have := hx y (hp.mem_iff.1 hm); omega
  have e1 : ys = (ys.map Int.toNat).map fun (i : Nat) => (i : Int) := by
    rw [List.map_map]
    conv => lhs; rw [← List.map_id ys]
    exact List.map_congr_left fun y hm => (hnn y hm).symm
  have hp2 : (ys.map Int.toNat).Perm (slots cs 1) := by
    have := hp.map Int.toNat
    rw [List.map_map] at this
    refine this.trans (.of_eq ?_)
    conv => rhs; rw [← List.map_id (slots cs 1)]
    exact List.map_congr_left fun i _ => rfl
  have hs2 : ByKey (serN cs) (ys.map Int.toNat) := by
    unfold ByKey
    rw [List.pairwise_map]
    exact hy.imp_of_mem fun {a b} ha hb h => by
      rw [← serAt_nat, ← serAt_nat, hnn a ha, hnn b hb]; exact h
  have e2 : ys.map Int.toNat = liveI cs := sortI_unique hp2 hs2 hA
  rw [e2] at e1
  have h' : Hs ok w _ [.own intK v 3 ys] [] w' := h
  rw [e1] at h'
  exact h'

def mixL (cs : List Cell) (k : Nat) : List Int := (liveP cs).take k ++ ((liveI cs).map fun (i : Nat) => (i : Int)).drop k
theorem liveP_len' (cs : List Cell) : (liveP cs).length = (liveI cs).length := by simp [liveP]
theorem mix_len {cs : List Cell} {k : Nat} : (mixL cs k).length = (liveI cs).length := by
  unfold mixL
  rw [List.length_append, List.length_take, List.length_drop, List.length_map, liveP_len']
  omega
theorem mix_at {cs : List Cell} {k : Nat} (hk : k < (liveI cs).length) : (mixL cs k)[k]? = some (((liveI cs)[k] : Nat) : Int) := by
  unfold mixL
  have : ((liveP cs).take k).length = k := by rw [List.length_take, liveP_len']; omega
  rw [List.getElem?_append_right (by omega), this, Nat.sub_self, List.getElem?_drop, Nat.add_zero, List.getElem?_map, List.getElem?_eq_getElem hk]
  rfl
theorem mix_set {cs : List Cell} {k : Nat} (hk : k < (liveI cs).length) : (mixL cs k).set k (hd cs (liveI cs)[k]) = mixL cs (k + 1) := by
  unfold mixL
  have hk' : k < (liveP cs).length := by rw [liveP_len']; exact hk
  have hk2 : k < ((liveI cs).map fun (i : Nat) => (i : Int)).length := by rw [List.length_map]; exact hk
  have hl : ((liveP cs).take k).length = k := by rw [List.length_take]; omega
  have hg : (liveP cs)[k] = hd cs (liveI cs)[k] := by simp [liveP]
  rw [List.set_append_right _ _ (by omega), hl, Nat.sub_self, List.drop_eq_getElem_cons hk2, List.set_cons_zero, List.take_succ_eq_append_getElem hk', hg, List.append_assoc]
  rfl
theorem mix_0 (cs : List Cell) : mixL cs 0 = (liveI cs).map fun (i : Nat) => (i : Int) := by simp [mixL]
theorem mix_all {cs : List Cell} {k : Nat} (hk : (liveI cs).length ≤ k) : mixL cs k = liveP cs := by
  unfold mixL
  rw [List.take_of_length_le (by rw [liveP_len']; exact hk), List.drop_of_length_le (by rw [List.length_map]; exact hk), List.append_nil]
theorem live_lt {cs : List Cell} {k : Nat} (hk : k < (liveI cs).length) : (liveI cs)[k] < cs.length := (liveI_mem.1 (List.getElem_mem hk)).1
theorem hd_eq {cs : List Cell} {i : Nat} (h : i < cs.length) : pack i cs[i].gen = hd cs i := by unfold hd; rw [genAt_eq h]
end Go.Proofs.Ytjgacbopccfecaa
