/-
  slices.SortFunc at this program, in the words of the walks.
-/
import Derived.Test.YtjgacbopccfecaaW11
import Derived.Test.YtjgacbopccfecaaP
import Derived.Shelf.SlSortCmp.NoneTotal
set_option maxRecDepth 100000
set_option linter.unusedVariables false
set_option linter.unusedSimpArgs false
namespace Go.Proofs.Ytjgacbopccfecaa
open Go.Sort

theorem ext_grow {W w' : World} (e : Ext W w') : ∃ q os', w' = Go.Sort.grow (W.drewN q) os' := by
  refine ⟨w'.drawn - W.drawn, w'.heap.extract W.heap.size w'.heap.size, ?_⟩
  have hh : w'.heap = W.heap ++ w'.heap.extract W.heap.size w'.heap.size := by
    apply Array.ext_getElem?
    intro i
    rcases Nat.lt_or_ge i W.heap.size with h | h
    · rw [Array.getElem?_append_left h]; exact e.old i h (by simp)
    · rw [Array.getElem?_append_right h, Array.getElem?_extract]
      have hs := e.size
      split
      · congr 1; omega
      · rw [Array.getElem?_eq_none]; omega
  have h1 := e.os; have h2 := e.tape; have h3 := e.output.o; have h4 := e.output.d
  cases w'; cases W
  simp only [Go.Sort.grow, World.drewN] at *
  subst h1; subst h2; subst h3
  rw [← hh]
  congr 1
  omega

def serAt (cs : List Cell) (i : Int) : Int := match cs[i.toNat]? with | some c => c.val.serial | none => 0
theorem serAt_eq {cs : List Cell} {i : Int} (h : i.toNat < cs.length) : serAt cs i = cs[i.toNat].val.serial := by unfold serAt; rw [List.getElem?_eq_getElem h]

theorem rws_int {ok : OkP} {h : Hp} {xs : List Int} {cs : List Value} (r : Rws intK ok h xs cs) : cs = xs.map (fun x => (.int .i64 x : Value)) := by
  induction r with
  | nil => rfl
  | cons hx _ ih => rw [show _ = _ from hx, ih]; rfl
theorem rws_int' (ok : OkP) (h : Hp) (xs : List Int) : Rws intK ok h xs (xs.map (fun x => (.int .i64 x : Value))) := by
  induction xs with
  | nil => exact .nil
  | cons x xs ih => exact .cons (c := [_]) rfl ih

theorem sortWorld_other {α : Type} [Inhabited α] {enc : α → Value} {w : World} {blk off m : Nat} {dk : Array α} {os : Array Go.Obj} {b : Nat} (hb : b < w.heap.size) (hne : b ≠ blk) : (sortWorld enc w blk off m dk os).heap[b]? = w.heap[b]? := by
  unfold sortWorld
  rw [heap_grow_old _ _ (by simpa using hb)]
  show ((Go.Sort.ahead w m).heap.modify blk _)[b]? = _
  rw [Array.getElem?_modify, if_neg (fun e => hne e.symm)]; rfl
theorem sortWorld_size {α : Type} [Inhabited α] {enc : α → Value} {w : World} {blk off m : Nat} {dk : Array α} {os : Array Go.Obj} : (sortWorld enc w blk off m dk os).heap.size = w.heap.size + os.size := by
  unfold sortWorld; simp
theorem sortWorld_at {α : Type} [Inhabited α] {enc : α → Value} {w : World} {blk m : Nat} {dk : Array α} {os : Array Go.Obj} {cs junk : List Value} {t : TypeId} (h : w.heap[blk]? = some (.cells (cs ++ junk).toArray t (0, 0))) (hl : cs.length = dk.size) :
    (sortWorld enc w blk 0 m dk os).heap[blk]? = some (.cells (dk.toList.map enc ++ junk).toArray t (0, 0)) := by
  have hb : blk < w.heap.size := (Array.getElem?_eq_some_iff.1 h).1
  unfold sortWorld
  rw [heap_grow_old _ _ (by simpa using hb)]
  show ((Go.Sort.ahead w m).heap.modify blk _)[blk]? = _
  rw [Array.getElem?_modify, if_pos rfl]
  show (w.heap[blk]?).map _ = _
  rw [h]
  simp only [Option.map_some, onCells]
  congr 2
  apply Array.ext_getElem?
  intro k
  simp only [putCells, Array.getElem?_mapIdx, Nat.zero_le, true_and, Nat.zero_add, Nat.sub_zero, List.getElem?_toArray]
  by_cases hk : k < dk.size
  · rw [List.getElem?_append_left (by omega), List.getElem?_append_left (by simpa using hk), List.getElem?_eq_getElem (by omega), List.getElem?_map]
    simp only [Option.map_some, hk, if_true]
    rw [getElem!_pos dk k hk]
    simp [hk]
  · have e : (List.map enc dk.toList).length = dk.size := by simp
    rw [List.getElem?_append_right (by omega), List.getElem?_append_right (by rw [e]; omega), hl, e]
    simp [hk]

def cmpS (a b : Int) : Int := if a < b then -1 else if b < a then 1 else 0
theorem cmpS_neg (a b : Int) : decide (cmpS a b < 0) = decide (a < b) := by
  unfold cmpS
  rw [decide_eq_decide]
  by_cases h : a < b
  · simp [h]
  · rw [if_neg h]
    by_cases h2 : b < a
    · rw [if_pos h2]; omega
    · rw [if_neg h2]; omega

theorem f65_spec {v vs : Value} {xs : List Int} {cs : List Cell} {last serial : Int} {B : Nat} (hx : ∀ x ∈ xs, 0 ≤ x ∧ x < (cs.length : Int)) (hxl : xs.length ≤ 1000) :
    Spec Try.prog 65 [v, .func (.func 66) #[] [ptr B 0].toArray] [.own intK v 3 xs] [ro B [vs, iV last, iV serial] 26, sl cellK vs cs] { ys : List Int // ys.Perm xs ∧ ys.Pairwise fun a b => serAt cs a ≤ serAt cs b } (fun _ => .tuple #[]) (fun ys => [.own intK v 3 ys.1]) (fun _ => []) := by
  intro ok w hs
  have L := Ytjgacbopccfecaa.sortL
  have own := hs.sat _ List.mem_cons_self
  have none_ : ∀ (p : Option Addr) (cap : Nat) (e : xs = []), v = .slice p 0 cap → Calls Try.prog 65 [v, .func (.func 66) #[] [ptr B 0].toArray].toArray w fun e w' => ∃ x : { ys : List Int // ys.Perm xs ∧ ys.Pairwise fun a b => serAt cs a ≤ serAt cs b }, e = .returned (.tuple #[]) ∧ Hs ok w [.own intK v 3 xs] [.own intK v 3 x.1] [] w' := by
    intro p cap e ev
    have h := AnyF.slices_SortFunc_none (P := Try.prog) (ρ := Ytjgacbopccfecaa.sortL_ren) { L with } p cap (.func (.func 66) #[] [ptr B 0].toArray) w
    rw [ev] at hs ⊢
    refine Calls.mono h ?_
    rintro e' w' ⟨rfl, rfl⟩
    exact ⟨⟨xs, .refl _, by rw [e]; exact .nil⟩, rfl, hs.sub (by simp)⟩
  rcases own with ⟨⟨A, e1⟩, e2⟩ | ⟨blk, cap, cells, junk, ev, h0, h1, h2, hr, h4, h5⟩
  · exact none_ A 0 e2 e1
  · by_cases hxn : xs = []
    · exact none_ _ cap hxn (by rw [ev, hxn]; rfl)
    obtain ⟨n, hn⟩ : ∃ n, cs.length = n + 1 := by
      obtain ⟨x, hxm⟩ := List.exists_mem_of_ne_nil _ hxn
      have := hx x hxm
      exact ⟨cs.length - 1, by omega⟩
    have hcells := rws_int hr
    let enc : Fin (n + 1) → Value := fun i => .int .i64 (i.val : Int)
    let ser : Fin (n + 1) → Int := fun i => serAt cs (i.val : Int)
    let cf : Fin (n + 1) → Fin (n + 1) → Int := fun i j => cmpS (ser i) (ser j)
    let toF : Int → Fin (n + 1) := fun x => Fin.ofNat (n + 1) x.toNat
    have htoF : ∀ x ∈ xs, ((toF x).val : Int) = x := fun x hxm => by
      have := hx x hxm
      show ((x.toNat % (n + 1) : Nat) : Int) = x
      rw [Nat.mod_eq_of_lt (by omega)]; omega
    let d : Array (Fin (n + 1)) := (xs.map toF).toArray
    have hds : d.size = xs.length := by simp [d]
    have hblk : blk < w.heap.size := (Array.getElem?_eq_some_iff.1 h5).1
    have hlt : ∀ i j, ltOf cf i j = decide (ser i < ser j) := fun i j => cmpS_neg _ _
    have hO : SWO (ltOf cf) := ⟨fun x => by rw [hlt]; simp, fun x y z h1 h2 => by rw [hlt] at *; simp at *; omega, fun x y z h1 h2 => by rw [hlt] at *; simp at *; omega⟩
    have hH : Holds enc w blk 0 d := fun j hj => by
      rw [hds] at hj
      refine ⟨?_, ?_⟩
      · rw [blk_cell h5, Nat.zero_add, List.getElem?_append_left (by rw [hcells]; simpa using hj), hcells, List.getElem?_map, List.getElem?_eq_getElem hj]
        rw [getElem!_pos d j (by omega)]
        simp only [Option.map_some, enc, d, List.getElem_toArray, List.getElem_map]
        rw [htoF _ (List.getElem_mem hj)]
      · simp only [World.frozen?, h5]; simp
    have hat : ∀ b, (Hl.own intK v 3 xs).at b → b = blk := by
      rintro b ⟨n', c', e', h'⟩
      rw [ev] at e'
      simp only [Value.slice.injEq, Option.some.injEq, Addr.mk.injEq] at e'
      exact e'.1.1.symm
    have hat' : (Hl.own intK v 3 xs).at blk := ⟨_, _, ev, h0⟩
    have hcmp : CmpLays1 Try.prog 66 [ptr B 0].toArray enc cf blk 0 d.size w := by
      intro m os dk hdk x y
      obtain ⟨W, hW⟩ : ∃ W, sortWorld enc w blk 0 m dk os = W := ⟨_, rfl⟩
      rw [hW]
      have hsz : w.heap.size ≤ W.heap.size := by rw [← hW, sortWorld_size]; omega
      let ok' : OkP := fun b => okm ok [.own intK v 3 xs] b ∨ w.heap.size ≤ b
      have l : Lasts (okm ok [.own intK v 3 xs]) (okm ok' []) w.heap W.heap := .of hsz fun b hb hlt => ⟨⟨.inl hb, fun z hz => by cases hz⟩, by
        rw [← hW]
        refine sortWorld_other hlt fun e => ?_
        subst e
        exact hb.2 _ List.mem_cons_self hat'⟩
      have hs' : Hs ok' W [] [] [ro B [vs, iV last, iV serial] 26, sl cellK vs cs] W := ⟨Fr.refl _ _, fun b hb => .inr (by omega), (fun x hx => by cases hx), (fun x hx => by cases hx), List.Pairwise.nil, fun p hp => p.pers l (hs.facts p hp)⟩
      have hxi := x.isLt
      have hyi := y.isLt
      have h := f66_spec (v := vs) (cs := cs) (last := last) (serial := serial) (B := B) (i := (x.val : Int)) (j := (y.val : Int)) (by omega) (by omega) (by omega) (by omega) ok' W hs'
      have hargs : [iV (x.val : Int), iV (y.val : Int), ptr B 0].toArray = #[enc x, enc y] ++ [ptr B 0].toArray := by simp [enc]
      rw [hargs] at h
      refine h.mono ?_
      rintro e w' ⟨_, rfl, h6⟩
      refine ⟨?_, ext_grow h6.fr⟩
      have hxx : ((x.val : Int)).toNat < cs.length := by omega
      have hyy : ((y.val : Int)).toNat < cs.length := by omega
      show Ending.returned (iV (cmpS cs[((x.val : Int)).toNat].val.serial cs[((y.val : Int)).toNat].val.serial)) = Ending.returned (iV (cmpS (serAt cs (x.val : Int)) (serAt cs (y.val : Int))))
      rw [serAt_eq hxx, serAt_eq hyy]
    have key := Any.slices_SortFunc L enc (fun _ => rfl) cf hO 66 [ptr B 0].toArray blk 0 cap d w Try.call66 hcmp hH hblk (by omega)
    have hargs : [v, .func (.func 66) #[] [ptr B 0].toArray].toArray = #[.slice (some ⟨blk, 0, none⟩) d.size cap, .func (.func 66) #[] [ptr B 0].toArray] := by rw [ev, hds]
    rw [hargs]
    refine Calls.mono key ?_
    rintro e w' ⟨rfl, d', n', os, ⟨p1, p2, p3⟩, hsrt, hw'⟩
    have hperm : (d'.toList.map fun i => ((i.val : Nat) : Int)).Perm xs := by
      have e1 : d'.extract 0 d.size = d' := by rw [← p1]; simp
      have e2 : d.extract 0 d.size = d := by simp
      rw [e1, e2] at p3
      have := p3.map fun i => ((i.val : Nat) : Int)
      refine this.trans (.of_eq ?_)
      simp only [d, List.map_map]
      conv => rhs; rw [← List.map_id xs]
      exact List.map_congr_left fun x hxm => htoF x hxm
    have hsorted : (d'.toList.map fun i => ((i.val : Nat) : Int)).Pairwise fun a b => serAt cs a ≤ serAt cs b := by
      rw [List.pairwise_map, List.pairwise_iff_getElem]
      intro i j hi hj hij
      have hi' : i < d'.size := by simpa using hi
      have hj' : j < d'.size := by simpa using hj
      have h := hsrt i j (Nat.zero_le _) hij (by omega)
      rw [hlt, getElem!_pos d' i hi', getElem!_pos d' j hj'] at h
      simp only [decide_eq_false_iff_not, ser] at h
      simpa using h
    refine ⟨⟨_, hperm, hsorted⟩, rfl, ?_⟩
    have hlen : d'.size = xs.length := by rw [p1, hds]
    rw [hw']
    have hdr : OutD (sortWorld enc w blk 0 n' d' os) w := ⟨rfl, Nat.le_add_right _ _⟩
    refine (hs.put (w' := sortWorld enc w blk 0 n' d' os) (H' := [.own intK v 3 (d'.toList.map fun i => ((i.val : Nat) : Int))]) .head rfl rfl hdr (by rw [sortWorld_size]; omega) (fun b hb hn => sortWorld_other hb fun e => hn (by rw [e]; exact hat')) (fun b hb => ?_) fun l => ?_).sub (Γ' := []) (fun p hp => by cases hp)
    · have : b = blk := by
        obtain ⟨n2, c2, e', h'⟩ := hb
        rw [ev] at e'
        simp only [Value.slice.injEq, Option.some.injEq, Addr.mk.injEq] at e'
        exact e'.1.1.symm
      subst this
      exact ⟨by rw [sortWorld_size]; omega, .inl hat'⟩
    · refine .inr ⟨blk, cap, _, junk, by rw [ev]; simp [hlen], h0, by simp; omega, h2, rws_int' _ _ _, by rw [h4]; simp [hlen], ?_⟩
      rw [List.map_map]
      exact sortWorld_at h5 (by rw [hcells, List.length_map, hlen])
end Go.Proofs.Ytjgacbopccfecaa
