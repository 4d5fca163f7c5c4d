/-
Contracts: values that are told to a search.
Plain: a polymorphism with given values. No program is named here.
Contracts: the first operation that a search finds.
Contracts: the first polymorphism with given values, the program's.
Contracts: a polymorphism with given values, the program's.
Contracts: a polymorphism with given values, the program's, whole.
Contracts: a polymorphism with given values, the reference's.
Contracts: a polymorphism with given values, the reference's, whole.
Plain: how great an operation with given values is.
Contracts: the relation of all tuples for which something is so.
Contracts: the lists of the values of tuples at all places, both sides.
Contracts: the code of tuples of which there may be a hull, both sides.
Plain mathematics: lists of digits in order; the tuples of a relation made by number are in order.
Plain: the formula that says which tuples lie in the hull: its variables, its atoms. No program is named here.
Contracts: which variable stands for which list of values, the reference's.
Contracts: sameness of formulas and instances, in the program and in the reference.
Contracts: the reference's sameness of formulas and of instances.
Contracts: whether a tuple has equal values for places with the same variable.
Contracts: whether a number is one of a list's; whether a constraint leaves values of two variables.
-/
import Derived.Test.YtjghcedmlklngaaQAJ
import Derived.Test.YtjghcedmlklngaaQBA
import Derived.Test.YtjghcedmlklngaaQAE
import Derived.Test.YtjghcedmlklngaaQAC
import Derived.Test.YtjghcedmlklngaaQAD
import Derived.Test.YtjghcedmlklngaaQAB
namespace Go.Proofs.Ytjghcedmlklngaa
open Go.RowKit Go.Sort
/-- one value told; none if it was told otherwise -/
def tellAt (s : Int) (l : List Int) (v : Int) (f : List Int) : Option (List Int) := match decide (0 ≤ f.getD (idxL s 0 l).toNat 0) && (f.getD (idxL s 0 l).toNat 0 != v) with
  | true => none
  | false => some (f.set (idxL s 0 l).toNat v)
/-- the first k values told -/
def telK (s : Int) (ls : List (List Int)) (vs : List Int) (f : List Int) : Nat → Option (List Int)
  | 0 => some f
  | k + 1 => (telK s ls vs f k).bind (tellAt s (ls.getD k []) (vs.getD k 0))
section
variable {s : Int} {ls : List (List Int)} {vs f g : List Int} {k : Nat}
theorem telK_none (h : telK s ls vs f k = none) : ∀ {n}, k ≤ n → telK s ls vs f n = none := by
  intro n hn
  obtain ⟨d, rfl⟩ : ∃ d, n = k + d := ⟨n - k, by omega⟩
  induction d with
  | zero => exact h
  | succ d ih =>
    show (telK s ls vs f (k + d)).bind _ = none
    rw [ih (by omega)]
    rfl
theorem telK_no (h : telK s ls vs f k = some g) (hk : k < ls.length) (hv : k < vs.length) (h1 : (decide (0 ≤ g.getD (idxL s 0 ls[k]).toNat 0) && (g.getD (idxL s 0 ls[k]).toNat 0 != vs[k])) = true) : telK s ls vs f (k + 1) = none := by
  show (telK s ls vs f k).bind _ = none
  rw [h]
  show tellAt s (ls.getD k []) (vs.getD k 0) g = none
  rw [List.getD_eq_getElem?_getD, List.getD_eq_getElem?_getD, List.getElem?_eq_getElem hk, List.getElem?_eq_getElem hv]
  simp only [Option.getD_some, tellAt, h1]
theorem telK_yes (h : telK s ls vs f k = some g) (hk : k < ls.length) (hv : k < vs.length) (h1 : (decide (0 ≤ g.getD (idxL s 0 ls[k]).toNat 0) && (g.getD (idxL s 0 ls[k]).toNat 0 != vs[k])) = false) : telK s ls vs f (k + 1) = some (g.set (idxL s 0 ls[k]).toNat vs[k]) := by
  show (telK s ls vs f k).bind _ = _
  rw [h]
  show tellAt s (ls.getD k []) (vs.getD k 0) g = _
  rw [List.getD_eq_getElem?_getD, List.getD_eq_getElem?_getD, List.getElem?_eq_getElem hk, List.getElem?_eq_getElem hv]
  simp only [Option.getD_some, tellAt, h1]
theorem telK_ok (h : telK s ls vs f k = some g) (hf : ∀ a ∈ f, -1 ≤ a ∧ a ≤ s - 1) (hv : ∀ a ∈ vs, 0 ≤ a ∧ a ≤ s - 1) (hs : 1 ≤ s) : g.length = f.length ∧ ∀ a ∈ g, -1 ≤ a ∧ a ≤ s - 1 := by
  induction k generalizing g with
  | zero => cases h; exact ⟨rfl, hf⟩
  | succ k ih =>
    cases h0 : telK s ls vs f k with
    | none => rw [telK_none h0 (Nat.le_succ k)] at h; cases h
    | some q =>
      obtain ⟨i1, i2⟩ := ih h0
      have h' : tellAt s (ls.getD k []) (vs.getD k 0) q = some g := by
        have h9 : (telK s ls vs f k).bind (tellAt s (ls.getD k []) (vs.getD k 0)) = some g := h
        rw [h0] at h9
        exact h9
      unfold tellAt at h'
      split at h'
      · cases h'
      · cases h'
        refine ⟨by rw [List.length_set]; exact i1, fun a ha => ?_⟩
        rcases List.mem_or_eq_of_mem_set ha with ha | rfl
        · exact i2 a ha
        · rw [List.getD_eq_getElem?_getD]
          cases h3 : vs[k]? with
          | none => simp; omega
          | some b => have := hv b (List.mem_of_getElem? h3); simp; omega
end
/-- the reference's told values laid in -/
theorem Ru.setF {ok : Nat → Prop} {w : World} {br : Nat} {t : Tpl} {ar : Int} {due : List (List (Int × List Int))} {fx fx' : List Int} {u : Value} (h : Ru ok w br t ar due fx) (hO : ¬ ok br) (hv : intsT.RdP ok w [u] fx') : Ru ok (w.setCell ⟨br, 4, none⟩ u) br t ar due fx' := by
  obtain ⟨h1, tb, tq, v2, v3, v4, c0, htb, hk, ct, c1, c2, c3, c4, h3, h4, h5⟩ := h
  have hs : TchP (fun k => k = br) w (w.setCell ⟨br, 4, none⟩ u) := TchP.set rfl
  have hkk : ∀ k, k < w.heap.size → ok k → ¬ (k = br) := fun k _ hk e => hO (e ▸ hk)
  have hc : ∀ j, j ≠ 4 → (w.setCell ⟨br, 4, none⟩ u).cell? ⟨br, j, none⟩ = w.cell? ⟨br, j, none⟩ := fun _ hj => World.cell?_setCell_other _ _ _ _ (fun e => hj (congrArg Addr.off e.symm))
  exact ⟨by simpa [World.setCell] using h1, tb, tq, v2, v3, u, (hc 0 (by omega)).trans c0, by simpa [World.setCell] using htb, hk, (hs.cell htb (hkk tb htb hk)).trans ct, (hc 1 (by omega)).trans c1, (hc 2 (by omega)).trans c2, (hc 3 (by omega)).trans c3, World.cell?_setCell_same _ _ _ c4, h3.tchP hs hkk, h4.tchP hs hkk, hv.tchP hs hkk⟩
theorem Mc.setF {e base : Nat} {w : World} {br gt N : Nat} {T : List Int} {st : Nat} {bg : Bool} {u : Value} (h : Mc e base w br gt N T st bg) (hne : gt ≠ br) : Mc e base (w.setCell ⟨br, 4, none⟩ u) br gt N T st bg := by
  obtain ⟨h0, c5, hi, c6, c7, f6, f7⟩ := h
  have hc : ∀ j, j ≠ 4 → (w.setCell ⟨br, 4, none⟩ u).cell? ⟨br, j, none⟩ = w.cell? ⟨br, j, none⟩ := fun _ hj => World.cell?_setCell_other _ _ _ _ (fun e => hj (congrArg Addr.off e.symm))
  exact ⟨by simpa [World.setCell] using h0, (hc 5 (by omega)).trans c5, hi.same (Below.heap_setCell _ _ _ _ (by simpa using hne)), (hc 6 (by omega)).trans c6, (hc 7 (by omega)).trans c7, (World.frozen?_setCell _ _ _ _).trans f6, (World.frozen?_setCell _ _ _ _).trans f7⟩
end Go.Proofs.Ytjghcedmlklngaa
namespace Go.Proofs.Ytjghcedmlklngaa
open Go.RowKit Go.Sort
/-- lists and values that may be told -/
noncomputable def wOk (t : Tpl) (ar : Int) (ls : List (List Int)) (vs : List Int) : Bool := tb (rowOk t.1 ls.length vs) && ls.all fun l => tb (rowOk t.1 ar l)
/-- what is told, in all -/
noncomputable def wF (t : Tpl) (ar : Int) (ls : List (List Int)) (vs : List Int) : Option (List Int) := telK t.1 ls vs (List.replicate (tabL t ar) (-1)) ls.length
/-- the search behind it -/
noncomputable def wR (t : Tpl) (ar : Int) (ls : List (List Int)) (vs : List Int) : FR := polyF t ar ((wF t ar ls vs).getD []) fun _ => -1
noncomputable def pwC (t : Tpl) (ar : Int) (ls : List (List Int)) (vs : List Int) : Int :=
  match askC t ar == 0, wOk t ar ls vs, (wF t ar ls vs).isSome, limF t ar.toNat with
  | false, _, _, _ => askC t ar
  | true, false, _, _ => 2
  | true, true, false, _ => 4
  | true, true, true, true => 3
  | true, true, true, false => if (wR t ar ls vs).1 = -1 then 0 else if (wR t ar ls vs).1 = 0 then 6 else (wR t ar ls vs).1
noncomputable def pwV (t : Tpl) (ar : Int) (ls : List (List Int)) (vs : List Int) : Int × List Int :=
  match askC t ar == 0, wOk t ar ls vs, (wF t ar ls vs).isSome, limF t ar.toNat, (wR t ar ls vs).1 == -1 with
  | true, true, true, false, true => (ar, (wR t ar ls vs).2.2.getLastD [])
  | _, _, _, _, _ => (0, [])
section
variable {t : Tpl} {ar : Int} {ls : List (List Int)} {vs : List Int}
theorem pw_ask (h : askC t ar ≠ 0) : pwV t ar ls vs = (0, []) ∧ pwC t ar ls vs = askC t ar := by
  have : (askC t ar == 0) = false := by simpa using h
  simp [pwV, pwC, this]
theorem pw_bad (h : askC t ar = 0) (h1 : wOk t ar ls vs = false) : pwV t ar ls vs = (0, []) ∧ pwC t ar ls vs = 2 := by simp [pwV, pwC, h, h1]
theorem pw_st (h : askC t ar = 0) (h1 : wOk t ar ls vs = true) (h2 : wF t ar ls vs = none) : pwV t ar ls vs = (0, []) ∧ pwC t ar ls vs = 4 := by simp [pwV, pwC, h, h1, h2]
theorem pw_lim {f : List Int} (h : askC t ar = 0) (h1 : wOk t ar ls vs = true) (h2 : wF t ar ls vs = some f) (h3 : limF t ar.toNat = true) : pwV t ar ls vs = (0, []) ∧ pwC t ar ls vs = 3 := by simp [pwV, pwC, h, h1, h2, h3]
theorem pw_yes {f : List Int} (h : askC t ar = 0) (h1 : wOk t ar ls vs = true) (h2 : wF t ar ls vs = some f) (h3 : limF t ar.toNat = false) (h4 : (polyF t ar f fun _ => -1).1 = -1) : pwV t ar ls vs = (ar, (polyF t ar f fun _ => -1).2.2.getLastD []) ∧ pwC t ar ls vs = 0 := by
  have e : wR t ar ls vs = polyF t ar f fun _ => -1 := by unfold wR; rw [h2]; rfl
  simp [pwV, pwC, h, h1, h2, h3, e, h4]
theorem pw_non {f : List Int} (h : askC t ar = 0) (h1 : wOk t ar ls vs = true) (h2 : wF t ar ls vs = some f) (h3 : limF t ar.toNat = false) (h4 : (polyF t ar f fun _ => -1).1 = 0) : pwV t ar ls vs = (0, []) ∧ pwC t ar ls vs = 6 := by
  have e : wR t ar ls vs = polyF t ar f fun _ => -1 := by unfold wR; rw [h2]; rfl
  simp [pwV, pwC, h, h1, h2, h3, e, h4]
theorem pw_err {f : List Int} (h : askC t ar = 0) (h1 : wOk t ar ls vs = true) (h2 : wF t ar ls vs = some f) (h3 : limF t ar.toNat = false) (h4 : (polyF t ar f fun _ => -1).1 ≠ -1) (h5 : (polyF t ar f fun _ => -1).1 ≠ 0) : pwV t ar ls vs = (0, []) ∧ pwC t ar ls vs = (polyF t ar f fun _ => -1).1 := by
  have e : wR t ar ls vs = polyF t ar f fun _ => -1 := by unfold wR; rw [h2]; rfl
  simp [pwV, pwC, h, h1, h2, h3, e, h4, h5]
end
end Go.Proofs.Ytjghcedmlklngaa
namespace Go.Proofs.Ytjghcedmlklngaa
open Go.RowKit Go.Sort
/-- what the first operation is, from where the search ends -/
def foV (ar : Int) (R : FR) : Int × List Int := match R.1 == -1 with
  | true => (ar, R.2.2.getLastD [])
  | false => (0, [])
def foC (R : FR) : Int := match R.1 == -1, R.1 == 0 with
  | true, _ => 0
  | false, true => 6
  | false, false => R.1
/-- how firstOf leaves memory -/
def FoR (w : World) (bs : Nat) (ar : Int) (R : FR) (e : Ending) (w' : World) : Prop :=
  ∃ cs : List Value, e = .returned (.tuple #[.agg cs.toArray, .int .i64 (foC R)]) ∧ opT.Fr w.heap.size w' cs (foV ar R) ∧ TchP (fun k => k = bs) w w'
end Go.Proofs.Ytjghcedmlklngaa
namespace Go.Proofs.Ytjghcedmlklngaa
open Go.RowKit Go.Sort
theorem rd_rdP {α : Type} {E : Ty α} {w : World} {cs : List Value} {x : α} (h : E.Rd w cs x) : E.RdP (fun k => k < w.heap.size) w cs x := let ⟨fp, h⟩ := h; ⟨fp, h, fun k hk => E.lt h k hk⟩
noncomputable def phV (t : Tpl) (ar : Int) (ls : List (List Int)) (vs : List Int) : Int × List Int := match wF t ar ls vs with
  | none => (0, [])
  | some f => foV ar (polyF t ar f fun _ => -1)
noncomputable def phC (t : Tpl) (ar : Int) (ls : List (List Int)) (vs : List Int) : Int := match wF t ar ls vs with
  | none => 4
  | some f => foC (polyF t ar f fun _ => -1)
end Go.Proofs.Ytjghcedmlklngaa
namespace Go.Proofs.Ytjghcedmlklngaa
open Go.RowKit Go.Sort
theorem pw_ph {t : Tpl} {ar : Int} {ls : List (List Int)} {vs : List Int} (h : askC t ar = 0) (h1 : wOk t ar ls vs = true) (h3 : limF t ar.toNat = false) : pwV t ar ls vs = phV t ar ls vs ∧ pwC t ar ls vs = phC t ar ls vs := by
  unfold phV phC
  cases h2 : wF t ar ls vs with
  | none => exact pw_st h h1 h2
  | some f =>
    show pwV t ar ls vs = foV ar (polyF t ar f fun _ => -1) ∧ pwC t ar ls vs = foC (polyF t ar f fun _ => -1)
    by_cases h4 : (polyF t ar f fun _ => -1).1 = -1
    · obtain ⟨e1, e2⟩ := pw_yes h h1 h2 h3 h4
      have hc : ((polyF t ar f fun _ => -1).1 == -1) = true := by simpa using h4
      rw [e1, e2]
      unfold foV foC
      rw [hc]
      exact ⟨rfl, rfl⟩
    · have hc : ((polyF t ar f fun _ => -1).1 == -1) = false := by simpa using h4
      by_cases h5 : (polyF t ar f fun _ => -1).1 = 0
      · obtain ⟨e1, e2⟩ := pw_non h h1 h2 h3 h5
        have hz : ((polyF t ar f fun _ => -1).1 == 0) = true := by simpa using h5
        rw [e1, e2]
        unfold foV foC
        rw [hc, hz]
        exact ⟨rfl, rfl⟩
      · obtain ⟨e1, e2⟩ := pw_err h h1 h2 h3 h4 h5
        have hz : ((polyF t ar f fun _ => -1).1 == 0) = false := by simpa using h5
        rw [e1, e2]
        unfold foV foC
        rw [hc, hz]
        exact ⟨rfl, rfl⟩
end Go.Proofs.Ytjghcedmlklngaa
namespace Go.Proofs.Ytjghcedmlklngaa
open Go.RowKit Go.Sort
/-- a struct of two cells, laid as a result -/
theorem res2_0 {W : World} {b : Nat} {x0 x y : Value} (s0 : W.cell? ⟨b, 0, none⟩ = some x0) : ((W.setCell ⟨b, 0, none⟩ x).setCell ⟨b, 1, none⟩ y).cell? ⟨b, 0, none⟩ = some x := (World.cell?_setCell_other _ _ _ _ (by simp)).trans (World.cell?_setCell_same _ _ _ s0)
theorem res2_1 {W : World} {b : Nat} {x1 x y : Value} (s1 : W.cell? ⟨b, 1, none⟩ = some x1) : ((W.setCell ⟨b, 0, none⟩ x).setCell ⟨b, 1, none⟩ y).cell? ⟨b, 1, none⟩ = some y := World.cell?_setCell_same _ _ _ ((World.cell?_setCell_other _ _ _ _ (by simp)).trans s1)
theorem res2_b {w W : World} {B b : Nat} {x y : Value} (h : Below B w W) (hB : B ≤ b) : Below B w ((W.setCell ⟨b, 0, none⟩ x).setCell ⟨b, 1, none⟩ y) := by
  refine ⟨h.os, h.tape, h.output, by have := h.size; simpa [World.setCell] using this, fun k hk => ?_⟩
  exact ((Below.heap_setCell _ _ _ _ (by simp; omega)).trans (Below.heap_setCell _ _ _ _ (by simp; omega))).trans (h.block k hk)
theorem fr_op0 {base : Nat} {w : World} : opT.Fr base w [.int .i64 0, .slice none 0 0] (0, []) := fr_cons (I64.small (by omega) (by omega)) fr_nil
theorem wOk_no1 {t : Tpl} {ar : Int} {ls : List (List Int)} {vs : List Int} (h : tb (rowOk t.1 ls.length vs) = false) : wOk t ar ls vs = false := by unfold wOk; rw [h]; rfl
theorem wOk_any {t : Tpl} {ar : Int} {ls : List (List Int)} {vs : List Int} (h : tb (rowOk t.1 ls.length vs) = true) : wOk t ar ls vs = !(anyB (fun l => !(tb (rowOk t.1 ar l))) ls) := by
  unfold wOk anyB
  rw [h, Bool.true_and, List.not_any_eq_all_not]
  simp
theorem wOk_in {t : Tpl} {ar : Int} {ls : List (List Int)} {vs : List Int} (h : wOk t ar ls vs = true) : ls.length = vs.length ∧ (∀ l ∈ ls, (l.length : Int) = ar ∧ ∀ a ∈ l, 0 ≤ a ∧ a ≤ t.1 - 1) ∧ ∀ a ∈ vs, 0 ≤ a ∧ a ≤ t.1 - 1 := by
  unfold wOk at h
  rw [Bool.and_eq_true, List.all_eq_true] at h
  have h1 := tb_iff.1 h.1
  exact ⟨by have := h1.1; omega, fun l hl => tb_iff.1 (h.2 l hl), h1.2⟩
theorem tabL_nil {t : Tpl} {ar : Int} : tabL (t.1, []) ar = tabL t ar := rfl
theorem limF_nil {s : Int} {n : Nat} : limF (s, []) n = false := by simp [limF, manyF, sumL]
theorem tplOk_nil {t : Tpl} (h : tplOk t) : tplOk (t.1, []) := ⟨h.1, by simp, fun r hr => by cases hr⟩
end Go.Proofs.Ytjghcedmlklngaa
namespace Go.Proofs.Ytjghcedmlklngaa
open Go.RowKit Go.Sort
noncomputable def lwV (t : Tpl) (ar : Int) (ls : List (List Int)) (vs : List Int) : Int × List Int := match wF t ar ls vs, limF t ar.toNat with
  | none, _ => (0, [])
  | some _, true => (0, [])
  | some f, false => foV ar (polyF t ar f fun _ => -1)
noncomputable def lwC (t : Tpl) (ar : Int) (ls : List (List Int)) (vs : List Int) : Int := match wF t ar ls vs, limF t ar.toNat with
  | none, _ => 4
  | some _, true => 3
  | some f, false => foC (polyF t ar f fun _ => -1)
section
variable {t : Tpl} {ar : Int} {ls : List (List Int)} {vs f : List Int}
theorem lw_none (h : wF t ar ls vs = none) : lwV t ar ls vs = (0, []) ∧ lwC t ar ls vs = 4 := by simp [lwV, lwC, h]
theorem lw_lim (h : wF t ar ls vs = some f) (h1 : limF t ar.toNat = true) : lwV t ar ls vs = (0, []) ∧ lwC t ar ls vs = 3 := by simp [lwV, lwC, h, h1]
theorem lw_fo (h : wF t ar ls vs = some f) (h1 : limF t ar.toNat = false) : lwV t ar ls vs = foV ar (polyF t ar f fun _ => -1) ∧ lwC t ar ls vs = foC (polyF t ar f fun _ => -1) := by simp [lwV, lwC, h, h1]
theorem lw_ph (h1 : limF t ar.toNat = false) : lwV t ar ls vs = phV t ar ls vs ∧ lwC t ar ls vs = phC t ar ls vs := by
  unfold phV phC
  cases h : wF t ar ls vs with
  | none => exact lw_none h
  | some f => exact lw_fo h h1
theorem pw_lw (h : askC t ar = 0) (h1 : wOk t ar ls vs = true) : pwV t ar ls vs = lwV t ar ls vs ∧ pwC t ar ls vs = lwC t ar ls vs := by
  cases h3 : limF t ar.toNat
  · rw [(lw_ph h3).1, (lw_ph h3).2]
    exact pw_ph h h1 h3
  · cases h2 : wF t ar ls vs with
    | none => rw [(lw_none h2).1, (lw_none h2).2]; exact pw_st h h1 h2
    | some f => rw [(lw_lim h2 h3).1, (lw_lim h2 h3).2]; exact pw_lim h h1 h2 h3
end
theorem telK_len {s : Int} {ls : List (List Int)} {vs f g : List Int} : ∀ {k : Nat}, telK s ls vs f k = some g → g.length = f.length := by
  intro k
  induction k generalizing g with
  | zero => intro h; cases h; rfl
  | succ k ih =>
    intro h
    cases h0 : telK s ls vs f k with
    | none => rw [telK_none h0 (Nat.le_succ k)] at h; cases h
    | some q =>
      have h' : tellAt s (ls.getD k []) (vs.getD k 0) q = some g := by
        have h9 : (telK s ls vs f k).bind (tellAt s (ls.getD k []) (vs.getD k 0)) = some g := h
        rw [h0] at h9
        exact h9
      unfold tellAt at h'
      split at h'
      · cases h'
      · cases h'; rw [List.length_set]; exact ih h0
theorem fo_0 {ar : Int} {R : FR} (h : R.1 = 0) : foV ar R = (0, []) ∧ foC R = 6 := by simp [foV, foC, h]
theorem fo_7 {ar : Int} {R : FR} (h : R.1 = 7) : foV ar R = (0, []) ∧ foC R = 7 := by simp [foV, foC, h]
theorem fo_m {ar : Int} {R : FR} {st : Nat} {x : List Int} (h : R = (-1, st, [x])) : foV ar R = (ar, x) ∧ foC R = 0 := by simp [foV, foC, h]
end Go.Proofs.Ytjghcedmlklngaa
namespace Go.Proofs.Ytjghcedmlklngaa
open Go.RowKit Go.Sort
/-- the first k lists and values may be told -/
def wUp (t : Tpl) (ar : Int) (ls : List (List Int)) (vs : List Int) (k : Nat) : Prop := ∀ j (h : j < ls.length) (h' : j < vs.length), j < k → tb (rowOk t.1 ar ls[j]) = true ∧ inB vs[j] 0 (t.1 - 1) = true
section
variable {t : Tpl} {ar : Int} {ls : List (List Int)} {vs : List Int}
theorem wUp_succ {k : Nat} (h : wUp t ar ls vs k) (hk : k < ls.length) (hv : k < vs.length) (h1 : tb (rowOk t.1 ar ls[k]) = true) (h2 : inB vs[k] 0 (t.1 - 1) = true) : wUp t ar ls vs (k + 1) := fun j hj hj' hl => by
  rcases Nat.lt_succ_iff_lt_or_eq.1 hl with hl | rfl
  · exact h j hj hj' hl
  · exact ⟨h1, h2⟩
theorem wOk_len (h : ls.length ≠ vs.length) : wOk t ar ls vs = false := wOk_no1 (tb_false fun h1 => h (by have := h1.1; omega))
theorem wOk_true (hl : ls.length = vs.length) (h : wUp t ar ls vs ls.length) : wOk t ar ls vs = true := by
  unfold wOk
  rw [Bool.and_eq_true, List.all_eq_true]
  refine ⟨tb_iff.2 ⟨by omega, fun a ha => ?_⟩, fun l hl2 => ?_⟩
  · obtain ⟨j, hj, rfl⟩ := List.getElem_of_mem ha
    exact inB_true.1 (h j (by omega) hj (by omega)).2
  · obtain ⟨j, hj, rfl⟩ := List.getElem_of_mem hl2
    exact (h j hj (by omega) hj).1
theorem wOk_no (_hl : ls.length = vs.length) {k : Nat} (hk : k < ls.length) (hv : k < vs.length) (h : tb (rowOk t.1 ar ls[k]) = false ∨ inB vs[k] 0 (t.1 - 1) = false) : wOk t ar ls vs = false := by
  cases hw : wOk t ar ls vs
  · rfl
  · obtain ⟨-, h2, h3⟩ := wOk_in hw
    rcases h with h | h
    · have h9 : tb (rowOk t.1 ar ls[k]) = true := tb_iff.2 (h2 _ (List.getElem_mem hk))
      rw [h9] at h; cases h
    · rw [inB_true.2 (h3 _ (List.getElem_mem hv))] at h; cases h
end
end Go.Proofs.Ytjghcedmlklngaa
namespace Go.Proofs.Ytjghcedmlklngaa
open Go.RowKit Go.Sort
theorem getLastD_or {α : Type} (l : List α) (d : α) : l.getLastD d = d ∨ l.getLastD d ∈ l := by
  rcases List.eq_nil_or_concat l with rfl | ⟨l', a, rfl⟩
  · exact .inl rfl
  · right; rw [List.concat_eq_append, List.getLastD_concat]; simp
theorem fo_len {t : Tpl} {ar : Int} {f : List Int} : (foV ar (polyF t ar f fun _ => -1)).2.length ≤ tabL t ar := by
  unfold foV
  split
  · rcases getLastD_or (polyF t ar f fun _ => -1).2.2 [] with h | h
    · show ((polyF t ar f fun _ => -1).2.2.getLastD []).length ≤ _
      rw [h]; exact Nat.zero_le _
    · show ((polyF t ar f fun _ => -1).2.2.getLastD []).length ≤ _
      rcases srch_lens _ _ _ h with h2 | h2
      · cases h2
      · rw [h2]; simp
  · exact Nat.zero_le _
theorem pw_len {t : Tpl} {ar : Int} {ls : List (List Int)} {vs : List Int} : (pwV t ar ls vs).2.length ≤ 64 := by
  by_cases h1 : askC t ar = 0
  · cases h0 : wOk t ar ls vs
    · rw [(pw_bad h1 h0).1]; exact Nat.zero_le _
    · rw [(pw_lw h1 h0).1]
      cases hw : wF t ar ls vs with
      | none => rw [(lw_none hw).1]; exact Nat.zero_le _
      | some f =>
        cases h2 : limF t ar.toNat
        · rw [(lw_fo hw h2).1]
          obtain ⟨hT, har⟩ := ask_ok h1
          have hNb := tabN_bd (tabN_of hT.1 (ar := ar.toNat) (by omega) (tabL_of hT))
          exact Nat.le_trans fo_len hNb.2
        · rw [(lw_lim hw h2).1]; exact Nat.zero_le _
  · rw [(pw_ask h1).1]; exact Nat.zero_le _
theorem pw_cnt {t : Tpl} {ar : Int} {ls : List (List Int)} {vs : List Int} : cntOp (pwV t ar ls vs) ≤ 1000000 := by
  have := pw_len (t := t) (ar := ar) (ls := ls) (vs := vs)
  unfold cntOp cntI
  omega
end Go.Proofs.Ytjghcedmlklngaa
namespace Go.Proofs.Ytjghcedmlklngaa
open Go.RowKit Go.Sort
/-- the tuples for which it is so, of the first k ones -/
def relL (s : Int) (ar : Nat) (p : List Int → Bool) (k : Nat) : List (List Int) := ((List.range k).map fun i : Nat => digL s i ar).filter p
theorem relL_zero {s : Int} {ar : Nat} {p : List Int → Bool} : relL s ar p 0 = [] := by simp [relL]
theorem relL_yes {s : Int} {ar : Nat} {p : List Int → Bool} {k : Nat} (h : p (digL s k ar) = true) : relL s ar p k ++ [digL s k ar] = relL s ar p (k + 1) := by simp [relL, List.range_succ, h]
theorem relL_no {s : Int} {ar : Nat} {p : List Int → Bool} {k : Nat} (h : p (digL s k ar) = false) : relL s ar p k = relL s ar p (k + 1) := by simp [relL, List.range_succ, h]
theorem relL_len {s : Int} {ar : Nat} {p : List Int → Bool} {k : Nat} : (relL s ar p k).length ≤ k := by
  unfold relL
  exact Nat.le_trans (List.length_filter_le _ _) (by simp)
end Go.Proofs.Ytjghcedmlklngaa
namespace Go.Proofs.Ytjghcedmlklngaa
open Go.RowKit Go.Sort
/-- the lists of the values of tuples at all places -/
def colsL (u : List (List Int)) (m : Nat) : List (List Int) := (List.range m).map fun p => colL u p
theorem colsL_succ {u : List (List Int)} {m : Nat} : colsL u m ++ [colL u m] = colsL u (m + 1) := by simp [colsL, List.range_succ]
theorem colsL_len {u : List (List Int)} {m : Nat} : (colsL u m).length = m := by simp [colsL]
theorem colL_step {u : List (List Int)} {p k : Nat} (h : k < u.length) (hp : p < (u[k]).length) : (colL u p).take k ++ [(u[k])[p]] = (colL u p).take (k + 1) := by
  have hk : k < (colL u p).length := by rw [colL_len]; exact h
  rw [List.take_succ_eq_append_getElem hk, colL_get h hp hk]
theorem cols_in {u : List (List Int)} {s : Int} {m : Nat} (hm : ∀ l ∈ u, l.length = m) (hin : ∀ l ∈ u, ∀ a ∈ l, 0 ≤ a ∧ a ≤ s - 1) : ∀ l ∈ colsL u m, (l.length : Int) = u.length ∧ ∀ a ∈ l, 0 ≤ a ∧ a ≤ s - 1 := fun l hl => by
  obtain ⟨p, hp, rfl⟩ := List.mem_map.1 hl
  have hp' : p < m := by simpa using hp
  refine ⟨by rw [colL_len], fun a ha => ?_⟩
  obtain ⟨x, hx, rfl⟩ := List.mem_map.1 ha
  have hxl : p < x.length := by rw [hm x hx]; exact hp'
  rw [List.getD_eq_getElem?_getD, List.getElem?_eq_getElem hxl]
  exact hin x hx _ (List.getElem_mem hxl)
theorem fr_rdP {α : Type} {E : Ty α} {base : Nat} {w : World} {cs : List Value} {x : α} (h : E.Fr base w cs x) : E.RdP (fun k => base ≤ k) w cs x := let ⟨fp, h1, _, h3, _⟩ := h; ⟨fp, h1, h3⟩
set_option maxHeartbeats 1600000 in
set_option maxRecDepth 100000 in
theorem columns_any (w : World) {v : Value} {u : List (List Int)} (h : rowsT.Rd w [v] u) {m : Nat} (h0 : 0 < u.length) (hL : u.length ≤ 1000) (hm : ∀ t ∈ u, t.length = m) (hm1 : m ≤ 1000) :
    Calls Try.prog 40 #[v] w (RetS rowsT w (colsL u m)) := by
  obtain ⟨la, lc, hv, -, -, hcell⟩ := slices_ex h
  obtain rfl : v = _ := by simpa using hv
  obtain ⟨b, o, rfl, hb, hce⟩ := hcell h0
  obtain ⟨u0, hu0, hc0⟩ := hce 0 h0
  obtain ⟨a0, k0, rfl⟩ := rd_slice hu0
  have hm0 : (u[0]).length = m := hm _ (List.getElem_mem h0)
  rw [hm0, Nat.add_zero] at hc0
  have HM := Lib.hid hm
  have HC := Lib.hid hce
  have e0 : ∀ x, (w.alloc x).cell? ⟨b, o, none⟩ = some (.slice a0 m k0) := fun x => (cellB bA hb).trans hc0
  clear h hv hcell hce hu0 hm0 hm
  go_enter Try.func40, Try.ntmps40
  go_wp2_with fail
  clear e0
  go_loopw [13, 3] (fun i o wr => ∃ p : Nat, p ≤ m ∧ i = .int .i64 p ∧ Bl intsT 56 w.heap.size wr.heap.size wr o (colsL u p) ∧ Below w.heap.size w wr) (fun i _ _ => m - (intOf i).toNat)
  case atStart => exact ⟨0, Nat.zero_le _, rfl, by simpa [colsL] using Bl.lit0 (E := intsT) (e := 56) (w := w) (Nat.le_refl _), bA⟩
  case round =>
    obtain ⟨p, hp, rfl, hBl, hbel⟩ := hrel
    have HB := Lib.hid hBl
    obtain ⟨wv, rfl⟩ : ∃ wv : World, wv = wr := ⟨_, rfl⟩
    have hze := hbel.size
    clear hBl
    by_cases hpl : p < m
    · go_wp2_with fail
      go_loopw [19, 5] (fun i c wr => ∃ k : Nat, k ≤ u.length ∧ i = .int .i64 k ∧ Bl Ty.int 2 wv.heap.size wr.heap.size wr c ((colL u p).take k) ∧ Below wv.heap.size wv wr) (fun i _ _ => u.length - (intOf i).toNat)
      case atStart => exact ⟨0, Nat.zero_le _, rfl, by simpa using Bl.lit0 (E := Ty.int) (e := 2) (w := wv) (Nat.le_refl _), bA⟩
      case round =>
        obtain ⟨k, hk, rfl, hBc, hbi⟩ := hrel
        have HBC := Lib.hid hBc
        have hzi := hbi.size
        have hBi := bthen hbel hbi
        clear hBc
        by_cases hkl : k < u.length
        · obtain ⟨uk, huk, hck⟩ := HC.out k hkl
          obtain ⟨ak, ck, hv2, -, -, hcl⟩ := ints_ex huk
          obtain rfl : uk = _ := by simpa using hv2
          have hmk : (u[k]).length = m := HM.out _ (List.getElem_mem hkl)
          obtain ⟨bk, ok, rfl, hbk, hcl⟩ := hcl (by omega)
          obtain ⟨hI, hcp⟩ := hcl p (by omega)
          have d0 := (cellB hBi hb).trans hck
          have d1 := (cellB hBi hbk).trans hcp
          have HST := Lib.hid (colL_step hkl (show p < (u[k]).length by omega))
          generalize hz : (u[k])[p] = z at *
          have hlk : ((colL u p).take k).length ≤ 1000 := by rw [List.length_take, colL_len]; omega
          rw [hmk] at d0
          clear hck hcp hcl huk hv2 hmk hz
          go_wp2_with (refine wpList_push (E := Ty.int) _ rfl _ _ 56 2 rfl elInt rfl (HBC.out.below bA (Nat.le_refl _)) rfl news1 (fr_int hI) (by omega) (by decide) hbi.size (by simp) ?_; intro v1 w1 hB1 hg1 _)
          have hb1 : Below wv.heap.size wv w1 := (hbi.alloc hbi.size _).grown hg1 (by have := hbi.size; simp; omega) (fun k hk => HBC.out.own hk)
          rw [HST.out] at hB1
          have HB1 := Lib.hid hB1
          clear hB1 hg1 d0 d1
          go_wp2_with fail
          go_roundw
          case rel => exact ⟨k + 1, by omega, by go_num, HB1.out, hb1⟩
          case measure => simp [intOf]; omega
        · obtain rfl : k = u.length := by omega
          have hfl : (colL u p).take u.length = colL u p := List.take_of_length_le (by rw [colL_len]; exact Nat.le_refl _)
          have HF := Lib.hid (hfl ▸ HBC.out.fr (by rw [List.length_take, colL_len]; unfold capMax; omega))
          obtain ⟨ac, nc, cc, rfl⟩ := ex_slice HF.out
          have hcl : (colsL u p).length ≤ 1000 := by rw [colsL_len]; omega
          clear hfl HBC
          go_wp2_with (refine wpList_push (E := intsT) _ rfl _ _ 25 56 rfl elInt64SS rfl (HB.out.below (hbi.alloc hbi.size _) (Nat.le_refl _)) rfl news1 (HF.out.below bA) (by omega) (by decide) hbel.size (by first | (simp; done) | (simp; omega)) ?_; intro v1 w1 hB1 hg1 _)
          have hb1 : Below w.heap.size w w1 := (hBi.alloc (by omega) _).grown hg1 (by simp; omega) (fun q hq => HB.out.own hq)
          rw [colsL_succ] at hB1
          have HB1 := Lib.hid hB1
          clear hB1 hg1
          go_wp2_with fail
          go_roundw
          case rel => exact ⟨p + 1, by omega, by go_num, HB1.out, hb1⟩
          case measure => simp [intOf]; omega
    · obtain rfl : p = m := by omega
      go_wp2_with fail
      go_ret
      exact ⟨_, rfl, HB.out.fr (by rw [colsL_len]; unfold capMax; omega), hbel⟩
set_option maxHeartbeats 1600000 in
set_option maxRecDepth 100000 in
theorem l04Lists_any (w : World) {v : Value} {u : List (List Int)} (h : rowsT.Rd w [v] u) {m : Nat} (h0 : 0 < u.length) (hL : u.length ≤ 1000) (hm : ∀ t ∈ u, t.length = m) (hm1 : m ≤ 1000) :
    Calls Try.prog 34 #[v] w (RetS rowsT w (colsL u m)) := by
  obtain ⟨la, lc, hv, -, -, hcell⟩ := slices_ex h
  obtain rfl : v = _ := by simpa using hv
  obtain ⟨b, o, rfl, hb, hce⟩ := hcell h0
  obtain ⟨u0, hu0, hc0⟩ := hce 0 h0
  obtain ⟨a0, k0, rfl⟩ := rd_slice hu0
  have hm0 : (u[0]).length = m := hm _ (List.getElem_mem h0)
  rw [hm0, Nat.add_zero] at hc0
  have HM := Lib.hid hm
  have HC := Lib.hid hce
  clear h hv hcell hce hu0 hm0 hm
  go_enter Try.func34, Try.ntmps34
  go_wp2_with fail
  go_loopw [4, 3] (fun i o wr => ∃ p : Nat, p ≤ m ∧ i = .int .i64 p ∧ Bl intsT 56 w.heap.size wr.heap.size wr o (colsL u p) ∧ Below w.heap.size w wr) (fun i _ _ => m - (intOf i).toNat)
  case atStart => exact ⟨0, Nat.zero_le _, rfl, by simpa [colsL] using Bl.lit0 (E := intsT) (e := 56) (w := w) (Nat.le_refl _), bA⟩
  case round =>
    obtain ⟨p, hp, rfl, hBl, hbel⟩ := hrel
    have HB := Lib.hid hBl
    obtain ⟨wv, rfl⟩ : ∃ wv : World, wv = wr := ⟨_, rfl⟩
    have hze := hbel.size
    have e0 := (cellB hbel hb).trans hc0
    clear hBl
    by_cases hpl : p < m
    · go_wp2_with fail
      clear e0
      go_loopw [6, 5] (fun i c wr => ∃ k : Nat, k ≤ u.length ∧ i = .int .i64 k ∧ Bl Ty.int 2 wv.heap.size wr.heap.size wr c ((colL u p).take k) ∧ Below wv.heap.size wv wr) (fun i _ _ => u.length - (intOf i).toNat)
      case atStart => exact ⟨0, Nat.zero_le _, rfl, by simpa using Bl.lit0 (E := Ty.int) (e := 2) (w := wv) (Nat.le_refl _), bA⟩
      case round =>
        obtain ⟨k, hk, rfl, hBc, hbi⟩ := hrel
        have HBC := Lib.hid hBc
        have hzi := hbi.size
        have hBi := bthen hbel hbi
        clear hBc
        by_cases hkl : k < u.length
        · obtain ⟨uk, huk, hck⟩ := HC.out k hkl
          obtain ⟨ak, ck, hv2, -, -, hcl⟩ := ints_ex huk
          obtain rfl : uk = _ := by simpa using hv2
          have hmk : (u[k]).length = m := HM.out _ (List.getElem_mem hkl)
          obtain ⟨bk, ok, rfl, hbk, hcl⟩ := hcl (by omega)
          obtain ⟨hI, hcp⟩ := hcl p (by omega)
          have d0 := (cellB hBi hb).trans hck
          have d1 := (cellB hBi hbk).trans hcp
          have HST := Lib.hid (colL_step hkl (show p < (u[k]).length by omega))
          generalize hz : (u[k])[p] = z at *
          have hlk : ((colL u p).take k).length ≤ 1000 := by rw [List.length_take, colL_len]; omega
          rw [hmk] at d0
          clear hck hcp hcl huk hv2 hmk hz
          go_wp2_with (refine wpList_push (E := Ty.int) _ rfl _ _ 56 2 rfl elInt rfl (HBC.out.below bA (Nat.le_refl _)) rfl news1 (fr_int hI) (by omega) (by decide) hbi.size (by simp) ?_; intro v1 w1 hB1 hg1 _)
          have hb1 : Below wv.heap.size wv w1 := (hbi.alloc hbi.size _).grown hg1 (by have := hbi.size; simp; omega) (fun k hk => HBC.out.own hk)
          rw [HST.out] at hB1
          have HB1 := Lib.hid hB1
          clear hB1 hg1 d0 d1
          go_wp2_with fail
          go_roundw
          case rel => exact ⟨k + 1, by omega, by go_num, HB1.out, hb1⟩
          case measure => simp [intOf]; omega
        · obtain rfl : k = u.length := by omega
          have hfl : (colL u p).take u.length = colL u p := List.take_of_length_le (by rw [colL_len]; exact Nat.le_refl _)
          have HF := Lib.hid (hfl ▸ HBC.out.fr (by rw [List.length_take, colL_len]; unfold capMax; omega))
          obtain ⟨ac, nc, cc, rfl⟩ := ex_slice HF.out
          have hcl : (colsL u p).length ≤ 1000 := by rw [colsL_len]; omega
          clear hfl HBC
          go_wp2_with (refine wpList_push (E := intsT) _ rfl _ _ 25 56 rfl elInt64SS rfl (HB.out.below (hbi.alloc hbi.size _) (Nat.le_refl _)) rfl news1 (HF.out.below bA) (by omega) (by decide) hbel.size (by first | (simp; done) | (simp; omega)) ?_; intro v1 w1 hB1 hg1 _)
          have hb1 : Below w.heap.size w w1 := (hBi.alloc (by omega) _).grown hg1 (by simp; omega) (fun q hq => HB.out.own hq)
          rw [colsL_succ] at hB1
          have HB1 := Lib.hid hB1
          clear hB1 hg1
          go_wp2_with fail
          go_roundw
          case rel => exact ⟨p + 1, by omega, by go_num, HB1.out, hb1⟩
          case measure => simp [intOf]; omega
    · obtain rfl : p = m := by omega
      go_wp2_with fail
      go_ret
      exact ⟨_, rfl, HB.out.fr (by rw [colsL_len]; unfold capMax; omega), hbel⟩
end Go.Proofs.Ytjghcedmlklngaa
namespace Go.Proofs.Ytjghcedmlklngaa
open Go.RowKit Go.Sort
/-- how long the first tuple is -/
def huM (u : List (List Int)) : Nat := (u.headD []).length
noncomputable def huC (t : Tpl) (u : List (List Int)) : Int := match tb (tplOk t), inB (u.length : Int) 1 3, inB (huM u : Int) 1 4, u.all fun l => tb (rowOk t.1 (huM u) l) with
  | false, _, _, _ => 1
  | true, true, true, true => 0
  | _, _, _, _ => 2
section
variable {t : Tpl} {u : List (List Int)}
theorem huM_at (h : 0 < u.length) : huM u = (u[0]).length := by
  cases u with
  | nil => simp at h
  | cons a r => rfl
theorem hu_1 (h : tb (tplOk t) = false) : huC t u = 1 := by simp [huC, h]
theorem hu_2 (h : tb (tplOk t) = true) (h1 : inB (u.length : Int) 1 3 = false) : huC t u = 2 := by simp [huC, h, h1]
theorem hu_3 (h : tb (tplOk t) = true) (h1 : inB (huM u : Int) 1 4 = false) : huC t u = 2 := by simp [huC, h, h1]
theorem hu_4 (h : tb (tplOk t) = true) (h1 : (u.all fun l => tb (rowOk t.1 (huM u) l)) = false) : huC t u = 2 := by
  unfold huC
  rw [h, h1]
  cases inB (u.length : Int) 1 3 <;> cases inB (huM u : Int) 1 4 <;> rfl
theorem hu_0 (h : tb (tplOk t) = true) (h1 : inB (u.length : Int) 1 3 = true) (h2 : inB (huM u : Int) 1 4 = true) (h3 : (u.all fun l => tb (rowOk t.1 (huM u) l)) = true) : huC t u = 0 := by simp only [huC, h, h1, h2, h3]
theorem hu_ok (h : huC t u = 0) : tplOk t ∧ (1 ≤ u.length ∧ u.length ≤ 3) ∧ (1 ≤ huM u ∧ huM u ≤ 4) ∧ (∀ l ∈ u, l.length = huM u) ∧ ∀ l ∈ u, ∀ a ∈ l, 0 ≤ a ∧ a ≤ t.1 - 1 := by
  cases h1 : tb (tplOk t)
  · rw [hu_1 h1] at h; cases h
  cases h2 : inB (u.length : Int) 1 3
  · rw [hu_2 h1 h2] at h; cases h
  cases h3 : inB (huM u : Int) 1 4
  · rw [hu_3 h1 h3] at h; cases h
  cases h4 : u.all fun l => tb (rowOk t.1 (huM u) l)
  · rw [hu_4 h1 h4] at h; cases h
  have e2 := inB_true.1 h2
  have e3 := inB_true.1 h3
  rw [List.all_eq_true] at h4
  refine ⟨tb_iff.1 h1, by omega, by omega, fun l hl => ?_, fun l hl => (tb_iff.1 (h4 l hl)).2⟩
  have := (tb_iff.1 (h4 l hl)).1
  omega
theorem all_any {α : Type} {p : α → Bool} {xs : List α} : anyB (fun x => !p x) xs = !xs.all p := by
  unfold anyB
  rw [← Bool.not_not (b := xs.any _), List.not_any_eq_all_not]
  simp
end
set_option maxHeartbeats 800000 in
theorem hullFault1_any (w : World) {bt bu b o n k0 : Nat} {a0 : Option Addr} {c : Nat} {m : Nat} {s : Int} {u : Value} {x : List Int} (h : intsT.Rd w [u] x) (hs : 0 ≤ s ∧ s ≤ 1000) (hn : 0 < n) (t0 : w.cell? ⟨bt, 0, none⟩ = some (.int .i64 s)) (u0 : w.cell? ⟨bu, 0, none⟩ = some (.slice (some ⟨b, o, none⟩) n c)) (c0 : w.cell? ⟨b, o, none⟩ = some (.slice a0 m k0)) :
    Calls Try.prog 96 #[u, .pointer (some ⟨bt, 0, none⟩), .pointer (some ⟨bu, 0, none⟩)] w fun e w' => e = .returned (.bool (!(tb (rowOk s m x)))) ∧ Below w.heap.size w w' := by
  have HX := Lib.hid h
  obtain ⟨ad, cap, rfl⟩ := rd_slice h
  clear h
  go_enter Try.func96, Try.ntmps96
  go_wp2_with fail
  have k0 := cell_regrown t0
  have k1 := cell_regrown u0
  have k2 := cell_regrown c0
  have cV : ∀ d os, Calls Try.prog 97 #[.int .i64 s, .slice ad x.length cap, .int .i64 (m : Int)] (grow (redrawn w d) os) fun e w'' => e = .returned (.bool (tb (rowOk s m x))) ∧ ∃ p : Regrown, w'' = grow (redrawn w p.d) p.os := fun d os =>
    Calls.regrown_of (areValues_any _ (HX.out.below (below_regrown _ d os)) _ _ hs.1 (by omega))
  refine wp_region_quiet_below (by kernel_rfl) (by kernel_rfl) ?_
  repeat (go_big_quiet_step (exact cV _ _))
  refine wpQuiet_nil ?_
  rintro w2 ⟨p, rfl⟩
  have hb2 := below_regrown w p.d p.os
  go_wp2_with fail
  go_ret
  exact ⟨rfl, hb2⟩
set_option maxHeartbeats 1600000 in
set_option maxRecDepth 100000 in
theorem hullFault_any (w : World) {cs : Array Value} {t : Tpl} {v : Value} {u : List (List Int)} (h : tplT.Rd w cs.toList t) (hu : rowsT.Rd w [v] u) :
    Calls Try.prog 39 #[.agg cs, v] w fun e w' => e = .returned (.int .i64 (huC t u)) ∧ Below w.heap.size w w' := by
  have HT := Lib.hid h
  have HU := Lib.hid hu
  obtain ⟨v1, hv1, -, -⟩ := pair_ex h
  obtain rfl := agg_of hv1
  obtain ⟨la, lc, hv, -, -, hcell⟩ := slices_ex hu
  obtain rfl : v = _ := by simpa using hv
  have HC := Lib.hid hcell
  clear h hv1 hu hv hcell
  go_enter Try.func39, Try.ntmps39
  go_wp2_with fail
  generalize hW : World.alloc (World.alloc w _) _ = W
  have hbW : Below w.heap.size w W := hW ▸ bAA
  have hsW : w.heap.size + 2 ≤ W.heap.size := by rw [← hW]; simp
  have t0 : W.cell? ⟨w.heap.size, 0, none⟩ = some (.int .i64 t.1) := by rw [← hW]; simp [go_sem]
  have t1 : W.cell? ⟨w.heap.size, 1, none⟩ = some v1 := by rw [← hW]; simp [go_sem]
  have u0 : W.cell? ⟨w.heap.size + 1, 0, none⟩ = some (.slice la u.length lc) := by rw [← hW]; simp [go_sem]
  clear hW
  refine (ValidTemplate_any _ (HT.out.below hbW)).mono ?_
  rintro e w1 ⟨rfl, hb1⟩
  have hB1 := bthen hbW hb1
  have hz1 := hb1.size
  replace t0 := (cellB hb1 (by omega)).trans t0
  replace t1 := (cellB hb1 (by omega)).trans t1
  replace u0 := (cellB hb1 (by omega)).trans u0
  cases h1 : tb (tplOk t)
  · have HA := Lib.hid (hu_1 (u := u) h1)
    clear h1
    go_wp2_with fail
    go_ret
    exact ⟨ret_int HA.out.symm, hB1⟩
  have hs4 := (tb_iff.1 h1).1
  unfold sizeOk at hs4
  have H1 := Lib.hid h1
  clear h1
  go_wp2_with fail
  refine (isOpArity_any (u.length : Int) _).mono ?_
  rintro e _ ⟨rfl, rfl⟩
  cases h2 : inB (u.length : Int) 1 3
  · have HA := Lib.hid (hu_2 H1.out h2)
    clear h2
    go_wp2_with fail
    go_ret
    exact ⟨ret_int HA.out.symm, hB1⟩
  have h23 := inB_true.1 h2
  have h0 : 0 < u.length := by omega
  obtain ⟨b, o, rfl, hb, hce⟩ := HC.out h0
  obtain ⟨ux, hux, hc0⟩ := hce 0 h0
  obtain ⟨a0, k0, rfl⟩ := rd_slice hux
  rw [← huM_at h0, Nat.add_zero] at hc0
  have c0 := (cellB hB1 hb).trans hc0
  have H2 := Lib.hid h2
  clear h2 hce hux hc0 HC
  go_wp2_with fail
  refine (isArity_any (huM u : Int) _).mono ?_
  rintro e _ ⟨rfl, rfl⟩
  cases h3 : inB (huM u : Int) 1 4
  · have HA := Lib.hid (hu_3 H1.out h3)
    clear h3
    go_wp2_with fail
    go_ret
    exact ⟨ret_int HA.out.symm, hB1⟩
  have H3 := Lib.hid h3
  clear h3
  have HPF : Hid (∀ W', Below w1.heap.size w1 W' → ∀ k (h : k < u.length) (x : Value), intsT.Rd W' [x] u[k] → Calls Try.prog 96 (#[x] ++ #[.pointer (some ⟨w.heap.size, 0, none⟩), .pointer (some ⟨w.heap.size + 1, 0, none⟩)]) W' fun e W'' => e = .returned (.bool ((fun l => !(tb (rowOk t.1 (huM u) l))) u[k])) ∧ Below W'.heap.size W' W'') := by
    intro W' hW' k hk x hx
    have hz := hW'.size
    exact hullFault1_any W' hx (by omega) h0 ((cellB hW' (by omega)).trans t0) ((cellB hW' (by omega)).trans u0) ((cellB hW' (by omega)).trans c0)
  go_wp2_with fail
  refine (ContainsFuncInts_any _ (HU.out.below hB1) (fun l => !(tb (rowOk t.1 (huM u) l))) 96 _ (enters Try.func96 (by kernel_rfl) rfl) HPF.out).mono ?_
  rintro e w3 ⟨rfl, hb3⟩
  have hB3 := bthen hB1 hb3
  rw [all_any]
  cases h4 : u.all fun l => tb (rowOk t.1 (huM u) l)
  · have HA := Lib.hid (hu_4 H1.out h4)
    clear h4
    go_wp2_with fail
    go_ret
    exact ⟨ret_int HA.out.symm, hB3⟩
  · have HA := Lib.hid (hu_0 H1.out H2.out H3.out h4)
    clear h4
    go_wp2_with fail
    go_ret
    exact ⟨ret_int HA.out.symm, hB3⟩
set_option maxHeartbeats 1600000 in
set_option maxRecDepth 100000 in
theorem l04Tuples_any (w : World) {vt v : Value} {t : Tpl} {u : List (List Int)} (h : tplT.Pt w vt t) (hu : rowsT.Rd w [v] u) :
    Calls Try.prog 32 #[vt, v] w fun e w' => e = .returned (.int .i64 (huC t u)) ∧ Quiet w w' := by
  have HT := Lib.hid h
  have HU := Lib.hid hu
  obtain ⟨tq, tf, ra, rc, rfl, htq, -, p0, p1, -⟩ := pt_pair h
  obtain ⟨la, lc, hv, -, -, hcell⟩ := slices_ex hu
  obtain rfl : v = _ := by simpa using hv
  have HC := Lib.hid hcell
  clear h hu hv hcell
  go_enter Try.func32, Try.ntmps32
  go_wp2_with fail
  refine (l01Template_quiet _ HT.out).mono ?_
  rintro e w1 ⟨rfl, hq1⟩
  have hB1 := hq1.below
  have hz1 := hB1.size
  cases h1 : tb (tplOk t)
  · have HA := Lib.hid (hu_1 (u := u) h1)
    clear h1
    go_wp2_with fail
    go_ret
    exact ⟨ret_int HA.out.symm, hq1⟩
  have hs4 := (tb_iff.1 h1).1
  unfold sizeOk at hs4
  have H1 := Lib.hid h1
  clear h1
  go_wp2_with fail
  refine (l02Arity_any (u.length : Int) _).mono ?_
  rintro e _ ⟨rfl, rfl⟩
  cases h2 : inB (u.length : Int) 1 3
  · have HA := Lib.hid (hu_2 H1.out h2)
    clear h2
    go_wp2_with fail
    go_ret
    exact ⟨ret_int HA.out.symm, hq1⟩
  have h23 := inB_true.1 h2
  have h0 : 0 < u.length := by omega
  obtain ⟨b, o, rfl, hb, hce⟩ := HC.out h0
  obtain ⟨ux, hux, hc0⟩ := hce 0 h0
  obtain ⟨a0, k0, rfl⟩ := rd_slice hux
  rw [← huM_at h0, Nat.add_zero] at hc0
  have c0 := (cellB hB1 hb).trans hc0
  have H2 := Lib.hid h2
  have HCE := Lib.hid hce
  clear h2 hce hux HC
  go_wp2_with fail
  refine (l01Arity_any (huM u : Int) _).mono ?_
  rintro e _ ⟨rfl, rfl⟩
  cases h3 : inB (huM u : Int) 1 4
  · have HA := Lib.hid (hu_3 H1.out h3)
    clear h3
    go_wp2_with fail
    go_ret
    exact ⟨ret_int HA.out.symm, hq1⟩
  have H3 := Lib.hid h3
  clear h3
  go_wp2_with fail
  clear c0
  go_loopw [5] (fun i wr => ∃ k : Nat, k ≤ u.length ∧ i = .int .i64 k ∧ (∀ l ∈ u.take k, tb (rowOk t.1 (huM u) l) = true) ∧ Quiet w1 wr) (fun i _ => u.length - (intOf i).toNat)
  case atStart => exact ⟨0, Nat.zero_le _, rfl, fun l hl => by simp at hl, (by first | exact Quiet.refl _ | exact Quiet.drewN _ _ | exact (Quiet.drewN _ _).then (Quiet.drewN _ _) | exact ((Quiet.drewN _ _).then (Quiet.drewN _ _)).then (Quiet.drewN _ _))⟩
  case round =>
    obtain ⟨k, hk, rfl, hup, hqw⟩ := hrel
    have hBr := bthen hB1 hqw.below
    have HUP := Lib.hid hup
    have HQW := Lib.hid hqw
    have c0 := (cellB hBr hb).trans hc0
    have d0 := (cellB hBr htq).trans p0
    clear hup hqw
    by_cases hkl : k < u.length
    · obtain ⟨ux, hux, hck⟩ := HCE.out k hkl
      obtain ⟨ak, ck, rfl⟩ := rd_slice hux
      have dk := (cellB hBr hb).trans hck
      have HX := Lib.hid (hux.below hBr)
      have cT : ∀ n, Calls Try.prog 89 #[.int .i64 t.1, .int .i64 (huM u : Int), .slice ak (u[k]).length ck] (wr.drewN n) fun e w'' => e = .returned (.bool (tb (rowOk t.1 (huM u) u[k]))) ∧ ∃ m, w'' = wr.drewN m := fun n => pure_drawn (l01Tuple_any _ _ _ (HX.out.below (Quiet.drewN wr n).below) (by omega) (by omega))
      clear hux hck
      cases h4 : tb (rowOk t.1 (huM u) u[k])
      · have HA : Hid (huC t u = 2) := hu_4 H1.out (List.all_eq_false.2 ⟨_, List.getElem_mem hkl, by rw [h4]; simp⟩)
        rw [h4] at cT
        clear h4
        go_wp2_with fail
        go_quiet (exact cT _)
        clear cT
        go_wp2_with fail
        go_ret
        exact ⟨ret_int HA.out.symm, hq1.then (HQW.out.then (by first | exact Quiet.refl _ | exact Quiet.drewN _ _ | exact (Quiet.drewN _ _).then (Quiet.drewN _ _) | exact ((Quiet.drewN _ _).then (Quiet.drewN _ _)).then (Quiet.drewN _ _)))⟩
      · have HE : Hid (∀ l ∈ u.take (k + 1), tb (rowOk t.1 (huM u) l) = true) := fun l hl => by
          rw [List.take_succ_eq_append_getElem hkl, List.mem_append] at hl
          rcases hl with hl | hl
          · exact HUP.out l hl
          · simp only [List.mem_singleton] at hl; rw [hl]; exact h4
        rw [h4] at cT
        clear h4
        go_wp2_with fail
        go_quiet (exact cT _)
        clear cT
        go_wp2_with fail
        go_roundw
        case rel => exact ⟨k + 1, by omega, by go_num, HE.out, HQW.out.then (by first | exact Quiet.refl _ | exact Quiet.drewN _ _ | exact (Quiet.drewN _ _).then (Quiet.drewN _ _) | exact ((Quiet.drewN _ _).then (Quiet.drewN _ _)).then (Quiet.drewN _ _))⟩
        case measure => simp [intOf]; omega
    · obtain rfl : k = u.length := by omega
      have HA : Hid (huC t u = 0) := hu_0 H1.out H2.out H3.out (List.all_eq_true.2 fun l hl => HUP.out l (by rw [List.take_length]; exact hl))
      go_wp2_with fail
      go_ret
      exact ⟨ret_int HA.out.symm, hq1.then HQW.out⟩
end Go.Proofs.Ytjghcedmlklngaa
namespace Go.Proofs.Ytjghcedmlklngaa
open Go.RowKit Go.Sort
theorem dig_idx {s idx : Int} {n : Nat} (hs : 1 ≤ s) (h0 : 0 ≤ idx) (h : idx < s ^ n) : ∀ k, k ≤ n → idxL s 0 ((digL s idx n).take k) = idx / s ^ (n - k)
  | 0, _ => by
    rw [List.take_zero, Nat.sub_zero, Int.ediv_eq_zero_of_lt h0 h]
    rfl
  | k + 1, hk => by
    have hl : k < (digL s idx n).length := by rw [digL_len]; omega
    rw [idxL_take hl, dig_idx hs h0 h k (by omega)]
    have hg : (digL s idx n)[k] = dig s idx (n - 1 - k) := by simp [digL]
    rw [hg, show n - k = (n - (k + 1)) + 1 by omega, show n - 1 - k = n - (k + 1) by omega, ← quo_succ hs]
    unfold dig
    have h1 := Int.ediv_mul_add_emod (idx / s ^ (n - (k + 1))) s
    exact h1
theorem digL_in {s idx : Int} {n : Nat} (hs : 1 ≤ s) : ∀ a ∈ digL s idx n, 0 ≤ a ∧ a ≤ s - 1 := fun a ha => by
  obtain ⟨i, -, rfl⟩ := List.mem_map.1 ha
  have := dig_nn (idx := idx) hs (n - 1 - i)
  omega
theorem idx_mono {s : Int} (hs : 1 ≤ s) : ∀ {xs ys : List Int} {a b : Int}, xs.length = ys.length → (∀ x ∈ xs, 0 ≤ x ∧ x ≤ s - 1) → (∀ y ∈ ys, 0 ≤ y ∧ y ≤ s - 1) → a < b → idxL s a xs < idxL s b ys
  | [], [], _, _, _, _, _, h => h
  | [], _ :: _, _, _, hl, _, _, _ => by simp at hl
  | _ :: _, [], _, _, hl, _, _, _ => by simp at hl
  | x :: xs, y :: ys, a, b, hl, hx, hy, h => by
    simp only [idxL]
    refine idx_mono hs (by simpa using hl) (fun z hz => hx z (List.mem_cons_of_mem _ hz)) (fun z hz => hy z (List.mem_cons_of_mem _ hz)) ?_
    have h1 := hx x (List.mem_cons_self ..)
    have h2 := hy y (List.mem_cons_self ..)
    have h3 := Int.mul_le_mul_of_nonneg_right (show a + 1 ≤ b by omega) (show (0 : Int) ≤ s by omega)
    rw [Int.add_mul, Int.one_mul] at h3
    omega
theorem lt_of_idx {s : Int} (hs : 1 ≤ s) : ∀ {xs ys : List Int} {a : Int}, xs.length = ys.length → (∀ x ∈ xs, 0 ≤ x ∧ x ≤ s - 1) → (∀ y ∈ ys, 0 ≤ y ∧ y ≤ s - 1) → idxL s a xs < idxL s a ys → ltL xs ys
  | [], [], _, _, _, _, h => absurd h (Int.lt_irrefl _)
  | [], _ :: _, _, hl, _, _, _ => by simp at hl
  | _ :: _, [], _, hl, _, _, _ => by simp at hl
  | x :: xs, y :: ys, a, hl, hx, hy, h => by
    simp only [idxL] at h
    have hx' := fun z hz => hx z (List.mem_cons_of_mem x hz)
    have hy' := fun z hz => hy z (List.mem_cons_of_mem y hz)
    unfold ltL
    rcases Int.lt_trichotomy x y with hc | hc | hc
    · rw [cmpL, if_neg (by omega), cmpI_lt hc]
      decide
    · subst hc
      rw [cmpL, if_pos rfl]
      exact lt_of_idx hs (by simpa using hl) hx' hy' h
    · have := idx_mono hs (a := a * s + y) (b := a * s + x) (show ys.length = xs.length by simpa using hl.symm) hy' hx' (by omega)
      omega
theorem dig_lt {s : Int} {n : Nat} {k j : Int} (hs : 1 ≤ s) (h0 : 0 ≤ k) (h : k < j) (hj : j < s ^ n) : ltL (digL s k n) (digL s j n) := by
  refine lt_of_idx hs (a := 0) (by rw [digL_len, digL_len]) (digL_in hs) (digL_in hs) ?_
  have h1 := dig_idx (n := n) hs h0 (by omega) n (Nat.le_refl _)
  have h2 := dig_idx (n := n) hs (show 0 ≤ j by omega) hj n (Nat.le_refl _)
  rw [Nat.sub_self, Int.pow_zero, Int.ediv_one, List.take_of_length_le (by rw [digL_len]; exact Nat.le_refl _)] at h1 h2
  rw [h1, h2]
  exact h
theorem relL_sorted {s : Int} {n N : Nat} {p : List Int → Bool} (hs : 1 ≤ s) (hN : s ^ n = N) : sortedL (relL s n p N) := by
  have h1 : ((List.range N).map fun i : Nat => digL s i n).Pairwise ltL := by
    rw [List.pairwise_map]
    refine List.Pairwise.imp_of_mem ?_ (List.pairwise_lt_range (n := N))
    intro a b _ hb hab
    have : b < N := by simpa using hb
    exact dig_lt hs (by omega) (by omega) (by omega)
  have h2 := h1.filter p
  intro i hi h0
  exact (List.pairwise_iff_getElem.1 h2) (i - 1) i (by unfold relL at hi; omega) hi (by omega)
theorem dig_inj {s : Int} {n : Nat} {k j : Nat} {N : Nat} (hs : 1 ≤ s) (hN : s ^ n = N) (hk : k < N) (hj : j < N) (h : digL s k n = digL s j n) : k = j := by
  have h1 := dig_idx (n := n) hs (show (0 : Int) ≤ k by omega) (by omega) n (Nat.le_refl _)
  have h2 := dig_idx (n := n) hs (show (0 : Int) ≤ j by omega) (by omega) n (Nat.le_refl _)
  rw [Nat.sub_self, Int.pow_zero, Int.ediv_one] at h1 h2
  rw [h] at h1
  omega
/-- what is in such a relation -/
theorem relL_mem {s : Int} {n N : Nat} {p : List Int → Bool} {k : Nat} (hk : k < N) : tb (digL s k n ∈ relL s n p N) = p (digL s k n) := by
  cases h : p (digL s k n)
  · refine tb_false fun hm => ?_
    have := (List.mem_filter.1 hm).2
    rw [h] at this
    cases this
  · exact tb_true (List.mem_filter.2 ⟨List.mem_map.2 ⟨k, by simpa using hk, rfl⟩, h⟩)
theorem idx_of_lt {s : Int} (hs : 1 ≤ s) : ∀ {xs ys : List Int} {a : Int}, xs.length = ys.length → (∀ x ∈ xs, 0 ≤ x ∧ x ≤ s - 1) → (∀ y ∈ ys, 0 ≤ y ∧ y ≤ s - 1) → ltL xs ys → idxL s a xs < idxL s a ys
  | [], [], _, _, _, _, h => by simp [ltL, cmpL] at h
  | [], _ :: _, _, hl, _, _, _ => by simp at hl
  | _ :: _, [], _, hl, _, _, _ => by simp at hl
  | x :: xs, y :: ys, a, hl, hx, hy, h => by
    simp only [idxL]
    have hx' := fun z hz => hx z (List.mem_cons_of_mem x hz)
    have hy' := fun z hz => hy z (List.mem_cons_of_mem y hz)
    unfold ltL at h
    rcases Int.lt_trichotomy x y with hc | hc | hc
    · exact idx_mono hs (by simpa using hl) hx' hy' (by omega)
    · subst hc
      rw [cmpL, if_pos rfl] at h
      exact idx_of_lt hs (by simpa using hl) hx' hy' h
    · rw [cmpL, if_neg (by omega), cmpI_gt hc] at h
      omega
theorem rel_bd {s : Int} {r : Int × List (List Int)} (h : relOk s r) : r.2.length ≤ 256 ∧ ∀ y ∈ r.2, y.length ≤ 4 := by
  obtain ⟨⟨h1, h2⟩, ⟨h3, h4⟩, h5⟩ := h
  refine ⟨?_, fun y hy => ?_⟩
  · have key : ∀ i (hi : i < r.2.length), (i : Int) ≤ idxL s 0 r.2[i] := by
      intro i
      induction i with
      | zero =>
        intro hi
        obtain ⟨⟨e1, e2⟩, -⟩ := h5 0 hi
        have := idx_bd h1 e2 _ (Nat.le_refl _)
        rw [List.take_length] at this
        omega
      | succ i ih =>
        intro hi
        have h6 := ih (by omega)
        obtain ⟨⟨e1, e2⟩, e3⟩ := h5 (i + 1) hi
        obtain ⟨⟨d1, d2⟩, -⟩ := h5 i (by omega)
        have := idx_of_lt h1 (a := 0) (by omega) d2 e2 (e3 (by omega))
        omega
    rcases Nat.eq_zero_or_pos r.2.length with h0 | h0
    · omega
    · have hi : r.2.length - 1 < r.2.length := by omega
      have h6 := key _ hi
      obtain ⟨⟨e1, e2⟩, -⟩ := h5 _ hi
      have h7 := idx_bd h1 e2 _ (Nat.le_refl _)
      rw [List.take_length] at h7
      have h8 := pow_mono' (s := s) (c := 4) (by omega) (by omega) (r.2[r.2.length - 1]).length
      have h9 : (4 : Int) ^ (r.2[r.2.length - 1]).length ≤ 256 := by
        generalize (r.2[r.2.length - 1]).length = m at e1 ⊢
        rcases (show m = 0 ∨ m = 1 ∨ m = 2 ∨ m = 3 ∨ m = 4 by omega) with e | e | e | e | e <;> rw [e] <;> decide
      omega
  · obtain ⟨i, hi, rfl⟩ := List.mem_iff_getElem.1 hy
    obtain ⟨⟨e1, -⟩, -⟩ := h5 i hi
    omega
end Go.Proofs.Ytjghcedmlklngaa
namespace Go.Proofs.Ytjghcedmlklngaa
open Go.RowKit Go.Sort
abbrev AtomL := Int × List Int
theorem firstI_cons {α : Type} {p : α → Bool} {x : α} {xs : List α} : firstI p (x :: xs) = if p x then 0 else if firstI p xs < 0 then -1 else firstI p xs + 1 := by
  unfold firstI
  rw [List.findIdx?_cons]
  cases p x
  · cases h : xs.findIdx? p with
    | none => rfl
    | some i => simp; omega
  · rfl
/-- the first place whose list is number i, or -1 -/
def varQ (s : Int) (ar : Nat) (cols : List (List Int)) (i : Nat) : Int := firstI (fun l => eqB l (digL s i ar)) cols
/-- the variables of the first k numbers, and the number of variables so far -/
def vrS (s : Int) (ar : Nat) (cols : List (List Int)) : Nat → List Int × Int
  | 0 => ([], cols.length)
  | k + 1 => match decide (varQ s ar cols k < 0) with
    | true => ((vrS s ar cols k).1 ++ [(vrS s ar cols k).2], (vrS s ar cols k).2 + 1)
    | false => ((vrS s ar cols k).1 ++ [varQ s ar cols k], (vrS s ar cols k).2)
section
variable {s : Int} {ar N : Nat} {cols : List (List Int)} {k : Nat}
theorem vrS_new (h : decide (varQ s ar cols k < 0) = true) : vrS s ar cols (k + 1) = ((vrS s ar cols k).1 ++ [(vrS s ar cols k).2], (vrS s ar cols k).2 + 1) := by simp only [vrS, h]
theorem vrS_old (h : decide (varQ s ar cols k < 0) = false) : vrS s ar cols (k + 1) = ((vrS s ar cols k).1 ++ [varQ s ar cols k], (vrS s ar cols k).2) := by simp only [vrS, h]
theorem vrS_len : (vrS s ar cols k).1.length = k := by
  induction k with
  | zero => rfl
  | succ k ih =>
    cases h : decide (varQ s ar cols k < 0)
    · rw [vrS_old h]; simp [ih]
    · rw [vrS_new h]; simp [ih]
theorem vrS_next : (cols.length : Int) ≤ (vrS s ar cols k).2 ∧ (vrS s ar cols k).2 ≤ cols.length + k := by
  induction k with
  | zero => simp [vrS]
  | succ k ih =>
    cases h : decide (varQ s ar cols k < 0)
    · rw [vrS_old h]; simp only; omega
    · rw [vrS_new h]; simp only; omega
theorem varQ_bd : -1 ≤ varQ s ar cols k ∧ varQ s ar cols k < cols.length ∨ cols.length = 0 ∧ varQ s ar cols k = -1 := by
  unfold varQ firstI
  cases h : cols.findIdx? (fun l => eqB l (digL s k ar)) with
  | none =>
    rcases Nat.eq_zero_or_pos cols.length with h0 | h0
    · exact .inr ⟨h0, rfl⟩
    · left; simp; omega
  | some i =>
    rw [List.findIdx?_eq_some_iff_getElem] at h
    have := h.1
    left; simp; omega
theorem vrS_bd : ∀ a ∈ (vrS s ar cols k).1, 0 ≤ a ∧ a < (cols.length : Int) + k := by
  induction k with
  | zero => intro a ha; cases ha
  | succ k ih =>
    intro a ha
    cases h : decide (varQ s ar cols k < 0)
    · rw [vrS_old h] at ha
      rcases List.mem_append.1 ha with ha | ha
      · have := ih a ha; omega
      · simp only [List.mem_singleton] at ha
        have h1 : ¬ (varQ s ar cols k < 0) := by simpa using h
        have := varQ_bd (s := s) (ar := ar) (cols := cols) (k := k)
        rw [ha]; omega
    · rw [vrS_new h] at ha
      rcases List.mem_append.1 ha with ha | ha
      · have := ih a ha; omega
      · simp only [List.mem_singleton] at ha
        have := vrS_next (s := s) (ar := ar) (cols := cols) (k := k)
        rw [ha]; omega
theorem vrS_at {n : Nat} (hk : k < n) (hq : 0 ≤ varQ s ar cols k) : (vrS s ar cols n).1.getD k 0 = varQ s ar cols k := by
  induction n with
  | zero => omega
  | succ n ih =>
    have hstep : ∀ x y, (((vrS s ar cols n).1 ++ [x], y) : List Int × Int).1.getD k 0 = if k < n then (vrS s ar cols n).1.getD k 0 else x := fun x y => by
      simp only [List.getD_eq_getElem?_getD]
      by_cases h : k < n
      · rw [if_pos h, List.getElem?_append_left (by rw [vrS_len]; exact h)]
      · obtain rfl : k = n := by omega
        rw [if_neg h, List.getElem?_append_right (by rw [vrS_len]; exact Nat.le_refl _), vrS_len]
        simp
    cases h : decide (varQ s ar cols n < 0)
    · rw [vrS_old h, hstep]
      by_cases h' : k < n
      · rw [if_pos h']; exact ih h'
      · obtain rfl : k = n := by omega
        rw [if_neg h']
    · rw [vrS_new h, hstep]
      by_cases h' : k < n
      · rw [if_pos h']; exact ih h'
      · obtain rfl : k = n := by omega
        have : varQ s ar cols k < 0 := by simpa using h
        omega
/-- a list is number i just if i is its index -/
theorem col_num (hs : 1 ≤ s) (hN : s ^ ar = N) {l : List Int} (hl : l.length = ar) (hin : ∀ a ∈ l, 0 ≤ a ∧ a ≤ s - 1) {i : Nat} (hi : i < N) : eqB l (digL s i ar) = decide (idxL s 0 l = i) := by
  have h1 := dig_idx (n := ar) hs (show (0 : Int) ≤ i by omega) (by omega) ar (Nat.le_refl _)
  rw [Nat.sub_self, Int.pow_zero, Int.ediv_one, List.take_of_length_le (by rw [digL_len]; exact Nat.le_refl _)] at h1
  by_cases h : idxL s 0 l = i
  · rw [decide_eq_true h]
    exact eqB_true (idxL_inj hs ar hl digL_len hin (digL_in hs) (by rw [h1]; exact h))
  · rw [decide_eq_false h]
    exact eqB_false fun e => h (by rw [e]; exact h1)
end
/-- the reference's way: places from the last to the first; d are done -/
def qD (s : Int) (cols : List (List Int)) (N : Nat) : Nat → List Int
  | 0 => List.replicate N (-1)
  | d + 1 => (qD s cols N d).set (idxL s 0 (cols.getD (cols.length - 1 - d) [])).toNat ((cols.length - 1 - d : Nat) : Int)
section
variable {s : Int} {ar N : Nat} {cols : List (List Int)} {d : Nat}
theorem qD_len : (qD s cols N d).length = N := by
  induction d with
  | zero => simp [qD]
  | succ d ih => simp [qD, ih]
theorem qD_at (hs : 1 ≤ s) (hN : s ^ ar = N) (hl : ∀ l ∈ cols, l.length = ar) (hin : ∀ l ∈ cols, ∀ a ∈ l, 0 ≤ a ∧ a ≤ s - 1) (hd : d ≤ cols.length) {i : Nat} (hi : i < N) :
    (qD s cols N d).getD i 0 = if firstI (fun l => eqB l (digL s i ar)) (cols.drop (cols.length - d)) < 0 then -1 else firstI (fun l => eqB l (digL s i ar)) (cols.drop (cols.length - d)) + (cols.length - d : Nat) := by
  induction d with
  | zero =>
    rw [Nat.sub_zero, List.drop_length]
    simp [qD, firstI, hi, List.getD_eq_getElem?_getD]
  | succ d ih =>
    have hj : cols.length - 1 - d < cols.length := by omega
    have hdr : cols.drop (cols.length - (d + 1)) = cols[cols.length - 1 - d] :: cols.drop (cols.length - d) := by
      have h1 := List.drop_eq_getElem_cons hj
      rw [show cols.length - (d + 1) = cols.length - 1 - d by omega, h1, show cols.length - 1 - d + 1 = cols.length - d by omega]
    have hmem := List.getElem_mem hj
    have hg : cols.getD (cols.length - 1 - d) [] = cols[cols.length - 1 - d] := by simp [List.getD_eq_getElem?_getD, hj]
    rw [hdr, firstI_cons, col_num hs hN (hl _ hmem) (hin _ hmem) hi]
    have hb := idx_lt hs (hl _ hmem) (hin _ hmem)
    have hb0 := (idx_bd hs (hin _ hmem) ar (by rw [hl _ hmem]; exact Nat.le_refl _)).1
    rw [List.take_of_length_le (by rw [hl _ hmem]; exact Nat.le_refl _)] at hb0
    rw [hN] at hb
    show ((qD s cols N d).set _ _).getD i 0 = _
    rw [hg, List.getD_eq_getElem?_getD, List.getElem?_set]
    have ih' := ih (by omega)
    rw [List.getD_eq_getElem?_getD] at ih'
    by_cases he : idxL s 0 cols[cols.length - 1 - d] = i
    · rw [if_pos (by omega), if_pos (by rw [qD_len]; omega)]
      simp only [he, decide_true, if_true, Option.getD_some]
      rw [if_neg (by omega)]
      omega
    · rw [if_neg (by omega), ih']
      simp only [he, decide_false]
      have hfi : ∀ x : Int, (if (false : Bool) = true then (0 : Int) else x) = x := fun x => rfl
      rw [hfi]
      by_cases hf : firstI (fun l => eqB l (digL s i ar)) (cols.drop (cols.length - d)) < 0
      · rw [if_pos hf, if_pos hf, if_pos (by omega)]
      · rw [if_neg hf, if_neg hf, if_neg (by omega)]
        omega
theorem qD_full (hs : 1 ≤ s) (hN : s ^ ar = N) (hl : ∀ l ∈ cols, l.length = ar) (hin : ∀ l ∈ cols, ∀ a ∈ l, 0 ≤ a ∧ a ≤ s - 1) {i : Nat} (hi : i < N) : (qD s cols N cols.length).getD i 0 = varQ s ar cols i := by
  rw [qD_at hs hN hl hin (Nat.le_refl _) hi, Nat.sub_self, List.drop_zero]
  show _ = firstI _ _
  split
  · rename_i h
    have : -1 ≤ firstI (fun l => eqB l (digL s i ar)) cols := by
      unfold firstI
      split <;> omega
    omega
  · omega
/-- the variable of a place's own list comes no later than the place -/
theorem var_le (hs : 1 ≤ s) (hN : s ^ ar = N) (hl : ∀ l ∈ cols, l.length = ar) (hin : ∀ l ∈ cols, ∀ a ∈ l, 0 ≤ a ∧ a ≤ s - 1) {p : Nat} (hp : p < cols.length) : 0 ≤ (vrS s ar cols N).1.getD (idxL s 0 cols[p]).toNat 0 ∧ (vrS s ar cols N).1.getD (idxL s 0 cols[p]).toNat 0 ≤ p := by
  have hmem := List.getElem_mem hp
  have hb := idx_lt hs (hl _ hmem) (hin _ hmem)
  have hb0 := (idx_bd hs (hin _ hmem) ar (by rw [hl _ hmem]; exact Nat.le_refl _)).1
  rw [List.take_of_length_le (by rw [hl _ hmem]; exact Nat.le_refl _)] at hb0
  rw [hN] at hb
  have hi : (idxL s 0 cols[p]).toNat < N := by omega
  have hq : 0 ≤ varQ s ar cols (idxL s 0 cols[p]).toNat ∧ varQ s ar cols (idxL s 0 cols[p]).toNat ≤ p := by
    unfold varQ firstI
    cases h : cols.findIdx? (fun l => eqB l (digL s ((idxL s 0 cols[p]).toNat : Nat) ar)) with
    | none =>
      rw [List.findIdx?_eq_none_iff] at h
      have := h _ hmem
      rw [col_num hs hN (hl _ hmem) (hin _ hmem) hi] at this
      simp at this
      omega
    | some i =>
      rw [List.findIdx?_eq_some_iff_getElem] at h
      obtain ⟨h1, h2, h3⟩ := h
      refine ⟨by simp, ?_⟩
      rcases Nat.lt_or_ge p i with hpi | hpi
      · have := h3 p hpi
        rw [col_num hs hN (hl _ hmem) (hin _ hmem) hi] at this
        simp at this
        omega
      · simp; omega
  rw [vrS_at hi hq.1]
  exact hq
end
/-- an atom more, if it is not there; none if there would be too many -/
def addA (a : AtomL) (l : List AtomL) : Option (List AtomL) := match anyB (fun b => eqB a b) l, decide (16 < l.length + 1) with
  | true, _ => some l
  | false, true => none
  | false, false => some (l ++ [a])
theorem addA_old {a : AtomL} {l : List AtomL} (h : anyB (fun b => eqB a b) l = true) : addA a l = some l := by simp [addA, h]
theorem addA_no {a : AtomL} {l : List AtomL} (h : anyB (fun b => eqB a b) l = false) (h1 : 16 < l.length + 1) : addA a l = none := by simp only [addA, h, decide_eq_true h1]
theorem addA_new {a : AtomL} {l : List AtomL} (h : anyB (fun b => eqB a b) l = false) (h1 : ¬ 16 < l.length + 1) : addA a l = some (l ++ [a]) := by simp only [addA, h, decide_eq_false h1]
/-- the atoms of the first c choices of a relation's tuples -/
def inI (s : Int) (ar : Nat) (vars : List Int) (k : Nat) (r : Int × List (List Int)) (l : List AtomL) : Nat → Option (List AtomL)
  | 0 => some l
  | c + 1 => (inI s ar vars k r l c).bind (addA ((k : Int), atL vars (cellsL s ar r c)))
/-- .. of the first k relations -/
def inT (t : Tpl) (ar : Nat) (vars : List Int) (l : List AtomL) : Nat → Option (List AtomL)
  | 0 => some l
  | k + 1 => (inT t ar vars l k).bind fun l' => inI t.1 ar vars k (relAt t (k : Int)) l' (powN (relAt t (k : Int)).2.length ar)
section
variable {s : Int} {ar : Nat} {vars : List Int} {k c : Nat} {r : Int × List (List Int)} {l l' : List AtomL} {t : Tpl}
theorem inI_none (h : inI s ar vars k r l c = none) {n : Nat} (hn : c ≤ n) : inI s ar vars k r l n = none := by
  obtain ⟨d, rfl⟩ : ∃ d, n = c + d := ⟨n - c, by omega⟩
  induction d with
  | zero => exact h
  | succ d ih =>
    show (inI s ar vars k r l (c + d)).bind _ = none
    rw [ih (by omega)]
    rfl
theorem inI_step (h : inI s ar vars k r l c = some l') : inI s ar vars k r l (c + 1) = addA ((k : Int), atL vars (cellsL s ar r c)) l' := by
  show (inI s ar vars k r l c).bind _ = _
  rw [h]
  rfl
theorem inT_none (h : inT t ar vars l k = none) {n : Nat} (hn : k ≤ n) : inT t ar vars l n = none := by
  obtain ⟨d, rfl⟩ : ∃ d, n = k + d := ⟨n - k, by omega⟩
  induction d with
  | zero => exact h
  | succ d ih =>
    show (inT t ar vars l (k + d)).bind _ = none
    rw [ih (by omega)]
    rfl
theorem inT_step (h : inT t ar vars l k = some l') (hk : k < t.2.length) : inT t ar vars l (k + 1) = inI t.1 ar vars k t.2[k] l' (powN (t.2[k]).2.length ar) := by
  show (inT t ar vars l k).bind _ = _
  rw [h, relAt_nat hk]
  rfl
theorem addA_len {a : AtomL} (h : addA a l = some l') (hl : l.length ≤ 16) : l'.length ≤ 16 := by
  unfold addA at h
  split at h
  · cases h; exact hl
  · cases h
  · rename_i h1
    cases h
    have : ¬ (16 < l.length + 1) := by simpa using h1
    simp; omega
theorem inI_len (h : inI s ar vars k r l c = some l') (hl : l.length ≤ 16) : l'.length ≤ 16 := by
  induction c generalizing l' with
  | zero => cases h; exact hl
  | succ c ih =>
    cases h0 : inI s ar vars k r l c with
    | none => rw [inI_none h0 (Nat.le_succ c)] at h; cases h
    | some q => rw [inI_step h0] at h; exact addA_len h (ih h0)
end
/-- the equalities of the first k places -/
def eqA (s : Int) (cols : List (List Int)) (vars : List Int) : Nat → List AtomL
  | 0 => []
  | p + 1 => match (vars.getD (idxL s 0 (cols.getD p [])).toNat 0 != (p : Int)) with
    | true => eqA s cols vars p ++ [(-1, [vars.getD (idxL s 0 (cols.getD p [])).toNat 0, (p : Int)])]
    | false => eqA s cols vars p
theorem eqA_len {s : Int} {cols : List (List Int)} {vars : List Int} {p : Nat} : (eqA s cols vars p).length ≤ p := by
  induction p with
  | zero => exact Nat.le_refl _
  | succ p ih =>
    unfold eqA
    split
    · simp; omega
    · omega
theorem eqA_yes {s : Int} {cols : List (List Int)} {vars : List Int} {p : Nat} (hp : p < cols.length) {v : Int} (hv : vars.getD (idxL s 0 cols[p]).toNat 0 = v) (h : (v != (p : Int)) = true) : eqA s cols vars (p + 1) = eqA s cols vars p ++ [(-1, [v, (p : Int)])] := by
  have e : cols.getD p [] = cols[p] := by simp [List.getD_eq_getElem?_getD, hp]
  simp only [eqA, e, hv, h]
theorem eqA_no {s : Int} {cols : List (List Int)} {vars : List Int} {p : Nat} (hp : p < cols.length) {v : Int} (hv : vars.getD (idxL s 0 cols[p]).toNat 0 = v) (h : (v != (p : Int)) = false) : eqA s cols vars (p + 1) = eqA s cols vars p := by
  have e : cols.getD p [] = cols[p] := by simp [List.getD_eq_getElem?_getD, hp]
  simp only [eqA, e, hv, h]
/-- the whole formula -/
def ivS (t : Tpl) (u : List (List Int)) : List Int × Int := vrS t.1 u.length (colsL u (huM u)) (tabL t u.length)
def ivE (t : Tpl) (u : List (List Int)) : List AtomL := eqA t.1 (colsL u (huM u)) (ivS t u).1 (huM u)
def ivT (t : Tpl) (u : List (List Int)) : Option (List AtomL) := inT t u.length (ivS t u).1 (ivE t u) t.2.length
noncomputable def inC (t : Tpl) (u : List (List Int)) : Int := match huC t u == 0, decide (8 < (ivS t u).2), ivT t u with
  | false, _, _ => huC t u
  | true, true, _ => 3
  | true, false, none => 3
  | true, false, some _ => 0
noncomputable def inV (t : Tpl) (u : List (List Int)) : Int × Int × List AtomL := match huC t u == 0, decide (8 < (ivS t u).2), ivT t u with
  | true, false, some l => ((huM u : Int), (ivS t u).2, l)
  | _, _, _ => (0, 0, [])
section
variable {t : Tpl} {u : List (List Int)}
theorem in_no (h : huC t u ≠ 0) : inC t u = huC t u ∧ inV t u = (0, 0, []) := by
  have : (huC t u == 0) = false := by simpa using h
  simp [inC, inV, this]
theorem in_vars (h : huC t u = 0) (h1 : decide (8 < (ivS t u).2) = true) : inC t u = 3 ∧ inV t u = (0, 0, []) := by simp only [inC, inV, h, h1]; exact ⟨rfl, rfl⟩
theorem in_lim (h : huC t u = 0) (h1 : decide (8 < (ivS t u).2) = false) (h2 : ivT t u = none) : inC t u = 3 ∧ inV t u = (0, 0, []) := by simp only [inC, inV, h, h1, h2]; exact ⟨rfl, rfl⟩
theorem in_ok (h : huC t u = 0) (h1 : decide (8 < (ivS t u).2) = false) {l : List AtomL} (h2 : ivT t u = some l) : inC t u = 0 ∧ inV t u = ((huM u : Int), (ivS t u).2, l) := by simp only [inC, inV, h, h1, h2]; exact ⟨rfl, rfl⟩
end
end Go.Proofs.Ytjghcedmlklngaa
namespace Go.Proofs.Ytjghcedmlklngaa
open Go.RowKit Go.Sort
theorem set_mid {A B : List Int} {x y : Int} (h : B.head? = some y) : (A ++ B).set A.length x = (A ++ [x]) ++ B.drop 1 := by
  cases B with
  | nil => simp at h
  | cons b B => simp
theorem mid_get {A B : List Int} {y : Int} (h : B.head? = some y) : (A ++ B)[A.length]? = some y := by
  cases B with
  | nil => simp at h
  | cons b B => simpa using h
theorem same_mid {A B : List Int} {y : Int} (h : B.head? = some y) : A ++ B = (A ++ [y]) ++ B.drop 1 := by
  cases B with
  | nil => simp at h
  | cons b B => simp at h; simp [h]
/-- the list while it is filled: done up to i -/
def fillV (s : Int) (ar : Nat) (cols : List (List Int)) (N i : Nat) : List Int := (vrS s ar cols i).1 ++ (qD s cols N cols.length).drop i
section
variable {s : Int} {ar N i : Nat} {cols : List (List Int)}
theorem fill_len (hi : i ≤ N) : (fillV s ar cols N i).length = N := by
  unfold fillV
  rw [List.length_append, vrS_len, List.length_drop, qD_len]
  omega
theorem fill_zero : fillV s ar cols N 0 = qD s cols N cols.length := by simp [fillV, vrS]
theorem fill_end : fillV s ar cols N N = (vrS s ar cols N).1 := by
  unfold fillV
  rw [List.drop_of_length_le (by rw [qD_len]; exact Nat.le_refl _), List.append_nil]
theorem fill_head (hs : 1 ≤ s) (hN : s ^ ar = N) (hl : ∀ l ∈ cols, l.length = ar) (hin : ∀ l ∈ cols, ∀ a ∈ l, 0 ≤ a ∧ a ≤ s - 1) (hi : i < N) : ((qD s cols N cols.length).drop i).head? = some (varQ s ar cols i) := by
  have h1 := qD_full (s := s) (ar := ar) hs hN hl hin hi
  have h2 : i < (qD s cols N cols.length).length := by rw [qD_len]; exact hi
  rw [List.getD_eq_getElem?_getD, List.getElem?_eq_getElem h2] at h1
  rw [List.head?_drop, List.getElem?_eq_getElem h2]
  exact congrArg some h1
theorem fill_get (hs : 1 ≤ s) (hN : s ^ ar = N) (hl : ∀ l ∈ cols, l.length = ar) (hin : ∀ l ∈ cols, ∀ a ∈ l, 0 ≤ a ∧ a ≤ s - 1) (hi : i < N) : (fillV s ar cols N i)[i]? = some (varQ s ar cols i) := by
  have h := mid_get (A := (vrS s ar cols i).1) (fill_head hs hN hl hin hi)
  rw [vrS_len] at h
  exact h
theorem fill_new (hs : 1 ≤ s) (hN : s ^ ar = N) (hl : ∀ l ∈ cols, l.length = ar) (hin : ∀ l ∈ cols, ∀ a ∈ l, 0 ≤ a ∧ a ≤ s - 1) (hi : i < N) (h : decide (varQ s ar cols i < 0) = true) : (fillV s ar cols N i).set i (vrS s ar cols i).2 = fillV s ar cols N (i + 1) := by
  have h1 := set_mid (A := (vrS s ar cols i).1) (x := (vrS s ar cols i).2) (fill_head hs hN hl hin hi)
  rw [vrS_len] at h1
  unfold fillV
  rw [h1, vrS_new h, List.drop_drop]
theorem fill_old (hs : 1 ≤ s) (hN : s ^ ar = N) (hl : ∀ l ∈ cols, l.length = ar) (hin : ∀ l ∈ cols, ∀ a ∈ l, 0 ≤ a ∧ a ≤ s - 1) (hi : i < N) (h : decide (varQ s ar cols i < 0) = false) : fillV s ar cols N i = fillV s ar cols N (i + 1) := by
  have h1 := same_mid (A := (vrS s ar cols i).1) (fill_head hs hN hl hin hi)
  unfold fillV
  rw [h1, vrS_old h, List.drop_drop]
end
set_option maxHeartbeats 3200000 in
set_option maxRecDepth 100000 in
theorem l04Var_any (w : World) {v : Value} {u : List (List Int)} {s : Int} {m N : Nat} (h : rowsT.Rd w [v] u) (hs : 1 ≤ s ∧ s ≤ 4) (hul : 1 ≤ u.length ∧ u.length ≤ 3) (hm : ∀ l ∈ u, l.length = m) (hm4 : m ≤ 4) (hin : ∀ l ∈ u, ∀ a ∈ l, 0 ≤ a ∧ a ≤ s - 1) (hN : s ^ u.length = N) :
    Calls Try.prog 33 #[.int .i64 s, v] w fun e w' => ∃ vv, e = .returned (.tuple #[vv, .int .i64 (vrS s u.length (colsL u m) N).2]) ∧ intsT.Fr w.heap.size w' [vv] (vrS s u.length (colsL u m) N).1 ∧ Below w.heap.size w w' := by
  have HU := Lib.hid h
  obtain ⟨la, lc, rfl⟩ := rd_slice h
  have hNb := tabN_bd (tabN_of hs (ar := u.length) (by omega) hN)
  have HIN := Lib.hid (cols_in hm hin)
  have HML := Lib.hid hm
  have HNN := Lib.hid hN
  have hcl : (colsL u m).length = m := colsL_len
  have HLC : Hid (∀ l ∈ colsL u m, l.length = u.length) := fun l hl => by have := (HIN.out l hl).1; omega
  have HIC : Hid (∀ l ∈ colsL u m, ∀ a ∈ l, 0 ≤ a ∧ a ≤ s - 1) := fun l hl => (HIN.out l hl).2
  clear h hm hin hN
  go_enter Try.func33, Try.ntmps33
  go_wp2_with fail
  refine (l04Lists_any w HU.out (by omega) (by omega) HML.out (by omega)).mono ?_
  rintro e w1 ⟨lv, rfl, hlf, hb1⟩
  obtain ⟨la1, lc1, rfl⟩ := fr_slice hlf
  rw [hcl] at hlf ⊢
  have HLF := Lib.hid (rdP_lt (fr_rdP hlf))
  clear hlf
  go_wp2_with fail
  refine (l01Power_any _ s (u.length : Int) (by omega) (by omega) (by omega)).mono ?_
  rintro e _ ⟨rfl, rfl⟩
  rw [Int.toNat_natCast, HNN.out]
  go_wp2_with (refine wpList_mkI _ rfl _ _ 56 2 rfl Try.underlying56 infoInt w1.heap.size N rfl rfl (by omega) (by decide) (by simp) ?_; intro w2 hA hg2 hs2)
  have hb2 := below_of_grown hg2
  have HA := Lib.hid (minus_zero (N := N) ▸ hA)
  obtain ⟨fb, hfb⟩ : ∃ fb, w1.heap.size = fb := ⟨_, rfl⟩
  have hB2 := bthen hb1 hb2
  have hwf : w.heap.size ≤ fb := by rw [← hfb]; exact hb1.size
  rw [hfb] at HA hs2 ⊢
  have hf2 : fb < w2.heap.size := by omega
  clear hA hg2 hs2
  go_loopw [8] (fun i wr => ∃ j : Nat, j ≤ N ∧ i = .int .i64 j ∧ IR 2 fb wr fb N N (minus j N) ∧ TchP (fun k => k = fb) w2 wr) (fun i _ => N - (intOf i).toNat)
  case atStart => exact ⟨0, Nat.zero_le _, rfl, HA.out, TchP.refl _ _⟩
  case round =>
    obtain ⟨j, hj, rfl, hif, htc⟩ := hrel
    have HIF := Lib.hid hif
    have hzr := htc.size
    by_cases hjl : j < N
    · obtain ⟨fu, f0⟩ := hif.cell hjl
      have f1 := hif.free j
      have HSF := Lib.hid (hif.set j (a := -1) (I64.small (by omega) (by omega)))
      have HMS := Lib.hid (minus_set hjl)
      have htc2 : TchP (fun k => k = fb) w2 (wr.setCell ⟨fb, j, none⟩ (.int .i64 (-1))) := htc.then (TchP.set (O := fun k => k = fb) rfl) (fun q _ h => h)
      clear hif HA
      go_wp2_with fail
      go_roundw
      case rel => exact ⟨j + 1, by omega, by go_num, by rw [← HMS.out]; exact HSF.out, htc2⟩
      case measure => simp [intOf]; omega
    · obtain rfl : N = j := by omega
      obtain ⟨wd, rfl⟩ : ∃ wd : World, wd = wr := ⟨_, rfl⟩
      rw [minus_full] at hif
      have HI0 : Hid (IR 2 fb wd fb N N (qD s (colsL u m) N 0)) := hif
      have HTD := Lib.hid htc
      have hbd : Below fb w1 wd := by
        rw [← hfb]
        exact hb2.trans (htc.below (by omega) (fun k hk h => by omega))
      have HLD := Lib.hid (HLF.out.below (by rw [hfb]; exact hbd))
      have hBd : Below w.heap.size w wd := hb1.trans (hbd.mono hwf)
      have hfd : fb < wd.heap.size := by omega
      clear hif HA HIF htc hb2
      go_wp2_with fail
      go_loopw [9] (fun i wr => ∃ d : Nat, d ≤ m ∧ i = .int .i64 ((m : Int) - 1 - d) ∧ IR 2 fb wr fb N N (qD s (colsL u m) N d) ∧ TchP (fun k => k = fb) wd wr) (fun i _ => ((intOf i) + 1).toNat)
      case atStart => exact ⟨0, Nat.zero_le _, by go_num, HI0.out, TchP.refl _ _⟩
      case round =>
        obtain ⟨d, hd, rfl, hif, htc⟩ := hrel
        have HIF := Lib.hid hif
        have HTE := Lib.hid htc
        have hzr2 := htc.size
        obtain ⟨wv, rfl⟩ : ∃ wv : World, wv = wr := ⟨_, rfl⟩
        by_cases hdl : d < m
        · obtain ⟨p, hp⟩ : ∃ p : Nat, m - 1 - d = p := ⟨_, rfl⟩
          have hpm : p < m := by omega
          have hpc : p < (colsL u m).length := by rw [hcl]; exact hpm
          have hpi : (m : Int) - 1 - d = (p : Int) := by omega
          have HLV := (HLD.out.tchP htc (fun q _ h e => by have := h.2; omega)).rd
          obtain ⟨_, _, hvL, -, -, hcL⟩ := slices_ex HLV
          simp only [List.cons.injEq, Value.slice.injEq, and_true] at hvL
          obtain ⟨rfl, -, rfl⟩ := hvL
          obtain ⟨lb, lo, rfl, hlb, hce⟩ := hcL (by omega)
          obtain ⟨lx, hlx, hcx⟩ := hce p hpc
          obtain ⟨lxa, lxc, rfl⟩ := rd_slice hlx
          have hmem := List.getElem_mem hpc
          have hi1 := HLC.out _ hmem
          have hi2 := HIC.out _ hmem
          have hb := idx_lt (s := s) (by omega) hi1 hi2
          rw [HNN.out] at hb
          obtain ⟨q, hq⟩ : ∃ q : Nat, idxL s 0 (colsL u m)[p] = q := ⟨(idxL s 0 (colsL u m)[p]).toNat, by omega⟩
          have hqN : q < N := by omega
          have HQ : Hid (qD s (colsL u m) N (d + 1) = (qD s (colsL u m) N d).set q ((p : Nat) : Int)) := by
            unfold Hid
            show (qD s (colsL u m) N d).set _ _ = _
            rw [show (colsL u m).length - 1 - d = p by rw [hcl]; exact hp, show (colsL u m).getD p [] = (colsL u m)[p] by simp [List.getD_eq_getElem?_getD, hpc], hq, Int.toNat_natCast]
          have HLX := Lib.hid hlx
          have HI2 := Lib.hid hi2
          have hl5 : ((colsL u m)[p]).length ≤ 5 := by omega
          obtain ⟨fu, f0⟩ := hif.cell hqN
          have f1 := hif.free q
          have HSF := Lib.hid (hif.set q (a := (p : Int)) (I64.small (by omega) (by omega)))
          have htc2 : TchP (fun k => k = fb) wd (wv.setCell ⟨fb, q, none⟩ (.int .i64 (p : Int))) := htc.then (TchP.set (O := fun k => k = fb) rfl) (fun q _ h => h)
          have HT2 := Lib.hid htc2
          rw [hpi]
          have HPI := Lib.hid hpi
          have HP := Lib.hid hp
          clear HLV hcL hce hlx hi1 hi2 hb hif htc htc2 hp hpi hmem hcl
          go_wp2_with (go_at_call 35; refine (l01Code_any _ s HLX.out (by omega) (by omega) hl5 HI2.out).mono ?_; rintro e w' ⟨rfl, rfl⟩; rw [hq])
          go_roundw
          case rel => exact ⟨d + 1, by omega, by have := HPI.out; first | (go_num; done) | (go_num; omega), by rw [HQ.out]; exact HSF.out, HT2.out⟩
          case measure => first | (simp [intOf]; done) | (simp [intOf]; omega)
        · obtain rfl : d = m := by omega
          have hm1 : (d : Int) - 1 - d = -1 := by omega
          rw [hm1]
          have HI1 : Hid (IR 2 fb wv fb N N (fillV s u.length (colsL u d) N 0)) := by
            unfold Hid
            rw [fill_zero, hcl]
            exact hif
          have hcl2 : ((colsL u d).length : Int) = d := by rw [hcl]
          clear hif HIF htc hm1
          go_wp2_with fail
          go_loopw [10, 11] (fun n i wr => ∃ j : Nat, j ≤ N ∧ i = .int .i64 j ∧ n = .int .i64 (vrS s u.length (colsL u d) j).2 ∧ IR 2 fb wr fb N N (fillV s u.length (colsL u d) N j) ∧ TchP (fun k => k = fb) wd wr) (fun _ i _ => N - (intOf i).toNat)
          case atStart => exact ⟨0, Nat.zero_le _, rfl, by rw [← hcl2]; rfl, HI1.out, HTE.out⟩
          case round =>
            obtain ⟨j, hj, rfl, rfl, hif, htc⟩ := hrel
            have hzr3 := htc.size
            obtain ⟨wx, rfl⟩ : ∃ wx : World, wx = wr := ⟨_, rfl⟩
            have hvn := vrS_next (s := s) (ar := u.length) (cols := colsL u d) (k := j)
            by_cases hjl : j < N
            · have hg := fill_get (s := s) (ar := u.length) (by omega) HNN.out HLC.out HIC.out hjl
              have hvq := varQ_bd (s := s) (ar := u.length) (cols := colsL u d) (k := j)
              have HNEW := Lib.hid (fill_new (s := s) (ar := u.length) (by omega) HNN.out HLC.out HIC.out hjl)
              have HOLD := Lib.hid (fill_old (s := s) (ar := u.length) (by omega) HNN.out HLC.out HIC.out hjl)
              have HV1 := Lib.hid (vrS_new (s := s) (ar := u.length) (cols := colsL u d) (k := j))
              have HV2 := Lib.hid (vrS_old (s := s) (ar := u.length) (cols := colsL u d) (k := j))
              have hcj : wx.cell? ⟨fb, j, none⟩ = some (.int .i64 (varQ s u.length (colsL u d) j)) := by
                rw [World.ownsRow.cellAt hif.2.2.2 j (by omega), List.getElem?_map, hg]
                rfl
              have f1 := hif.free j
              have HIF := Lib.hid hif
              have HT3 := Lib.hid htc
              rw [hcl2] at hvn hvq
              obtain ⟨nx, hnx⟩ : ∃ nx, (vrS s u.length (colsL u d) j).2 = nx := ⟨_, rfl⟩
              obtain ⟨Q, hQ⟩ : ∃ Q, varQ s u.length (colsL u d) j = Q := ⟨_, rfl⟩
              rw [hQ] at hcj hvq HNEW HOLD HV1 HV2
              rw [hnx] at hvn HNEW HV1 HV2 ⊢
              clear hg hif htc hQ hnx
              cases hq : decide (Q < 0)
              · have H1 := Lib.hid (HOLD.out hq)
                have H2 := Lib.hid (HV2.out hq)
                go_wp2_with fail
                go_roundw
                case rel => exact ⟨j + 1, by omega, by go_num, by rw [H2.out], by rw [← H1.out]; exact HIF.out, HT3.out⟩
                case measure => simp [intOf]; omega
              · have H1 := Lib.hid (HNEW.out hq)
                have H2 := Lib.hid (HV1.out hq)
                have HSF := Lib.hid (HIF.out.set j (a := nx) (I64.small (by omega) (by omega)))
                have HT4 : Hid (TchP (fun k => k = fb) wd (wx.setCell ⟨fb, j, none⟩ (.int .i64 nx))) := HT3.out.then (TchP.set (O := fun k => k = fb) rfl) (fun q _ h => h)
                have hwr : IntKind.i64.wrap (nx + 1) = nx + 1 := wrap_small (by omega) (by omega)
                go_wp2_with fail
                go_roundw
                case rel => exact ⟨j + 1, by omega, by go_num, by rw [H2.out], by rw [← H1.out]; exact HSF.out, HT4.out⟩
                case measure => simp [intOf]; omega
            · obtain rfl : N = j := by omega
              rw [fill_end] at hif
              have HFR := Lib.hid ((hif.fr (by unfold capMax; omega)).mono hwf)
              have HB := Lib.hid (hBd.trans (htc.below (B := w.heap.size) (by omega) (fun k hk h => by omega)))
              clear hif htc
              go_wp2_with fail
              refine bodyPost_ret (v := .tuple #[.slice (some ⟨fb, 0, none⟩) N N, .int .i64 (vrS s u.length (colsL u d) N).2]) (by simp [results, Try.results33, go_sem]) rfl ⟨_, rfl, HFR.out, HB.out⟩
end Go.Proofs.Ytjghcedmlklngaa
namespace Go.Proofs.Ytjghcedmlklngaa
open Go.RowKit Go.Sort
theorem sameAtom_any (w : World) {cs cs' : Array Value} {x y : Int × List Int} (h : opT.Rd w cs.toList x) (h' : opT.Rd w cs'.toList y) :
    Calls Try.prog 49 #[.agg cs, .agg cs'] w fun e w' => e = .returned (.bool (eqB x y)) ∧ Below w.heap.size w w' := by
  obtain ⟨v, hv, hI, hx⟩ := pair_ex h
  obtain rfl := agg_of hv
  obtain ⟨v', hv', hI', hx'⟩ := pair_ex h'
  obtain rfl := agg_of hv'
  clear h hv h' hv'
  cases hn : (x.1 == y.1)
  · go_enter Try.func49, Try.ntmps49
    go_wp2_with fail
    go_ret
    exact ⟨ret_bool (eqB_fst (by simpa using hn)).symm, (by repeat (first | exact Below.refl _ _ | exact bA | assumption | refine Below.setCell ?_ (by first | omega | (simp; try omega)) _ | refine Below.alloc ?_ (by first | omega | (simp; try omega)) _ | refine Below.drew ?_ | refine bDN ?_ | refine bthen ?_ (by assumption)))⟩
  have HN : Hid (x.1 = y.1) := by simpa [Hid] using hn
  cases hq : eqB x.2 y.2
  all_goals
    go_enter Try.func49, Try.ntmps49
    go_wp2_with fail
    refine (Equal_quiet _ (hx.below (by repeat (first | exact Below.refl _ _ | exact bA | assumption | refine Below.setCell ?_ (by first | omega | (simp; try omega)) _ | refine Below.alloc ?_ (by first | omega | (simp; try omega)) _ | refine Below.drew ?_ | refine bDN ?_ | refine bthen ?_ (by assumption)))) (hx'.below (by repeat (first | exact Below.refl _ _ | exact bA | assumption | refine Below.setCell ?_ (by first | omega | (simp; try omega)) _ | refine Below.alloc ?_ (by first | omega | (simp; try omega)) _ | refine Below.drew ?_ | refine bDN ?_ | refine bthen ?_ (by assumption))))).mono ?_
    rintro e w1 ⟨rfl, n, rfl⟩
    rw [hq]
    go_wp2_with fail
    go_ret
    exact ⟨ret_bool (eqB_snd HN.out hq).symm, (by repeat (first | exact Below.refl _ _ | exact bA | assumption | refine Below.setCell ?_ (by first | omega | (simp; try omega)) _ | refine Below.alloc ?_ (by first | omega | (simp; try omega)) _ | refine Below.drew ?_ | refine bDN ?_ | refine bthen ?_ (by assumption)))⟩
theorem l03SameAtom_quiet (w : World) {v v' : Value} {x y : Int × List Int} (h : opT.Pt w v x) (h' : opT.Pt w v' y) :
    Calls Try.prog 92 #[v, v'] w fun e w' => e = .returned (.bool (eqB x y)) ∧ Quiet w w' := by
  obtain ⟨b, o, ad, cap, rfl, hb, hI, c0, c1, hx⟩ := pt_pair h
  obtain ⟨b', o', ad', cap', rfl, hb', hI', c0', c1', hx'⟩ := pt_pair h'
  clear h h'
  cases hn : (x.1 == y.1)
  · go_enter Try.func92, Try.ntmps92
    go_wp2_with fail
    go_quiet (fail)
    go_wp2_with fail
    go_ret
    exact ⟨ret_bool (eqB_fst (by simpa using hn)).symm, (by first | exact Quiet.refl _ | exact Quiet.drewN _ _ | exact (Quiet.drewN _ _).then (Quiet.drewN _ _) | exact ((Quiet.drewN _ _).then (Quiet.drewN _ _)).then (Quiet.drewN _ _))⟩
  have HN : Hid (x.1 = y.1) := by simpa [Hid] using hn
  have cQ : ∀ n, Calls Try.prog 114 #[.slice ad x.2.length cap, .slice ad' y.2.length cap'] (w.drewN n) fun e w'' => e = .returned (.bool (eqB x.2 y.2)) ∧ ∃ m, w'' = w.drewN m := fun n =>
    quiet_call (l00Same_quiet _ (hx.below (Quiet.drewN w n).below) (hx'.below (Quiet.drewN w n).below))
  go_enter Try.func92, Try.ntmps92
  go_wp2_with fail
  go_quiet (exact cQ _)
  go_wp2_with fail
  go_ret
  exact ⟨ret_bool (eqB_snd HN.out rfl).symm, (by first | exact Quiet.refl _ | exact Quiet.drewN _ _ | exact (Quiet.drewN _ _).then (Quiet.drewN _ _) | exact ((Quiet.drewN _ _).then (Quiet.drewN _ _)).then (Quiet.drewN _ _))⟩
end Go.Proofs.Ytjghcedmlklngaa
namespace Go.Proofs.Ytjghcedmlklngaa
open Go.RowKit Go.Sort
end Go.Proofs.Ytjghcedmlklngaa
namespace Go.Proofs.Ytjghcedmlklngaa
open Go.RowKit Go.Sort
def agR (sc tu : List Int) (i k : Nat) : Prop := sc.getD k 0 = sc.getD i 0 → tu.getD k 0 = tu.getD i 0
def agIn (sc tu : List Int) (i m : Nat) : Prop := ∀ k, k < m → agR sc tu i k
def agTo (sc tu : List Int) (n : Nat) : Prop := ∀ i, i < n → agIn sc tu i i
theorem agIn_zero {sc tu : List Int} {i : Nat} : agIn sc tu i 0 := fun _ h => absurd h (Nat.not_lt_zero _)
theorem agIn_succ {sc tu : List Int} {i m : Nat} (h : agIn sc tu i m) (h' : agR sc tu i m) : agIn sc tu i (m + 1) := fun k hk => by
  by_cases e : k = m
  · subst e; exact h'
  · exact h k (by omega)
theorem agTo_zero {sc tu : List Int} : agTo sc tu 0 := fun _ h => absurd h (Nat.not_lt_zero _)
theorem agTo_succ {sc tu : List Int} {n : Nat} (h : agTo sc tu n) (h' : agIn sc tu n n) : agTo sc tu (n + 1) := fun i hi => by
  by_cases e : i = n
  · subst e; exact h'
  · exact h i (by omega)
theorem getD_at {xs : List Int} {k : Nat} (h : k < xs.length) : xs.getD k 0 = xs[k] := by rw [List.getD_eq_getElem?_getD, List.getElem?_eq_getElem h]; rfl
theorem agR_ne {sc tu : List Int} {i k : Nat} (h1 : i < sc.length) (h2 : k < sc.length) (h : (sc[k] == sc[i]) = false) : agR sc tu i k := fun e => by
  rw [getD_at h1, getD_at h2] at e
  rw [e] at h
  simp at h
theorem agR_eq {sc tu : List Int} {i k : Nat} (h1 : i < tu.length) (h2 : k < tu.length) (h : (tu[k] != tu[i]) = false) : agR sc tu i k := fun _ => by
  rw [getD_at h1, getD_at h2]
  simpa using h
theorem agR_not {sc tu : List Int} {i k n : Nat} (hk : k < i) (hi : i < n) (h1 : i < sc.length) (h2 : k < sc.length) (h3 : i < tu.length) (h4 : k < tu.length) (h : (sc[k] == sc[i]) = true) (h' : (tu[k] != tu[i]) = true) : ¬ agTo sc tu n := fun hh => by
  have := hh i hi k hk
  unfold agR at this
  rw [getD_at h1, getD_at h2, getD_at h3, getD_at h4] at this
  have := this (by simpa using h)
  simp [this] at h'
theorem bne_swap {a b : Int} {r : Bool} (h : (a != b) = r) : (b != a) = r := by rw [← h]; exact bne_comm
theorem beq_swap {a b : Int} {r : Bool} (h : (a == b) = r) : (b == a) = r := by rw [← h]; exact BEq.comm
end Go.Proofs.Ytjghcedmlklngaa
namespace Go.Proofs.Ytjghcedmlklngaa
open Go.RowKit Go.Sort
/-- is a number one of a list's -/
def hasI (xs : List Int) (n : Int) : Bool := anyB (fun a => n == a) xs
theorem hasI_no {xs : List Int} {n : Int} (h : noneB (fun a => n == a) xs) : hasI xs n = false := by
  unfold hasI anyB
  rw [List.any_eq_false]
  intro a ha hh
  have h1 : (n == a) = false := h a ha
  rw [h1] at hh
  cases hh
theorem hasI_yes {xs : List Int} {n : Int} {k : Nat} (h : k < xs.length) (he : (n == xs[k]) = true) : hasI xs n = true := by
  unfold hasI anyB
  rw [List.any_eq_true]
  exact ⟨_, List.getElem_mem h, he⟩
theorem hasI_first {xs : List Int} {n : Int} : decide (0 ≤ firstI (fun a => n == a) xs) = hasI xs n := firstI_any _ _
end Go.Proofs.Ytjghcedmlklngaa
