/-
  Plain mathematics: the order of lists, valid relations and templates. No program is named here.
-/
import Derived.Test.YtepebfpgmnidnaaBase
namespace Go.Proofs.Ytepebfpgmnidnaa

/-- a proposition as a test -/
noncomputable def tb (p : Prop) : Bool := @decide p (Classical.propDecidable p)
theorem tb_true {p : Prop} (h : p) : tb p = true := by simp [tb, h]
theorem tb_false {p : Prop} (h : ¬ p) : tb p = false := by simp [tb, h]
theorem tb_iff {p : Prop} : tb p = true ↔ p := by simp [tb]
theorem tb_no {p : Prop} : tb p = false ↔ ¬ p := by simp [tb]
theorem tb_congr {p q : Prop} (h : p ↔ q) : tb p = tb q := by rw [propext h]
theorem tb_and {p q : Prop} : (tb p && tb q) = tb (p ∧ q) := by rw [Bool.eq_iff_iff, Bool.and_eq_true, tb_iff, tb_iff, tb_iff]
theorem tb_not {p : Prop} : (!tb p) = tb (¬ p) := by cases h : tb p <;> simp [tb] at * <;> exact h
theorem inB_tb (a lo hi : Int) : inB a lo hi = tb (lo ≤ a ∧ a ≤ hi) := by rw [Bool.eq_iff_iff, inB_true, tb_iff]

def cmpI (x y : Int) : Int := if x < y then -1 else if y < x then 1 else 0
theorem cmpI_lt {x y : Int} (h : x < y) : cmpI x y = -1 := if_pos h
theorem cmpI_gt {x y : Int} (h : y < x) : cmpI x y = 1 := by unfold cmpI; rw [if_neg (by omega), if_pos h]
theorem cmpI_eq {x y : Int} (h : x = y) : cmpI x y = 0 := by unfold cmpI; rw [if_neg (by omega), if_neg (by omega)]
/-- the order of lists -/
def cmpL : List Int → List Int → Int
  | [], [] => 0
  | [], _ :: _ => -1
  | _ :: _, [] => 1
  | x :: xs, y :: ys => if x = y then cmpL xs ys else cmpI x y
def ltL (xs ys : List Int) : Prop := cmpL xs ys < 0
theorem cmpL_self : ∀ xs : List Int, cmpL xs xs = 0
  | [] => rfl
  | x :: xs => by simp [cmpL, cmpL_self xs]
theorem cmpL_drop {xs ys : List Int} : ∀ {k : Nat}, xs.take k = ys.take k → cmpL xs ys = cmpL (xs.drop k) (ys.drop k) := by
  induction xs generalizing ys with
  | nil =>
    intro k h
    cases k with
    | zero => rfl
    | succ k => cases ys with
      | nil => simp
      | cons y ys => simp at h
  | cons x xs ih =>
    intro k h
    cases k with
    | zero => rfl
    | succ k => cases ys with
      | nil => simp at h
      | cons y ys =>
        simp only [List.take_succ_cons, List.cons.injEq] at h
        obtain ⟨rfl, h⟩ := h
        simp only [cmpL, if_true, List.drop_succ_cons]
        exact ih h
theorem cmpL_ne {xs ys : List Int} {k : Nat} (h : xs.take k = ys.take k) (h1 : k < xs.length) (h2 : k < ys.length) (hne : xs[k] ≠ ys[k]) : cmpL xs ys = cmpI xs[k] ys[k] := by
  rw [cmpL_drop h, List.drop_eq_getElem_cons h1, List.drop_eq_getElem_cons h2, cmpL, if_neg hne]
theorem cmpL_more {xs ys : List Int} (h : xs.take ys.length = ys) (h1 : ys.length < xs.length) : cmpL xs ys = 1 := by
  rw [cmpL_drop (k := ys.length) (by rw [h, List.take_length]), List.drop_eq_getElem_cons h1, List.drop_length, cmpL]
theorem cmpL_less {xs ys : List Int} (h : xs = ys.take xs.length) (h1 : xs.length < ys.length) : cmpL xs ys = -1 := by
  rw [cmpL_drop (k := xs.length) (by rw [List.take_length]; exact h), List.drop_eq_getElem_cons h1, List.drop_length, cmpL]

/-- so many values of a size -/
def rowOk (size ar : Int) (t : List Int) : Prop := (t.length : Int) = ar ∧ ∀ a ∈ t, 0 ≤ a ∧ a ≤ size - 1
def sizeOk (size : Int) : Prop := 1 ≤ size ∧ size ≤ 4
def relOk (size : Int) (r : Int × List (List Int)) : Prop :=
  sizeOk size ∧ sizeOk r.1 ∧ ∀ i (h : i < r.2.length), rowOk size r.1 r.2[i] ∧ (0 < i → ltL (r.2[i - 1]'(by omega)) r.2[i])
/-- as far as place k -/
def relUp (size : Int) (r : Int × List (List Int)) (k : Nat) : Prop := ∀ i (h : i < r.2.length), i < k → rowOk size r.1 r.2[i] ∧ (0 < i → ltL (r.2[i - 1]'(by omega)) r.2[i])
theorem relUp_zero (size : Int) (r : Int × List (List Int)) : relUp size r 0 := fun i _ h => absurd h (Nat.not_lt_zero i)
theorem relUp_succ {size : Int} {r : Int × List (List Int)} {k : Nat} (h : k < r.2.length) (hu : relUp size r k) (h1 : rowOk size r.1 r.2[k]) (h2 : 0 < k → ltL (r.2[k - 1]'(by omega)) r.2[k]) : relUp size r (k + 1) := fun i hi hlt => by
  by_cases e : i = k
  · subst e; exact ⟨h1, h2⟩
  · exact hu i hi (by omega)
def tplOk (t : Int × List (Int × List (List Int))) : Prop := sizeOk t.1 ∧ t.2.length ≤ 6 ∧ ∀ r ∈ t.2, relOk t.1 r
theorem tupB_iff {size : Int} {xs : List Int} : xs.all (fun a => inB a 0 (size - 1)) = true ↔ ∀ a ∈ xs, 0 ≤ a ∧ a ≤ size - 1 := by
  rw [List.all_eq_true]
  exact ⟨fun h a ha => inB_true.1 (h a ha), fun h a ha => inB_true.2 (h a ha)⟩
/-- the arity that a number tells in a template: -1 stands for equality -/
def arOf (t : Int × List (Int × List (List Int))) (rel : Int) : Int :=
  if rel = -1 then 2 else if h : 0 ≤ rel ∧ rel.toNat < t.2.length then (t.2[rel.toNat]).1 else 0
theorem arOf_eq (t : Int × List (Int × List (List Int))) : arOf t (-1) = 2 := by simp [arOf]
theorem arOf_nat {t : Int × List (Int × List (List Int))} {k : Nat} (h : k < t.2.length) : arOf t (k : Int) = (t.2[k]).1 := by
  unfold arOf
  rw [if_neg (by omega), dif_pos ⟨by omega, by simpa using h⟩]
  simp
theorem arOf_no {t : Int × List (Int × List (List Int))} {rel : Int} (h1 : rel ≠ -1) (h : inB rel 0 ((t.2.length : Int) - 1) = false) : arOf t rel = 0 := by
  unfold arOf
  rw [if_neg h1, dif_neg]
  rw [inB_false] at h
  omega
def atomOk (t : Int × List (Int × List (List Int))) (vars : Int) (a : Int × List Int) : Prop := arOf t a.1 ≠ 0 ∧ rowOk vars (arOf t a.1) a.2
def frameOk (f : Int × Int × List (Int × List Int)) : Prop := (1 ≤ f.1 ∧ f.1 ≤ 4) ∧ (f.1 ≤ f.2.1 ∧ f.2.1 ≤ 8) ∧ f.2.2.length ≤ 16
def frmOk (t : Int × List (Int × List (List Int))) (f : Int × Int × List (Int × List Int)) : Prop := tplOk t ∧ frameOk f ∧ ∀ a ∈ f.2.2, atomOk t f.2.1 a
def conOk (t : Int × List (Int × List (List Int))) (vars : Int) (c : Int × List Int) : Prop := (0 ≤ c.1 ∧ c.1 ≤ (t.2.length : Int) - 1) ∧ rowOk vars (arOf t c.1) c.2
def instOk (t : Int × List (Int × List (List Int))) (x : Int × List (Int × List Int)) : Prop := tplOk t ∧ (1 ≤ x.1 ∧ x.1 ≤ 10) ∧ x.2.length ≤ 24 ∧ ∀ c ∈ x.2, conOk t x.1 c
end Go.Proofs.Ytepebfpgmnidnaa
