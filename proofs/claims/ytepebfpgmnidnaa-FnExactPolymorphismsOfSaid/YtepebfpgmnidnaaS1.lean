/-
  Plain mathematics of the search: the lists of values that begin with some and go all the way, in order; what a listener is told of them. No program is named here.
-/
import Derived.Test.YtepebfpgmnidnaaBase
namespace Go.Proofs.Ytepebfpgmnidnaa
/-- all lists of m more values that go, in order -/
def solsL (s : Nat) (sure : List Int → Bool) : Nat → List Int → List (List Int)
  | 0, vals => [vals]
  | m + 1, vals => (List.range s).flatMap fun a : Nat => if sure (vals ++ [(a : Int)]) then solsL s sure m (vals ++ [(a : Int)]) else []
/-- those of the first k values at the next place -/
def solsTo (s : Nat) (sure : List Int → Bool) (m : Nat) (vals : List Int) (k : Nat) : List (List Int) :=
  (List.range k).flatMap fun a : Nat => if sure (vals ++ [(a : Int)]) then solsL s sure m (vals ++ [(a : Int)]) else []
section
variable {s m k : Nat} {sure : List Int → Bool} {vals : List Int}
theorem solsL_zero : solsL s sure 0 vals = [vals] := rfl
theorem solsL_succ : solsL s sure (m + 1) vals = solsTo s sure m vals s := rfl
theorem solsTo_zero : solsTo s sure m vals 0 = [] := by simp [solsTo]
theorem solsTo_yes (h : sure (vals ++ [(k : Int)]) = true) : solsTo s sure m vals (k + 1) = solsTo s sure m vals k ++ solsL s sure m (vals ++ [(k : Int)]) := by simp [solsTo, List.range_succ, h]
theorem solsTo_no (h : sure (vals ++ [(k : Int)]) = false) : solsTo s sure m vals (k + 1) = solsTo s sure m vals k := by simp [solsTo, List.range_succ, h]
theorem solsTo_append {s m k : Nat} {sure : List Int → Bool} {vals : List Int} : ∀ {j : Nat}, k ≤ j → ∃ r, solsTo s sure m vals j = solsTo s sure m vals k ++ r
  | 0, h => by
    obtain rfl : k = 0 := by omega
    exact ⟨[], by simp⟩
  | j + 1, h => by
    by_cases e : k = j + 1
    · subst e; exact ⟨[], by simp⟩
    · obtain ⟨r, hr⟩ := solsTo_append (s := s) (m := m) (k := k) (sure := sure) (vals := vals) (j := j) (by omega)
      cases hs : sure (vals ++ [(j : Int)])
      · exact ⟨r, by rw [solsTo_no hs, hr]⟩
      · exact ⟨r ++ solsL s sure m (vals ++ [(j : Int)]), by rw [solsTo_yes hs, hr, List.append_assoc]⟩
end
theorem flat_len {α β : Type} (f : α → List β) (c : Nat) : ∀ {xs : List α}, (∀ x ∈ xs, (f x).length ≤ c) → (xs.flatMap f).length ≤ xs.length * c
  | [], _ => by simp
  | x :: r, h => by
    rw [List.flatMap_cons, List.length_append, List.length_cons, Nat.add_mul]
    have h1 := h x (List.mem_cons_self ..)
    have h2 := flat_len f c (xs := r) fun y hy => h y (List.mem_cons_of_mem _ hy)
    omega
/-- there are not more than that -/
theorem solsL_len {s : Nat} {sure : List Int → Bool} : ∀ {m : Nat} {vals : List Int}, (solsL s sure m vals).length ≤ s ^ m
  | 0, vals => by simp [solsL]
  | m + 1, vals => by
    have h := flat_len (fun a : Nat => if sure (vals ++ [(a : Int)]) then solsL s sure m (vals ++ [(a : Int)]) else []) (s ^ m) (xs := List.range s) fun a _ => by
      cases hs : sure (vals ++ [(a : Int)])
      · simp
      · simpa using solsL_len
    rw [List.length_range] at h
    rw [Nat.pow_succ, Nat.mul_comm]
    exact h
/-- each of them has m values more -/
theorem solsL_each {s : Nat} {sure : List Int → Bool} : ∀ {m : Nat} {vals : List Int}, ∀ x ∈ solsL s sure m vals, x.length = vals.length + m
  | 0, vals, x, h => by simp [solsL] at h; rw [h]; rfl
  | m + 1, vals, x, h => by
    obtain ⟨a, _, hx⟩ := List.mem_flatMap.1 h
    cases hs : sure (vals ++ [(a : Int)]) <;> rw [hs] at hx
    · simp at hx
    · have := solsL_each x hx
      rw [this]
      simp
      omega
/-- what a listener has been told when it has said no, or all has been told; has it said yes to all? -/
def tellL (go : List (List Int) → Bool) : List (List Int) → List (List Int) → List (List Int) × Bool
  | told, [] => (told, true)
  | told, x :: r => if go (told ++ [x]) then tellL go (told ++ [x]) r else (told ++ [x], false)
section
variable {go : List (List Int) → Bool} {told xs ys : List (List Int)} {x : List Int}
theorem tellL_nil : tellL go told [] = (told, true) := rfl
theorem tellL_one : tellL go told [x] = (told ++ [x], go (told ++ [x])) := by
  simp only [tellL]
  cases go (told ++ [x]) <;> rfl
theorem tellL_append : ∀ {xs told : List (List Int)}, tellL go told (xs ++ ys) = if (tellL go told xs).2 then tellL go (tellL go told xs).1 ys else tellL go told xs
  | [], told => by simp [tellL]
  | x :: r, told => by
    simp only [List.cons_append, tellL]
    by_cases hg : go (told ++ [x]) = true
    · simp only [if_pos hg]
      exact tellL_append (xs := r) (told := told ++ [x])
    · simp [hg]
theorem tellL_yes (h : (tellL go told xs).2 = true) : tellL go told (xs ++ ys) = tellL go (tellL go told xs).1 ys := by rw [tellL_append, if_pos h]
theorem tellL_no (h : (tellL go told xs).2 = false) : tellL go told (xs ++ ys) = tellL go told xs := by rw [tellL_append, if_neg (by simp [h])]
theorem tellL_stop (h : (tellL go told xs).2 = false) (hy : ∃ r, ys = xs ++ r) : tellL go told ys = tellL go told xs := by
  obtain ⟨r, rfl⟩ := hy
  exact tellL_no h
end
/-- a listener that always says yes is told all -/
theorem tellL_all : ∀ {xs told : List (List Int)}, tellL (fun _ => true) told xs = (told ++ xs, true)
  | [], told => by simp [tellL]
  | x :: r, told => by simp only [tellL, if_pos]; rw [tellL_all]; simp
/-- a listener that never says yes is told one -/
theorem tellL_first {told : List (List Int)} : ∀ {xs : List (List Int)}, tellL (fun _ => false) told xs = match xs with | [] => (told, true) | x :: _ => (told ++ [x], false)
  | [] => rfl
  | _ :: _ => rfl
/-- a listener that says yes as long as it has been told at most n -/
theorem tellL_most {n : Nat} : ∀ {xs told : List (List Int)}, told.length ≤ n → tellL (fun l => decide (l.length ≤ n)) told xs = ((told ++ xs).take (n + 1), decide ((told ++ xs).length ≤ n))
  | [], told, h => by
    simp only [tellL, List.append_nil]
    rw [List.take_of_length_le (by omega), decide_eq_true h]
  | x :: r, told, h => by
    simp only [tellL]
    by_cases hl : (told ++ [x]).length ≤ n
    · rw [if_pos (decide_eq_true hl), tellL_most hl]
      simp
    · rw [if_neg (by simpa using hl)]
      have h1 : told.length = n := by simp at hl; omega
      refine Prod.ext ?_ ?_
      · rw [List.take_append, List.take_of_length_le (by omega), h1]
        simp
      · simp
        omega
/-- the first ones, as many as a list may hold -/
theorem take_app {α : Type} {n : Nat} {a b : List α} : ((a.take n) ++ b).take n = (a ++ b).take n := by
  rw [List.take_append, List.take_append, List.take_take, Nat.min_self, List.length_take]
  congr 2
  omega
theorem sumL_bd {α : Type} {f : α → Int} {c : Int} : ∀ {xs : List α}, (∀ x ∈ xs, f x ≤ c) → sumL f xs ≤ xs.length * c
  | [], _ => by simp [sumL]
  | x :: r, h => by
    have h1 := h x (List.mem_cons_self ..)
    have h2 := sumL_bd (xs := r) fun y hy => h y (List.mem_cons_of_mem _ hy)
    have e : sumL f (x :: r) = f x + sumL f r := rfl
    rw [e, List.length_cons, show ((r.length + 1 : Nat) : Int) = (r.length : Int) + 1 by omega, Int.add_mul]
    omega
end Go.Proofs.Ytepebfpgmnidnaa
