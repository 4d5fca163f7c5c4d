/-
Plain mathematics: the lists of tuples that a finder of operations looks at; which are due at each place; whether they go.
Plain mathematics of the search: the lists of values that begin with some and go all the way, in order; what a listener is told of them. No program is named here.
Readings that avoid some blocks; a search's own data; what a listener keeps and touches; an append to a full row. No program is named here.
A row of rows whose elements point into older memory, built by appends to its own elements; what it reads as. No program is named here.
Memory of a search for operations: blocks that may be written, as a property; rows whose data lie in such blocks; a row cut short; rows of truth values; pointers to sets. No program is named here.
Contracts: a finder's data; whether what is due goes.
-/
import Derived.Test.YthjafhjghjbdmaaGreatQAA
import Derived.Test.YthjafhjghjbdmaaGreatQAE
import Derived.Test.YthjafhjghjbdmaaGreatQAD
namespace Go.Proofs.YthjafhjghjbdmaaGreat
open Go.RowKit Go.Sort
abbrev Tpl := Int × List (Int × List (List Int))
/-- the places of the values of a list of tuples -/
def cellsL (s : Int) (ar : Nat) (r : Int × List (List Int)) (i : Int) : List Int := (List.range r.1.toNat).map fun p => idxL s 0 (colL (picks r.2 ar i) p)
theorem cells_len {s : Int} {ar : Nat} {r : Int × List (List Int)} {i : Int} : (cellsL s ar r i).length = r.1.toNat := by simp [cellsL]
/-- the first j lists of a relation -/
def looksR (s : Int) (ar : Nat) (k : Nat) (r : Int × List (List Int)) (j : Nat) : List (Int × List Int) := (List.range j).map fun i : Nat => ((k : Int), cellsL s ar r i)
theorem looksR_zero {s : Int} {ar k : Nat} {r : Int × List (List Int)} : looksR s ar k r 0 = [] := rfl
theorem looksR_succ {s : Int} {ar k : Nat} {r : Int × List (List Int)} {j : Nat} : looksR s ar k r (j + 1) = looksR s ar k r j ++ [((k : Int), cellsL s ar r j)] := by simp [looksR, List.range_succ]
theorem looksR_len {s : Int} {ar k : Nat} {r : Int × List (List Int)} {j : Nat} : (looksR s ar k r j).length = j := by simp [looksR]
def powN (n ar : Nat) : Nat := n ^ ar
theorem powN_cast {n ar : Nat} : ((powN n ar : Nat) : Int) = (n : Int) ^ ar := by unfold powN; exact Int.natCast_pow n ar
/-- those of the first k relations -/
def looksT (t : Tpl) (ar : Nat) (k : Nat) : List (Int × List Int) := (List.range k).flatMap fun q => looksR t.1 ar q (relAt t (q : Int)) (powN (relAt t (q : Int)).2.length ar)
theorem looksT_zero {t : Tpl} {ar : Nat} : looksT t ar 0 = [] := rfl
theorem looksT_succ {t : Tpl} {ar k : Nat} : looksT t ar (k + 1) = looksT t ar k ++ looksR t.1 ar k (relAt t (k : Int)) (powN (relAt t (k : Int)).2.length ar) := by simp [looksT, List.range_succ]
def looksA (t : Tpl) (ar : Nat) : List (Int × List Int) := looksT t ar t.2.length
/-- those that are due at a place -/
def dueF (ats : List (Int × List Int)) (v : Nat) : List (Int × List Int) := ats.filter fun a => topI a.2 == (v : Int)
def duesF (ats : List (Int × List Int)) (n : Nat) : List (List (Int × List Int)) := (List.range n).map (dueF ats)
theorem duesF_len {ats : List (Int × List Int)} {n : Nat} : (duesF ats n).length = n := by simp [duesF]
theorem duesF_get {ats : List (Int × List Int)} {n k : Nat} (h : k < (duesF ats n).length) : (duesF ats n)[k] = dueF ats k := by simp [duesF]
theorem dueF_nil {v : Nat} : dueF [] v = [] := rfl
theorem dueF_yes {ats : List (Int × List Int)} {a : Int × List Int} {v : Nat} (h : topI a.2 = (v : Int)) : dueF (ats ++ [a]) v = dueF ats v ++ [a] := by
  unfold dueF
  rw [List.filter_append]
  simp [h]
theorem dueF_no {ats : List (Int × List Int)} {a : Int × List Int} {v : Nat} (h : topI a.2 ≠ (v : Int)) : dueF (ats ++ [a]) v = dueF ats v := by
  unfold dueF
  rw [List.filter_append]
  simp [h]
/-- does what is due go? -/
noncomputable def goesF (t : Tpl) (due : List (List (Int × List Int))) (vals : List Int) : Bool := !anyB (fun a => !tb (holdsC t vals a)) (due.getD (vals.length - 1) [])
theorem goesF_at {t : Tpl} {due : List (List (Int × List Int))} {vals : List Int} {k : Nat} (h : vals.length = k + 1) (hk : k < due.length) : goesF t due vals = !anyB (fun a => !tb (holdsC t vals a)) due[k] := by
  unfold goesF
  rw [h, Nat.add_sub_cancel, List.getD_eq_getElem?_getD, List.getElem?_eq_getElem hk]
  rfl
theorem noneB_any {α : Type} {p : α → Bool} {xs : List α} (h : noneB p xs) : anyB p xs = false := by
  unfold anyB
  rw [List.any_eq_false]
  intro x hx
  rw [h x hx]
  decide
theorem any_at {α : Type} {p : α → Bool} {xs : List α} {k : Nat} (h : k < xs.length) (hp : p xs[k] = true) : anyB p xs = true := by
  unfold anyB
  rw [List.any_eq_true]
  exact ⟨_, List.getElem_mem h, hp⟩
theorem atL_at {l ps : List Int} {k j : Nat} (hk : k < ps.length) (hj : ps[k] = (j : Int)) (hl : j < l.length) : (atL l ps)[k]'(by rw [atL_len]; exact hk) = l[j] := by
  simp [atL, hj, hl]
/-- a list is right: of a relation, with so many places as its tuples have -/
def lookOk (t : Tpl) (N : Nat) (a : Int × List Int) : Prop := ∃ k : Nat, a.1 = (k : Int) ∧ ∃ h : k < t.2.length, a.2.length = (t.2[k]).1.toNat ∧ ∀ p ∈ a.2, 0 ≤ p ∧ p < (N : Int)
def ldueOk (t : Tpl) (due : List (List (Int × List Int))) : Prop := ∀ k (h : k < due.length), ∀ a ∈ due[k], lookOk t due.length a ∧ ∀ p ∈ a.2, 0 ≤ p ∧ p < (k : Int) + 1
theorem duesF_ok {t : Tpl} {n : Nat} {ats : List (Int × List Int)} (h : ∀ a ∈ ats, lookOk t n a) : ldueOk t (duesF ats n) := fun k hk a ha => by
  rw [duesF_get hk] at ha
  rw [duesF_len]
  obtain ⟨ha, ht⟩ := List.mem_filter.1 ha
  have h1 := h a ha
  refine ⟨h1, fun p hp => ?_⟩
  have h2 := topI_ge hp
  obtain ⟨_, _, _, _, h4⟩ := h1
  have h3 := h4 p hp
  have : topI a.2 = (k : Int) := by simpa using ht
  omega
theorem cells_in {s : Int} {ar N : Nat} {r : Int × List (List Int)} {i : Int} (hs : 1 ≤ s) (hr : relOk s r) (h0 : 0 < r.2.length) (hN : s ^ ar = N) : ∀ p ∈ cellsL s ar r i, 0 ≤ p ∧ p < (N : Int) := fun p hp => by
  obtain ⟨q, hq, rfl⟩ := List.mem_map.1 hp
  have hq' : q < r.1.toNat := by simpa using hq
  have htu : tupsOk s (ar : Int) r.1.toNat (picks r.2 ar i) := by
    refine ⟨by rw [picks_len], fun u hu => ?_⟩
    obtain ⟨k, hk, rfl⟩ := List.mem_map.1 hu
    have hk2 := dig_mem (n := (r.2.length : Int)) (by omega) hk
    have hkl : k.toNat < r.2.length := by omega
    rw [List.getD_eq_getElem?_getD, List.getElem?_eq_getElem hkl]
    obtain ⟨h1, h2⟩ := (hr.2.2 k.toNat hkl).1
    have := hr.2.1
    exact ⟨by show (r.2[k.toNat]).length = r.1.toNat; omega, h2⟩
  have h1 := colL_in htu hq'
  have h2 := idx_lt hs (xs := colL (picks r.2 ar i) q) (m := ar) (by rw [colL_len, picks_len]) h1
  omega
theorem look_ok {t : Tpl} {ar N k : Nat} (hT : tplOk t) (hN : t.1 ^ ar = N) (hk : k < t.2.length) (h0 : 0 < (t.2[k]).2.length) (i : Int) : lookOk t N ((k : Int), cellsL t.1 ar t.2[k] i) := by
  have hs := hT.1
  unfold sizeOk at hs
  exact ⟨k, rfl, hk, by rw [cells_len], cells_in (by omega) (hT.2.2 _ (List.getElem_mem hk)) h0 hN⟩
theorem looksA_ok {t : Tpl} {ar N : Nat} (hT : tplOk t) (hN : t.1 ^ ar = N) (har : 1 ≤ ar) : ∀ k, k ≤ t.2.length → ∀ a ∈ looksT t ar k, lookOk t N a
  | 0, _, a, ha => by simp [looksT] at ha
  | k + 1, hk, a, ha => by
    rw [looksT_succ] at ha
    rcases List.mem_append.1 ha with ha | ha
    · exact looksA_ok hT hN har k (by omega) a ha
    · rw [relAt_nat (show k < t.2.length by omega)] at ha
      obtain ⟨i, hi, rfl⟩ := List.mem_map.1 ha
      refine look_ok hT hN (by omega) ?_ _
      rcases Nat.eq_zero_or_pos (t.2[k]).2.length with h | h
      · rw [h] at hi
        unfold powN at hi
        rw [Nat.zero_pow (by omega)] at hi
        simp at hi
      · exact h
/-- how many lists there are; too many? -/
def manyF (t : Tpl) (ar : Nat) : Int := sumL (fun r : Int × List (List Int) => (r.2.length : Int) ^ ar) t.2
def limF (t : Tpl) (ar : Nat) : Bool := decide (4000 < manyF t ar)
theorem pow0 {n ar : Nat} : (0 : Int) ≤ (n : Int) ^ ar := pow_nn (by omega) ar
theorem sumL_min {α : Type} {f : α → Int} {c : Int} (hc : 0 ≤ c) (hf : ∀ x, 0 ≤ f x) : ∀ xs : List α, (sumL (fun x => min (c + 1) (f x)) xs ≤ sumL f xs) ∧ (sumL (fun x => min (c + 1) (f x)) xs ≤ c → sumL f xs = sumL (fun x => min (c + 1) (f x)) xs) ∧ 0 ≤ sumL (fun x => min (c + 1) (f x)) xs
  | [] => by simp [sumL]
  | x :: r => by
    obtain ⟨h1, h2, h3⟩ := sumL_min hc hf r
    have := hf x
    simp only [sumL]
    refine ⟨by omega, fun h => ?_, by omega⟩
    have := h2 (by omega)
    omega
theorem lim_min {t : Tpl} {ar : Nat} : decide (4000 < sumL (fun r : Int × List (List Int) => min 4001 ((r.2.length : Int) ^ ar)) t.2) = limF t ar := by
  unfold limF manyF
  obtain ⟨h1, h2, h3⟩ := sumL_min (f := fun r : Int × List (List Int) => (r.2.length : Int) ^ ar) (c := 4000) (by omega) (fun r => pow0) t.2
  rw [show (4000 : Int) + 1 = 4001 from rfl] at h1 h2 h3
  refine decide_eq_decide.2 ⟨fun h => by omega, fun h => ?_⟩
  rcases Int.lt_or_le 4000 (sumL (fun r : Int × List (List Int) => min 4001 ((r.2.length : Int) ^ ar)) t.2) with h' | h'
  · exact h'
  · have := h2 h'; omega
theorem looksT_len {t : Tpl} {ar : Nat} : ∀ k, k ≤ t.2.length → ((looksT t ar k).length : Int) = sumL (fun r : Int × List (List Int) => (r.2.length : Int) ^ ar) (t.2.take k)
  | 0, _ => by simp [looksT, sumL]
  | k + 1, h => by
    rw [looksT_succ, List.length_append, looksR_len, sumL_succ _ (show k < t.2.length by omega), relAt_nat (show k < t.2.length by omega), ← looksT_len k (by omega), ← powN_cast]
    omega
theorem looksA_len {t : Tpl} {ar : Nat} (h : limF t ar = false) : (looksA t ar).length ≤ 4000 := by
  have h1 := looksT_len (t := t) (ar := ar) _ (Nat.le_refl _)
  rw [List.take_length] at h1
  have h2 := of_decide_eq_false h
  unfold manyF at h2
  unfold looksA
  omega
/-- a bound on the lists so far -/
theorem looksT_le {t : Tpl} {ar k : Nat} (h : limF t ar = false) (hk : k ≤ t.2.length) : (looksT t ar k).length ≤ 4000 := by
  have h1 := looksT_len (t := t) (ar := ar) k hk
  have h2 := of_decide_eq_false h
  have h3 := sumL_take_le (f := fun r : Int × List (List Int) => (r.2.length : Int) ^ ar) (fun r => pow0) t.2 k
  unfold manyF at h2
  omega
theorem looksT_le' {t : Tpl} {ar k : Nat} (h : limF t ar = false) (hk : k < t.2.length) : (looksT t ar k).length + powN (t.2[k]).2.length ar ≤ 4000 := by
  have h1 := looksT_le h (show k + 1 ≤ t.2.length by omega)
  rw [looksT_succ, List.length_append, looksR_len, relAt_nat hk] at h1
  exact h1
/-- the truth values of a template's relations -/
def insF (t : Tpl) : List (List Bool) := t.2.map fun r => seenL t.1 (t.1 ^ r.1.toNat).toNat r.2
theorem insF_len {t : Tpl} : (insF t).length = t.2.length := by simp [insF]
theorem insF_get {t : Tpl} {k : Nat} (h : k < t.2.length) (h' : k < (insF t).length) : (insF t)[k] = seenL t.1 (t.1 ^ (t.2[k]).1.toNat).toNat (t.2[k]).2 := by simp [insF]
/-- the places of an operation's table -/
theorem placesN {s : Int} {ar : Int} (hs : 1 ≤ s ∧ s ≤ 4) (har : 1 ≤ ar ∧ ar ≤ 3) : ∃ N : Nat, s ^ ar.toNat = N ∧ 1 ≤ N ∧ N ≤ 64 := by
  obtain ⟨a, ha⟩ : ∃ a : Nat, ar = a := ⟨ar.toNat, by omega⟩
  obtain ⟨q, hq⟩ : ∃ q : Nat, s = q := ⟨s.toNat, by omega⟩
  subst ha; subst hq
  rw [Int.toNat_natCast]
  refine ⟨q ^ a, (Int.natCast_pow q a).symm, Nat.one_le_pow _ _ (by omega), ?_⟩
  rcases (show a = 1 ∨ a = 2 ∨ a = 3 by omega) with rfl | rfl | rfl <;> rcases (show q = 1 ∨ q = 2 ∨ q = 3 ∨ q = 4 by omega) with rfl | rfl | rfl | rfl <;> decide
end Go.Proofs.YthjafhjghjbdmaaGreat
namespace Go.Proofs.YthjafhjghjbdmaaGreat
/-- all lists of m more values that go, in order -/
def solsL (s : Nat) (sure : List Int → Bool) : Nat → List Int → List (List Int)
  | 0, vals => [vals]
  | m + 1, vals => (List.range s).flatMap fun a : Nat => if sure (vals ++ [(a : Int)]) then solsL s sure m (vals ++ [(a : Int)]) else []
/-- those of the first k values at the next place -/
def solsTo (s : Nat) (sure : List Int → Bool) (m : Nat) (vals : List Int) (k : Nat) : List (List Int) :=
  (List.range k).flatMap fun a : Nat => if sure (vals ++ [(a : Int)]) then solsL s sure m (vals ++ [(a : Int)]) else []
section
variable {s m k : Nat} {sure : List Int → Bool} {vals : List Int}
theorem solsL_zero : solsL s sure 0 vals = [vals] := rfl
theorem solsL_succ : solsL s sure (m + 1) vals = solsTo s sure m vals s := rfl
theorem solsTo_zero : solsTo s sure m vals 0 = [] := by simp [solsTo]
theorem solsTo_yes (h : sure (vals ++ [(k : Int)]) = true) : solsTo s sure m vals (k + 1) = solsTo s sure m vals k ++ solsL s sure m (vals ++ [(k : Int)]) := by simp [solsTo, List.range_succ, h]
theorem solsTo_no (h : sure (vals ++ [(k : Int)]) = false) : solsTo s sure m vals (k + 1) = solsTo s sure m vals k := by simp [solsTo, List.range_succ, h]
theorem solsTo_append {s m k : Nat} {sure : List Int → Bool} {vals : List Int} : ∀ {j : Nat}, k ≤ j → ∃ r, solsTo s sure m vals j = solsTo s sure m vals k ++ r
  | 0, h => by
    obtain rfl : k = 0 := by omega
    exact ⟨[], by simp⟩
  | j + 1, h => by
    by_cases e : k = j + 1
    · subst e; exact ⟨[], by simp⟩
    · obtain ⟨r, hr⟩ := solsTo_append (s := s) (m := m) (k := k) (sure := sure) (vals := vals) (j := j) (by omega)
      cases hs : sure (vals ++ [(j : Int)])
      · exact ⟨r, by rw [solsTo_no hs, hr]⟩
      · exact ⟨r ++ solsL s sure m (vals ++ [(j : Int)]), by rw [solsTo_yes hs, hr, List.append_assoc]⟩
end
theorem flat_len {α β : Type} (f : α → List β) (c : Nat) : ∀ {xs : List α}, (∀ x ∈ xs, (f x).length ≤ c) → (xs.flatMap f).length ≤ xs.length * c
  | [], _ => by simp
  | x :: r, h => by
    rw [List.flatMap_cons, List.length_append, List.length_cons, Nat.add_mul]
    have h1 := h x (List.mem_cons_self ..)
    have h2 := flat_len f c (xs := r) fun y hy => h y (List.mem_cons_of_mem _ hy)
    omega
/-- there are not more than that -/
theorem solsL_len {s : Nat} {sure : List Int → Bool} : ∀ {m : Nat} {vals : List Int}, (solsL s sure m vals).length ≤ s ^ m
  | 0, vals => by simp [solsL]
  | m + 1, vals => by
    have h := flat_len (fun a : Nat => if sure (vals ++ [(a : Int)]) then solsL s sure m (vals ++ [(a : Int)]) else []) (s ^ m) (xs := List.range s) fun a _ => by
      cases hs : sure (vals ++ [(a : Int)])
      · simp
      · simpa using solsL_len
    rw [List.length_range] at h
    rw [Nat.pow_succ, Nat.mul_comm]
    exact h
/-- each of them has m values more -/
theorem solsL_each {s : Nat} {sure : List Int → Bool} : ∀ {m : Nat} {vals : List Int}, ∀ x ∈ solsL s sure m vals, x.length = vals.length + m
  | 0, vals, x, h => by simp [solsL] at h; rw [h]; rfl
  | m + 1, vals, x, h => by
    obtain ⟨a, _, hx⟩ := List.mem_flatMap.1 h
    cases hs : sure (vals ++ [(a : Int)]) <;> rw [hs] at hx
    · simp at hx
    · have := solsL_each x hx
      rw [this]
      simp
      omega
/-- what a listener has been told when it has said no, or all has been told; has it said yes to all? -/
def tellL (go : List (List Int) → Bool) : List (List Int) → List (List Int) → List (List Int) × Bool
  | told, [] => (told, true)
  | told, x :: r => if go (told ++ [x]) then tellL go (told ++ [x]) r else (told ++ [x], false)
section
variable {go : List (List Int) → Bool} {told xs ys : List (List Int)} {x : List Int}
theorem tellL_nil : tellL go told [] = (told, true) := rfl
theorem tellL_one : tellL go told [x] = (told ++ [x], go (told ++ [x])) := by
  simp only [tellL]
  cases go (told ++ [x]) <;> rfl
theorem tellL_append : ∀ {xs told : List (List Int)}, tellL go told (xs ++ ys) = if (tellL go told xs).2 then tellL go (tellL go told xs).1 ys else tellL go told xs
  | [], told => by simp [tellL]
  | x :: r, told => by
    simp only [List.cons_append, tellL]
    by_cases hg : go (told ++ [x]) = true
    · simp only [if_pos hg]
      exact tellL_append (xs := r) (told := told ++ [x])
    · simp [hg]
theorem tellL_yes (h : (tellL go told xs).2 = true) : tellL go told (xs ++ ys) = tellL go (tellL go told xs).1 ys := by rw [tellL_append, if_pos h]
theorem tellL_no (h : (tellL go told xs).2 = false) : tellL go told (xs ++ ys) = tellL go told xs := by rw [tellL_append, if_neg (by simp [h])]
theorem tellL_stop (h : (tellL go told xs).2 = false) (hy : ∃ r, ys = xs ++ r) : tellL go told ys = tellL go told xs := by
  obtain ⟨r, rfl⟩ := hy
  exact tellL_no h
end
/-- a listener that always says yes is told all -/
theorem tellL_all : ∀ {xs told : List (List Int)}, tellL (fun _ => true) told xs = (told ++ xs, true)
  | [], told => by simp [tellL]
  | x :: r, told => by simp only [tellL, if_pos]; rw [tellL_all]; simp
/-- a listener that never says yes is told one -/
theorem tellL_first {told : List (List Int)} : ∀ {xs : List (List Int)}, tellL (fun _ => false) told xs = match xs with | [] => (told, true) | x :: _ => (told ++ [x], false)
  | [] => rfl
  | _ :: _ => rfl
/-- a listener that says yes as long as it has been told at most n -/
theorem tellL_most {n : Nat} : ∀ {xs told : List (List Int)}, told.length ≤ n → tellL (fun l => decide (l.length ≤ n)) told xs = ((told ++ xs).take (n + 1), decide ((told ++ xs).length ≤ n))
  | [], told, h => by
    simp only [tellL, List.append_nil]
    rw [List.take_of_length_le (by omega), decide_eq_true h]
  | x :: r, told, h => by
    simp only [tellL]
    by_cases hl : (told ++ [x]).length ≤ n
    · rw [if_pos (decide_eq_true hl), tellL_most hl]
      simp
    · rw [if_neg (by simpa using hl)]
      have h1 : told.length = n := by simp at hl; omega
      refine Prod.ext ?_ ?_
      · rw [List.take_append, List.take_of_length_le (by omega), h1]
        simp
      · simp
        omega
/-- the first ones, as many as a list may hold -/
theorem take_app {α : Type} {n : Nat} {a b : List α} : ((a.take n) ++ b).take n = (a ++ b).take n := by
  rw [List.take_append, List.take_append, List.take_take, Nat.min_self, List.length_take]
  congr 2
  omega
theorem sumL_bd {α : Type} {f : α → Int} {c : Int} : ∀ {xs : List α}, (∀ x ∈ xs, f x ≤ c) → sumL f xs ≤ xs.length * c
  | [], _ => by simp [sumL]
  | x :: r, h => by
    have h1 := h x (List.mem_cons_self ..)
    have h2 := sumL_bd (xs := r) fun y hy => h y (List.mem_cons_of_mem _ hy)
    have e : sumL f (x :: r) = f x + sumL f r := rfl
    rw [e, List.length_cons, show ((r.length + 1 : Nat) : Int) = (r.length : Int) + 1 by omega, Int.add_mul]
    omega
end Go.Proofs.YthjafhjghjbdmaaGreat
namespace Go.Proofs.YthjafhjghjbdmaaGreat
open Go.RowKit
/-- read in blocks for which something is so -/
def Ty.RdP {α : Type} (E : Ty α) (ok : Nat → Prop) (w : World) (cs : List Value) (x : α) : Prop := ∃ fp, E.rd w cs x fp ∧ ∀ k ∈ fp, ok k
section
variable {α : Type} {E : Ty α} {ok ok' : Nat → Prop} {w w' : World} {cs : List Value} {x : α}
theorem Ty.RdP.rd (h : E.RdP ok w cs x) : E.Rd w cs x := let ⟨fp, h, _⟩ := h; ⟨fp, h⟩
theorem Ty.RdP.mono (h : E.RdP ok w cs x) (hk : ∀ k, k < w.heap.size → ok k → ok' k) : E.RdP ok' w cs x := let ⟨fp, h, hf⟩ := h; ⟨fp, h, fun k hk' => hk k (E.lt h k hk') (hf k hk')⟩
theorem Ty.Rd.P (h : E.Rd w cs x) : E.RdP (fun k => k < w.heap.size) w cs x := let ⟨fp, h⟩ := h; ⟨fp, h, E.lt h⟩
theorem Ty.RdP.tch {O : List Nat} (h : E.RdP ok w cs x) (ht : TchF O w w') (hO : ∀ k, k < w.heap.size → ok k → k ∉ O) : E.RdP ok w' cs x :=
  let ⟨fp, h, hf⟩ := h; ⟨fp, E.same h (ht.same fun k hk => ⟨E.lt h k hk, hO k (E.lt h k hk) (hf k hk)⟩), hf⟩
theorem Ty.RdP.below (h : E.RdP ok w cs x) (hb : Below w.heap.size w w') : E.RdP ok w' cs x := h.tch (O := []) (Below.tchF hb []) (fun _ _ _ => List.not_mem_nil)
theorem Ty.rd.below {fp : List Nat} (h : E.rd w cs x fp) (hb : Below w.heap.size w w') : E.rd w' cs x fp := E.same h (Same.below hb (E.lt h))
theorem Ty.rd.tch {fp O : List Nat} (h : E.rd w cs x fp) (ht : TchF O w w') (hO : ∀ k ∈ fp, k ∉ O) : E.rd w' cs x fp := E.same h (ht.same fun k hk => ⟨E.lt h k hk, hO k hk⟩)
end
theorem TchF.then {O O' : List Nat} {a b c : World} (h : TchF O a b) (h' : TchF O' b c) (hO : ∀ k ∈ O', k ∈ O ∨ a.heap.size ≤ k) : TchF O a c :=
  ⟨h'.os.trans h.os, h'.tape.trans h.tape, h'.output.trans h.output, Nat.le_trans h.size h'.size, fun k hk hn => (h'.block k (Nat.lt_of_lt_of_le hk h.size) fun hm => by
    rcases hO k hm with hm | hm
    · exact hn hm
    · omega).trans (h.block k hk hn)⟩
theorem TchF.below {O : List Nat} {a b : World} {B : Nat} (h : TchF O a b) (hB : B ≤ a.heap.size) (hO : ∀ k ∈ O, B ≤ k) : Below B a b :=
  ⟨h.os, h.tape, h.output, h.size, fun k hk => h.block k (Nat.lt_of_lt_of_le hk hB) fun hm => Nat.not_lt.2 (hO k hm) hk⟩
abbrev duesT : Ty (List (List (Int × List Int))) := Ty.slice opsT
/-- a search's data, at block bs: the template, how many variables, the atoms that are due at each -/
def Sv (ok : Nat → Prop) (w : World) (bs : Nat) (t : Int × List (Int × List (List Int))) (vars : Int) (due : List (List (Int × List Int))) : Prop :=
  bs < w.heap.size ∧ ok bs ∧ ∃ v1 v3, w.cell? ⟨bs, 0, none⟩ = some (.int .i64 t.1) ∧ w.cell? ⟨bs, 1, none⟩ = some v1 ∧ w.cell? ⟨bs, 2, none⟩ = some (.int .i64 vars) ∧ w.cell? ⟨bs, 3, none⟩ = some v3 ∧ tplT.RdP ok w [.int .i64 t.1, v1] t ∧ duesT.RdP ok w [v3] due
section
variable {ok ok' : Nat → Prop} {w w' : World} {bs : Nat} {t : Int × List (Int × List (List Int))} {vars : Int} {due : List (List (Int × List Int))}
theorem Sv.tch {O : List Nat} (h : Sv ok w bs t vars due) (ht : TchF O w w') (hO : ∀ k, k < w.heap.size → ok k → k ∉ O) : Sv ok w' bs t vars due := by
  obtain ⟨h1, h2, v1, v3, c0, c1, c2, c3, h3, h4⟩ := h
  have hn := hO bs h1 h2
  exact ⟨Nat.lt_of_lt_of_le h1 ht.size, h2, v1, v3, (ht.cell h1 hn).trans c0, (ht.cell h1 hn).trans c1, (ht.cell h1 hn).trans c2, (ht.cell h1 hn).trans c3, h3.tch ht hO, h4.tch ht hO⟩
theorem Sv.below (h : Sv ok w bs t vars due) (hb : Below w.heap.size w w') : Sv ok w' bs t vars due := h.tch (O := []) (Below.tchF hb []) (fun _ _ _ => List.not_mem_nil)
theorem Sv.mono (h : Sv ok w bs t vars due) (hk : ∀ k, k < w.heap.size → ok k → ok' k) : Sv ok' w bs t vars due := by
  obtain ⟨h1, h2, v1, v3, c0, c1, c2, c3, h3, h4⟩ := h
  exact ⟨h1, hk _ h1 h2, v1, v3, c0, c1, c2, c3, h3.mono hk, h4.mono hk⟩
end
/-- a listener of lists of values: what it keeps (I), and the blocks that it may write (O) -/
structure Yl (P : Program) (g : FuncId) (caps : Array Value) (go : List (List Int) → Bool) (I : List (List Int) → List Nat → World → Prop) : Prop where
  stable : ∀ {told O w w'}, I told O w → Below w.heap.size w w' → I told O w'
  lt : ∀ {told O w}, I told O w → ∀ k ∈ O, k < w.heap.size
  step : ∀ {told O w0 w u x}, I told O w0 → Below w0.heap.size w0 w → intsT.Fr w0.heap.size w [u] x → x.length ≤ 10 → told.length ≤ 2000000 →
    Calls P g (#[u] ++ caps) w fun e w' => e = .returned (.bool (go (told ++ [x]))) ∧ ∃ O', I (told ++ [x]) O' w' ∧ TchF O w w' ∧ ∀ k ∈ O', k ∈ O ∨ w0.heap.size ≤ k
theorem tellL_len {go : List (List Int) → Bool} : ∀ {xs told : List (List Int)}, (tellL go told xs).1.length ≤ told.length + xs.length
  | [], told => by simp [tellL]
  | x :: r, told => by
    simp only [tellL]
    by_cases hg : go (told ++ [x]) = true
    · rw [if_pos hg]
      have := tellL_len (go := go) (xs := r) (told := told ++ [x])
      simp at this ⊢
      omega
    · rw [if_neg hg]
      simp
theorem flatN (n : Nat) : flat (fun _ => []) n = [] := List.eq_nil_iff_forall_not_mem.2 fun x hx => by obtain ⟨_, _, h⟩ := List.mem_flatMap.1 hx; cases h
/-- an append of a number to a row that is full -/
theorem wpList_appFull {P : Program} (w : World) {ops : Array Oper} {rest : List Oper} {o : Oper} {a : Act} {Q : Exit → Act → World → Prop} (hgd : o.guard = none) (s x : Operand) (t e : TypeId) {bytes : Nat}
    (ho : o.op = .call { callee := .builtin .append, args := #[s, x], argTypes := #[t, t] }) (hT : ElT P t e 1 bytes)
    {ad : Option Addr} {n : Nat} {xs : List Int} (hs : a.eval s = .slice ad n n) (hR : intsT.Rd w [.slice ad n n] xs)
    {ad2 : Addr} {c : Nat} {k : Int} (hx : a.eval x = .slice (some ad2) 1 c) (hnews : ∀ j u, [Value.int .i64 k][j]? = some u → w.cell? (ad2.add j) = some u) (hI : I64 k)
    (hlen : n ≤ 1000000) (hby : bytes ≤ 100000)
    (h : ∀ v' w', intsT.Fr w.heap.size w' [v'] (xs ++ [k]) → Below w.heap.size w w' → wpList P ops Q rest (a.put o.dst v') w') : wpList P ops Q (o :: rest) a w := by
  obtain ⟨i, z, ht, hi, hz, hsz, hbt', hzs, hp⟩ := id hT
  obtain ⟨ad', cap', hv, -, hcl, hcell⟩ := ints_ex hR
  obtain ⟨rfl, rfl, rfl⟩ : ad = ad' ∧ n = xs.length ∧ n = cap' := by simpa using hv
  have hlen' : (xs.length + 1) * bytes ≤ 140737488355328 := Nat.le_trans (Nat.mul_le_mul (show xs.length + 1 ≤ 1000000001 by omega) hby) (by decide)
  have hIx : ∀ q (hq : q < xs.length), I64 xs[q] := fun q hq => by
    obtain ⟨b, o, _, _, h5⟩ := hcell (by omega)
    exact (h5 q hq).1
  have key : ∃ v' w', (Builtin.append_ #[t, t] o.type #[.slice ad xs.length xs.length, .slice (some ad2) 1 c]).run P w = .ok v' w' ∧ w'.ownsRow w.heap.size e 1 v' (xs.length + 1) ((xs ++ [k]).map (Value.int .i64)) ∧ Below w.heap.size w w' := by
    have hfit : Builtin.nextslicecap (xs.length + 1) xs.length * i.bytes ≤ 281474976710656 := growslice_fits (by omega) (by rw [hbt']; exact hlen')
    have grown : ∀ old : Nat, (w.drew.alloc (.cells ((xs.map (Value.int .i64)).toArray ++ [Value.int .i64 k].toArray ++ Builtin.zeroCells z.cells (grownCap w (xs.length + 1) old e - (xs.length + 1))) e)).ownsRow w.heap.size e 1
        (.slice (some ⟨w.heap.size, 0, none⟩) (xs.length + 1) (grownCap w (xs.length + 1) old e)) (xs.length + 1) ((xs ++ [k]).map (Value.int .i64)) := by
      intro old
      have hge := grownCap_ge w (xs.length + 1) old e
      refine ⟨by simp, .inr ⟨w.heap.size, _, _, rfl, Nat.le_refl _, heap_alloc_new w.drew _, hge, grownCap_le_maxLen w (xs.length + 1) old e (by unfold maxLen; omega), ?_, ?_⟩⟩
      · simp only [Array.size_append, List.size_toArray, size_zeroCells, hzs, List.length_map, List.length_singleton]
        omega
      · rw [show xs.length + 1 = ((xs.map (Value.int .i64)) ++ [Value.int .i64 k]).length * 1 by simp, Nat.mul_one]
        simp only [Array.toList_append, List.map_append, List.map_cons, List.map_nil, Nat.mul_one]
        exact List.take_left
    have hbel : ∀ ob : Obj, Below w.heap.size w (w.drew.alloc ob) := fun ob => (Below.refl _ w).drew.alloc (by simp) _
    rcases ad with _ | b
    · have h0 : xs.length = 0 := by
        rcases Nat.eq_zero_or_pos xs.length with h0 | h0
        · exact h0
        · obtain ⟨b, o, hb, _⟩ := hcell h0
          cases hb
      obtain rfl : xs = [] := List.eq_nil_of_length_eq_zero h0
      have hr := run_append_nil (P := P) w t o.type e i z ht hi hz ad2 1 c [Value.int .i64 k] (by rw [hsz]; rfl) hnews (by omega) (by omega) (by rw [hbt']; simp only [List.length_nil, Nat.zero_add] at hlen'; omega)
      have hg := grown 0
      refine ⟨_, _, hr, ?_, hbel _⟩
      simpa using hg
    · have holds : ∀ (j : Nat) (v : Value), (xs.map (Value.int .i64))[j]? = some v → w.cell? (b.add j) = some v := by
        intro j u hj
        rw [List.getElem?_map] at hj
        by_cases hjl : j < xs.length
        · rw [List.getElem?_eq_getElem hjl] at hj
          simp only [Option.map_some, Option.some.injEq] at hj
          subst hj
          obtain ⟨b', o', hb, _, h5⟩ := hcell (by omega)
          obtain rfl : b = _ := by simpa using hb
          have := (h5 j hjl).2
          by_cases hj0 : j = 0
          · subst hj0
            simpa [Addr.add] using this
          · simpa [Addr.add, hj0] using this
        · rw [List.getElem?_eq_none (by omega)] at hj
          simp at hj
      have hr := run_append_grow (P := P) w t o.type e i z ht hi hz b xs.length xs.length (xs.map (Value.int .i64)) (by rw [hsz]; simp) holds ad2 1 c [Value.int .i64 k] (by rw [hsz]; rfl) hnews (by omega) (by omega) hfit
      exact ⟨_, _, hr, grown xs.length, hbel _⟩
  obtain ⟨v', w', hr, hown, hb⟩ := key
  have hFr : intsT.Fr w.heap.size w' [v'] (xs ++ [k]) := by
    refine Bl.fr (E := Ty.int) (e := e) (top := w'.heap.size) ⟨(xs ++ [k]).map (Value.int .i64), fun _ => [], by simpa [Ty.int] using hown, fun j hj => ⟨[.int .i64 (xs ++ [k])[j]], ⟨rfl, ?_, rfl⟩, fun q hq => ?_⟩, by rw [flatN]; exact List.nodup_nil, by rw [flatN]; simp, fun g hg => (hown.lt g hg).2, fun b hb => by rw [flatN] at hb; cases hb⟩ (by rw [List.length_append]; unfold capMax; simp only [List.length_singleton]; omega)
    · by_cases hj' : j < xs.length
      · rw [List.getElem_append_left hj']; exact hIx j hj'
      · rw [List.getElem_append_right (by omega)]; simpa using hI
    · obtain rfl : q = 0 := by simpa using hq
      simp only [Ty.int, Nat.mul_one, Nat.add_zero, List.getElem?_map, List.getElem?_eq_getElem hj]
      rfl
  refine wpList_plain hgd fun K hK => ?_
  unfold Oper.wp execOp
  simp only [ho, resolve, invoke, builtin, Sem.run_bind, Sem.run_pure, Result.andThen_ok, List.map_toArray, List.map_cons, List.map_nil, hs, hx, hr]
  exact hK _ _ (h v' w' hFr hb)
end Go.Proofs.YthjafhjghjbdmaaGreat
namespace Go.Proofs.YthjafhjghjbdmaaGreat
open Go.RowKit
theorem slice_exP {α : Type} {E : Ty α} {ok : Nat → Prop} {w : World} {cs : List Value} {xs : List α} (h : (Ty.slice E).RdP ok w cs xs) :
    ∃ ad cap, cs = [.slice ad xs.length cap] ∧ xs.length ≤ cap ∧ xs.length ≤ 140737488351232 ∧
      (0 < xs.length → ∃ b o, ad = some ⟨b, o, none⟩ ∧ b < w.heap.size ∧ ok b ∧ ∀ i (h : i < xs.length), ∃ cs, E.RdP ok w cs xs[i] ∧ ∀ j (hj : j < cs.length), w.cell? ⟨b, o + i * E.sz + j, none⟩ = some cs[j]) := by
  obtain ⟨fp, ⟨ad, cap, rfl, h1, h2, h3⟩, hok⟩ := h
  refine ⟨ad, cap, rfl, h1, h2, fun hp => ?_⟩
  rcases h3 with h3 | ⟨h3, b, o, fps, rfl, hb, rfl, h4⟩
  · omega
  · exact ⟨b, o, rfl, hb, hok b (List.mem_cons_self ..), fun i hi => let ⟨cs, h5, h6⟩ := h4 i hi; ⟨cs, ⟨_, h5, fun k hk => hok k (List.mem_cons_of_mem _ (List.mem_flatMap.2 ⟨i, by simpa using hi, hk⟩))⟩, h6⟩⟩
/-- from its elements -/
theorem slice_mkP {α : Type} {E : Ty α} {ok : Nat → Prop} {w : World} {ad : Option Addr} {n cap : Nat} {xs : List α} (hn : n = xs.length) (h1 : n ≤ cap) (h2 : n ≤ capMax)
    (h : 0 < n → ∃ b o, ad = some ⟨b, o, none⟩ ∧ b < w.heap.size ∧ ok b ∧ ∀ i (h : i < xs.length), ∃ cs, E.RdP ok w cs xs[i] ∧ ∀ j (hj : j < cs.length), w.cell? ⟨b, o + i * E.sz + j, none⟩ = some cs[j]) :
    (Ty.slice E).RdP ok w [.slice ad n cap] xs := by
  subst hn
  rcases Nat.eq_zero_or_pos xs.length with h0 | h0
  · exact ⟨[], ⟨ad, cap, rfl, h1, h2, .inl ⟨h0, rfl⟩⟩, fun k hk => by cases hk⟩
  · obtain ⟨b, o, rfl, hb, hok, he⟩ := h h0
    have key : ∀ i, ∃ cf : List Value × List Nat, ∀ (h : i < xs.length), E.rd w cf.1 xs[i] cf.2 ∧ (∀ k ∈ cf.2, ok k) ∧ ∀ j (hj : j < cf.1.length), w.cell? ⟨b, o + i * E.sz + j, none⟩ = some cf.1[j] := fun i => by
      by_cases hi : i < xs.length
      · obtain ⟨cs, ⟨fp, h3, h4⟩, h5⟩ := he i hi
        exact ⟨(cs, fp), fun _ => ⟨h3, h4, h5⟩⟩
      · exact ⟨([], []), fun h => absurd h hi⟩
    obtain ⟨F, hF⟩ := Classical.axiomOfChoice key
    refine ⟨b :: (List.range xs.length).flatMap fun i => (F i).2, ⟨_, cap, rfl, h1, h2, .inr ⟨h0, b, o, fun i => (F i).2, rfl, hb, rfl, fun i hi => ⟨(F i).1, (hF i hi).1, (hF i hi).2.2⟩⟩⟩, fun k hk => ?_⟩
    rcases List.mem_cons.1 hk with rfl | hk
    · exact hok
    · obtain ⟨i, hi, hk⟩ := List.mem_flatMap.1 hk
      exact (hF i (by simpa using hi)).2.1 k hk
theorem rdP_slice {α : Type} {E : Ty α} {ok : Nat → Prop} {w : World} {u : Value} {x : List α} (h : (Ty.slice E).RdP ok w [u] x) : ∃ ad cap, u = .slice ad x.length cap := rd_slice h.rd
/-- a row of structs: its cells, with what their slices read as -/
theorem pairs_exP {ok : Nat → Prop} {w : World} {u : Value} {xs : List (Int × List Int)} (h : opsT.RdP ok w [u] xs) :
    ∃ ad cap, u = .slice ad xs.length cap ∧ xs.length ≤ cap ∧
      (0 < xs.length → ∃ b o, ad = some ⟨b, o, none⟩ ∧ b < w.heap.size ∧ ∀ i (h : i < xs.length), ∃ v, intsT.RdP ok w [v] xs[i].2 ∧ I64 xs[i].1 ∧
        w.cell? ⟨b, o + i * 2, none⟩ = some (.int .i64 xs[i].1) ∧ w.cell? ⟨b, o + i * 2 + 1, none⟩ = some v) := by
  obtain ⟨ad, cap, h1, h2, h3, h4⟩ := slice_exP h
  refine ⟨ad, cap, by simpa using h1, h2, fun hp => ?_⟩
  obtain ⟨b, o, h5, h6, _, h7⟩ := h4 hp
  refine ⟨b, o, h5, h6, fun i hi => ?_⟩
  obtain ⟨cs, ⟨fp, ⟨cs', rfl, hI, h8⟩, hf⟩, h10⟩ := h7 i hi
  obtain ⟨_, _, rfl, _⟩ := id h8
  exact ⟨_, ⟨_, h8, hf⟩, hI, by simpa [Ty.slice, Ty.cons] using h10 0 (by simp), by simpa [Ty.slice, Ty.cons] using h10 1 (by simp)⟩
/-- what a value of a row's cells reads as -/
def pvR (ok : Nat → Prop) (w : World) (z : (Int × List Int) × (Int × Value)) : Prop := z.2.1 = z.1.1 ∧ I64 z.1.1 ∧ intsT.RdP ok w [z.2.2] z.1.2
theorem pvR.below {ok : Nat → Prop} {w w' : World} {z : (Int × List Int) × (Int × Value)} (h : pvR ok w z) (hb : Below w.heap.size w w') : pvR ok w' z := ⟨h.1, h.2.1, h.2.2.below hb⟩
theorem pvR.mono {ok ok' : Nat → Prop} {w : World} {z : (Int × List Int) × (Int × Value)} (h : pvR ok w z) (hk : ∀ k, k < w.heap.size → ok k → ok' k) : pvR ok' w z := ⟨h.1, h.2.1, h.2.2.mono hk⟩
/-- the pairs of a row's data and its cells -/
theorem vals_of {ok : Nat → Prop} {w : World} {u : Value} {xs : List (Int × List Int)} (h : opsT.RdP ok w [u] xs) :
    ∃ Z : List ((Int × List Int) × (Int × Value)), Z.map (·.1) = xs ∧ (∀ z ∈ Z, pvR ok w z) ∧ Z.length = xs.length ∧
      ∃ ad cap, u = .slice ad xs.length cap ∧ (0 < xs.length → ∃ b o, ad = some ⟨b, o, none⟩ ∧ b < w.heap.size ∧ ∀ i (h : i < Z.length), w.cell? ⟨b, o + i * 2, none⟩ = some (.int .i64 (Z[i]).1.1) ∧ w.cell? ⟨b, o + i * 2 + 1, none⟩ = some (Z[i]).2.2) := by
  obtain ⟨ad, cap, rfl, -, hc⟩ := pairs_exP h
  rcases Nat.eq_zero_or_pos xs.length with h0 | h0
  · refine ⟨[], ?_, fun z hz => (by cases hz), by simp [h0], ad, cap, rfl, fun h => by omega⟩
    rw [List.eq_nil_of_length_eq_zero h0]
    rfl
  · obtain ⟨b, o, rfl, hb, hce⟩ := hc h0
    have key : ∀ i, ∃ v, ∀ (h : i < xs.length), intsT.RdP ok w [v] (xs[i]).2 ∧ I64 (xs[i]).1 ∧ w.cell? ⟨b, o + i * 2, none⟩ = some (.int .i64 (xs[i]).1) ∧ w.cell? ⟨b, o + i * 2 + 1, none⟩ = some v := fun i => by
      by_cases hi : i < xs.length
      · obtain ⟨v, hv⟩ := hce i hi
        exact ⟨v, fun _ => hv⟩
      · exact ⟨undef, fun h => absurd h hi⟩
    obtain ⟨F, hF⟩ := Classical.axiomOfChoice key
    have hl : ((List.range xs.length).map fun i => (xs.getD i (0, []), ((xs.getD i (0, [])).1, F i))).length = xs.length := by simp
    have hg : ∀ i (h : i < ((List.range xs.length).map fun i => (xs.getD i (0, []), ((xs.getD i (0, [])).1, F i))).length) (h' : i < xs.length), ((List.range xs.length).map fun i => (xs.getD i (0, []), ((xs.getD i (0, [])).1, F i)))[i] = (xs[i], ((xs[i]).1, F i)) := fun i h h' => by
      simp [List.getD_eq_getElem?_getD, h']
    refine ⟨(List.range xs.length).map fun i => (xs.getD i (0, []), ((xs.getD i (0, [])).1, F i)), ?_, fun z hz => ?_, hl, _, cap, rfl, fun _ => ⟨b, o, rfl, hb, fun i h => ?_⟩⟩
    · apply List.ext_getElem (by simp)
      intro i h h'
      rw [List.getElem_map, hg i (by simpa using h') h']
    · obtain ⟨i, hi, rfl⟩ := List.mem_iff_getElem.1 hz
      have h' : i < xs.length := by simpa using hi
      rw [hg i hi h']
      exact ⟨rfl, (hF i h').2.1, (hF i h').1⟩
    · have h' : i < xs.length := by simpa using h
      rw [hg i h h']
      exact ⟨(hF i h').2.2.1, (hF i h').2.2.2⟩
/-- a row of these cells reads as the data do -/
theorem ops_of {ok : Nat → Prop} {w : World} {v : Value} {Z : List ((Int × List Int) × (Int × Value))} (h : (Ty.slice pvT).RdP ok w [v] (Z.map (·.2))) (hr : ∀ z ∈ Z, pvR ok w z) : opsT.RdP ok w [v] (Z.map (·.1)) := by
  obtain ⟨ad, cap, hv, h1, h2, h3⟩ := slice_exP h
  obtain rfl : v = _ := by simpa using hv
  have h1' : Z.length ≤ cap := by simpa using h1
  have h2' : Z.length ≤ capMax := by unfold capMax; simpa using h2
  have h3' : 0 < Z.length → _ := fun h => h3 (by simpa using h)
  refine slice_mkP (by simp) h1' h2' fun h0 => ?_
  obtain ⟨b, o, rfl, hb, hok, he⟩ := h3' h0
  refine ⟨b, o, rfl, hb, hok, fun i hi => ?_⟩
  rw [List.length_map] at hi
  obtain ⟨cs, ⟨fp, ⟨cs', rfl, _, rfl, _, _⟩, hf⟩, h6⟩ := he i (by simpa using hi)
  obtain ⟨e1, e2, fq, e3, e4⟩ := hr _ (List.getElem_mem hi)
  simp only [List.getElem_map] at h6 ⊢
  exact ⟨_, ⟨fq, ⟨_, by rw [e1], e2, e3⟩, e4⟩, h6⟩
theorem Bl.ge {α : Type} {E : Ty α} {e base top : Nat} {w : World} {v : Value} {ys : List α} (h : Bl E e base top w v ys) {g : Nat} (hg : v.ownBlock = some g) : base ≤ g := by
  obtain ⟨L, fps, h1, _⟩ := h
  exact (h1.lt g hg).1
theorem Bl.lt_top {α : Type} {E : Ty α} {e base top : Nat} {w : World} {v : Value} {ys : List α} (h : Bl E e base top w v ys) {g : Nat} (hg : v.ownBlock = some g) : g < top := by
  obtain ⟨L, fps, _, _, _, _, h5, _⟩ := h
  exact h5 g hg
theorem grown_cell' {w w' : World} {row : Option Nat} {b i : Nat} (h : w.grownBy w' row) (hlt : b < w.heap.size) (hne : row ≠ some b) : w'.cell? ⟨b, i, none⟩ = w.cell? ⟨b, i, none⟩ := World.cell?_of_block (h.block b hlt fun e => hne e.symm)
theorem grown_tchF {w w' : World} {row : Option Nat} (h : w.grownBy w' row) : TchF row.toList w w' := ⟨h.os, h.tape, h.output, h.size, fun k hk hn => h.block k hk fun e => hn (by rw [← e]; simp)⟩
/-- a datum that does not lie in one block -/
def Ty.off {α : Type} (E : Ty α) (bx : Nat) : Ty α where
  sz := E.sz
  rd := fun w cs x fp => E.rd w cs x fp ∧ bx ∉ fp
  len := fun h => E.len h.1
  same := fun h hs => ⟨E.same h.1 hs, h.2⟩
  lt := fun h => E.lt h.1
  one := fun h => E.one h.1
theorem fr_off {α : Type} {E : Ty α} {bx base : Nat} {w : World} {cs : List Value} {x : α} (h : E.Fr base w cs x) (hb : bx < base) : (E.off bx).Fr base w cs x :=
  let ⟨fp, h1, h2, h3, h4⟩ := h; ⟨fp, ⟨h1, fun hm => by have := h3 bx hm; omega⟩, h2, h3, h4⟩
theorem off_fr {α : Type} {E : Ty α} {bx base : Nat} {w : World} {cs : List Value} {x : List α} (h : (Ty.slice (E.off bx)).Fr base w cs x) : (Ty.slice E).Fr base w cs x := by
  obtain ⟨fp, ⟨ad, cap, h1, h2, h3, h4⟩, h5⟩ := h
  refine ⟨fp, ⟨ad, cap, h1, h2, h3, ?_⟩, h5⟩
  rcases h4 with h4 | ⟨h4, b, o, fps, e1, e2, e3, e4⟩
  · exact .inl h4
  · exact .inr ⟨h4, b, o, fps, e1, e2, e3, fun i hi => let ⟨cs, h6, h7⟩ := e4 i hi; ⟨cs, h6.1, h7⟩⟩
theorem off_same {α : Type} {E : Ty α} {bx e base top : Nat} {w w' : World} {v : Value} {ys : List α} (h : Bl (E.off bx) e base top w v ys) (hv : v.ownBlock ≠ some bx) (hs : ∀ k, k ≠ bx → w'.heap[k]? = w.heap[k]?) : Bl (E.off bx) e base top w' v ys := by
  obtain ⟨L, fps, h1, h2, h3, h4, h5, h6⟩ := h
  have hne : ∀ b ∈ flat fps ys.length, b ≠ bx := by
    intro b hb he
    obtain ⟨i, hi, hb⟩ := List.mem_flatMap.1 hb
    obtain ⟨cs, h7, _⟩ := h2 i (by simpa using hi)
    rw [he] at hb
    exact h7.2 hb
  have hS : Same (flat fps ys.length) w w' := fun k hk => hs k (hne k hk)
  refine ⟨L, fps, ⟨h1.1, ?_⟩, fun i hi => ?_, h3, h4, h5, h6.same hS⟩
  · rcases h1.2 with h | ⟨g, cap, cur, rfl, hg, hh, r⟩
    · exact .inl h
    · exact .inr ⟨g, cap, cur, rfl, hg, by rw [hs g (fun e => hv (by rw [e]; rfl))]; exact hh, r⟩
  · obtain ⟨cs, h7, h8⟩ := h2 i hi
    exact ⟨cs, (E.off bx).same h7 (fun k hk => hS k (List.mem_flatMap.2 ⟨i, by simpa using hi, hk⟩)), h8⟩
theorem pv_same {e base top top' : Nat} {w w' : World} {v : Value} {ys : List (Int × Value)} (h : Bl pvT e base top w v ys) (hs : ∀ b, v.ownBlock = some b → w'.heap[b]? = w.heap[b]?) (ht : top ≤ top') : Bl pvT e base top' w' v ys := by
  obtain ⟨L, fps, h1, h2, h3, h4, h5, h6⟩ := h
  have hnil : ∀ b, b ∉ flat fps ys.length := by
    intro b hb
    obtain ⟨i, hi, hb⟩ := List.mem_flatMap.1 hb
    obtain ⟨cs, ⟨cs', _, _, _, _, hf⟩, _⟩ := h2 i (by simpa using hi)
    rw [hf] at hb
    cases hb
  refine ⟨L, fps, ⟨h1.1, ?_⟩, fun i hi => ?_, h3, fun b hb => absurd hb (hnil b), fun g hg => Nat.lt_of_lt_of_le (h5 g hg) ht, fun b hb => absurd hb (hnil b)⟩
  · rcases h1.2 with h | ⟨g, cap, cur, rfl, hg, hh, r⟩
    · exact .inl h
    · exact .inr ⟨g, cap, cur, rfl, hg, by rw [hs g rfl]; exact hh, r⟩
  · obtain ⟨cs, h7, h8⟩ := h2 i hi
    exact ⟨cs, h7, h8⟩
/-- a row of n rows at block g: its cells are us; each is a row of the call's own, from base on, and no two share a block -/
def DU (eA eR base top : Nat) (w : World) (g n : Nat) (us : Nat → Value) (Ls : Nat → List (Int × Value)) : Prop :=
  w.ownsRow g eR 1 (.slice (some ⟨g, 0, none⟩) n n) n ((List.range n).map us) ∧ g < base ∧ (∀ v, v < n → Bl pvT eA base top w (us v) (Ls v)) ∧ ∀ v, v < n → ∀ b, (us v).ownBlock = some b → ∀ v', v' < n → v' ≠ v → (us v').ownBlock ≠ some b
section
variable {eA eR base top g n : Nat} {w w' : World} {us : Nat → Value} {Ls : Nat → List (Int × Value)}
theorem owns_same {b e sz : Nat} {g n cap : Nat} {xs : List Value} (h : w.ownsRow b e sz (.slice (some ⟨g, 0, none⟩) n cap) n xs) (hs : w'.heap[g]? = w.heap[g]?) : w'.ownsRow b e sz (.slice (some ⟨g, 0, none⟩) n cap) n xs := by
  refine ⟨h.1, ?_⟩
  rcases h.2 with h | ⟨g', cap, cur, hg', hg, hh, r⟩
  · exact .inl h
  · simp only [Value.slice.injEq, Option.some.injEq, Addr.mk.injEq, and_true, true_and] at hg'
    obtain ⟨rfl, rfl⟩ := hg'
    exact .inr ⟨g, _, cur, rfl, hg, by rw [hs]; exact hh, r⟩
theorem DU.nils {eA' base' top' : Nat} (h : DU eA eR base top w g n (fun _ => .slice none 0 0) (fun _ => [])) (hb : g < base') (hs : w'.heap[g]? = w.heap[g]?) : DU eA' eR base' top' w' g n (fun _ => .slice none 0 0) (fun _ => []) :=
  ⟨owns_same h.1 hs, hb, fun v _ => Bl.nil, fun v _ b hb => by simp [Value.ownBlock] at hb⟩
theorem DU.lt (h : DU eA eR base top w g n us Ls) : g < w.heap.size := (h.1.lt g rfl).2
theorem DU.cell (h : DU eA eR base top w g n us Ls) {j : Nat} (hj : j < n) : w.cell? ⟨g, j, none⟩ = some (us j) := by
  rw [World.ownsRow.cellAt h.1 j (by omega)]
  simp [hj]
theorem DU.free (h : DU eA eR base top w g n us Ls) (j : Nat) : w.frozen? ⟨g, j, none⟩ = false := World.ownsRow.frozenAt h.1 j
theorem DU.below {B : Nat} (h : DU eA eR base top w g n us Ls) (hb : Below B w w') (ht : top ≤ B) (hB : base ≤ B) : DU eA eR base top w' g n us Ls :=
  ⟨owns_same h.1 (hb.block g (by have := h.2.1; omega)), h.2.1, fun v hv => (h.2.2.1 v hv).below hb ht, h.2.2.2⟩
theorem DU.mono {top' : Nat} (h : DU eA eR base top w g n us Ls) (ht : top ≤ top') : DU eA eR base top' w g n us Ls := ⟨h.1, h.2.1, fun v hv => (h.2.2.1 v hv).mono ht, h.2.2.2⟩
theorem DU.push {l : Nat} {v1 : Value} {y : Int × Value} (h : DU eA eR base top w g n us Ls) (hl : l < n) (hB : Bl pvT eA base w'.heap.size w' v1 (Ls l ++ [y])) (hg : w.grownBy w' (us l).ownBlock) (hv : v1.ownBlock = (us l).ownBlock ∨ v1.ownBlock = some w.heap.size) (ht : top ≤ w.heap.size) :
    DU eA eR base w'.heap.size (w'.setCell ⟨g, l, none⟩ v1) g n (fun v => if v = l then v1 else us v) (fun v => if v = l then Ls l ++ [y] else Ls v) := by
  obtain ⟨h1, h2, h3, h4⟩ := h
  have hbl : (us l).ownBlock ≠ some g := fun e => by have := (h3 l hl).ge e; omega
  have hgl := (h1.lt g rfl).2
  have hg' : w'.heap[g]? = w.heap[g]? := hg.block g hgl (fun e => hbl e.symm)
  have hset : ∀ b, b ≠ g → (w'.setCell ⟨g, l, none⟩ v1).heap[b]? = w'.heap[b]? := fun b hb => Below.heap_setCell w' ⟨g, l, none⟩ v1 b hb
  refine ⟨?_, h2, fun v hv' => ?_, fun v hv' b hb v' hv2 hne => ?_⟩
  · have h5 := ((owns_same h1 hg').stored l v1).1
    have e : ((List.range n).map us).set l v1 = (List.range n).map (fun v => if v = l then v1 else us v) := by
      apply List.ext_getElem (by simp)
      intro i hi hi'
      rw [List.getElem_set]
      simp only [List.getElem_map, List.getElem_range]
      by_cases e : l = i
      · subst e; simp
      · rw [if_neg e, if_neg (fun h => e h.symm)]
    rw [← e]
    exact h5
  · by_cases e : v = l
    · subst e
      simp only [if_pos]
      exact pv_same hB (fun b hb => hset b (by have := hB.ge hb; omega)) (Nat.le_refl _)
    · simp only [if_neg e]
      refine pv_same (h3 v hv') (fun b hb => ?_) (Nat.le_trans ht hg.size)
      have hbl := (h3 v hv').ge hb
      have hbt : b < w.heap.size := by
        obtain ⟨L, fps, _, _, _, _, h5, _⟩ := h3 v hv'
        exact Nat.lt_of_lt_of_le (h5 b hb) ht
      rw [hset b (by omega)]
      exact hg.block b hbt (fun he => h4 v hv' b hb l hl (fun h => e h.symm) he.symm)
  · have hbt : ∀ u b, u < n → (us u).ownBlock = some b → b < w.heap.size := fun u b hu hb => by
      obtain ⟨L, fps, _, _, _, _, h5, _⟩ := h3 u hu
      exact Nat.lt_of_lt_of_le (h5 b hb) ht
    by_cases e : v = l
    · subst e
      simp only [if_pos] at hb
      simp only [if_neg hne]
      rcases hv with hv | hv
      · rw [hv] at hb; exact h4 v hv' b hb v' hv2 hne
      · rw [hv] at hb
        intro he
        have := hbt v' b hv2 he
        simp at hb
        omega
    · simp only [if_neg e] at hb
      by_cases e' : v' = l
      · subst e'
        simp only [if_pos]
        rcases hv with hv | hv
        · rw [hv]; exact h4 v hv' b hb v' hv2 hne
        · rw [hv]
          intro he
          have := hbt v b hv' hb
          simp at he
          omega
      · simp only [if_neg e']
        exact h4 v hv' b hb v' hv2 hne
end
/-- what it reads as -/
theorem dues_of {eA eR base top g n : Nat} {w : World} {us : Nat → Value} {ok : Nat → Prop} {Zs : Nat → List ((Int × List Int) × (Int × Value))} (h : DU eA eR base top w g n us (fun v => (Zs v).map (·.2))) (hn : n ≤ capMax) (hl : ∀ v, v < n → (Zs v).length ≤ capMax)
    (hr : ∀ v, v < n → ∀ z ∈ Zs v, pvR ok w z) (hg : ok g) (hb : ∀ k, base ≤ k → k < w.heap.size → ok k) : duesT.RdP ok w [.slice (some ⟨g, 0, none⟩) n n] ((List.range n).map fun v => (Zs v).map (·.1)) := by
  refine slice_mkP (by simp) (Nat.le_refl _) hn fun _ => ⟨g, 0, rfl, h.lt, hg, fun i hi => ?_⟩
  have hi' : i < n := by simpa using hi
  refine ⟨[us i], ?_, fun j hj => ?_⟩
  · rw [List.getElem_map, List.getElem_range]
    obtain ⟨fp, h1, -, h3, -⟩ := (h.2.2.1 i hi').fr (by rw [List.length_map]; exact hl i hi')
    exact ops_of ⟨fp, h1, fun k hk => hb k (h3 k hk) (Ty.lt _ h1 k hk)⟩ (hr i hi')
  · obtain rfl : j = 0 := by simpa using hj
    have := h.cell hi'
    simpa [Ty.slice] using this
/-- a make of n rows, in a region -/
theorem step_mkN {P : Program} {K : Act → World → Prop} {Ee : Prop} (w : World) {ops : Array Oper} {o : Oper} {a : Act} {Q : Exit → Act → World → Prop} (hg : o.guard = none) (l c : Operand) (t e : TypeId) {bytes : Nat}
    (hop : o.op = Op.makeSlice t l c) (ht : P.underlying t = some (.slice e)) (hinfo : (P.info? e).map (fun i => (i.zero, i.size, i.bytes)) = some (some (.slice none 0 0), 1, bytes)) (n : Nat) (hl : a.eval l = .int .i64 (n : Int)) (hc : a.eval c = .int .i64 (n : Int)) (hn : n ≤ 1000000000) (hby : bytes ≤ 100000)
    (hK : ∀ w', (∀ eA base top, w.heap.size < base → DU eA e base top w' w.heap.size n (fun _ => .slice none 0 0) (fun _ => [])) → Below w.heap.size w w' → w'.heap.size = w.heap.size + 1 → K (a.put o.dst (.slice (some ⟨w.heap.size, 0, none⟩) n n)) w') :
    if Region.wanted o (yielded ops a.tmps) = true then Oper.wp P o a w K Q else Ee := by
  rw [if_pos (by simp [Region.wanted, hg])]
  obtain ⟨i, hi, hz, hsz, hbt'⟩ := info_parts hinfo
  have hlen' : bytes * n ≤ 281474976710656 := Nat.le_trans (Nat.mul_le_mul hby hn) (by decide)
  have hb48 : (i.bytes : Int) * (n : Int) ≤ 281474976710656 := by
    have h : ((bytes * n : Nat) : Int) ≤ 281474976710656 := by omega
    rw [hbt']
    rwa [Int.natCast_mul] at h
  have hr := run_make (P := P) w t e i (.slice none 0 0) ht hi hz .i64 .i64 (n : Int) (n : Int) (by omega) (Int.le_refl _) hb48 (by omega)
  simp only [Int.toNat_natCast] at hr
  unfold Oper.wp
  simp only [execOp, hop, hl, hc, hr, Result.andThen_ok, Sem.run_bind, Sem.run_pure]
  have hown := World.ownsRow_lit (base := w.heap.size) (e := e) (size := 1) w (madeCells (Value.slice none 0 0).cells (n * i.size)) n (Nat.le_refl _) (by unfold maxLen; omega) (by rw [size_madeCells, hsz])
  have e1 : (madeCells (Value.slice none 0 0).cells (n * i.size)).toList = (List.range n).map (fun _ => Value.slice none 0 0) := by
    rw [hsz, Nat.mul_one]
    have hc0 : (Value.slice none 0 0).cells = #[.slice none 0 0] := by simp [Value.cells]
    rw [hc0, toList_madeCells_one, List.map_const', List.length_range]
  rw [e1] at hown
  exact hK _ (fun eA base top hb => ⟨hown, hb, fun v _ => Bl.nil, fun v _ b hb => by simp [Value.ownBlock] at hb⟩) ((Below.refl _ w).alloc (Nat.le_refl _) _) (by simp)
end Go.Proofs.YthjafhjghjbdmaaGreat
namespace Go.Proofs.YthjafhjghjbdmaaGreat
open Go.RowKit
/-- only blocks of which O holds are written, and new ones -/
structure TchP (O : Nat → Prop) (w w' : World) : Prop where
  os : w'.os = w.os
  tape : w'.tape = w.tape
  output : w'.output = w.output
  size : w.heap.size ≤ w'.heap.size
  block : ∀ k, k < w.heap.size → ¬ O k → w'.heap[k]? = w.heap[k]?
section
variable {O O' : Nat → Prop} {w w' w'' : World}
theorem TchP.refl (O : Nat → Prop) (w : World) : TchP O w w := ⟨rfl, rfl, rfl, Nat.le_refl _, fun _ _ _ => rfl⟩
theorem TchP.of_below (h : Below w.heap.size w w') (O : Nat → Prop) : TchP O w w' := ⟨h.os, h.tape, h.output, h.size, fun k hk _ => h.block k hk⟩
theorem TchP.then (h : TchP O w w') (h' : TchP O' w' w'') (hO : ∀ k, k < w.heap.size → O' k → O k) : TchP O w w'' :=
  ⟨h'.os.trans h.os, h'.tape.trans h.tape, h'.output.trans h.output, Nat.le_trans h.size h'.size, fun k hk hn => (h'.block k (Nat.lt_of_lt_of_le hk h.size) fun hm => hn (hO k hk hm)).trans (h.block k hk hn)⟩
theorem TchP.mono (h : TchP O w w') (hO : ∀ k, k < w.heap.size → O k → O' k) : TchP O' w w' := ⟨h.os, h.tape, h.output, h.size, fun k hk hn => h.block k hk fun hm => hn (hO k hk hm)⟩
theorem TchP.below {B : Nat} (h : TchP O w w') (hB : B ≤ w.heap.size) (hO : ∀ k, k < B → ¬ O k) : Below B w w' := ⟨h.os, h.tape, h.output, h.size, fun k hk => h.block k (Nat.lt_of_lt_of_le hk hB) (hO k hk)⟩
theorem TchP.cell (h : TchP O w w') {b i : Nat} (hb : b < w.heap.size) (hn : ¬ O b) : w'.cell? ⟨b, i, none⟩ = w.cell? ⟨b, i, none⟩ := World.cell?_of_block (a := ⟨b, i, none⟩) (h.block b hb hn)
theorem TchP.frozen (h : TchP O w w') {b i : Nat} (hb : b < w.heap.size) (hn : ¬ O b) : w'.frozen? ⟨b, i, none⟩ = w.frozen? ⟨b, i, none⟩ := World.frozen?_of_block (a := ⟨b, i, none⟩) (h.block b hb hn)
theorem TchP.set {b i : Nat} {v : Value} (hO : O b) : TchP O w (w.setCell ⟨b, i, none⟩ v) := ⟨rfl, rfl, rfl, by simp [World.setCell], fun k _ hn => Below.heap_setCell _ _ _ _ fun e => hn (by simp at e; rw [e]; exact hO)⟩
theorem TchP.grown {row : Option Nat} (h : w.grownBy w' row) (hO : ∀ k, row = some k → O k) : TchP O w w' := ⟨h.os, h.tape, h.output, h.size, fun k hk hn => h.block k hk fun e => hn (hO k e.symm)⟩
theorem Ty.RdP.tchP {α : Type} {E : Ty α} {ok : Nat → Prop} {cs : List Value} {x : α} (h : E.RdP ok w cs x) (ht : TchP O w w') (hO : ∀ k, k < w.heap.size → ok k → ¬ O k) : E.RdP ok w' cs x :=
  let ⟨fp, h, hf⟩ := h; ⟨fp, E.same h (fun k hk => ht.block k (E.lt h k hk) (hO k (E.lt h k hk) (hf k hk))), hf⟩
theorem pvR.tchP {ok : Nat → Prop} {z : (Int × List Int) × (Int × Value)} (h : pvR ok w z) (ht : TchP O w w') (hO : ∀ k, k < w.heap.size → ok k → ¬ O k) : pvR ok w' z := ⟨h.1, h.2.1, h.2.2.tchP ht hO⟩
end
/-- a datum that lies in blocks of which O holds -/
def Ty.on {α : Type} (E : Ty α) (O : Nat → Prop) : Ty α where
  sz := E.sz
  rd := fun w cs x fp => E.rd w cs x fp ∧ ∀ k ∈ fp, O k
  len := fun h => E.len h.1
  same := fun h hs => ⟨E.same h.1 hs, h.2⟩
  lt := fun h => E.lt h.1
  one := fun h => E.one h.1
section
variable {α : Type} {E : Ty α} {O O' : Nat → Prop} {e base top : Nat} {w w' : World} {v : Value} {ys : List α}
theorem fr_on {cs : List Value} {x : α} (h : E.Fr base w cs x) (hO : ∀ k, base ≤ k → k < w.heap.size → O k) : (E.on O).Fr base w cs x :=
  let ⟨fp, h1, h2, h3, h4⟩ := h; ⟨fp, ⟨h1, fun k hk => hO k (h3 k hk) (E.lt h1 k hk)⟩, h2, h3, h4⟩
theorem on_fr1 {cs : List Value} {x : α} (h : (E.on O).Fr base w cs x) : E.Fr base w cs x := let ⟨fp, h1, h2⟩ := h; ⟨fp, h1.1, h2⟩
theorem on_fr {cs : List Value} {x : List α} (h : (Ty.slice (E.on O)).Fr base w cs x) : (Ty.slice E).Fr base w cs x := by
  obtain ⟨fp, ⟨ad, cap, h1, h2, h3, h4⟩, h5⟩ := h
  refine ⟨fp, ⟨ad, cap, h1, h2, h3, ?_⟩, h5⟩
  rcases h4 with h4 | ⟨h4, b, o, fps, e1, e2, e3, e4⟩
  · exact .inl h4
  · exact .inr ⟨h4, b, o, fps, e1, e2, e3, fun i hi => let ⟨cs, h6, h7⟩ := e4 i hi; ⟨cs, h6.1, h7⟩⟩
theorem on_same (h : Bl (E.on O) e base top w v ys) (hv : ∀ g, v.ownBlock = some g → O g) (hs : ∀ k, k < w.heap.size → O k → w'.heap[k]? = w.heap[k]?) : Bl (E.on O) e base top w' v ys := by
  obtain ⟨L, fps, h1, h2, h3, h4, h5, h6⟩ := h
  have hS : Same (flat fps ys.length) w w' := fun k hk => by
    obtain ⟨i, hi, hk⟩ := List.mem_flatMap.1 hk
    obtain ⟨cs, h7, _⟩ := h2 i (by simpa using hi)
    exact hs k (E.lt h7.1 k hk) (h7.2 k hk)
  refine ⟨L, fps, ⟨h1.1, ?_⟩, fun i hi => ?_, h3, h4, h5, h6.same hS⟩
  · rcases h1.2 with h | ⟨g, cap, cur, rfl, hg, hh, r⟩
    · exact .inl h
    · exact .inr ⟨g, cap, cur, rfl, hg, by rw [hs g (lt_of_block hh) (hv g rfl)]; exact hh, r⟩
  · obtain ⟨cs, h7, h8⟩ := h2 i hi
    exact ⟨cs, (E.on O).same h7 (fun k hk => hS k (List.mem_flatMap.2 ⟨i, by simpa using hi, hk⟩)), h8⟩
theorem on_mono (h : Bl (E.on O) e base top w v ys) (hO : ∀ k, O k → O' k) : Bl (E.on O') e base top w v ys := by
  obtain ⟨L, fps, h1, h2, h3⟩ := h
  exact ⟨L, fps, h1, fun i hi => let ⟨cs, h7, h8⟩ := h2 i hi; ⟨cs, ⟨h7.1, fun k hk => hO k (h7.2 k hk)⟩, h8⟩, h3⟩
/-- a row of numbers: all that it hangs on is its own block -/
theorem bl_int_same {top' : Nat} {ys : List Int} (h : Bl Ty.int e base top w v ys) (hs : ∀ b, v.ownBlock = some b → w'.heap[b]? = w.heap[b]?) (ht : top ≤ top') : Bl Ty.int e base top' w' v ys := by
  obtain ⟨L, fps, h1, h2, h3, h4, h5, h6⟩ := h
  have hnil : ∀ b, b ∉ flat fps ys.length := by
    intro b hb
    obtain ⟨i, hi, hb⟩ := List.mem_flatMap.1 hb
    obtain ⟨cs, ⟨_, _, hf⟩, _⟩ := h2 i (by simpa using hi)
    rw [hf] at hb
    cases hb
  refine ⟨L, fps, ⟨h1.1, ?_⟩, fun i hi => ?_, h3, fun b hb => absurd hb (hnil b), fun g hg => Nat.lt_of_lt_of_le (h5 g hg) ht, fun b hb => absurd hb (hnil b)⟩
  · rcases h1.2 with h | ⟨g, cap, cur, rfl, hg, hh, r⟩
    · exact .inl h
    · exact .inr ⟨g, cap, cur, rfl, hg, by rw [hs g rfl]; exact hh, r⟩
  · obtain ⟨cs, h7, h8⟩ := h2 i hi
    exact ⟨cs, h7, h8⟩
/-- a row of values as they are -/
theorem bl_val_same {top' : Nat} {ys : List Value} (h : Bl Ty.val e base top w v ys) (hs : ∀ b, v.ownBlock = some b → w'.heap[b]? = w.heap[b]?) (ht : top ≤ top') : Bl Ty.val e base top' w' v ys := by
  obtain ⟨L, fps, h1, h2, h3, h4, h5, h6⟩ := h
  have hnil : ∀ b, b ∉ flat fps ys.length := by
    intro b hb
    obtain ⟨i, hi, hb⟩ := List.mem_flatMap.1 hb
    obtain ⟨cs, ⟨_, _, hf⟩, _⟩ := h2 i (by simpa using hi)
    rw [hf] at hb
    cases hb
  refine ⟨L, fps, ⟨h1.1, ?_⟩, fun i hi => ?_, h3, fun b hb => absurd hb (hnil b), fun g hg => Nat.lt_of_lt_of_le (h5 g hg) ht, fun b hb => absurd hb (hnil b)⟩
  · rcases h1.2 with h | ⟨g, cap, cur, rfl, hg, hh, r⟩
    · exact .inl h
    · exact .inr ⟨g, cap, cur, rfl, hg, by rw [hs g rfl]; exact hh, r⟩
  · obtain ⟨cs, h7, h8⟩ := h2 i hi
    exact ⟨cs, h7, h8⟩
/-- cut by its last number -/
theorem bl_cut {ad : Option Addr} {n cap : Nat} {xs : List Int} {a : Int} (h : Bl Ty.int e base top w (.slice ad n cap) (xs ++ [a])) : Bl Ty.int e base top w (.slice ad xs.length cap) xs ∧ xs.length + 1 ≤ cap ∧ n = xs.length + 1 ∧ ∃ g, ad = some ⟨g, 0, none⟩ := by
  obtain ⟨L, fps, h1, h2, h3, h4, h5, h6⟩ := h
  have hl : (xs ++ [a]).length = xs.length + 1 := by simp
  have hnil : ∀ b, b ∉ flat fps (xs ++ [a]).length := by
    intro b hb
    obtain ⟨i, hi, hb⟩ := List.mem_flatMap.1 hb
    obtain ⟨cs, ⟨_, _, hf⟩, _⟩ := h2 i (by simpa using hi)
    rw [hf] at hb
    cases hb
  have hsub : ∀ b, b ∈ flat fps xs.length → False := fun b hb => by
    obtain ⟨i, hi, hb⟩ := List.mem_flatMap.1 hb
    exact hnil b (List.mem_flatMap.2 ⟨i, by simp at hi ⊢; omega, hb⟩)
  rcases h1.2 with ⟨_, h0⟩ | ⟨g, cap', cur, hv, hg, hh, hn, hc, hcs, hL⟩
  · omega
  · simp only [Value.slice.injEq] at hv
    obtain ⟨rfl, rfl, rfl⟩ := hv
    rw [hl] at hn
    refine ⟨⟨L.take xs.length, fps, ⟨?_, .inr ⟨g, _, cur, rfl, hg, hh, by omega, hc, hcs, ?_⟩⟩, fun i hi => ?_, ?_, fun b hb => (hsub b hb).elim, fun g' hg' => h5 g' hg', fun b hb => (hsub b hb).elim⟩, hn, hl, g, rfl⟩
    · rw [List.length_take, h1.1, hl]
      simp [Ty.int]
    · rw [← hL, List.take_take, hl]
      congr 1
      first | (simp [Ty.int]; done) | (simp [Ty.int]; omega)
    · obtain ⟨cs, h7, h8⟩ := h2 i (by omega)
      rw [List.getElem_append_left hi] at h7
      refine ⟨cs, h7, fun j hj => ?_⟩
      have h9 := h8 j hj
      have hcl : cs.length = 1 := Ty.int.len h7
      rw [List.getElem?_take_of_lt (by simp [Ty.int]; omega)]
      exact h9
    · have : flat fps xs.length = [] := List.eq_nil_iff_forall_not_mem.2 fun b hb => hsub b hb
      rw [this]
      exact List.nodup_nil
end
abbrev boolsT : Ty (List Bool) := Ty.slice Ty.bool
theorem BR.rdP {e base : Nat} {w : World} {g n cap : Nat} {L : List Bool} {ok : Nat → Prop} (h : BR e base w g n cap L) (hl : n ≤ capMax) (hg : ok g) : boolsT.RdP ok w [.slice (some ⟨g, 0, none⟩) n cap] L := by
  obtain ⟨h1, h2, h3⟩ := id h
  subst h1
  have hlt := h.lt
  have hcap : L.length ≤ cap := by
    rcases h3.2 with ⟨h', _⟩ | ⟨g', cap', cur, hg', hbg, hh, hn, r⟩
    · simp at h'
    · simp only [Value.slice.injEq, Option.some.injEq, Addr.mk.injEq, and_true, true_and] at hg'
      omega
  refine slice_mkP rfl hcap hl fun h0 => ⟨g, 0, rfl, hlt, hg, fun i hi => ⟨[.bool L[i]], ⟨[], ⟨rfl, rfl⟩, fun k hk => by cases hk⟩, fun j hj => ?_⟩⟩
  obtain rfl : j = 0 := by simpa using hj
  have := h.cell hi
  simpa [Ty.bool] using this
theorem bools_exP {ok : Nat → Prop} {w : World} {u : Value} {xs : List Bool} (h : boolsT.RdP ok w [u] xs) :
    ∃ ad cap, u = .slice ad xs.length cap ∧ xs.length ≤ cap ∧ (0 < xs.length → ∃ b o, ad = some ⟨b, o, none⟩ ∧ b < w.heap.size ∧ ∀ i (h : i < xs.length), w.cell? ⟨b, o + i, none⟩ = some (.bool xs[i])) := by
  obtain ⟨ad, cap, h1, h2, h3, h4⟩ := slice_exP h
  refine ⟨ad, cap, by simpa using h1, h2, fun hp => ?_⟩
  obtain ⟨b, o, h5, h6, _, h7⟩ := h4 hp
  refine ⟨b, o, h5, h6, fun i hi => ?_⟩
  obtain ⟨cs, ⟨fp, ⟨rfl, _⟩, _⟩, h10⟩ := h7 i hi
  simpa [Ty.bool] using h10 0 (by simp)
/-- a row of values as they are, each of which reads as a datum of one cell -/
theorem rows_ofP {α : Type} {E : Ty α} {ok : Nat → Prop} {w : World} {v : Value} {vs : List Value} {ts : List α} (hE : E.sz = 1) (h : (Ty.slice Ty.val).RdP ok w [v] vs) (hl : vs.length = ts.length) (hr : ∀ i (h : i < vs.length) (h' : i < ts.length), E.RdP ok w [vs[i]] ts[i]) : (Ty.slice E).RdP ok w [v] ts := by
  obtain ⟨ad, cap, hv, h1, h2, h3⟩ := slice_exP h
  obtain rfl : v = _ := by simpa using hv
  refine slice_mkP hl h1 h2 fun h0 => ?_
  obtain ⟨b, o, rfl, hb, hok, he⟩ := h3 h0
  refine ⟨b, o, rfl, hb, hok, fun i hi => ?_⟩
  obtain ⟨cs, ⟨fp, ⟨rfl, _, _⟩, hf⟩, h6⟩ := he i (by omega)
  refine ⟨_, hr i (by omega) hi, fun j hj => ?_⟩
  have h7 := h6 j hj
  rw [hE]
  exact h7
theorem bl_val_rdP {e base top : Nat} {w : World} {v : Value} {vs : List Value} {ok : Nat → Prop} (h : Bl Ty.val e base top w v vs) (hl : vs.length ≤ capMax) (hv : ∀ g, v.ownBlock = some g → ok g) : (Ty.slice Ty.val).RdP ok w [v] vs := by
  obtain ⟨fp, h1, -, -, -⟩ := h.fr hl
  refine ⟨fp, h1, fun k hk => ?_⟩
  obtain ⟨ad, cap, hv', -, -, h3⟩ := h1
  obtain rfl : v = _ := by simpa using hv'
  rcases h3 with ⟨_, rfl⟩ | ⟨_, b, o, fps, rfl, _, rfl, h4⟩
  · cases hk
  · rcases List.mem_cons.1 hk with rfl | hk
    · exact hv _ rfl
    · obtain ⟨i, hi, hk⟩ := List.mem_flatMap.1 hk
      obtain ⟨cs, ⟨_, _, hf⟩, _⟩ := h4 i (by simpa using hi)
      rw [hf] at hk
      cases hk
/-- a pointer to a box whose third cell is a row of truth values -/
def Ty.setp : Ty (List Bool) where
  sz := 1
  rd := fun w cs L fp => ∃ bx v fp', cs = [.pointer (some ⟨bx, 0, none⟩)] ∧ bx < w.heap.size ∧ w.cell? ⟨bx, 2, none⟩ = some v ∧ boolsT.rd w [v] L fp' ∧ fp = bx :: fp'
  len := by rintro _ _ _ _ ⟨_, _, _, rfl, _⟩; rfl
  same := by
    rintro w w' _ L _ ⟨bx, v, fp', rfl, h1, h2, h3, rfl⟩ hs
    have hb := hs bx (List.mem_cons_self ..)
    refine ⟨bx, v, fp', rfl, ?_, (World.cell?_of_block (a := ⟨bx, 2, none⟩) hb).trans h2, boolsT.same h3 (fun k hk => hs k (List.mem_cons_of_mem _ hk)), rfl⟩
    rcases Nat.lt_or_ge bx w'.heap.size with h' | h'
    · exact h'
    · rw [Array.getElem?_eq_none h', Array.getElem?_eq_getElem h1] at hb
      cases hb
  lt := by
    rintro w _ L _ ⟨bx, v, fp', rfl, h1, h2, h3, rfl⟩ k hk
    rcases List.mem_cons.1 hk with rfl | hk
    · exact h1
    · exact boolsT.lt h3 k hk
  one := by rintro _ _ _ _ ⟨_, _, _, rfl, _⟩ u hu; simp at hu; subst hu; rfl
theorem setp_exP {ok : Nat → Prop} {w : World} {u : Value} {L : List Bool} (h : Ty.setp.RdP ok w [u] L) : ∃ bx v, u = .pointer (some ⟨bx, 0, none⟩) ∧ bx < w.heap.size ∧ w.cell? ⟨bx, 2, none⟩ = some v ∧ boolsT.RdP ok w [v] L := by
  obtain ⟨_, ⟨bx, v, fp', hu, h1, h2, h3, rfl⟩, hf⟩ := h
  exact ⟨bx, v, by simpa using hu, h1, h2, fp', h3, fun k hk => hf k (List.mem_cons_of_mem _ hk)⟩
theorem setp_of {e base : Nat} {w : World} {bx g n : Nat} {L : List Bool} {ok : Nat → Prop} (h : SetAt e base w bx g n L) (hl : n ≤ capMax) (hb : ok bx) (hg : ok g) : Ty.setp.RdP ok w [.pointer (some ⟨bx, 0, none⟩)] L := by
  obtain ⟨h1, h2, h3, h4, h5⟩ := h
  obtain ⟨fp, hfp, hf⟩ := h5.rdP hl hg
  exact ⟨_, ⟨bx, _, fp, rfl, h2, h4, hfp, rfl⟩, fun k hk => by
    rcases List.mem_cons.1 hk with rfl | hk
    · exact hb
    · exact hf k hk⟩
end Go.Proofs.YthjafhjghjbdmaaGreat
namespace Go.Proofs.YthjafhjghjbdmaaGreat
open Go.RowKit Go.Sort
/-- what a finder only reads: at block bs -/
def Fd (ok : Nat → Prop) (w : World) (bs : Nat) (t : Tpl) (ar : Int) (due : List (List (Int × List Int))) (fx : List Int) : Prop :=
  bs < w.heap.size ∧ ∃ v3 v4 v5, w.cell? ⟨bs, 0, none⟩ = some (.int .i64 t.1) ∧ w.cell? ⟨bs, 2, none⟩ = some (.int .i64 ar) ∧ w.cell? ⟨bs, 3, none⟩ = some v3 ∧ w.cell? ⟨bs, 4, none⟩ = some v4 ∧ w.cell? ⟨bs, 5, none⟩ = some v5 ∧
    duesT.RdP ok w [v3] due ∧ (Ty.slice boolsT).RdP ok w [v4] (insF t) ∧ intsT.RdP ok w [v5] fx
section
variable {ok ok' : Nat → Prop} {w w' : World} {bs : Nat} {t : Tpl} {ar : Int} {due : List (List (Int × List Int))} {fx : List Int}
theorem Fd.below (h : Fd ok w bs t ar due fx) (hb : Below w.heap.size w w') : Fd ok w' bs t ar due fx := by
  obtain ⟨h1, v3, v4, v5, c0, c2, c3, c4, c5, h3, h4, h5⟩ := h
  exact ⟨Nat.lt_of_lt_of_le h1 hb.size, v3, v4, v5, (hb.cell (p := ⟨bs, 0, none⟩) h1).trans c0, (hb.cell (p := ⟨bs, 2, none⟩) h1).trans c2, (hb.cell (p := ⟨bs, 3, none⟩) h1).trans c3, (hb.cell (p := ⟨bs, 4, none⟩) h1).trans c4, (hb.cell (p := ⟨bs, 5, none⟩) h1).trans c5, h3.below hb, h4.below hb, h5.below hb⟩
/-- its own last two cells and other blocks may be written -/
theorem Fd.tchP {O : Nat → Prop} (h : Fd ok w bs t ar due fx) (ht : TchP O w w') (hO : ∀ k, k < w.heap.size → ok k → ¬ O k) (hb : ¬ O bs) : Fd ok w' bs t ar due fx := by
  obtain ⟨h1, v3, v4, v5, c0, c2, c3, c4, c5, h3, h4, h5⟩ := h
  exact ⟨Nat.lt_of_lt_of_le h1 ht.size, v3, v4, v5, (ht.cell h1 hb).trans c0, (ht.cell h1 hb).trans c2, (ht.cell h1 hb).trans c3, (ht.cell h1 hb).trans c4, (ht.cell h1 hb).trans c5, h3.tchP ht hO, h4.tchP ht hO, h5.tchP ht hO⟩
theorem Fd.set {i : Nat} {u : Value} (h : Fd ok w bs t ar due fx) (hi : 6 ≤ i) (hO : ¬ ok bs) : Fd ok (w.setCell ⟨bs, i, none⟩ u) bs t ar due fx := by
  obtain ⟨h1, v3, v4, v5, c0, c2, c3, c4, c5, h3, h4, h5⟩ := h
  have hs : TchP (fun k => k = bs) w (w.setCell ⟨bs, i, none⟩ u) := TchP.set rfl
  have hk : ∀ k, k < w.heap.size → ok k → ¬ (k = bs) := fun k _ hk e => hO (e ▸ hk)
  have hc : ∀ j, j < 6 → (w.setCell ⟨bs, i, none⟩ u).cell? ⟨bs, j, none⟩ = w.cell? ⟨bs, j, none⟩ := fun j hj => World.cell?_setCell_other _ _ _ _ (by first | (simp; done) | (simp; omega))
  exact ⟨by simpa [World.setCell] using h1, v3, v4, v5, (hc 0 (by omega)).trans c0, (hc 2 (by omega)).trans c2, (hc 3 (by omega)).trans c3, (hc 4 (by omega)).trans c4, (hc 5 (by omega)).trans c5, h3.tchP hs hk, h4.tchP hs hk, h5.tchP hs hk⟩
theorem Fd.mono (h : Fd ok w bs t ar due fx) (hk : ∀ k, k < w.heap.size → ok k → ok' k) : Fd ok' w bs t ar due fx := by
  obtain ⟨h1, v3, v4, v5, c0, c2, c3, c4, c5, h3, h4, h5⟩ := h
  exact ⟨h1, v3, v4, v5, c0, c2, c3, c4, c5, h3.mono hk, h4.mono hk, h5.mono hk⟩
end
theorem rel_tupsIn {s : Int} {r : Int × List (List Int)} (hr : relOk s r) : ∀ t ∈ r.2, t.length = r.1.toNat ∧ ∀ a ∈ t, 0 ≤ a ∧ a ≤ s - 1 := fun t ht => by
  obtain ⟨k, hk, rfl⟩ := List.mem_iff_getElem.1 ht
  obtain ⟨h1, h2⟩ := (hr.2.2 k hk).1
  have := hr.2.1
  unfold sizeOk at this
  exact ⟨by omega, h2⟩
theorem atL_in {s : Int} {vals cells : List Int} {N : Nat} (hv : ∀ a ∈ vals, 0 ≤ a ∧ a ≤ s - 1) (hl : vals.length = N) (hc : ∀ p ∈ cells, 0 ≤ p ∧ p < (N : Int)) : ∀ a ∈ atL vals cells, 0 ≤ a ∧ a ≤ s - 1 := fun a ha => by
  obtain ⟨p, hp, rfl⟩ := List.mem_map.1 ha
  have := hc p hp
  have hpl : p.toNat < vals.length := by omega
  rw [List.getD_eq_getElem?_getD, List.getElem?_eq_getElem hpl]
  exact hv _ (List.getElem_mem hpl)
/-- what a look at the truth values tells -/
theorem ins_at {t : Tpl} {N : Nat} {a : Int × List Int} {vals : List Int} (hT : tplOk t) (ha : lookOk t N a) (hv : ∀ x ∈ vals, 0 ≤ x ∧ x ≤ t.1 - 1) (hc : ∀ p ∈ a.2, 0 ≤ p ∧ p < (vals.length : Int)) :
    ∃ k j : Nat, a.1 = (k : Int) ∧ ∃ hk : k < (insF t).length, idxL t.1 0 (atL vals a.2) = (j : Int) ∧ ∃ hj : j < ((insF t)[k]).length, ((insF t)[k])[j] = tb (holdsC t vals a) := by
  obtain ⟨k, e1, hk, e2, e3⟩ := ha
  have hs := hT.1
  have hr := hT.2.2 _ (List.getElem_mem hk)
  have hm := hr.2.1
  unfold sizeOk at hs hm
  have hin := atL_in hv rfl hc
  obtain ⟨i0, i1⟩ := idx_lt (s := t.1) (by omega) (xs := atL vals a.2) (m := (t.2[k]).1.toNat) (by rw [atL_len, e2]) hin
  obtain ⟨j, hj⟩ : ∃ j : Nat, idxL t.1 0 (atL vals a.2) = j := ⟨(idxL t.1 0 (atL vals a.2)).toNat, by omega⟩
  have hkl : k < (insF t).length := by rw [insF_len]; exact hk
  refine ⟨k, j, e1, hkl, hj, ?_⟩
  have he := insF_get (t := t) hk hkl
  have hjl : j < ((insF t)[k]).length := by rw [he, seenL_len]; omega
  refine ⟨hjl, ?_⟩
  have h3 : ((insF t)[k])[j] = (seenL t.1 (t.1 ^ (t.2[k]).1.toNat).toNat (t.2[k]).2)[j]'(by rw [← he]; exact hjl) := by simp only [he]
  rw [h3, seenL_get (s := t.1) (by omega) (rel_tupsIn hr) (t := atL vals a.2) (by rw [atL_len, e2]) hin hj]
  unfold holdsC
  rw [e1, relAt_nat hk]
set_option maxHeartbeats 3200000 in
set_option maxRecDepth 100000 in
theorem fgoes_any (w : World) {ok : Nat → Prop} {bs : Nat} {t : Tpl} {ar : Int} {due : List (List (Int × List Int))} {fx : List Int} (hF : Fd ok w bs t ar due fx) {v : Value} {vals : List Int} (c7 : w.cell? ⟨bs, 7, none⟩ = some v) (hv : intsT.Rd w [v] vals) (hT : tplOk t) (hD : ldueOk t due)
    (hin : ∀ a ∈ vals, 0 ≤ a ∧ a ≤ t.1 - 1) (h1 : 1 ≤ vals.length) (h2 : vals.length ≤ due.length) (hdl : due.length ≤ 1000) (h3 : ∀ d ∈ due, d.length ≤ 1000000) :
    Calls Tryz.prog 149 #[.pointer (some ⟨bs, 0, none⟩)] w fun e w' => e = .returned (.bool (goesF t due vals)) ∧ Below w.heap.size w w' := by
  obtain ⟨hbs, v3, v4, v5, c0, -, c3, c4, -, hd, hi, -⟩ := hF
  obtain ⟨k, hk⟩ : ∃ k, vals.length = k + 1 := ⟨vals.length - 1, by omega⟩
  have hkd : k < due.length := by omega
  have HG := Lib.hid (goesF_at (t := t) hk hkd)
  obtain ⟨da, dc, hdv, -, -, hdce⟩ := slices_ex hd.rd
  obtain rfl : v3 = _ := by simpa using hdv
  obtain ⟨g, go0, rfl, hg, hce⟩ := hdce (by omega)
  obtain ⟨u, hu, hcu⟩ := hce k hkd
  obtain ⟨_, _, hu1, -, -, hue⟩ := pairs_ex hu
  obtain rfl : u = _ := by simpa using hu1
  have HU := Lib.hid hue
  obtain ⟨va, vc, hv1, -, -, hve⟩ := ints_ex hv
  obtain rfl : v = _ := by simpa using hv1
  obtain ⟨gv, ov, rfl, hgv, hvce⟩ := hve (by omega)
  have HV := Lib.hid hvce
  obtain ⟨ia, ic, hi1, -, -, hie⟩ := slices_ex hi.rd
  obtain rfl : v4 = _ := by simpa using hi1
  have HI := Lib.hid hie
  have HT := Lib.hid hT
  have HD := Lib.hid (fun j (hj : j < due[k].length) => hD k hkd _ (List.getElem_mem hj))
  have HIN := Lib.hid hin
  have HK := Lib.hid hk
  have hs := hT.1
  unfold sizeOk at hs
  have hll := h3 _ (List.getElem_mem hkd)
  have hwr : IntKind.i64.wrap ((k : Int) + 1 - 1) = k := by rw [Int.add_sub_cancel]; exact wrap_small (by omega) (by omega)
  have hwr2 : IntKind.i64.wrap (((k + 1 : Nat) : Int) - 1) = k := by rw [show ((k + 1 : Nat) : Int) - 1 = k by omega]; exact wrap_small (by omega) (by omega)
  rw [hk] at c7
  clear hd hdv hdce hce hu hv hT hD hk h1 h2 h3 hi hu1 hue hv1 hve hvce hi1 hie hin
  go_enter Tryz.func149, Tryz.ntmps149
  go_wp2_with fail
  go_quiet (fail)
  generalize hW : w.drewN _ = W
  have hbW : Below w.heap.size w W := hW ▸ (Quiet.drewN w _).below
  clear hW
  go_wp2_with fail
  go_loopw [21] (fun i wr => ∃ j : Nat, j ≤ due[k].length ∧ i = .int .i64 j ∧ noneB (fun a => !tb (holdsC t vals a)) (due[k].take j) ∧ Below w.heap.size w wr) (fun i _ => due[k].length - (intOf i).toNat)
  case atStart => exact ⟨0, Nat.zero_le _, rfl, noneB_zero _ _, hbW⟩
  case round =>
    obtain ⟨j, hj, rfl, hno, hbe⟩ := hrel
    have HN := Lib.hid hno
    have hze := hbe.size
    clear hno hbW
    by_cases hjl : j < due[k].length
    · obtain ⟨q, p, rfl, hq, hce⟩ := HU.out (by omega)
      obtain ⟨u, hu, -, g0, g1⟩ := hce j hjl
      obtain ⟨lo, hle⟩ := HD.out j hjl
      obtain ⟨kr, ir, e1, hkr, e2, hir, e3⟩ := ins_at HT.out lo HIN.out (fun p hp => by have := hle p hp; have := HK.out; omega)
      obtain ⟨ri, ro, rfl, hri, hrce⟩ := HI.out (by omega)
      obtain ⟨ur, hur, hcr⟩ := hrce kr hkr
      obtain ⟨_, _, he, -, -, hbo⟩ := Ty.slice_ex hur
      obtain rfl : ur = _ := by simpa using he
      obtain ⟨bi, bo, rfl, hbi, hbce⟩ := hbo (by omega)
      obtain ⟨cs, ⟨_, rfl, _⟩, hbc⟩ := hbce ir hir
      have hbc := hbc 0 (by simp)
      simp only [Ty.bool, Nat.mul_one, Nat.add_zero, List.getElem_cons_zero] at hbc
      rw [e3] at hbc
      obtain ⟨ad, cap, hue, -, -, huc⟩ := ints_ex hu
      obtain rfl : u = _ := by simpa using hue
      have HUC := Lib.hid huc
      have HLE := Lib.hid hle
      have HAT : Hid (atL vals (due[k][j]).2 = atL vals (due[k][j]).2) := rfl
      have H2 := Lib.hid e2
      have hl4 : (due[k][j]).2.length ≤ 4 := by
        obtain ⟨k', -, hk', h4, -⟩ := lo
        have := (HT.out.2.2 _ (List.getElem_mem hk')).2.1
        unfold sizeOk at this
        omega
      have HAI := Lib.hid (atL_in HIN.out rfl (fun p hp => by have := hle p hp; have := HK.out; omega) : ∀ a ∈ atL vals (due[k][j]).2, 0 ≤ a ∧ a ≤ t.1 - 1)
      have k0 := (hbe.cell (p := ⟨bs, 0, none⟩) hbs).trans c0
      have k4 := (hbe.cell (p := ⟨bs, 4, none⟩) hbs).trans c4
      have k7 := (cellB hbe hbs).trans c7
      have d0 := (cellB hbe hq).trans g0
      have d1 := (cellB hbe hq).trans g1
      have d2 := (cellB hbe hri).trans hcr
      have d3 := (cellB hbe hbi).trans hbc
      rw [e1] at d0
      have hbsr : bs < wr.heap.size := by omega
      have hbir : bi < wr.heap.size := by omega
      have hrir : ri < wr.heap.size := by omega
      clear hce hu g0 g1 lo hle e1 e2 e3 hrce hur hcr he hbo hbce hbc hue huc c0 c3 c4 c7
      obtain ⟨wv, rfl⟩ : ∃ wv : World, wv = wr := ⟨_, rfl⟩
      go_wp2_with fail
      generalize hWa : World.alloc wv _ = wa
      have hba : Below wv.heap.size wv wa := hWa ▸ bA
      have hsa : wv.heap.size + 1 ≤ wa.heap.size := by rw [← hWa]; simp
      have l0 : wa.cell? ⟨wv.heap.size, 0, none⟩ = some (.int .i64 kr) := by rw [← hWa]; simp [go_sem]
      have l1 : wa.cell? ⟨wv.heap.size, 1, none⟩ = some (.slice ad (due[k][j]).2.length cap) := by rw [← hWa]; simp [go_sem]
      replace k0 := (cellB hba (by omega)).trans k0
      replace k4 := (cellB hba (by omega)).trans k4
      replace k7 := (cellB hba (by omega)).trans k7
      replace d2 := (cellB hba (by omega)).trans d2
      replace d3 := (cellB hba (by omega)).trans d3
      have hbwa := bthen hbe hba
      clear hWa d0 d1
      go_loopw [28, 5] (fun i o wi => ∃ m : Nat, m ≤ (due[k][j]).2.length ∧ i = .int .i64 m ∧ o = .int .i64 (idxL t.1 0 ((atL vals (due[k][j]).2).take m)) ∧ Quiet wa wi) (fun i _ _ => (due[k][j]).2.length - (intOf i).toNat)
      case atStart => exact ⟨0, Nat.zero_le _, rfl, by simp [idxL], Quiet.refl _⟩
      case round =>
        obtain ⟨m, hm, rfl, rfl, hqi⟩ := hrel
        have hbi2 := hqi.below
        have hzi := hbi2.size
        replace k0 := (cellB hbi2 (by omega)).trans k0
        replace k4 := (cellB hbi2 (by omega)).trans k4
        replace k7 := (cellB hbi2 (by omega)).trans k7
        replace d2 := (cellB hbi2 (by omega)).trans d2
        replace d3 := (cellB hbi2 (by omega)).trans d3
        replace l0 := (cellB hbi2 (by omega)).trans l0
        replace l1 := (cellB hbi2 (by omega)).trans l1
        have hbwi := bthen hbwa hbi2
        by_cases hml : m < (due[k][j]).2.length
        · obtain ⟨b6, o6, rfl, hb6, hce6⟩ := HUC.out (by omega)
          have e6 := (hce6 m hml).2
          obtain ⟨pn, hpn⟩ : ∃ pn : Nat, (due[k][j]).2[m] = (pn : Int) := ⟨((due[k][j]).2[m]).toNat, by have := HLE.out _ (List.getElem_mem hml); omega⟩
          have hpl := HLE.out _ (List.getElem_mem hml)
          rw [hpn] at e6 hpl
          have hpk : pn < k + 1 := by omega
          have hpv : pn < vals.length := by have := HK.out; omega
          have e7 := (HV.out pn hpv).2
          have f6 := (cellB hbwi hb6).trans e6
          have f7 := (cellB hbwi hgv).trans e7
          have hma : m < (atL vals (due[k][j]).2).length := by rw [atL_len]; exact hml
          have b0 := idx_bd (s := t.1) (by omega) HAI.out m (by omega)
          have b1 := idx_bd (s := t.1) (by omega) HAI.out (m + 1) (by omega)
          have p0 := pow_le (s := t.1) (by omega) (by omega) (k := m + 1) (by omega)
          have ha := HAI.out _ (List.getElem_mem hma)
          have hr := idxL_take (s := t.1) hma
          rw [atL_at hml hpn hpv] at ha hr
          have HQ : -1000000000000000000 ≤ idxL t.1 0 ((atL vals (due[k][j]).2).take m) * t.1 ∧ idxL t.1 0 ((atL vals (due[k][j]).2).take m) * t.1 ≤ 1000000000000000000 := by
            have hq := Int.mul_nonneg b0.1 (show (0 : Int) ≤ t.1 by omega)
            rw [hr] at b1
            generalize t.1 ^ (m + 1) = P at *
            generalize idxL t.1 0 ((atL vals (due[k][j]).2).take m) * t.1 = Q at *
            omega
          have hw1 : IntKind.i64.wrap (idxL t.1 0 ((atL vals (due[k][j]).2).take m) * t.1) = idxL t.1 0 ((atL vals (due[k][j]).2).take m) * t.1 := wrap_small HQ.1 HQ.2
          have hw2 : IntKind.i64.wrap (idxL t.1 0 ((atL vals (due[k][j]).2).take m) * t.1 + vals[pn]) = idxL t.1 0 ((atL vals (due[k][j]).2).take m) * t.1 + vals[pn] := wrap_small (by omega) (by omega)
          have HR := Lib.hid hr
          clear b0 b1 p0 ha hr hce6 HQ hpn
          go_wp2_with fail
          go_quiet (fail)
          go_wp2_with fail
          clear hw1 hw2
          go_roundw
          case rel => exact ⟨m + 1, by omega, by go_num, by rw [HR.out], hqi.then (Quiet.drewN _ _)⟩
          case measure => simp [intOf]; omega
        · obtain rfl : m = (due[k][j]).2.length := by omega
          rw [show (due[k][j]).2.length = (atL vals (due[k][j]).2).length from atL_len.symm, List.take_length, H2.out]
          cases hq : tb (holdsC t vals due[k][j])
          · have HE : Hid (goesF t due vals = false) := by unfold Hid; rw [HG.out, any_at hjl (by rw [hq]; rfl)]; rfl
            rw [hq] at d3
            clear hq
            go_wp2_with fail
            go_quiet (fail)
            go_wp2_with fail
            go_ret
            exact ⟨ret_bool HE.out.symm, bthen hbwi (Quiet.drewN _ _).below⟩
          · have HNX : Hid (noneB (fun a => !tb (holdsC t vals a)) (due[k].take (j + 1))) := noneB_succ hjl HN.out (by rw [hq]; rfl)
            rw [hq] at d3
            clear hq
            go_wp2_with fail
            go_quiet (fail)
            go_wp2_with fail
            go_roundw
            case rel => exact ⟨j + 1, by omega, by go_num, HNX.out, bthen hbwi (Quiet.drewN _ _).below⟩
            case measure => simp [intOf]; omega
    · obtain rfl : j = due[k].length := by omega
      have HE : Hid (goesF t due vals = true) := by
        unfold Hid
        rw [HG.out]
        have h1 := HN.out
        rw [List.take_length] at h1
        rw [noneB_any h1]
        rfl
      go_wp2_with fail
      go_ret
      exact ⟨ret_bool HE.out.symm, hbe⟩
end Go.Proofs.YthjafhjghjbdmaaGreat
