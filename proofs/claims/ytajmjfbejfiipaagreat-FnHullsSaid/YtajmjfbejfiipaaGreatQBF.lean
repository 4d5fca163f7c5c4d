/-
Plain: the formula that says which tuples lie in the hull: its variables, its atoms. No program is named here.
Plain: when a tuple is in the value of a formula: when there are values at which all atoms hold.
Plain: the formula of the hull: its atoms, and values of its variables from a table.
Plain: the value of the hull's formula is the hull.
Plain: what FnHulls asks of the hull, in one place.
Contracts: an operation that breaks a relation, the program's, whole.
Contracts: which variable stands for which list of values, the reference's.
Contracts: the reference's sameness of formulas and of instances.
-/
import Derived.Test.YtajmjfbejfiipaaGreatQBB
import Derived.Test.YtajmjfbejfiipaaGreatQAI
import Derived.Test.YtajmjfbejfiipaaGreatQBE
import Derived.Test.YtajmjfbejfiipaaGreatQBC
import Derived.Test.YtajmjfbejfiipaaGreatQBD
import Derived.Test.YtajmjfbejfiipaaGreatQAJ
import Derived.Test.YtajmjfbejfiipaaGreatQAH
namespace Go.Proofs.YtajmjfbejfiipaaGreat
open Go.RowKit Go.Sort
abbrev AtomL := Int × List Int
theorem firstI_cons {α : Type} {p : α → Bool} {x : α} {xs : List α} : firstI p (x :: xs) = if p x then 0 else if firstI p xs < 0 then -1 else firstI p xs + 1 := by
 unfold firstI
 rw [List.findIdx?_cons]
 cases p x
 ·cases h : xs.findIdx? p with
  | none => rfl
  | some i => simp; omega
 ·rfl
/-- the first place whose list is number i, or -1 -/
def varQ (s : Int) (ar : Nat) (cols : List (List Int)) (i : Nat) : Int := firstI (fun l => eqB l (digL s i ar)) cols
/-- the variables of the first k numbers, and the number of variables so far -/
def vrS (s : Int) (ar : Nat) (cols : List (List Int)) : Nat → List Int × Int
 | 0 => ([], cols.length)
 | k + 1 => match decide (varQ s ar cols k < 0) with
  | true => ((vrS s ar cols k).1 ++ [(vrS s ar cols k).2], (vrS s ar cols k).2 + 1)
  | false => ((vrS s ar cols k).1 ++ [varQ s ar cols k], (vrS s ar cols k).2)
section
variable {s : Int} {ar N : Nat} {cols : List (List Int)} {k : Nat}
theorem vrS_new (h : decide (varQ s ar cols k < 0) = true) : vrS s ar cols (k + 1) = ((vrS s ar cols k).1 ++ [(vrS s ar cols k).2], (vrS s ar cols k).2 + 1) := by simp only [vrS, h]
theorem vrS_old (h : decide (varQ s ar cols k < 0) = false) : vrS s ar cols (k + 1) = ((vrS s ar cols k).1 ++ [varQ s ar cols k], (vrS s ar cols k).2) := by simp only [vrS, h]
theorem vrS_len : (vrS s ar cols k).1.length = k := by
 induction k with
 | zero => rfl
 | succ k ih =>
  cases h : decide (varQ s ar cols k < 0)
  ·rw [vrS_old h]; simp [ih]
  ·rw [vrS_new h]; simp [ih]
theorem vrS_next : (cols.length : Int) ≤ (vrS s ar cols k).2 ∧ (vrS s ar cols k).2 ≤ cols.length + k := by
 induction k with
 | zero => simp [vrS]
 | succ k ih =>
  cases h : decide (varQ s ar cols k < 0)
  ·rw [vrS_old h]; simp only; omega
  ·rw [vrS_new h]; simp only; omega
theorem varQ_bd : -1 ≤ varQ s ar cols k ∧ varQ s ar cols k < cols.length ∨ cols.length = 0 ∧ varQ s ar cols k = -1 := by
 unfold varQ firstI
 cases h : cols.findIdx? (fun l => eqB l (digL s k ar)) with
 | none =>
  rcases Nat.eq_zero_or_pos cols.length with h0 | h0
  ·exact .inr ⟨h0, rfl⟩
  ·left; simp; omega
 | some i =>
  rw [List.findIdx?_eq_some_iff_getElem] at h
  have := h.1
  left; simp; omega
theorem vrS_bd : ∀ a ∈ (vrS s ar cols k).1, 0 ≤ a ∧ a < (cols.length : Int) + k := by
 induction k with
 | zero => intro a ha; cases ha
 | succ k ih =>
  intro a ha
  cases h : decide (varQ s ar cols k < 0)
  ·rw [vrS_old h] at ha
   rcases List.mem_append.1 ha with ha | ha
   ·have := ih a ha; omega
   ·simp only [List.mem_singleton] at ha
    have h1 : ¬ (varQ s ar cols k < 0) := by simpa using h
    have := varQ_bd (s := s) (ar := ar) (cols := cols) (k := k)
    rw [ha]; omega
  ·rw [vrS_new h] at ha
   rcases List.mem_append.1 ha with ha | ha
   ·have := ih a ha; omega
   ·simp only [List.mem_singleton] at ha
    have := vrS_next (s := s) (ar := ar) (cols := cols) (k := k)
    rw [ha]; omega
theorem vrS_at {n : Nat} (hk : k < n) (hq : 0 ≤ varQ s ar cols k) : (vrS s ar cols n).1.getD k 0 = varQ s ar cols k := by
 induction n with
 | zero => omega
 | succ n ih =>
  have hstep : ∀ x y, (((vrS s ar cols n).1 ++ [x], y) : List Int × Int).1.getD k 0 = if k < n then (vrS s ar cols n).1.getD k 0 else x := fun x y => by
   simp only [List.getD_eq_getElem?_getD]
   by_cases h : k < n
   ·rw [if_pos h, List.getElem?_append_left (by rw [vrS_len]; exact h)]
   ·obtain rfl : k = n := by omega
    rw [if_neg h, List.getElem?_append_right (by rw [vrS_len]; exact Nat.le_refl _), vrS_len]
    simp
  cases h : decide (varQ s ar cols n < 0)
  ·rw [vrS_old h, hstep]
   by_cases h' : k < n
   ·rw [if_pos h']; exact ih h'
   ·obtain rfl : k = n := by omega
    rw [if_neg h']
  ·rw [vrS_new h, hstep]
   by_cases h' : k < n
   ·rw [if_pos h']; exact ih h'
   ·obtain rfl : k = n := by omega
    have : varQ s ar cols k < 0 := by simpa using h
    omega
/-- a list is number i just if i is its index -/
theorem col_num (hs : 1 ≤ s) (hN : s ^ ar = N) {l : List Int} (hl : l.length = ar) (hin : ∀ a ∈ l, 0 ≤ a ∧ a ≤ s - 1) {i : Nat} (hi : i < N) : eqB l (digL s i ar) = decide (idxL s 0 l = i) := by
 have h1 := dig_idx (n := ar) hs (show (0 : Int) ≤ i by omega) (by omega) ar (Nat.le_refl _)
 rw [Nat.sub_self, Int.pow_zero, Int.ediv_one, List.take_of_length_le (by rw [digL_len]; exact Nat.le_refl _)] at h1
 by_cases h : idxL s 0 l = i
 ·rw [decide_eq_true h]
  exact eqB_true (idxL_inj hs ar hl digL_len hin (digL_in hs) (by rw [h1]; exact h))
 ·rw [decide_eq_false h]
  exact eqB_false fun e => h (by rw [e]; exact h1)
end
/-- the reference's way: places from the last to the first; d are done -/
def qD (s : Int) (cols : List (List Int)) (N : Nat) : Nat → List Int
 | 0 => List.replicate N (-1)
 | d + 1 => (qD s cols N d).set (idxL s 0 (cols.getD (cols.length - 1 - d) [])).toNat ((cols.length - 1 - d : Nat) : Int)
section
variable {s : Int} {ar N : Nat} {cols : List (List Int)} {d : Nat}
theorem qD_len : (qD s cols N d).length = N := by
 induction d with
 | zero => simp [qD]
 | succ d ih => simp [qD, ih]
theorem qD_at (hs : 1 ≤ s) (hN : s ^ ar = N) (hl : ∀ l ∈ cols, l.length = ar) (hin : ∀ l ∈ cols, ∀ a ∈ l, 0 ≤ a ∧ a ≤ s - 1) (hd : d ≤ cols.length) {i : Nat} (hi : i < N) :
  (qD s cols N d).getD i 0 = if firstI (fun l => eqB l (digL s i ar)) (cols.drop (cols.length - d)) < 0 then -1 else firstI (fun l => eqB l (digL s i ar)) (cols.drop (cols.length - d)) + (cols.length - d : Nat) := by
 induction d with
 | zero =>
  rw [Nat.sub_zero, List.drop_length]
  simp [qD, firstI, hi, List.getD_eq_getElem?_getD]
 | succ d ih =>
  have hj : cols.length - 1 - d < cols.length := by omega
  have hdr : cols.drop (cols.length - (d + 1)) = cols[cols.length - 1 - d] :: cols.drop (cols.length - d) := by
   have h1 := List.drop_eq_getElem_cons hj
   rw [show cols.length - (d + 1) = cols.length - 1 - d by omega, h1, show cols.length - 1 - d + 1 = cols.length - d by omega]
  have hmem := List.getElem_mem hj
  have hg : cols.getD (cols.length - 1 - d) [] = cols[cols.length - 1 - d] := by simp [List.getD_eq_getElem?_getD, hj]
  rw [hdr, firstI_cons, col_num hs hN (hl _ hmem) (hin _ hmem) hi]
  have hb := idx_lt hs (hl _ hmem) (hin _ hmem)
  have hb0 := (idx_bd hs (hin _ hmem) ar (by rw [hl _ hmem]; exact Nat.le_refl _)).1
  rw [List.take_of_length_le (by rw [hl _ hmem]; exact Nat.le_refl _)] at hb0
  rw [hN] at hb
  show ((qD s cols N d).set _ _).getD i 0 = _
  rw [hg, List.getD_eq_getElem?_getD, List.getElem?_set]
  have ih' := ih (by omega)
  rw [List.getD_eq_getElem?_getD] at ih'
  by_cases he : idxL s 0 cols[cols.length - 1 - d] = i
  ·rw [if_pos (by omega), if_pos (by rw [qD_len]; omega)]
   simp only [he, decide_true, if_true, Option.getD_some]
   rw [if_neg (by omega)]
   omega
  ·rw [if_neg (by omega), ih']
   simp only [he, decide_false]
   have hfi : ∀ x : Int, (if (false : Bool) = true then (0 : Int) else x) = x := fun x => rfl
   rw [hfi]
   by_cases hf : firstI (fun l => eqB l (digL s i ar)) (cols.drop (cols.length - d)) < 0
   ·rw [if_pos hf, if_pos hf, if_pos (by omega)]
   ·rw [if_neg hf, if_neg hf, if_neg (by omega)]
    omega
theorem qD_full (hs : 1 ≤ s) (hN : s ^ ar = N) (hl : ∀ l ∈ cols, l.length = ar) (hin : ∀ l ∈ cols, ∀ a ∈ l, 0 ≤ a ∧ a ≤ s - 1) {i : Nat} (hi : i < N) : (qD s cols N cols.length).getD i 0 = varQ s ar cols i := by
 rw [qD_at hs hN hl hin (Nat.le_refl _) hi, Nat.sub_self, List.drop_zero]
 show _ = firstI _ _
 split
 ·rename_i h
  have : -1 ≤ firstI (fun l => eqB l (digL s i ar)) cols := by
   unfold firstI
   split <;> omega
  omega
 ·omega
/-- the variable of a place's own list comes no later than the place -/
theorem var_le (hs : 1 ≤ s) (hN : s ^ ar = N) (hl : ∀ l ∈ cols, l.length = ar) (hin : ∀ l ∈ cols, ∀ a ∈ l, 0 ≤ a ∧ a ≤ s - 1) {p : Nat} (hp : p < cols.length) : 0 ≤ (vrS s ar cols N).1.getD (idxL s 0 cols[p]).toNat 0 ∧ (vrS s ar cols N).1.getD (idxL s 0 cols[p]).toNat 0 ≤ p := by
 have hmem := List.getElem_mem hp
 have hb := idx_lt hs (hl _ hmem) (hin _ hmem)
 have hb0 := (idx_bd hs (hin _ hmem) ar (by rw [hl _ hmem]; exact Nat.le_refl _)).1
 rw [List.take_of_length_le (by rw [hl _ hmem]; exact Nat.le_refl _)] at hb0
 rw [hN] at hb
 have hi : (idxL s 0 cols[p]).toNat < N := by omega
 have hq : 0 ≤ varQ s ar cols (idxL s 0 cols[p]).toNat ∧ varQ s ar cols (idxL s 0 cols[p]).toNat ≤ p := by
  unfold varQ firstI
  cases h : cols.findIdx? (fun l => eqB l (digL s ((idxL s 0 cols[p]).toNat : Nat) ar)) with
  | none =>
   rw [List.findIdx?_eq_none_iff] at h
   have := h _ hmem
   rw [col_num hs hN (hl _ hmem) (hin _ hmem) hi] at this
   simp at this
   omega
  | some i =>
   rw [List.findIdx?_eq_some_iff_getElem] at h
   obtain ⟨h1, h2, h3⟩ := h
   refine ⟨by simp, ?_⟩
   rcases Nat.lt_or_ge p i with hpi | hpi
   ·have := h3 p hpi
    rw [col_num hs hN (hl _ hmem) (hin _ hmem) hi] at this
    simp at this
    omega
   ·simp; omega
 rw [vrS_at hi hq.1]
 exact hq
end
/-- an atom more, if it is not there; none if there would be too many -/
def addA (a : AtomL) (l : List AtomL) : Option (List AtomL) := match anyB (fun b => eqB a b) l, decide (16 < l.length + 1) with
 | true, _ => some l
 | false, true => none
 | false, false => some (l ++ [a])
theorem addA_old {a : AtomL} {l : List AtomL} (h : anyB (fun b => eqB a b) l = true) : addA a l = some l := by simp [addA, h]
theorem addA_no {a : AtomL} {l : List AtomL} (h : anyB (fun b => eqB a b) l = false) (h1 : 16 < l.length + 1) : addA a l = none := by simp only [addA, h, decide_eq_true h1]
theorem addA_new {a : AtomL} {l : List AtomL} (h : anyB (fun b => eqB a b) l = false) (h1 : ¬ 16 < l.length + 1) : addA a l = some (l ++ [a]) := by simp only [addA, h, decide_eq_false h1]
/-- the atoms of the first c choices of a relation's tuples -/
def inI (s : Int) (ar : Nat) (vars : List Int) (k : Nat) (r : Int × List (List Int)) (l : List AtomL) : Nat → Option (List AtomL)
 | 0 => some l
 | c + 1 => (inI s ar vars k r l c).bind (addA ((k : Int), atL vars (cellsL s ar r c)))
/-- .. of the first k relations -/
def inT (t : Tpl) (ar : Nat) (vars : List Int) (l : List AtomL) : Nat → Option (List AtomL)
 | 0 => some l
 | k + 1 => (inT t ar vars l k).bind fun l' => inI t.1 ar vars k (relAt t (k : Int)) l' (powN (relAt t (k : Int)).2.length ar)
section
variable {s : Int} {ar : Nat} {vars : List Int} {k c : Nat} {r : Int × List (List Int)} {l l' : List AtomL} {t : Tpl}
theorem inI_none (h : inI s ar vars k r l c = none) {n : Nat} (hn : c ≤ n) : inI s ar vars k r l n = none := by
 obtain ⟨d, rfl⟩ : ∃ d, n = c + d := ⟨n - c, by omega⟩
 induction d with
 | zero => exact h
 | succ d ih =>
  show (inI s ar vars k r l (c + d)).bind _ = none
  rw [ih (by omega)]
  rfl
theorem inI_step (h : inI s ar vars k r l c = some l') : inI s ar vars k r l (c + 1) = addA ((k : Int), atL vars (cellsL s ar r c)) l' := by
 show (inI s ar vars k r l c).bind _ = _
 rw [h]
 rfl
theorem inT_none (h : inT t ar vars l k = none) {n : Nat} (hn : k ≤ n) : inT t ar vars l n = none := by
 obtain ⟨d, rfl⟩ : ∃ d, n = k + d := ⟨n - k, by omega⟩
 induction d with
 | zero => exact h
 | succ d ih =>
  show (inT t ar vars l (k + d)).bind _ = none
  rw [ih (by omega)]
  rfl
theorem inT_step (h : inT t ar vars l k = some l') (hk : k < t.2.length) : inT t ar vars l (k + 1) = inI t.1 ar vars k t.2[k] l' (powN (t.2[k]).2.length ar) := by
 show (inT t ar vars l k).bind _ = _
 rw [h, relAt_nat hk]
 rfl
theorem addA_len {a : AtomL} (h : addA a l = some l') (hl : l.length ≤ 16) : l'.length ≤ 16 := by
 unfold addA at h
 split at h
 ·cases h; exact hl
 ·cases h
 ·rename_i h1
  cases h
  have : ¬ (16 < l.length + 1) := by simpa using h1
  simp; omega
theorem inI_len (h : inI s ar vars k r l c = some l') (hl : l.length ≤ 16) : l'.length ≤ 16 := by
 induction c generalizing l' with
 | zero => cases h; exact hl
 | succ c ih =>
  cases h0 : inI s ar vars k r l c with
  | none => rw [inI_none h0 (Nat.le_succ c)] at h; cases h
  | some q => rw [inI_step h0] at h; exact addA_len h (ih h0)
end
/-- the equalities of the first k places -/
def eqA (s : Int) (cols : List (List Int)) (vars : List Int) : Nat → List AtomL
 | 0 => []
 | p + 1 => match (vars.getD (idxL s 0 (cols.getD p [])).toNat 0 != (p : Int)) with
  | true => eqA s cols vars p ++ [(-1, [vars.getD (idxL s 0 (cols.getD p [])).toNat 0, (p : Int)])]
  | false => eqA s cols vars p
theorem eqA_len {s : Int} {cols : List (List Int)} {vars : List Int} {p : Nat} : (eqA s cols vars p).length ≤ p := by
 induction p with
 | zero => exact Nat.le_refl _
 | succ p ih =>
  unfold eqA
  split
  ·simp; omega
  ·omega
theorem eqA_yes {s : Int} {cols : List (List Int)} {vars : List Int} {p : Nat} (hp : p < cols.length) {v : Int} (hv : vars.getD (idxL s 0 cols[p]).toNat 0 = v) (h : (v != (p : Int)) = true) : eqA s cols vars (p + 1) = eqA s cols vars p ++ [(-1, [v, (p : Int)])] := by
 have e : cols.getD p [] = cols[p] := by simp [List.getD_eq_getElem?_getD, hp]
 simp only [eqA, e, hv, h]
theorem eqA_no {s : Int} {cols : List (List Int)} {vars : List Int} {p : Nat} (hp : p < cols.length) {v : Int} (hv : vars.getD (idxL s 0 cols[p]).toNat 0 = v) (h : (v != (p : Int)) = false) : eqA s cols vars (p + 1) = eqA s cols vars p := by
 have e : cols.getD p [] = cols[p] := by simp [List.getD_eq_getElem?_getD, hp]
 simp only [eqA, e, hv, h]
/-- the whole formula -/
def ivS (t : Tpl) (u : List (List Int)) : List Int × Int := vrS t.1 u.length (colsL u (huM u)) (tabL t u.length)
def ivE (t : Tpl) (u : List (List Int)) : List AtomL := eqA t.1 (colsL u (huM u)) (ivS t u).1 (huM u)
def ivT (t : Tpl) (u : List (List Int)) : Option (List AtomL) := inT t u.length (ivS t u).1 (ivE t u) t.2.length
noncomputable def inC (t : Tpl) (u : List (List Int)) : Int := match huC t u == 0, decide (8 < (ivS t u).2), ivT t u with
 | false, _, _ => huC t u
 | true, true, _ => 3
 | true, false, none => 3
 | true, false, some _ => 0
noncomputable def inV (t : Tpl) (u : List (List Int)) : Int × Int × List AtomL := match huC t u == 0, decide (8 < (ivS t u).2), ivT t u with
 | true, false, some l => ((huM u : Int), (ivS t u).2, l)
 | _, _, _ => (0, 0, [])
section
variable {t : Tpl} {u : List (List Int)}
theorem in_no (h : huC t u ≠ 0) : inC t u = huC t u ∧ inV t u = (0, 0, []) := by
 have : (huC t u == 0) = false := by simpa using h
 simp [inC, inV, this]
theorem in_vars (h : huC t u = 0) (h1 : decide (8 < (ivS t u).2) = true) : inC t u = 3 ∧ inV t u = (0, 0, []) := by simp only [inC, inV, h, h1]; exact ⟨rfl, rfl⟩
theorem in_lim (h : huC t u = 0) (h1 : decide (8 < (ivS t u).2) = false) (h2 : ivT t u = none) : inC t u = 3 ∧ inV t u = (0, 0, []) := by simp only [inC, inV, h, h1, h2]; exact ⟨rfl, rfl⟩
theorem in_ok (h : huC t u = 0) (h1 : decide (8 < (ivS t u).2) = false) {l : List AtomL} (h2 : ivT t u = some l) : inC t u = 0 ∧ inV t u = ((huM u : Int), (ivS t u).2, l) := by simp only [inC, inV, h, h1, h2]; exact ⟨rfl, rfl⟩
end
end Go.Proofs.YtajmjfbejfiipaaGreat
namespace Go.Proofs.YtajmjfbejfiipaaGreat
open Go.RowKit Go.Sort
theorem solsL_mem {s : Nat} {sure : List Int → Bool} : ∀ {m : Nat} {vals x : List Int}, x ∈ solsL s sure m vals ↔ ∃ y : List Int, x = vals ++ y ∧ y.length = m ∧ (∀ a ∈ y, 0 ≤ a ∧ a < s) ∧ ∀ k, k < m → sure (vals ++ y.take (k + 1)) = true
 | 0, vals, x => by
  simp only [solsL, List.mem_singleton]
  constructor
  ·rintro rfl
   exact ⟨[], by simp, rfl, fun a ha => (by cases ha), fun k hk => (by omega)⟩
  ·rintro ⟨y, rfl, hy, -, -⟩
   rw [List.length_eq_zero_iff.1 hy, List.append_nil]
 | m + 1, vals, x => by
  simp only [solsL, List.mem_flatMap, List.mem_range]
  constructor
  ·rintro ⟨a, ha, hx⟩
   cases h : sure (vals ++ [(a : Int)])
   ·rw [h] at hx; simp at hx
   ·rw [h] at hx
    obtain ⟨y, rfl, hy, hr, hk⟩ := solsL_mem.1 (by simpa using hx)
    refine ⟨(a : Int) :: y, by simp, by simp [hy], ?_, ?_⟩
    ·intro b hb
     rcases List.mem_cons.1 hb with rfl | hb
     ·omega
     ·exact hr b hb
    ·intro k hkm
     cases k with
     | zero => simpa using h
     | succ k =>
      have := hk k (by omega)
      simpa using this
  ·rintro ⟨y, rfl, hy, hr, hk⟩
   cases y with
   | nil => simp at hy
   | cons a y =>
    have h1 := hr a (List.mem_cons_self ..)
    have e : ((a.toNat : Nat) : Int) = a := by omega
    refine ⟨a.toNat, by omega, ?_⟩
    have h0 := hk 0 (by omega)
    rw [e]
    rw [List.take_succ_cons, List.take_zero] at h0
    rw [h0, if_pos rfl]
    refine solsL_mem.2 ⟨y, by simp, by simpa using hy, fun b hb => hr b (List.mem_cons_of_mem _ hb), fun k hkm => ?_⟩
    have := hk (k + 1) (by omega)
    simpa using this
theorem witL_mem {s n : Nat} {sure : List Int → Bool} {b x : List Int} (hb : b.length ≤ n) (hin : ∀ a ∈ b, 0 ≤ a ∧ a < s) : x ∈ witL s sure n b ↔ (x.length = n ∧ x.take b.length = b ∧ (∀ a ∈ x, 0 ≤ a ∧ a < s) ∧ ∀ k, k < n → sure (x.take (k + 1)) = true) := by
 constructor
 ·intro h
  by_cases hp : preTo sure b b.length
  ·rw [witL_yes hp] at h
   obtain ⟨y, rfl, hy, hr, hk⟩ := solsL_mem.1 h
   refine ⟨by simp; omega, by simp, fun a ha => (List.mem_append.1 ha).elim (hin a) (hr a), fun k hkn => ?_⟩
   rcases Nat.lt_or_ge k b.length with h1 | h1
   ·rw [List.take_append_of_le_length (by omega)]
    exact hp k h1
   ·have := hk (k - b.length) (by omega)
    rw [List.take_append, List.take_of_length_le (by omega : b.length ≤ k + 1), show k + 1 - b.length = k - b.length + 1 by omega]
    exact this
  ·unfold witL at h
   rw [tb_false hp] at h
   cases h
 ·rintro ⟨hx, ht, hr, hk⟩
  have hp : preTo sure b b.length := fun j hj => by
   have := hk j (by omega)
   rw [← ht, List.take_take, Nat.min_eq_left (by omega)]
   exact this
  have hx0 : x = b ++ x.drop b.length := by
   have := (List.take_append_drop b.length x).symm
   rwa [ht] at this
  rw [witL_yes hp]
  refine solsL_mem.2 ⟨x.drop b.length, hx0, by simp; omega, fun a ha => hr a (List.mem_of_mem_drop ha), fun k hkn => ?_⟩
  have := hk (b.length + k) (by omega)
  have e : b ++ (x.drop b.length).take (k + 1) = x.take (b.length + k + 1) := by
   rw [Nat.add_assoc, List.take_add (i := b.length), ht]
  rw [e]
  exact this
theorem goes_iff {t : Int × List (Int × List (List Int))} {ats : List (Int × List Int)} {n : Nat} (h0 : 0 < n) (hats : ∀ a ∈ ats, ∀ p ∈ a.2, 0 ≤ p ∧ p ≤ (n : Int) - 1) {x : List Int} (hx : x.length = n) :
  (∀ k, k < n → goesB t (duesL ats n) (x.take (k + 1)) = true) ↔ ∀ a ∈ ats, holdsA t x a = true := by
 have hpre : ∀ a ∈ ats, ∀ v : Nat, topI a.2 = v → holdsA t (x.take (v + 1)) a = holdsA t x a := fun a ha v hv => by
  have e : atL (x.take (v + 1)) a.2 = atL x a.2 := atL_pre (k := v + 1) (fun p hp' => by have h1 : p ≤ topI a.2 := topI_ge hp'; have h2 := hats a ha p hp'; omega)
  unfold holdsA holdsC
  rw [e]
 constructor
 ·intro h a ha
  have ht0 := topI_nn (xs := a.2)
  have ht1 : topI a.2 ≤ (n : Int) - 1 := topI_le (by omega) fun p hp' => (hats a ha p hp').2
  obtain ⟨v, hv⟩ : ∃ v : Nat, topI a.2 = v := ⟨(topI a.2).toNat, by omega⟩
  have hvN : v < n := by omega
  have hg := h v hvN
  rw [goesB_at (k := v) (by rw [List.length_take]; omega) (by rw [duesL_len]; exact hvN), duesL_get] at hg
  have hd : a ∈ dueL ats v := List.mem_filter.2 ⟨ha, by simpa using hv⟩
  have hn := (List.any_eq_false.1 (by simpa [anyB] using hg : (dueL ats v).any (fun a => !holdsA t (x.take (v + 1)) a) = false)) _ hd
  rw [← hpre a ha v hv]
  simpa using hn
 ·intro h k hk
  rw [goesB_at (k := k) (by rw [List.length_take]; omega) (by rw [duesL_len]; exact hk), duesL_get]
  have hnone : anyB (fun a => !holdsA t (x.take (k + 1)) a) (dueL ats k) = false := by
   refine List.any_eq_false.2 fun a ha => ?_
   obtain ⟨ha, htop⟩ := List.mem_filter.1 ha
   rw [hpre a ha k (by simpa using htop), h a ha]
   decide
  rw [hnone]
  rfl
theorem va_iff {t : Int × List (Int × List (List Int))} {f : Int × Int × List (Int × List Int)} (hok : frmOk t f) {tu : List Int} (hl : (tu.length : Int) = f.1) (hin : ∀ a ∈ tu, 0 ≤ a ∧ a ≤ t.1 - 1) :
  vaP t f tu = true ↔ ∃ x : List Int, (x.length : Int) = f.2.1 ∧ (∀ a ∈ x, 0 ≤ a ∧ a ≤ t.1 - 1) ∧ x.take tu.length = tu ∧ ∀ a ∈ f.2.2, holdsA t x a = true := by
 have hs := hok.1.1
 unfold sizeOk at hs
 have hfr := hok.2.1
 unfold frameOk at hfr
 have hats : ∀ a ∈ f.2.2, ∀ p ∈ a.2, 0 ≤ p ∧ p ≤ (f.2.1.toNat : Int) - 1 := fun a ha p hp => by
  have := (hok.2.2 a ha).2.2 p hp
  omega
 have hh : vaP t f tu = true ↔ ∃ x, x ∈ witX t f tu := by
  unfold vaP
  cases h : witX t f tu with
  | nil => simp [headB]
  | cons y r => simp only [headB, true_iff]; exact ⟨y, List.mem_cons_self ..⟩
 rw [hh]
 refine exists_congr fun x => ?_
 unfold witX
 rw [witL_mem (by omega) (fun a ha => by have := hin a ha; omega)]
 constructor
 ·rintro ⟨g1, g2, g3, g4⟩
  exact ⟨by omega, fun a ha => by have := g3 a ha; omega, g2, (goes_iff (by omega) hats g1).1 g4⟩
 ·rintro ⟨g1, g2, g3, g4⟩
  exact ⟨by omega, g3, fun a ha => by have := g2 a ha; omega, (goes_iff (by omega) hats (by omega)).2 g4⟩
end Go.Proofs.YtajmjfbejfiipaaGreat
namespace Go.Proofs.YtajmjfbejfiipaaGreat
open Go.RowKit Go.Sort
theorem addA_mem {a b : AtomL} {l l' : List AtomL} (h : addA a l = some l') : b ∈ l' ↔ (b ∈ l ∨ b = a) := by
 unfold addA at h
 split at h
 ·rename_i h1
  cases h
  obtain ⟨c, hc, he⟩ := List.any_eq_true.1 (show l.any (fun b => eqB a b) = true from h1)
  have := eqB_iff.1 he
  subst this
  exact ⟨.inl, fun h => h.elim id fun e => by rw [e]; exact hc⟩
 ·cases h
 ·cases h
  simp
theorem inI_mem {s : Int} {ar : Nat} {vars : List Int} {k : Nat} {r : Int × List (List Int)} {l : List AtomL} : ∀ {c : Nat} {l' : List AtomL}, inI s ar vars k r l c = some l' → ∀ b, b ∈ l' ↔ (b ∈ l ∨ ∃ i : Nat, i < c ∧ b = ((k : Int), atL vars (cellsL s ar r i)))
 | 0, l', h, b => by
  cases h
  exact ⟨.inl, fun h => h.elim id fun ⟨i, hi, _⟩ => absurd hi (Nat.not_lt_zero i)⟩
 | c + 1, l', h, b => by
  cases h0 : inI s ar vars k r l c with
  | none => rw [inI_none h0 (Nat.le_succ c)] at h; cases h
  | some q =>
   rw [inI_step h0] at h
   rw [addA_mem h, inI_mem h0]
   constructor
   ·rintro ((h1 | ⟨i, hi, e⟩) | e)
    ·exact .inl h1
    ·exact .inr ⟨i, by omega, e⟩
    ·exact .inr ⟨c, by omega, e⟩
   ·rintro (h1 | ⟨i, hi, e⟩)
    ·exact .inl (.inl h1)
    ·rcases Nat.lt_or_ge i c with h2 | h2
     ·exact .inl (.inr ⟨i, h2, e⟩)
     ·obtain rfl : i = c := by omega
      exact .inr e
theorem inT_mem {t : Tpl} {ar : Nat} {vars : List Int} {l : List AtomL} : ∀ {k : Nat} {l' : List AtomL}, k ≤ t.2.length → inT t ar vars l k = some l' → ∀ b, b ∈ l' ↔ (b ∈ l ∨ ∃ (q : Nat) (h : q < t.2.length) (i : Nat), q < k ∧ i < powN (t.2[q]).2.length ar ∧ b = ((q : Int), atL vars (cellsL t.1 ar t.2[q] i)))
 | 0, l', _, h, b => by
  cases h
  exact ⟨.inl, fun h => h.elim id fun ⟨q, _, i, hq, _⟩ => absurd hq (Nat.not_lt_zero q)⟩
 | k + 1, l', hk, h, b => by
  cases h0 : inT t ar vars l k with
  | none => rw [inT_none h0 (Nat.le_succ k)] at h; cases h
  | some q =>
   rw [inT_step h0 (by omega)] at h
   rw [inI_mem h, inT_mem (by omega) h0]
   constructor
   ·rintro ((h1 | ⟨q, h2, i, h3, h4, e⟩) | ⟨i, hi, e⟩)
    ·exact .inl h1
    ·exact .inr ⟨q, h2, i, by omega, h4, e⟩
    ·exact .inr ⟨k, by omega, i, by omega, hi, e⟩
   ·rintro (h1 | ⟨q, h2, i, h3, h4, e⟩)
    ·exact .inl (.inl h1)
    ·rcases Nat.lt_or_ge q k with h5 | h5
     ·exact .inl (.inr ⟨q, h2, i, h5, h4, e⟩)
     ·obtain rfl : q = k := by omega
      exact .inr ⟨i, h4, e⟩
theorem eqA_mem {s : Int} {cols : List (List Int)} {vars : List Int} : ∀ {p : Nat} (b : AtomL), b ∈ eqA s cols vars p ↔ ∃ q : Nat, q < p ∧ vars.getD (idxL s 0 (cols.getD q [])).toNat 0 ≠ (q : Int) ∧ b = (-1, [vars.getD (idxL s 0 (cols.getD q [])).toNat 0, (q : Int)])
 | 0, b => ⟨fun h => (by cases h), fun ⟨q, hq, _⟩ => absurd hq (Nat.not_lt_zero q)⟩
 | p + 1, b => by
  have hS : ∀ P : Nat → Prop, (∃ q, q < p + 1 ∧ P q) ↔ ((∃ q, q < p ∧ P q) ∨ P p) := by
   intro P
   constructor
   ·rintro ⟨q, hq, h⟩
    rcases Nat.lt_or_ge q p with h1 | h1
    ·exact .inl ⟨q, h1, h⟩
    ·obtain rfl : q = p := by omega
     exact .inr h
   ·rintro (⟨q, hq, h⟩ | h)
    ·exact ⟨q, by omega, h⟩
    ·exact ⟨p, by omega, h⟩
  have e0 : eqA s cols vars (p + 1) = match (vars.getD (idxL s 0 (cols.getD p [])).toNat 0 != (p : Int)) with
   | true => eqA s cols vars p ++ [(-1, [vars.getD (idxL s 0 (cols.getD p [])).toNat 0, (p : Int)])]
   | false => eqA s cols vars p := rfl
  rw [hS, ← eqA_mem b, e0]
  split
  ·rename_i h1
   have h1' : vars.getD (idxL s 0 (cols.getD p [])).toNat 0 ≠ (p : Int) := by simpa using h1
   rw [List.mem_append, List.mem_singleton]
   exact ⟨fun h => h.elim .inl fun e => .inr ⟨h1', e⟩, fun h => h.elim .inl fun e => .inr e.2⟩
  ·rename_i h1
   have h1' : vars.getD (idxL s 0 (cols.getD p [])).toNat 0 = (p : Int) := by simpa using h1
   exact ⟨.inl, fun h => h.elim id fun e => absurd h1' e.1⟩
section
variable {s : Int} {ar N : Nat} {cols : List (List Int)}
theorem varQ_yes {k : Nat} (h : 0 ≤ varQ s ar cols k) : ∃ p : Nat, ∃ hp : p < cols.length, varQ s ar cols k = p ∧ cols[p] = digL s k ar := by
 unfold varQ firstI at h ⊢
 cases hf : cols.findIdx? (fun l => eqB l (digL s k ar)) with
 | none => rw [hf] at h; simp at h
 | some i =>
  rw [List.findIdx?_eq_some_iff_getElem] at hf
  obtain ⟨h1, h2, -⟩ := hf
  exact ⟨i, h1, rfl, eqB_iff.1 h2⟩
theorem vrS_lt : ∀ {k : Nat}, ∀ a ∈ (vrS s ar cols k).1, 0 ≤ a ∧ a < (vrS s ar cols k).2
 | 0, a, ha => by cases ha
 | k + 1, a, ha => by
  have hn := vrS_next (s := s) (ar := ar) (cols := cols) (k := k)
  cases h : decide (varQ s ar cols k < 0)
  ·rw [vrS_old h] at ha ⊢
   rcases List.mem_append.1 ha with ha | ha
   ·exact vrS_lt a ha
   ·have h1 : ¬ (varQ s ar cols k < 0) := by simpa using h
    obtain ⟨p, hp, e, -⟩ := varQ_yes (s := s) (ar := ar) (cols := cols) (k := k) (by omega)
    simp only [List.mem_singleton] at ha
    show 0 ≤ a ∧ a < (vrS s ar cols k).2
    omega
  ·rw [vrS_new h] at ha ⊢
   rcases List.mem_append.1 ha with ha | ha
   ·have := vrS_lt a ha
    show 0 ≤ a ∧ a < (vrS s ar cols k).2 + 1
    omega
   ·simp only [List.mem_singleton] at ha
    show 0 ≤ a ∧ a < (vrS s ar cols k).2 + 1
    omega
theorem getD_snoc_old {l : List Int} {y : Int} {i : Nat} (h : i < l.length) : (l ++ [y]).getD i 0 = l.getD i 0 := by simp [List.getD_eq_getElem?_getD, List.getElem?_append_left h]
theorem getD_snoc_new {l : List Int} {y : Int} : (l ++ [y]).getD l.length 0 = y := by simp [List.getD_eq_getElem?_getD]
theorem vrS_vals (hs : 1 ≤ s) (hcin : ∀ l ∈ cols, l.length = ar ∧ ∀ a ∈ l, 0 ≤ a ∧ a ≤ s - 1) (hN : s ^ ar = N) {x v : List Int} (hx : x.length = N) (hv : v.length = cols.length) (hxv : ∀ p (h : p < cols.length), x.getD (idxL s 0 cols[p]).toNat 0 = v.getD p 0) : ∀ k, k ≤ N →
  ∃ vals : List Int, (vals.length : Int) = (vrS s ar cols k).2 ∧ vals.take cols.length = v ∧ (∀ a ∈ vals, a ∈ v ∨ a ∈ x) ∧ ∀ i, i < k → vals.getD ((vrS s ar cols k).1.getD i 0).toNat 0 = x.getD i 0
 | 0, _ => ⟨v, by rw [hv]; rfl, by rw [← hv, List.take_length], fun a ha => .inl ha, fun i hi => absurd hi (Nat.not_lt_zero i)⟩
 | k + 1, hk => by
  obtain ⟨vals, h1, h2, h3, h4⟩ := vrS_vals hs hcin hN hx hv hxv k (by omega)
  have hn := vrS_next (s := s) (ar := ar) (cols := cols) (k := k)
  have hlen := vrS_len (s := s) (ar := ar) (cols := cols) (k := k)
  have hlt : ∀ i, i < k → 0 ≤ (vrS s ar cols k).1.getD i 0 ∧ (vrS s ar cols k).1.getD i 0 < (vrS s ar cols k).2 := fun i hi => by
   have hi' : i < (vrS s ar cols k).1.length := by rw [hlen]; exact hi
   rw [List.getD_eq_getElem?_getD, List.getElem?_eq_getElem hi']
   exact vrS_lt _ (List.getElem_mem hi')
  cases h : decide (varQ s ar cols k < 0)
  ·have h0 : ¬ (varQ s ar cols k < 0) := by simpa using h
   obtain ⟨p, hp, e, ec⟩ := varQ_yes (s := s) (ar := ar) (cols := cols) (k := k) (by omega)
   rw [vrS_old h]
   refine ⟨vals, h1, h2, h3, fun i hi => ?_⟩
   rcases Nat.lt_or_ge i k with h5 | h5
   ·show vals.getD (((vrS s ar cols k).1 ++ [varQ s ar cols k]).getD i 0).toNat 0 = _
    rw [getD_snoc_old (by rw [hlen]; exact h5)]
    exact h4 i h5
   ·obtain rfl : i = k := by omega
    show vals.getD (((vrS s ar cols i).1 ++ [varQ s ar cols i]).getD i 0).toNat 0 = _
    have e2 : ((vrS s ar cols i).1 ++ [varQ s ar cols i]).getD i 0 = varQ s ar cols i := by
     have := getD_snoc_new (l := (vrS s ar cols i).1) (y := varQ s ar cols i)
     rwa [hlen] at this
    obtain ⟨g1, g2⟩ := hcin _ (List.getElem_mem hp)
    have e3 := col_num (N := N) hs hN g1 g2 (i := i) (by omega)
    rw [eqB_true ec] at e3
    have e4 : idxL s 0 cols[p] = (i : Int) := of_decide_eq_true e3.symm
    have e5 := hxv p hp
    rw [e4, Int.toNat_natCast] at e5
    rw [e2, e, Int.toNat_natCast, e5, ← h2]
    simp only [List.getD_eq_getElem?_getD]
    rw [List.getElem?_take, if_pos hp]
  ·rw [vrS_new h]
   refine ⟨vals ++ [x.getD k 0], by simp only [List.length_append, List.length_singleton]; omega, by rw [List.take_append_of_le_length (by omega)]; exact h2, fun a ha => ?_, fun i hi => ?_⟩
   ·rcases List.mem_append.1 ha with ha | ha
    ·exact h3 a ha
    ·rw [List.mem_singleton.1 ha, List.getD_eq_getElem?_getD, List.getElem?_eq_getElem (by omega)]
     exact .inr (List.getElem_mem _)
   ·rcases Nat.lt_or_ge i k with h5 | h5
    ·show (vals ++ [x.getD k 0]).getD (((vrS s ar cols k).1 ++ [(vrS s ar cols k).2]).getD i 0).toNat 0 = _
     have := hlt i h5
     rw [getD_snoc_old (l := (vrS s ar cols k).1) (by rw [hlen]; exact h5), getD_snoc_old (by omega)]
     exact h4 i h5
    ·obtain rfl : i = k := by omega
     show (vals ++ [x.getD i 0]).getD (((vrS s ar cols i).1 ++ [(vrS s ar cols i).2]).getD i 0).toNat 0 = _
     have e2 : ((vrS s ar cols i).1 ++ [(vrS s ar cols i).2]).getD i 0 = (vrS s ar cols i).2 := by
      have := getD_snoc_new (l := (vrS s ar cols i).1) (y := (vrS s ar cols i).2)
      rwa [hlen] at this
     rw [e2, ← h1, Int.toNat_natCast]
     exact getD_snoc_new
end
end Go.Proofs.YtajmjfbejfiipaaGreat
namespace Go.Proofs.YtajmjfbejfiipaaGreat
open Go.RowKit Go.Sort
theorem atL_len' {l places : List Int} : (atL l places).length = places.length := by simp [atL]
/-- values of variables at places: as the table that they make -/
theorem atL_atL {vals vars ps : List Int} (h : ∀ p ∈ ps, 0 ≤ p ∧ p < (vars.length : Int)) : atL vals (atL vars ps) = atL (atL vals vars) ps := by
 unfold atL
 rw [List.map_map]
 refine List.map_congr_left fun p hp => ?_
 have hp' := h p hp
 have hi : p.toNat < vars.length := by omega
 show vals.getD (vars.getD p.toNat 0).toNat 0 = (vars.map fun q => vals.getD q.toNat 0).getD p.toNat 0
 rw [List.getD_eq_getElem?_getD (l := vars.map _), List.getElem?_map, List.getElem?_eq_getElem hi, List.getD_eq_getElem?_getD (l := vars), List.getElem?_eq_getElem hi]
 rfl
section
variable {t : Tpl} {u : List (List Int)}
/-- what there is, where the formula is made -/
theorem in_made (h : inC t u = 0) : huC t u = 0 ∧ (ivS t u).2 ≤ 8 ∧ ∃ l, ivT t u = some l ∧ inV t u = ((huM u : Int), (ivS t u).2, l) := by
 by_cases h0 : huC t u = 0
 ·cases h1 : decide (8 < (ivS t u).2)
  ·cases h2 : ivT t u with
   | none => rw [(in_lim h0 h1 h2).1] at h; cases h
   | some l => exact ⟨h0, by have : ¬ (8 < (ivS t u).2) := by simpa using h1
                             omega, l, rfl, (in_ok h0 h1 h2).2⟩
  ·rw [(in_vars h0 h1).1] at h; cases h
 ·rw [(in_no h0).1] at h; exact absurd h h0
theorem cells_tab (hT : tplOk t) {m : Nat} (hm : 1 ≤ m) {k : Nat} (hk : k < t.2.length) {i : Nat} (hi : i < powN (t.2[k]).2.length m) : ∀ p ∈ cellsL t.1 m t.2[k] i, 0 ≤ p ∧ p < (tabL t (m : Int) : Int) := by
 have hN := tab_len hT m
 obtain ⟨_, -, -, -, hp⟩ := looksA_ok hT hN hm _ (Nat.le_refl _) _ (looksA_mem.2 ⟨k, hk, i, by rw [← powN_cast]; omega, rfl⟩)
 exact hp
theorem inT_lenU {t : Tpl} {ar : Nat} {vars : List Int} {l : List AtomL} : ∀ {k : Nat} {l' : List AtomL}, k ≤ t.2.length → inT t ar vars l k = some l' → l.length ≤ 16 → l'.length ≤ 16
 | 0, l', _, h, hl => by cases h; exact hl
 | k + 1, l', hk, h, hl => by
  cases h0 : inT t ar vars l k with
  | none => rw [inT_none h0 (Nat.le_succ k)] at h; cases h
  | some q =>
   rw [inT_step h0 (by omega)] at h
   exact inI_len h (inT_lenU (by omega) h0 hl)
/-- the variable at a column's number -/
theorem col_var (h : huC t u = 0) {p : Nat} (hp : p < huM u) : 0 ≤ (ivS t u).1.getD (idxL t.1 0 (colL u p)).toNat 0 ∧ (ivS t u).1.getD (idxL t.1 0 (colL u p)).toNat 0 < (ivS t u).2 := by
 have hi := (hu_idx h hp).2
 have hl : (idxL t.1 0 (colL u p)).toNat < (ivS t u).1.length := by unfold ivS; rw [vrS_len]; exact hi
 rw [List.getD_eq_getElem?_getD, List.getElem?_eq_getElem hl]
 exact vrS_lt _ (List.getElem_mem hl)
theorem in_frm (h : inC t u = 0) : frmOk t (inV t u) := by
 obtain ⟨h0, h8, l, hl, hV⟩ := in_made h
 obtain ⟨hT, hul, hm, -, -⟩ := hu_ok h0
 have hn := vrS_next (s := t.1) (ar := u.length) (cols := colsL u (huM u)) (k := tabL t u.length)
 rw [colsL_len] at hn
 have hnv : (huM u : Int) ≤ (ivS t u).2 := hn.1
 have hmem := inT_mem (Nat.le_refl _) hl
 rw [hV]
 refine ⟨hT, ⟨⟨by show (1 : Int) ≤ (huM u : Int); omega, by show (huM u : Int) ≤ 4; omega⟩, ⟨hnv, h8⟩, inT_lenU (Nat.le_refl _) hl (by have := eqA_len (s := t.1) (cols := colsL u (huM u)) (vars := (ivS t u).1) (p := huM u); unfold ivE; omega)⟩, fun a ha => ?_⟩
 rcases (hmem a).1 ha with ha | ⟨q, hq, i, -, hi, rfl⟩
 ·obtain ⟨p, hp, -, rfl⟩ := (eqA_mem a).1 ha
  rw [colsL_at hp]
  have hc := col_var h0 hp
  refine ⟨by show arOf t (-1) ≠ 0; rw [arOf_eq]; decide, by show (([_, _] : List Int).length : Int) = arOf t (-1); rw [arOf_eq]; rfl, fun b hb => ?_⟩
  show 0 ≤ b ∧ b ≤ (ivS t u).2 - 1
  rcases List.mem_cons.1 hb with rfl | hb
  ·omega
  ·rw [List.mem_singleton.1 hb]; omega
 ·have hr := hT.2.2 _ (List.getElem_mem hq)
  have hr1 := hr.2.1
  unfold sizeOk at hr1
  refine ⟨by show arOf t (q : Int) ≠ 0; rw [arOf_nat hq]; omega, ?_, fun b hb => ?_⟩
  ·show ((atL _ _).length : Int) = arOf t (q : Int)
   rw [arOf_nat hq, atL_len', cells_len]
   omega
  ·show 0 ≤ b ∧ b ≤ (ivS t u).2 - 1
   obtain ⟨p, hp, rfl⟩ := List.mem_map.1 hb
   have hc := cells_tab hT (by omega) hq hi p hp
   have hpl : p.toNat < (ivS t u).1.length := by unfold ivS; rw [vrS_len]; omega
   have := vrS_lt (s := t.1) (ar := u.length) (cols := colsL u (huM u)) (k := tabL t u.length) _ (List.getElem_mem hpl)
   rw [List.getD_eq_getElem?_getD, List.getElem?_eq_getElem hpl]
   show 0 ≤ (ivS t u).1[p.toNat] ∧ (ivS t u).1[p.toNat] ≤ (ivS t u).2 - 1
   have h2 : 0 ≤ (ivS t u).1[p.toNat] ∧ (ivS t u).1[p.toNat] < (ivS t u).2 := this
   omega
/-- the formula holds at a tuple just if a polymorphism makes it of the tuples -/
theorem in_holds (h : inC t u = 0) {v : List Int} (hv : v.length = huM u) (hvin : ∀ a ∈ v, 0 ≤ a ∧ a ≤ t.1 - 1) :
  (∃ x : List Int, (x.length : Int) = (inV t u).2.1 ∧ (∀ a ∈ x, 0 ≤ a ∧ a ≤ t.1 - 1) ∧ x.take v.length = v ∧ ∀ a ∈ (inV t u).2.2, holdsA t x a = true) ↔ ∃ x, polyT t (u.length : Int) x ∧ madeL t.1 x u (huM u) = v := by
 obtain ⟨h0, h8, l, hl, hV⟩ := in_made h
 obtain ⟨hT, hul, hm, hr1, hr2⟩ := hu_ok h0
 have hs := hT.1
 unfold sizeOk at hs
 have hN := tab_len hT u.length
 have hmem := inT_mem (Nat.le_refl _) hl
 have hvl : (ivS t u).1.length = tabL t u.length := by unfold ivS; exact vrS_len
 rw [hV]
 show (∃ x : List Int, (x.length : Int) = (ivS t u).2 ∧ _ ∧ _ ∧ ∀ a ∈ l, holdsA t x a = true) ↔ _
 have hrel : ∀ (vals : List Int) (q : Nat) (hq : q < t.2.length) (i : Nat), i < powN (t.2[q]).2.length u.length → (holdsA t vals ((q : Int), atL (ivS t u).1 (cellsL t.1 u.length t.2[q] i)) = true ↔ makes t.1 ((u.length : Int), atL vals (ivS t u).1) t.2[q] i ∈ (t.2[q]).2) := fun vals q hq i hi => by
  rw [holdsA_rel (by show (((q : Int)) == -1) = false; simp), tb_iff]
  unfold holdsC
  show atL vals (atL _ _) ∈ (relAt t (q : Int)).2 ↔ _
  rw [relAt_nat hq, atL_atL (fun p hp => by rw [hvl]; exact cells_tab hT (by omega) hq hi p hp), atL_cells]
 constructor
 ·rintro ⟨vals, g1, g2, g3, g4⟩
  have hxin : ∀ a ∈ atL vals (ivS t u).1, 0 ≤ a ∧ a ≤ t.1 - 1 := fun a ha => by
   obtain ⟨q, hq, rfl⟩ := List.mem_map.1 ha
   have hb := vrS_lt (s := t.1) (ar := u.length) (cols := colsL u (huM u)) (k := tabL t u.length) q hq
   have hb2 : 0 ≤ q ∧ q < (ivS t u).2 := hb
   have hql : q.toNat < vals.length := by omega
   rw [List.getD_eq_getElem?_getD, List.getElem?_eq_getElem hql]
   exact g2 _ (List.getElem_mem hql)
  refine ⟨atL vals (ivS t u).1, ⟨by rw [atL_len', hvl], hxin, fun r hr i hi => ?_⟩, ?_⟩
  ·obtain ⟨q, hq, rfl⟩ := List.mem_iff_getElem.1 hr
   have hi' : i < powN (t.2[q]).2.length u.length := by
    have := powN_cast (n := (t.2[q]).2.length) (ar := u.length)
    have hi2 : (i : Int) < ((t.2[q]).2.length : Int) ^ u.length := hi
    omega
   exact (hrel vals q hq i hi').1 (g4 _ ((hmem _).2 (.inr ⟨q, hq, i, hq, hi', rfl⟩)))
  ·refine madeL_ext hv fun p hp => ?_
   have hi := (hu_idx h0 hp).2
   have hix : (idxL t.1 0 (colL u p)).toNat < (ivS t u).1.length := by rw [hvl]; exact hi
   have e1 : madeV t.1 (atL vals (ivS t u).1) u p = vals.getD ((ivS t u).1.getD (idxL t.1 0 (colL u p)).toNat 0).toNat 0 := by
    unfold madeV atL
    rw [List.getD_eq_getElem?_getD (l := List.map _ _), List.getElem?_map, List.getElem?_eq_getElem hix, List.getD_eq_getElem?_getD (l := (ivS t u).1), List.getElem?_eq_getElem hix]
    rfl
   have e2 : v.getD p 0 = vals.getD p 0 := by
    rw [← g3]
    simp only [List.getD_eq_getElem?_getD]
    rw [List.getElem?_take, if_pos (by omega)]
   rw [e1, e2]
   by_cases he : (ivS t u).1.getD (idxL t.1 0 (colL u p)).toNat 0 = (p : Int)
   ·rw [he, Int.toNat_natCast]
   ·have ha : ((-1 : Int), [(ivS t u).1.getD (idxL t.1 0 (colL u p)).toNat 0, (p : Int)]) ∈ l := (hmem _).2 (.inl ((eqA_mem _).2 ⟨p, hp, by rw [colsL_at hp]; exact he, by rw [colsL_at hp]⟩))
    have := g4 _ ha
    rw [holdsA_eq rfl] at this
    simpa [atL] using this
 ·rintro ⟨x, hx, hmk⟩
  have hxv : ∀ p (h : p < (colsL u (huM u)).length), x.getD (idxL t.1 0 (colsL u (huM u))[p]).toNat 0 = v.getD p 0 := fun p hp => by
   have hp' : p < huM u := by rwa [colsL_len] at hp
   have e : (colsL u (huM u))[p] = colL u p := by simp [colsL]
   rw [e, ← hmk]
   unfold madeL
   rw [List.getD_eq_getElem?_getD (l := List.map _ _), List.getElem?_map, List.getElem?_range hp']
   rfl
  obtain ⟨vals, k1, k2, k3, k4⟩ := vrS_vals (s := t.1) (ar := u.length) (N := tabL t (u.length : Int)) (cols := colsL u (huM u)) hs.1 (fun c hc => by
   obtain ⟨p, hp, rfl⟩ := List.mem_map.1 hc
   exact ⟨colL_len, colL_in (hu_tups h0) (by simpa using hp)⟩) hN hx.1 (by rw [hv, colsL_len]) hxv _ (Nat.le_refl _)
  have hat : atL vals (ivS t u).1 = x := by
   refine List.ext_getElem (by rw [atL_len', hvl, hx.1]) fun i hi hi' => ?_
   have hiN : i < tabL t (u.length : Int) := by rw [← hx.1]; exact hi'
   have := k4 i hiN
   have hiv : i < (ivS t u).1.length := by rw [hvl]; exact hiN
   have eA : (atL vals (ivS t u).1)[i] = vals.getD ((ivS t u).1[i]).toNat 0 := by simp [atL]
   rw [eA]
   have e1 : (vrS t.1 u.length (colsL u (huM u)) (tabL t (u.length : Int))).1.getD i 0 = (ivS t u).1[i] := by
    show (ivS t u).1.getD i 0 = _
    rw [List.getD_eq_getElem?_getD, List.getElem?_eq_getElem hiv]
    rfl
   rw [e1] at this
   rw [this, List.getD_eq_getElem?_getD, List.getElem?_eq_getElem hi']
   rfl
  refine ⟨vals, k1, fun a ha => (k3 a ha).elim (hvin a) (hx.2.1 a), by rw [hv, ← colsL_len (u := u) (m := huM u)]; exact k2, fun a ha => ?_⟩
  rcases (hmem a).1 ha with ha | ⟨q, hq, i, -, hi, rfl⟩
  ·obtain ⟨p, hp, -, rfl⟩ := (eqA_mem a).1 ha
   rw [colsL_at hp, holdsA_eq rfl]
   have hi := (hu_idx h0 hp).2
   have e1 : vals.getD ((ivS t u).1.getD (idxL t.1 0 (colL u p)).toNat 0).toNat 0 = x.getD (idxL t.1 0 (colL u p)).toNat 0 := k4 _ hi
   have e2 : x.getD (idxL t.1 0 (colL u p)).toNat 0 = v.getD p 0 := by
    have := hxv p (by rw [colsL_len]; exact hp)
    have e : (colsL u (huM u))[p]'(by rw [colsL_len]; exact hp) = colL u p := by simp [colsL]
    rwa [e] at this
   have e3 : vals.getD p 0 = v.getD p 0 := by
    rw [← k2, colsL_len]
    simp only [List.getD_eq_getElem?_getD]
    rw [List.getElem?_take, if_pos hp]
   simp only [atL, List.map_cons, List.map_nil, List.getD_cons_zero, List.getD_cons_succ]
   rw [e1, e2, Int.toNat_natCast, e3]
   simp
  ·refine (hrel vals q hq i hi).2 ?_
   rw [hat]
   exact hx.2.2 _ (List.getElem_mem hq) i (by
    have := powN_cast (n := (t.2[q]).2.length) (ar := u.length)
    show (i : Int) < ((t.2[q]).2.length : Int) ^ u.length
    omega)
/-- the value of the hull's formula -/
theorem in_value (h : inC t u = 0) (hh : hofC t u = 0) : voV t (inV t u) = hofV t u ∧ voC t (inV t u) = 0 := by
 have hok := in_frm h
 obtain ⟨g1, g2⟩ := vo_yes (tb_true hok)
 refine ⟨?_, g2⟩
 rw [g1]
 obtain ⟨h0, -, l, -, hV⟩ := in_made h
 obtain ⟨-, hlim, hB, hH⟩ := hof_no7 hh
 obtain ⟨hT, hul, hm, -, -⟩ := hu_ok h0
 have hs := hT.1
 unfold sizeOk at hs
 have e1 : (inV t u).1 = (huM u : Int) := by rw [hV]
 have eR : hulR t u (hulN t u) = relL t.1 (huM u) (hulP t u) (hulN t u) := by
  unfold hulR hulJ relL
  rw [List.filter_map]
  rfl
 rw [hH, eR]
 unfold vaR
 rw [e1, Int.toNat_natCast]
 refine Prod.ext rfl ?_
 show relL t.1 (huM u) (vaP t (inV t u)) (t.1 ^ huM u).toNat = relL t.1 (huM u) (hulP t u) (hulN t u)
 unfold relL
 refine List.filter_congr fun v hv => ?_
 obtain ⟨j, hj, rfl⟩ := List.mem_map.1 hv
 have hj' : j < hulN t u := by simpa [hulN] using hj
 have hlen : (digL t.1 (j : Int) (huM u)).length = huM u := digL_len
 have hin : ∀ a ∈ digL t.1 (j : Int) (huM u), 0 ≤ a ∧ a ≤ t.1 - 1 := digL_in hs.1
 have k1 := va_iff hok (tu := digL t.1 (j : Int) (huM u)) (by rw [hlen, e1]) hin
 rw [in_holds h hlen hin] at k1
 rw [Bool.eq_iff_iff, k1]
 rcases hul_at hh hj' with ⟨x, -, q2, q3, q4⟩ | ⟨q1, q2⟩
 ·exact ⟨fun _ => q2, fun _ => ⟨x, q3, q4⟩⟩
 ·exact ⟨fun ⟨x, k2, k3⟩ => absurd k3 (q2 x k2), fun k => by
   have e : hulP t u (digL t.1 (j : Int) (huM u)) = false := q1
   rw [e] at k; cases k⟩
end
end Go.Proofs.YtajmjfbejfiipaaGreat
namespace Go.Proofs.YtajmjfbejfiipaaGreat
open Go.RowKit Go.Sort
section
variable {t : Tpl} {u : List (List Int)}
theorem hu_zero' (hT : tplOk t) {ar : Nat} (h1 : 1 ≤ u.length ∧ u.length ≤ 3) (har : 1 ≤ ar ∧ ar ≤ 4) (h : ∀ l ∈ u, l.length = ar ∧ inS t.1 l) : huC t u = 0 ∧ huM u = ar := by
 have hM : huM u = ar := by rw [huM_at (by omega)]; exact (h _ (List.getElem_mem _)).1
 refine ⟨hu_0 (tb_true hT) (inB_true.2 (by omega)) (inB_true.2 (by rw [hM]; omega)) ?_, hM⟩
 rw [List.all_eq_true, hM]
 exact fun l hl => tb_true ⟨by rw [(h l hl).1], (h l hl).2⟩
theorem polyT_poly (hT : tplOk t) {n : Nat} (hn : 1 ≤ n ∧ n ≤ 3) {x : List Int} (h : polyT t (n : Int) x) : polyB t ((n : Int), x) = true ∧ polyC t ((n : Int), x) = 0 ∧ opOk t.1 ((n : Int), x) := by
 have hb := poly_true.2 ⟨hT, polyT_op hT hn h, h.2.2⟩
 refine ⟨hb, ?_, polyT_op hT hn h⟩
 unfold polyC
 unfold polyB at hb
 split
 ·rfl
 ·rename_i h0; simp [h0] at hb
theorem po_nil {ar : Int} (h : poC t ar ≠ 0) : poV t ar = [] := by
 by_cases h1 : askC t ar = 0
 ·cases h2 : limF t ar.toNat
  ·by_cases h3 : (poR t ar).1 = 0
   ·exact absurd (po_yes h1 h2 h3).2 h
   ·exact (po_no h1 h2 h3).1
  ·exact (po_lim h1 h2).1
 ·exact (po_ask h1).1
theorem rel_mk {s : Int} {ar : Nat} {M : List (List Int)} (hs : sizeOk s) (har : 1 ≤ ar ∧ ar ≤ 4) (h : ∀ l ∈ u, l.length = ar ∧ inS s l) (hM : ∀ l, l ∈ M ↔ l ∈ u) (hP : M.Pairwise ltL) : relOk s ((ar : Int), M) :=
 ⟨hs, ⟨by show (1 : Int) ≤ ar; omega, by show (ar : Int) ≤ 4; omega⟩, fun i hi => ⟨⟨by rw [(h _ ((hM _).1 (List.getElem_mem hi))).1], (h _ ((hM _).1 (List.getElem_mem hi))).2⟩, fun h0 => List.pairwise_iff_getElem.1 hP (i - 1) i (by show i - 1 < M.length; have : i < M.length := hi; omega) hi (by omega)⟩⟩
end
end Go.Proofs.YtajmjfbejfiipaaGreat
namespace Go.Proofs.YtajmjfbejfiipaaGreat
open Go.RowKit Go.Sort
/-- a struct, a slice and a code; each in blocks of its own -/
def RetASC {α β : Type} (E : Ty α) (F : Ty β) (w : World) (x : α) (y : β) (c : Int) (e : Ending) (w' : World) : Prop :=
 ∃ (cs : List Value) (u : Value) (mid : Nat), e = .returned (.tuple #[.agg cs.toArray, u, .int .i64 c]) ∧ w.heap.size ≤ mid ∧ mid ≤ w'.heap.size ∧ E.Fx w.heap.size mid w' cs x ∧ F.Fr mid w' [u] y ∧ Below w.heap.size w w'
theorem fx_op0 {lo hi : Nat} {w : World} : opT.Fx lo hi w [.int .i64 0, .slice none 0 0] (0, []) := by
 obtain ⟨fp, h1, h2, h3, h4⟩ := fr_op0 (base := 0) (w := w)
 obtain ⟨cs, he, hI, ad, cap, hc, g1, g2, g3⟩ := h1
 rcases g3 with ⟨-, rfl⟩ | ⟨g3, -⟩
 ·exact ⟨[], ⟨cs, he, hI, ad, cap, hc, g1, g2, .inl ⟨rfl, rfl⟩⟩, List.nodup_nil, (fun b hb => by cases hb), (fun b hb => by cases hb)⟩
 ·simp at g3
theorem Ty.Fx.fx_set {α : Type} {E : Ty α} {lo hi : Nat} {w : World} {cs : List Value} {x : α} {a : Addr} {u : Value} (h : E.Fx lo hi w cs x) (ha : a.block < lo) : E.Fx lo hi (w.setCell a u) cs x :=
 let ⟨fp, h1, h2, h3, h4⟩ := h
 have hs : Same fp w (w.setCell a u) := fun k hk => Below.heap_setCell w a u k (fun e => by have := (h3 k hk).1; omega)
 ⟨fp, E.same h1 hs, h2, h3, h4.same hs⟩
theorem Ty.Fx.fx_lo {α : Type} {E : Ty α} {lo lo' hi : Nat} {w : World} {cs : List Value} {x : α} (h : E.Fx lo hi w cs x) (hl : lo' ≤ lo) : E.Fx lo' hi w cs x :=
 let ⟨fp, h1, h2, h3, h4⟩ := h
 ⟨fp, h1, h2, fun b hb => ⟨Nat.le_trans hl (h3 b hb).1, (h3 b hb).2⟩, h4⟩
set_option maxHeartbeats 3200000 in
set_option maxRecDepth 100000 in
theorem BreakingOp_any (w : World) {cs cr : Array Value} {t : Tpl} {r : RelV} (h : tplT.Rd w cs.toList t) (hr : relT.Rd w cr.toList r) :
  Calls Tryz.prog 22 #[.agg cs, .agg cr] w (RetASC opT intsT w (boO t r) (boT t r) (boC t r)) := by
 have HP := Lib.hid h
 have HR := Lib.hid hr
 obtain ⟨v1, hv1, -, -⟩ := pair_ex h
 obtain rfl := agg_of hv1
 obtain ⟨v2, hv2, -, hx⟩ := pair_ex hr
 obtain rfl := agg_of hv2
 obtain ⟨la, lc, rfl⟩ := rd_slice hx
 clear h hr hv1 hv2 hx
 go_enter Tryz.func22, Tryz.ntmps22
 go_wp2_with fail
 generalize hW : World.alloc (World.alloc (World.alloc w _) _) _ = W
 have hbW : Below w.heap.size w W := hW ▸ bthen bAA bA
 have hsW : w.heap.size + 3 ≤ W.heap.size := by rw [← hW]; simp
 have t0 : W.cell? ⟨w.heap.size, 0, none⟩ = some (.int .i64 t.1) := by rw [← hW]; simp [go_sem]
 have t1 : W.cell? ⟨w.heap.size, 1, none⟩ = some v1 := by rw [← hW]; simp [go_sem]
 have d0 : W.cell? ⟨w.heap.size + 1, 0, none⟩ = some (.int .i64 r.1) := by rw [← hW]; simp [go_sem]
 have d1 : W.cell? ⟨w.heap.size + 1, 1, none⟩ = some (.slice la r.2.length lc) := by rw [← hW]; simp [go_sem]
 have r0 : W.cell? ⟨w.heap.size + 1 + 1, 0, none⟩ = some (.int .i64 0) := by rw [← hW]; simp [go_sem]
 have r1 : W.cell? ⟨w.heap.size + 1 + 1, 1, none⟩ = some (.slice none 0 0) := by rw [← hW]; simp [go_sem]
 have q0 : W.frozen? ⟨w.heap.size + 1 + 1, 0, none⟩ = false := by rw [← hW]; simp [go_sem]
 have q1 : W.frozen? ⟨w.heap.size + 1 + 1, 1, none⟩ = false := by rw [← hW]; simp [go_sem]
 clear hW
 refine (hullOfRel_any _ (HP.out.below hbW) (HR.out.below hbW)).mono ?_
 rintro e w2 ⟨cs2, u2, rfl, hf2, ho2, hb2⟩
 obtain ⟨a2, c2, rfl⟩ := fr_pair hf2
 have HF2 := Lib.hid hf2.rd
 have HO2 := Lib.hid ho2.rd
 obtain ⟨oa, oc, rfl⟩ := rd_slice ho2.rd
 have hB2 := bthen hbW hb2
 have hz2 := hb2.size
 replace d0 := (cellB hb2 (by omega)).trans d0
 replace d1 := (cellB hb2 (by omega)).trans d1
 replace r0 := (cellB hb2 (by omega)).trans r0
 replace r1 := (cellB hb2 (by omega)).trans r1
 replace q0 := (frozenB hb2 (by omega)).trans q0
 replace q1 := (frozenB hb2 (by omega)).trans q1
 have hl2 : w.heap.size + 3 ≤ w2.heap.size := by omega
 clear hf2 ho2 t0 t1
 have x0' : ∀ q, (w2.alloc q).cell? ⟨w.heap.size + 1 + 1, 0, none⟩ = some (.int .i64 0) := fun q => (cellB bA (show w.heap.size + 1 + 1 < w2.heap.size by omega)).trans r0
 have x1' : ∀ q, (w2.alloc q).cell? ⟨w.heap.size + 1 + 1, 1, none⟩ = some (.slice none 0 0) := fun q => (cellB bA (show w.heap.size + 1 + 1 < w2.heap.size by omega)).trans r1
 have y0' : ∀ q, (w2.alloc q).frozen? ⟨w.heap.size + 1 + 1, 0, none⟩ = false := fun q => (frozenB bA (show w.heap.size + 1 + 1 < w2.heap.size by omega)).trans q0
 have y1' : ∀ q, (w2.alloc q).frozen? ⟨w.heap.size + 1 + 1, 1, none⟩ = false := fun q => (frozenB bA (show w.heap.size + 1 + 1 < w2.heap.size by omega)).trans q1
 cases hc : (roC t r == 0)
 ·have HE := Lib.hid (bo_no hc)
  have hc1 : (roC t r != 0) = true := by simpa using hc
  have HZ0 := Lib.hid (fun (x y : Value) (q : Obj) => res2_0 (x := x) (y := y) (x0' q))
  have HZ1 := Lib.hid (fun (x y : Value) (q : Obj) => res2_1 (x := x) (y := y) (x1' q))
  clear hc
  generalize roC t r = C at *
  go_wp2_with fail
  refine bodyPost_ret (v := .tuple #[.agg #[.int .i64 0, .slice none 0 0], .slice none 0 0, .int .i64 C]) (by simp [results, Tryz.results22, go_sem, HZ0.out, HZ1.out]) rfl ⟨[.int .i64 0, .slice none 0 0], .slice none 0 0, w.heap.size, by rw [HE.out.1], Nat.le_refl _, ?_, ?_, ?_, res2_b (hB2.alloc (by omega) _) (by omega)⟩
  ·simp [World.setCell]; omega
  ·rw [HE.out.2.1]; exact fx_op0
  ·rw [HE.out.2.2]; exact fr_nil
 ·have hc0 : roC t r = 0 := by simpa using hc
  have HC0 := Lib.hid hc0
  have HLE := Lib.hid (ro_len hc0)
  have HSO := Lib.hid (relOk_sorted (ro_zero hc0).2.1)
  have hle := (ro_len hc0).2
  rw [hc0]
  clear hc hc0
  have HHT : Hid (rowsT.Rd w2 [.slice a2 (roV t r).2.length c2] (roV t r).2) := by
   obtain ⟨vx, hvx, -, hx⟩ := pair_ex HF2.out
   simp only [List.cons.injEq, and_true, true_and] at hvx
   rw [hvx]
   exact hx
  go_wp2_with fail
  generalize hW3 : World.alloc w2 _ = w3
  have hb3 : Below w2.heap.size w2 w3 := hW3 ▸ bA
  have hB3 := bthen hB2 hb3
  have hz3 := hb3.size
  replace d0 := (cellB hb3 (by omega)).trans d0
  replace d1 := (cellB hb3 (by omega)).trans d1
  replace r0 := (cellB hb3 (by omega)).trans r0
  replace r1 := (cellB hb3 (by omega)).trans r1
  replace q0 := (frozenB hb3 (by omega)).trans q0
  replace q1 := (frozenB hb3 (by omega)).trans q1
  have HH3 := Lib.hid (HHT.out.below hb3)
  have HO3 := Lib.hid (HO2.out.below hb3)
  clear hW3 x0' x1' y0' y1' HHT HO2 hb3
  go_loopw [26] (fun i wr => ∃ k : Nat, k ≤ (roV t r).2.length ∧ i = .int .i64 k ∧ (∀ v ∈ (roV t r).2.take k, tb (v ∈ r.2) = true) ∧ Below w3.heap.size w3 wr) (fun i _ => (roV t r).2.length - (intOf i).toNat)
  case atStart => exact ⟨0, Nat.zero_le _, rfl, fun v hv => by simp at hv, Below.refl _ _⟩
  case round =>
   obtain ⟨k, hk, rfl, hup, hbr⟩ := hrel
   have HUP := Lib.hid hup
   have hBr := bthen hB3 hbr
   have hzr := hbr.size
   obtain ⟨wv, rfl⟩ : ∃ wv : World, wv = wr := ⟨_, rfl⟩
   have e0 := (cellB hbr (show w.heap.size + 1 < w3.heap.size by omega)).trans d0
   have e1 := (cellB hbr (show w.heap.size + 1 < w3.heap.size by omega)).trans d1
   have x0 := (cellB hbr (show w.heap.size + 1 + 1 < w3.heap.size by omega)).trans r0
   have x1 := (cellB hbr (show w.heap.size + 1 + 1 < w3.heap.size by omega)).trans r1
   have y0 := (frozenB hbr (show w.heap.size + 1 + 1 < w3.heap.size by omega)).trans q0
   have y1 := (frozenB hbr (show w.heap.size + 1 + 1 < w3.heap.size by omega)).trans q1
   clear hup
   by_cases hkl : k < (roV t r).2.length
   ·have hko : k < (roO t r).length := by have := HLE.out.1; omega
    obtain ⟨_, _, hx, -, -, hxe⟩ := slices_ex (HH3.out.below hbr)
    simp only [List.cons.injEq, Value.slice.injEq, and_true, true_and] at hx
    obtain ⟨rfl, rfl⟩ := hx
    obtain ⟨hb0, ho0, rfl, hhb, hce⟩ := hxe (by omega)
    obtain ⟨ux, hux, hck⟩ := hce k hkl
    obtain ⟨ka, kc, rfl⟩ := rd_slice hux
    have HX := Lib.hid hux
    obtain ⟨_, _, hx, -, -, hxo⟩ := pairs_ex (HO3.out.below hbr)
    simp only [List.cons.injEq, Value.slice.injEq, and_true, true_and] at hx
    obtain ⟨rfl, rfl⟩ := hx
    obtain ⟨pb, po, rfl, hpb, hpe⟩ := hxo (by omega)
    obtain ⟨uo, huo, hIo, hp0, hp1⟩ := hpe k hko
    obtain ⟨pa, pc, rfl⟩ := rd_slice huo
    have HOX := Lib.hid huo
    have hat := ro_at HC0.out hkl hko
    have HAT := Lib.hid hat
    have hlx : ((roV t r).2[k]).length ≤ 1000000 := by
     rw [hat.1]
     have := (hu_ok (ro_zero HC0.out).2.2.1).2.2.1
     omega
    have hlo := hat.2.2.2.2
    have HSM := Lib.hid (fun h1 => bo_some HC0.out hkl hko HUP.out h1)
    have HTK : Hid (tb ((roV t r).2[k] ∈ r.2) = true → ∀ v ∈ (roV t r).2.take (k + 1), tb (v ∈ r.2) = true) := fun h1 v hv => by
     rw [List.take_succ_eq_append_getElem hkl, List.mem_append] at hv
     rcases hv with hv | hv
     ·exact HUP.out v hv
     ·simp only [List.mem_singleton] at hv; rw [hv]; exact h1
    generalize hV : (roV t r).2[k] = V at *
    generalize hO : (roO t r)[k] = O at *
    clear hxe hce hux hxo hpe huo hat hV hO
    go_wp2_with fail
    refine (has_any _ (HR.out.below hBr) HX.out HSO.out).mono ?_
    rintro e w4 ⟨rfl, hb4⟩
    have hB4 := bthen hBr hb4
    have hz4 := hb4.size
    replace x0 := (cellB hb4 (by omega)).trans x0
    replace x1 := (cellB hb4 (by omega)).trans x1
    replace y0 := (frozenB hb4 (by omega)).trans y0
    replace y1 := (frozenB hb4 (by omega)).trans y1
    replace hp0 := (cellB hb4 hpb).trans hp0
    replace hp1 := (cellB hb4 hpb).trans hp1
    clear hck
    cases hh : tb (V ∈ r.2)
    ·have HE := Lib.hid (HSM.out hh)
     clear hh
     go_wp2_with fail
     refine (ownOp_any _ (cs := #[.int .i64 O.1, .slice pa O.2.length pc]) (pair_mk hIo (HOX.out.below hb4)) (show O.2.length ≤ 1000000 by omega)).mono ?_
     rintro e w5 ⟨cs5, rfl, hf5, hb5⟩
     obtain ⟨a5, c5, rfl⟩ := fr_pair hf5
     have HF5 := Lib.hid hf5
     have hB5 := bthen hB4 hb5
     have hz5 := hb5.size
     replace x0 := (cellB hb5 (by omega)).trans x0
     replace x1 := (cellB hb5 (by omega)).trans x1
     replace y0 := (frozenB hb5 (by omega)).trans y0
     replace y1 := (frozenB hb5 (by omega)).trans y1
     clear hf5 hp0 hp1
     go_wp2_with fail
     refine (Clone_any _ (HX.out.below (bthen hb4 hb5)) hlx).mono ?_
     rintro e w6 ⟨u6, rfl, hf6, hb6⟩
     obtain ⟨a6, c6, rfl⟩ := fr_slice hf6
     have HF6 := Lib.hid hf6
     have hB6 := bthen hB5 hb6
     have hz6 := hb6.size
     replace x0 := (cellB hb6 (by omega)).trans x0
     replace x1 := (cellB hb6 (by omega)).trans x1
     replace y0 := (frozenB hb6 (by omega)).trans y0
     replace y1 := (frozenB hb6 (by omega)).trans y1
     have hl6 : w.heap.size + 1 + 1 < w6.heap.size := by omega
     have HZ0 := Lib.hid (fun (x y : Value) => res2_0 (x := x) (y := y) x0)
     have HZ1 := Lib.hid (fun (x y : Value) => res2_1 (x := x) (y := y) x1)
     clear hf6
     go_wp2_with fail
     refine bodyPost_ret (v := .tuple #[.agg #[.int .i64 O.1, .slice a5 O.2.length c5], .slice a6 V.length c6, .int .i64 0]) (by simp [results, Tryz.results22, go_sem, HZ0.out, HZ1.out]) rfl ⟨[.int .i64 O.1, .slice a5 O.2.length c5], .slice a6 V.length c6, w5.heap.size, by rw [HE.out.1], by omega, by simp [World.setCell]; omega, ?_, ?_, res2_b hB6 (by omega)⟩
     ·rw [HE.out.2.1]
      have h1 := ((HF5.out.fx.below hb6).fx_set (a := ⟨w.heap.size + 1 + 1, 0, none⟩) (u := .int .i64 O.1) (show w.heap.size + 1 + 1 < w4.heap.size by omega)).fx_set (a := ⟨w.heap.size + 1 + 1, 1, none⟩) (u := .slice a5 O.2.length c5) (show w.heap.size + 1 + 1 < w4.heap.size by omega)
      exact h1.fx_lo (by omega)
     ·rw [HE.out.2.2]
      exact (HF6.out.set (a := ⟨w.heap.size + 1 + 1, 0, none⟩) (show w.heap.size + 1 + 1 < w5.heap.size by omega)).set (a := ⟨w.heap.size + 1 + 1, 1, none⟩) (show w.heap.size + 1 + 1 < w5.heap.size by omega)
    ·have HE := Lib.hid (HTK.out hh)
     clear hh
     go_wp2_with fail
     go_roundw
     case rel => exact ⟨k + 1, by omega, by go_num, HE.out, bthen hbr hb4⟩
     case measure => simp [intOf]; omega
   ·obtain rfl : k = (roV t r).2.length := by omega
    have HE := Lib.hid (bo_none HC0.out (fun v hv => HUP.out v (by rw [List.take_length]; exact hv)))
    have HZ0 := Lib.hid (fun (x y : Value) => res2_0 (x := x) (y := y) x0)
    have HZ1 := Lib.hid (fun (x y : Value) => res2_1 (x := x) (y := y) x1)
    have hlw : w.heap.size + 1 + 1 < wv.heap.size := by omega
    go_wp2_with fail
    refine bodyPost_ret (v := .tuple #[.agg #[.int .i64 0, .slice none 0 0], .slice none 0 0, .int .i64 6]) (by simp [results, Tryz.results22, go_sem, HZ0.out, HZ1.out]) rfl ⟨[.int .i64 0, .slice none 0 0], .slice none 0 0, w.heap.size, by rw [HE.out.1], Nat.le_refl _, ?_, ?_, ?_, res2_b hBr (by omega)⟩
    ·simp [World.setCell]; omega
    ·rw [HE.out.2.1]; exact fx_op0
    ·rw [HE.out.2.2]; exact fr_nil
end Go.Proofs.YtajmjfbejfiipaaGreat
namespace Go.Proofs.YtajmjfbejfiipaaGreat
open Go.RowKit Go.Sort
theorem set_mid {A B : List Int} {x y : Int} (h : B.head? = some y) : (A ++ B).set A.length x = (A ++ [x]) ++ B.drop 1 := by
 cases B with
 | nil => simp at h
 | cons b B => simp
theorem mid_get {A B : List Int} {y : Int} (h : B.head? = some y) : (A ++ B)[A.length]? = some y := by
 cases B with
 | nil => simp at h
 | cons b B => simpa using h
theorem same_mid {A B : List Int} {y : Int} (h : B.head? = some y) : A ++ B = (A ++ [y]) ++ B.drop 1 := by
 cases B with
 | nil => simp at h
 | cons b B => simp at h; simp [h]
/-- the list while it is filled: done up to i -/
def fillV (s : Int) (ar : Nat) (cols : List (List Int)) (N i : Nat) : List Int := (vrS s ar cols i).1 ++ (qD s cols N cols.length).drop i
section
variable {s : Int} {ar N i : Nat} {cols : List (List Int)}
theorem fill_zero : fillV s ar cols N 0 = qD s cols N cols.length := by simp [fillV, vrS]
theorem fill_end : fillV s ar cols N N = (vrS s ar cols N).1 := by
 unfold fillV
 rw [List.drop_of_length_le (by rw [qD_len]; exact Nat.le_refl _), List.append_nil]
theorem fill_head (hs : 1 ≤ s) (hN : s ^ ar = N) (hl : ∀ l ∈ cols, l.length = ar) (hin : ∀ l ∈ cols, ∀ a ∈ l, 0 ≤ a ∧ a ≤ s - 1) (hi : i < N) : ((qD s cols N cols.length).drop i).head? = some (varQ s ar cols i) := by
 have h1 := qD_full (s := s) (ar := ar) hs hN hl hin hi
 have h2 : i < (qD s cols N cols.length).length := by rw [qD_len]; exact hi
 rw [List.getD_eq_getElem?_getD, List.getElem?_eq_getElem h2] at h1
 rw [List.head?_drop, List.getElem?_eq_getElem h2]
 exact congrArg some h1
theorem fill_get (hs : 1 ≤ s) (hN : s ^ ar = N) (hl : ∀ l ∈ cols, l.length = ar) (hin : ∀ l ∈ cols, ∀ a ∈ l, 0 ≤ a ∧ a ≤ s - 1) (hi : i < N) : (fillV s ar cols N i)[i]? = some (varQ s ar cols i) := by
 have h := mid_get (A := (vrS s ar cols i).1) (fill_head hs hN hl hin hi)
 rw [vrS_len] at h
 exact h
theorem fill_new (hs : 1 ≤ s) (hN : s ^ ar = N) (hl : ∀ l ∈ cols, l.length = ar) (hin : ∀ l ∈ cols, ∀ a ∈ l, 0 ≤ a ∧ a ≤ s - 1) (hi : i < N) (h : decide (varQ s ar cols i < 0) = true) : (fillV s ar cols N i).set i (vrS s ar cols i).2 = fillV s ar cols N (i + 1) := by
 have h1 := set_mid (A := (vrS s ar cols i).1) (x := (vrS s ar cols i).2) (fill_head hs hN hl hin hi)
 rw [vrS_len] at h1
 unfold fillV
 rw [h1, vrS_new h, List.drop_drop]
theorem fill_old (hs : 1 ≤ s) (hN : s ^ ar = N) (hl : ∀ l ∈ cols, l.length = ar) (hin : ∀ l ∈ cols, ∀ a ∈ l, 0 ≤ a ∧ a ≤ s - 1) (hi : i < N) (h : decide (varQ s ar cols i < 0) = false) : fillV s ar cols N i = fillV s ar cols N (i + 1) := by
 have h1 := same_mid (A := (vrS s ar cols i).1) (fill_head hs hN hl hin hi)
 unfold fillV
 rw [h1, vrS_old h, List.drop_drop]
end
set_option maxHeartbeats 3200000 in
set_option maxRecDepth 100000 in
theorem l04Var_any (w : World) {v : Value} {u : List (List Int)} {s : Int} {m N : Nat} (h : rowsT.Rd w [v] u) (hs : 1 ≤ s ∧ s ≤ 4) (hul : 1 ≤ u.length ∧ u.length ≤ 3) (hm : ∀ l ∈ u, l.length = m) (hm4 : m ≤ 4) (hin : ∀ l ∈ u, ∀ a ∈ l, 0 ≤ a ∧ a ≤ s - 1) (hN : s ^ u.length = N) :
  Calls Tryz.prog 73 #[.int .i64 s, v] w fun e w' => ∃ vv, e = .returned (.tuple #[vv, .int .i64 (vrS s u.length (colsL u m) N).2]) ∧ intsT.Fr w.heap.size w' [vv] (vrS s u.length (colsL u m) N).1 ∧ Below w.heap.size w w' := by
 have HU := Lib.hid h
 obtain ⟨la, lc, rfl⟩ := rd_slice h
 have hNb := tabN_bd (tabN_of hs (ar := u.length) (by omega) hN)
 have HIN := Lib.hid (cols_in hm hin)
 have HML := Lib.hid hm
 have HNN := Lib.hid hN
 have hcl : (colsL u m).length = m := colsL_len
 have HLC : Hid (∀ l ∈ colsL u m, l.length = u.length) := fun l hl => by have := (HIN.out l hl).1; omega
 have HIC : Hid (∀ l ∈ colsL u m, ∀ a ∈ l, 0 ≤ a ∧ a ≤ s - 1) := fun l hl => (HIN.out l hl).2
 clear h hm hin hN
 go_enter Tryz.func73, Tryz.ntmps73
 go_wp2_with fail
 refine (l04Lists_any w HU.out (by omega) (by omega) HML.out (by omega)).mono ?_
 rintro e w1 ⟨lv, rfl, hlf, hb1⟩
 obtain ⟨la1, lc1, rfl⟩ := fr_slice hlf
 rw [hcl] at hlf ⊢
 have HLF := Lib.hid (rdP_lt (fr_rdP hlf))
 clear hlf
 go_wp2_with fail
 refine (l01Power_any _ s (u.length : Int) (by omega) (by omega) (by omega)).mono ?_
 rintro e _ ⟨rfl, rfl⟩
 rw [Int.toNat_natCast, HNN.out]
 go_wp2_with (refine wpList_mkI _ rfl _ _ 38 2 rfl Tryz.underlying38 infoInt w1.heap.size N rfl rfl (by omega) (by decide) (by simp) ?_; intro w2 hA hg2 hs2)
 have hb2 := below_of_grown hg2
 have HA := Lib.hid (minus_zero (N := N) ▸ hA)
 obtain ⟨fb, hfb⟩ : ∃ fb, w1.heap.size = fb := ⟨_, rfl⟩
 have hB2 := bthen hb1 hb2
 have hwf : w.heap.size ≤ fb := by rw [← hfb]; exact hb1.size
 rw [hfb] at HA hs2 ⊢
 have hf2 : fb < w2.heap.size := by omega
 clear hA hg2 hs2
 go_loopw [8] (fun i wr => ∃ j : Nat, j ≤ N ∧ i = .int .i64 j ∧ IR 2 fb wr fb N N (minus j N) ∧ TchP (fun k => k = fb) w2 wr) (fun i _ => N - (intOf i).toNat)
 case atStart => exact ⟨0, Nat.zero_le _, rfl, HA.out, TchP.refl _ _⟩
 case round =>
  obtain ⟨j, hj, rfl, hif, htc⟩ := hrel
  have HIF := Lib.hid hif
  have hzr := htc.size
  by_cases hjl : j < N
  ·obtain ⟨fu, f0⟩ := hif.cell hjl
   have f1 := hif.free j
   have HSF := Lib.hid (hif.set j (a := -1) (I64.small (by omega) (by omega)))
   have HMS := Lib.hid (minus_set hjl)
   have htc2 : TchP (fun k => k = fb) w2 (wr.setCell ⟨fb, j, none⟩ (.int .i64 (-1))) := htc.then (TchP.set (O := fun k => k = fb) rfl) (fun q _ h => h)
   clear hif HA
   go_wp2_with fail
   go_roundw
   case rel => exact ⟨j + 1, by omega, by go_num, by rw [← HMS.out]; exact HSF.out, htc2⟩
   case measure => simp [intOf]; omega
  ·obtain rfl : N = j := by omega
   obtain ⟨wd, rfl⟩ : ∃ wd : World, wd = wr := ⟨_, rfl⟩
   rw [minus_full] at hif
   have HI0 : Hid (IR 2 fb wd fb N N (qD s (colsL u m) N 0)) := hif
   have HTD := Lib.hid htc
   have hbd : Below fb w1 wd := by
    rw [← hfb]
    exact hb2.trans (htc.below (by omega) (fun k hk h => by omega))
   have HLD := Lib.hid (HLF.out.below (by rw [hfb]; exact hbd))
   have hBd : Below w.heap.size w wd := hb1.trans (hbd.mono hwf)
   have hfd : fb < wd.heap.size := by omega
   clear hif HA HIF htc hb2
   go_wp2_with fail
   go_loopw [9] (fun i wr => ∃ d : Nat, d ≤ m ∧ i = .int .i64 ((m : Int) - 1 - d) ∧ IR 2 fb wr fb N N (qD s (colsL u m) N d) ∧ TchP (fun k => k = fb) wd wr) (fun i _ => ((intOf i) + 1).toNat)
   case atStart => exact ⟨0, Nat.zero_le _, by go_num, HI0.out, TchP.refl _ _⟩
   case round =>
    obtain ⟨d, hd, rfl, hif, htc⟩ := hrel
    have HIF := Lib.hid hif
    have HTE := Lib.hid htc
    have hzr2 := htc.size
    obtain ⟨wv, rfl⟩ : ∃ wv : World, wv = wr := ⟨_, rfl⟩
    by_cases hdl : d < m
    ·obtain ⟨p, hp⟩ : ∃ p : Nat, m - 1 - d = p := ⟨_, rfl⟩
     have hpm : p < m := by omega
     have hpc : p < (colsL u m).length := by rw [hcl]; exact hpm
     have hpi : (m : Int) - 1 - d = (p : Int) := by omega
     have HLV := (HLD.out.tchP htc (fun q _ h e => by have := h.2; omega)).rd
     obtain ⟨_, _, hvL, -, -, hcL⟩ := slices_ex HLV
     simp only [List.cons.injEq, Value.slice.injEq, and_true] at hvL
     obtain ⟨rfl, -, rfl⟩ := hvL
     obtain ⟨lb, lo, rfl, hlb, hce⟩ := hcL (by omega)
     obtain ⟨lx, hlx, hcx⟩ := hce p hpc
     obtain ⟨lxa, lxc, rfl⟩ := rd_slice hlx
     have hmem := List.getElem_mem hpc
     have hi1 := HLC.out _ hmem
     have hi2 := HIC.out _ hmem
     have hb := idx_lt (s := s) (by omega) hi1 hi2
     rw [HNN.out] at hb
     obtain ⟨q, hq⟩ : ∃ q : Nat, idxL s 0 (colsL u m)[p] = q := ⟨(idxL s 0 (colsL u m)[p]).toNat, by omega⟩
     have hqN : q < N := by omega
     have HQ : Hid (qD s (colsL u m) N (d + 1) = (qD s (colsL u m) N d).set q ((p : Nat) : Int)) := by
      unfold Hid
      show (qD s (colsL u m) N d).set _ _ = _
      rw [show (colsL u m).length - 1 - d = p by rw [hcl]; exact hp, show (colsL u m).getD p [] = (colsL u m)[p] by simp [List.getD_eq_getElem?_getD, hpc], hq, Int.toNat_natCast]
     have HLX := Lib.hid hlx
     have HI2 := Lib.hid hi2
     have hl5 : ((colsL u m)[p]).length ≤ 5 := by omega
     obtain ⟨fu, f0⟩ := hif.cell hqN
     have f1 := hif.free q
     have HSF := Lib.hid (hif.set q (a := (p : Int)) (I64.small (by omega) (by omega)))
     have htc2 : TchP (fun k => k = fb) wd (wv.setCell ⟨fb, q, none⟩ (.int .i64 (p : Int))) := htc.then (TchP.set (O := fun k => k = fb) rfl) (fun q _ h => h)
     have HT2 := Lib.hid htc2
     rw [hpi]
     have HPI := Lib.hid hpi
     have HP := Lib.hid hp
     clear HLV hcL hce hlx hi1 hi2 hb hif htc htc2 hp hpi hmem hcl
     go_wp2_with (go_at_call 75; refine (l01Code_any _ s HLX.out (by omega) (by omega) hl5 HI2.out).mono ?_; rintro e w' ⟨rfl, rfl⟩; rw [hq])
     go_roundw
     case rel => exact ⟨d + 1, by omega, by have := HPI.out; first | (go_num; done) | (go_num; omega), by rw [HQ.out]; exact HSF.out, HT2.out⟩
     case measure => first | (simp [intOf]; done) | (simp [intOf]; omega)
    ·obtain rfl : d = m := by omega
     have hm1 : (d : Int) - 1 - d = -1 := by omega
     rw [hm1]
     have HI1 : Hid (IR 2 fb wv fb N N (fillV s u.length (colsL u d) N 0)) := by
      unfold Hid
      rw [fill_zero, hcl]
      exact hif
     have hcl2 : ((colsL u d).length : Int) = d := by rw [hcl]
     clear hif HIF htc hm1
     go_wp2_with fail
     go_loopw [10, 11] (fun n i wr => ∃ j : Nat, j ≤ N ∧ i = .int .i64 j ∧ n = .int .i64 (vrS s u.length (colsL u d) j).2 ∧ IR 2 fb wr fb N N (fillV s u.length (colsL u d) N j) ∧ TchP (fun k => k = fb) wd wr) (fun _ i _ => N - (intOf i).toNat)
     case atStart => exact ⟨0, Nat.zero_le _, rfl, by rw [← hcl2]; rfl, HI1.out, HTE.out⟩
     case round =>
      obtain ⟨j, hj, rfl, rfl, hif, htc⟩ := hrel
      have hzr3 := htc.size
      obtain ⟨wx, rfl⟩ : ∃ wx : World, wx = wr := ⟨_, rfl⟩
      have hvn := vrS_next (s := s) (ar := u.length) (cols := colsL u d) (k := j)
      by_cases hjl : j < N
      ·have hg := fill_get (s := s) (ar := u.length) (by omega) HNN.out HLC.out HIC.out hjl
       have hvq := varQ_bd (s := s) (ar := u.length) (cols := colsL u d) (k := j)
       have HNEW := Lib.hid (fill_new (s := s) (ar := u.length) (by omega) HNN.out HLC.out HIC.out hjl)
       have HOLD := Lib.hid (fill_old (s := s) (ar := u.length) (by omega) HNN.out HLC.out HIC.out hjl)
       have HV1 := Lib.hid (vrS_new (s := s) (ar := u.length) (cols := colsL u d) (k := j))
       have HV2 := Lib.hid (vrS_old (s := s) (ar := u.length) (cols := colsL u d) (k := j))
       have hcj : wx.cell? ⟨fb, j, none⟩ = some (.int .i64 (varQ s u.length (colsL u d) j)) := by
        rw [World.ownsRow.cellAt hif.2.2.2 j (by omega), List.getElem?_map, hg]
        rfl
       have f1 := hif.free j
       have HIF := Lib.hid hif
       have HT3 := Lib.hid htc
       rw [hcl2] at hvn hvq
       obtain ⟨nx, hnx⟩ : ∃ nx, (vrS s u.length (colsL u d) j).2 = nx := ⟨_, rfl⟩
       obtain ⟨Q, hQ⟩ : ∃ Q, varQ s u.length (colsL u d) j = Q := ⟨_, rfl⟩
       rw [hQ] at hcj hvq HNEW HOLD HV1 HV2
       rw [hnx] at hvn HNEW HV1 HV2 ⊢
       clear hg hif htc hQ hnx
       cases hq : decide (Q < 0)
       ·have H1 := Lib.hid (HOLD.out hq)
        have H2 := Lib.hid (HV2.out hq)
        go_wp2_with fail
        go_roundw
        case rel => exact ⟨j + 1, by omega, by go_num, by rw [H2.out], by rw [← H1.out]; exact HIF.out, HT3.out⟩
        case measure => simp [intOf]; omega
       ·have H1 := Lib.hid (HNEW.out hq)
        have H2 := Lib.hid (HV1.out hq)
        have HSF := Lib.hid (HIF.out.set j (a := nx) (I64.small (by omega) (by omega)))
        have HT4 : Hid (TchP (fun k => k = fb) wd (wx.setCell ⟨fb, j, none⟩ (.int .i64 nx))) := HT3.out.then (TchP.set (O := fun k => k = fb) rfl) (fun q _ h => h)
        have hwr : IntKind.i64.wrap (nx + 1) = nx + 1 := wrap_small (by omega) (by omega)
        go_wp2_with fail
        go_roundw
        case rel => exact ⟨j + 1, by omega, by go_num, by rw [H2.out], by rw [← H1.out]; exact HSF.out, HT4.out⟩
        case measure => simp [intOf]; omega
      ·obtain rfl : N = j := by omega
       rw [fill_end] at hif
       have HFR := Lib.hid ((hif.fr (by unfold capMax; omega)).mono hwf)
       have HB := Lib.hid (hBd.trans (htc.below (B := w.heap.size) (by omega) (fun k hk h => by omega)))
       clear hif htc
       go_wp2_with fail
       refine bodyPost_ret (v := .tuple #[.slice (some ⟨fb, 0, none⟩) N N, .int .i64 (vrS s u.length (colsL u d) N).2]) (by simp [results, Tryz.results73, go_sem]) rfl ⟨_, rfl, HFR.out, HB.out⟩
end Go.Proofs.YtajmjfbejfiipaaGreat
namespace Go.Proofs.YtajmjfbejfiipaaGreat
open Go.RowKit Go.Sort
set_option maxHeartbeats 800000 in
theorem l03Same_quiet (w : World) {v v' : Value} {x y : Int × Int × List (Int × List Int)} (h : frmT.Pt w v x) (h' : frmT.Pt w v' y) :
  Calls Tryz.prog 77 #[v, v'] w fun e w' => e = .returned (.bool (eqB x y)) ∧ Quiet w w' := by
 obtain ⟨b, o, ad, cap, rfl, hb, hI, hI2, c0, c1, c2, hx⟩ := pt_trip h
 obtain ⟨b', o', ad', cap', rfl, hb', hI', hI2', c0', c1', c2', hx'⟩ := pt_trip h'
 clear h h'
 cases hn : (x.1 != y.1)
 rotate_left
 ·go_enter Tryz.func77, Tryz.ntmps77
  go_wp2_with fail
  go_quiet (fail)
  go_wp2_with fail
  go_ret
  exact ⟨ret_bool (eqB_fst (by simpa using hn)).symm, (by first | exact Quiet.refl _ | exact Quiet.drewN _ _ | exact (Quiet.drewN _ _).then (Quiet.drewN _ _) | exact ((Quiet.drewN _ _).then (Quiet.drewN _ _)).then (Quiet.drewN _ _))⟩
 have HN : Hid (x.1 = y.1) := by simpa [Hid] using hn
 cases hm : (x.2.1 != y.2.1)
 rotate_left
 ·go_enter Tryz.func77, Tryz.ntmps77
  go_wp2_with fail
  go_quiet (fail)
  go_wp2_with fail
  go_ret
  exact ⟨ret_bool (eqB_snd HN.out (eqB_fst (by simpa using hm))).symm, (by first | exact Quiet.refl _ | exact Quiet.drewN _ _ | exact (Quiet.drewN _ _).then (Quiet.drewN _ _) | exact ((Quiet.drewN _ _).then (Quiet.drewN _ _)).then (Quiet.drewN _ _))⟩
 have HM : Hid (x.2.1 = y.2.1) := by simpa [Hid] using hm
 cases hl : (((x.2.2.length : Nat) : Int) != (y.2.2.length : Nat))
 rotate_left
 ·go_enter Tryz.func77, Tryz.ntmps77
  go_wp2_with fail
  go_quiet (fail)
  go_wp2_with fail
  go_ret
  exact ⟨ret_bool (eqB_snd HN.out (eqB_snd HM.out (eqB_len (by simp at hl; omega)))).symm, (by first | exact Quiet.refl _ | exact Quiet.drewN _ _ | exact (Quiet.drewN _ _).then (Quiet.drewN _ _) | exact ((Quiet.drewN _ _).then (Quiet.drewN _ _)).then (Quiet.drewN _ _))⟩
 have hl' : x.2.2.length = y.2.2.length := by simp at hl; omega
 have HL := Lib.hid hl'
 clear hl'
 obtain ⟨_, _, e1, hle, hle2, hcell⟩ := pairs_ex hx
 obtain ⟨_, _, e2, hle', hle2', hcell'⟩ := pairs_ex hx'
 simp only [List.cons.injEq, Value.slice.injEq, and_true, true_and] at e1 e2
 obtain ⟨rfl, rfl⟩ := e1
 obtain ⟨rfl, rfl⟩ := e2
 go_enter Tryz.func77, Tryz.ntmps77
 go_wp2_with fail
 go_quiet (fail)
 go_wp2_with fail
 go_loopw [5] (fun i wr => ∃ k : Nat, k ≤ x.2.2.length ∧ i = .int .i64 k ∧ x.2.2.take k = y.2.2.take k ∧ Quiet w wr) (fun i _ => x.2.2.length - (intOf i).toNat)
 case atStart => exact ⟨0, Nat.zero_le _, rfl, rfl, (by first | exact Quiet.refl _ | exact Quiet.drewN _ _ | exact (Quiet.drewN _ _).then (Quiet.drewN _ _) | exact ((Quiet.drewN _ _).then (Quiet.drewN _ _)).then (Quiet.drewN _ _))⟩
 case round =>
  obtain ⟨k, hk, rfl, ht, hqw⟩ := hrel
  have HT := Lib.hid ht
  have d2 := (hqw.below.cell hb).trans c2
  have d2' := (hqw.below.cell hb').trans c2'
  clear ht hn hm hl c0 c1 c2 c0' c1' c2'
  by_cases hkl : k < x.2.2.length
  ·have hkl' : k < y.2.2.length := by have := HL.out; omega
   obtain ⟨a, q, rfl, ha, -⟩ := hcell (by omega)
   obtain ⟨a', q', rfl, ha', -⟩ := hcell' (by omega)
   have p1 := (pt_elem hx hkl).below hqw.below
   have p2 := (pt_elem hx' hkl').below hqw.below
   have cQ : ∀ n, Calls Tryz.prog 150 #[.pointer (some ⟨a, q + k * 2, none⟩), .pointer (some ⟨a', q' + k * 2, none⟩)] (wr.drewN n) fun e w'' => e = .returned (.bool (eqB x.2.2[k] y.2.2[k])) ∧ ∃ m, w'' = wr.drewN m := fun n =>
    quiet_call (l03SameAtom_quiet _ (p1.below (Quiet.drewN wr n).below) (p2.below (Quiet.drewN wr n).below))
   cases hq : eqB x.2.2[k] y.2.2[k]
   ·rw [hq] at cQ
    go_wp2_with fail
    go_quiet (exact cQ _)
    go_wp2_with fail
    go_ret
    exact ⟨ret_bool (eqB_snd HN.out (eqB_snd HM.out (eqB_get hkl hkl' (fun e => by rw [eqB_true e] at hq; cases hq)))).symm, hqw.then (by first | exact Quiet.refl _ | exact Quiet.drewN _ _ | exact (Quiet.drewN _ _).then (Quiet.drewN _ _) | exact ((Quiet.drewN _ _).then (Quiet.drewN _ _)).then (Quiet.drewN _ _))⟩
   ·rw [hq] at cQ
    go_wp2_with fail
    go_quiet (exact cQ _)
    go_wp2_with fail
    go_roundw
    case rel => exact ⟨k + 1, by omega, by go_num, take_eq_succ hkl hkl' HT.out (eqB_iff.1 hq), hqw.then (by first | exact Quiet.refl _ | exact Quiet.drewN _ _ | exact (Quiet.drewN _ _).then (Quiet.drewN _ _) | exact ((Quiet.drewN _ _).then (Quiet.drewN _ _)).then (Quiet.drewN _ _))⟩
    case measure => simp [intOf]; omega
  ·obtain rfl : k = x.2.2.length := by omega
   go_wp2_with fail
   go_ret
   exact ⟨ret_bool (eqB_snd HN.out (eqB_snd HM.out (eqB_true (by have h1 := HT.out; have h2 := HL.out; rw [List.take_length, h2, List.take_length] at h1; exact h1)))).symm, hqw⟩
theorem specSameFormula_any (w : World) {cs cs' : Array Value} {x y : Int × Int × List (Int × List Int)} (h : frmT.Rd w cs.toList x) (h' : frmT.Rd w cs'.toList y) :
  Calls Tryz.prog 18 #[.agg cs, .agg cs'] w fun e w' => e = .returned (.bool (eqB x y)) ∧ Below w.heap.size w w' := by
 have p1 := (pt_box (T := 47) h)
 have p2 := (pt_box (T := 47) (h'.below (bA (o := .cells cs.toList.toArray 47))))
 obtain ⟨u, hv, _⟩ := trip_ex h
 obtain rfl := agg_of hv
 obtain ⟨u', hv', _⟩ := trip_ex h'
 obtain rfl := agg_of hv'
 have p1' := p1.below (bA (o := .cells [.int .i64 y.1, .int .i64 y.2.1, u'].toArray 47))
 clear hv hv' h h' p1
 go_enter Tryz.func18, Tryz.ntmps18
 go_wp2_with fail
 rw [World.size_alloc] at p2
 refine (l03Same_quiet _ p1' p2).mono ?_
 rintro e w1 ⟨rfl, n, rfl⟩
 go_wp2_with fail
 go_ret
 exact ⟨rfl, (by repeat (first | exact Below.refl _ _ | exact bA | assumption | refine Below.setCell ?_ (by first | omega | (simp; try omega)) _ | refine Below.alloc ?_ (by first | omega | (simp; try omega)) _ | refine Below.drew ?_ | refine bDN ?_ | refine bthen ?_ (by assumption)))⟩
end Go.Proofs.YtajmjfbejfiipaaGreat
