/-
Contracts: whether an operation breaks a relation, the program's.
Contracts: whether an operation is a polymorphism, both sides.
Contracts: the relation of all tuples for which something is so.
Plain mathematics: lists of digits in order; the tuples of a relation made by number are in order.
Plain: the operations that a search lists are those that keep a template; how many are counted; projections and compositions keep what is kept. No program is named here.
Contracts: the program's search, for any listener that leans on what the operations that it is told are.
Contracts: values that are told to a search.
Plain: a polymorphism with given values. No program is named here.
-/
import Derived.Test.YthjafhjghjbdmaaGreatQAC
import Derived.Test.YthjafhjghjbdmaaGreatQAA
import Derived.Test.YthjafhjghjbdmaaGreatQAB
import Derived.Test.YthjafhjghjbdmaaGreatQAH
import Derived.Test.YthjafhjghjbdmaaGreatQAD
import Derived.Test.YthjafhjghjbdmaaGreatQAG
namespace Go.Proofs.YthjafhjghjbdmaaGreat
open Go.RowKit Go.Sort
/-- what broken hands back: nil in the second place just if the relation is kept -/
def BrkR (b : Bool) (e : Ending) : Prop := ∃ a o m, e = .returned (.tuple #[a, .slice o m m]) ∧ (b = true → o = none ∧ m = 0) ∧ (b = false → ∃ g : Nat, o = some ⟨g, 0, none⟩)
theorem BrkR.yes {b : Bool} {a : Value} (h : b = true) : BrkR b (.returned (.tuple #[a, .slice none 0 0])) := ⟨a, none, 0, rfl, fun _ => ⟨rfl, rfl⟩, (fun h' => by rw [h] at h'; cases h')⟩
theorem BrkR.no {b : Bool} {a : Value} {g m : Nat} (h : b = false) : BrkR b (.returned (.tuple #[a, .slice (some ⟨g, 0, none⟩) m m])) := ⟨a, _, m, rfl, (fun h' => by rw [h] at h'; cases h'), fun _ => ⟨g, rfl⟩⟩
end Go.Proofs.YthjafhjghjbdmaaGreat
namespace Go.Proofs.YthjafhjghjbdmaaGreat
open Go.RowKit Go.Sort
noncomputable def polyOk (t : Int × List (Int × List (List Int))) (f : Int × List Int) : Bool := tb (tplOk t) && tb (opOk t.1 f)
noncomputable def polyB (t : Int × List (Int × List (List Int))) (f : Int × List Int) : Bool := polyOk t f && decide (brokenI t f < 0)
noncomputable def polyC (t : Int × List (Int × List (List Int))) (f : Int × List Int) : Int := if polyOk t f then 0 else 1
end Go.Proofs.YthjafhjghjbdmaaGreat
namespace Go.Proofs.YthjafhjghjbdmaaGreat
open Go.RowKit Go.Sort
end Go.Proofs.YthjafhjghjbdmaaGreat
namespace Go.Proofs.YthjafhjghjbdmaaGreat
open Go.RowKit Go.Sort
theorem dig_idx {s idx : Int} {n : Nat} (hs : 1 ≤ s) (h0 : 0 ≤ idx) (h : idx < s ^ n) : ∀ k, k ≤ n → idxL s 0 ((digL s idx n).take k) = idx / s ^ (n - k)
  | 0, _ => by
    rw [List.take_zero, Nat.sub_zero, Int.ediv_eq_zero_of_lt h0 h]
    rfl
  | k + 1, hk => by
    have hl : k < (digL s idx n).length := by rw [digL_len]; omega
    rw [idxL_take hl, dig_idx hs h0 h k (by omega)]
    have hg : (digL s idx n)[k] = dig s idx (n - 1 - k) := by simp [digL]
    rw [hg, show n - k = (n - (k + 1)) + 1 by omega, show n - 1 - k = n - (k + 1) by omega, ← quo_succ hs]
    unfold dig
    have h1 := Int.ediv_mul_add_emod (idx / s ^ (n - (k + 1))) s
    exact h1
theorem digL_in {s idx : Int} {n : Nat} (hs : 1 ≤ s) : ∀ a ∈ digL s idx n, 0 ≤ a ∧ a ≤ s - 1 := fun a ha => by
  obtain ⟨i, -, rfl⟩ := List.mem_map.1 ha
  have := dig_nn (idx := idx) hs (n - 1 - i)
  omega
theorem idx_mono {s : Int} (hs : 1 ≤ s) : ∀ {xs ys : List Int} {a b : Int}, xs.length = ys.length → (∀ x ∈ xs, 0 ≤ x ∧ x ≤ s - 1) → (∀ y ∈ ys, 0 ≤ y ∧ y ≤ s - 1) → a < b → idxL s a xs < idxL s b ys
  | [], [], _, _, _, _, _, h => h
  | [], _ :: _, _, _, hl, _, _, _ => by simp at hl
  | _ :: _, [], _, _, hl, _, _, _ => by simp at hl
  | x :: xs, y :: ys, a, b, hl, hx, hy, h => by
    simp only [idxL]
    refine idx_mono hs (by simpa using hl) (fun z hz => hx z (List.mem_cons_of_mem _ hz)) (fun z hz => hy z (List.mem_cons_of_mem _ hz)) ?_
    have h1 := hx x (List.mem_cons_self ..)
    have h2 := hy y (List.mem_cons_self ..)
    have h3 := Int.mul_le_mul_of_nonneg_right (show a + 1 ≤ b by omega) (show (0 : Int) ≤ s by omega)
    rw [Int.add_mul, Int.one_mul] at h3
    omega
theorem lt_of_idx {s : Int} (hs : 1 ≤ s) : ∀ {xs ys : List Int} {a : Int}, xs.length = ys.length → (∀ x ∈ xs, 0 ≤ x ∧ x ≤ s - 1) → (∀ y ∈ ys, 0 ≤ y ∧ y ≤ s - 1) → idxL s a xs < idxL s a ys → ltL xs ys
  | [], [], _, _, _, _, h => absurd h (Int.lt_irrefl _)
  | [], _ :: _, _, hl, _, _, _ => by simp at hl
  | _ :: _, [], _, hl, _, _, _ => by simp at hl
  | x :: xs, y :: ys, a, hl, hx, hy, h => by
    simp only [idxL] at h
    have hx' := fun z hz => hx z (List.mem_cons_of_mem x hz)
    have hy' := fun z hz => hy z (List.mem_cons_of_mem y hz)
    unfold ltL
    rcases Int.lt_trichotomy x y with hc | hc | hc
    · rw [cmpL, if_neg (by omega), cmpI_lt hc]
      decide
    · subst hc
      rw [cmpL, if_pos rfl]
      exact lt_of_idx hs (by simpa using hl) hx' hy' h
    · have := idx_mono hs (a := a * s + y) (b := a * s + x) (show ys.length = xs.length by simpa using hl.symm) hy' hx' (by omega)
      omega
theorem dig_lt {s : Int} {n : Nat} {k j : Int} (hs : 1 ≤ s) (h0 : 0 ≤ k) (h : k < j) (hj : j < s ^ n) : ltL (digL s k n) (digL s j n) := by
  refine lt_of_idx hs (a := 0) (by rw [digL_len, digL_len]) (digL_in hs) (digL_in hs) ?_
  have h1 := dig_idx (n := n) hs h0 (by omega) n (Nat.le_refl _)
  have h2 := dig_idx (n := n) hs (show 0 ≤ j by omega) hj n (Nat.le_refl _)
  rw [Nat.sub_self, Int.pow_zero, Int.ediv_one, List.take_of_length_le (by rw [digL_len]; exact Nat.le_refl _)] at h1 h2
  rw [h1, h2]
  exact h
end Go.Proofs.YthjafhjghjbdmaaGreat
namespace Go.Proofs.YthjafhjghjbdmaaGreat
open Go.RowKit Go.Sort
/-- all ways on from a list of values -/
def allF (s : Nat) (okT : List Int → Bool) : Nat → List Int → List (List Int)
  | 0, vals => [vals]
  | m + 1, vals => (List.range s).flatMap fun a : Nat => match okT (vals ++ [(a : Int)]) with
    | true => allF s okT m (vals ++ [(a : Int)])
    | false => []
/-- a search that ends well has told them all -/
theorem srch_all {s N : Nat} {okT : List Int → Bool} {fx : List Int} {yc : List (List Int) → Int} (hfx : ∀ i, i < N → ∀ a, skipB fx i a = false) : ∀ (m : Nat) (vals : List Int) (r : FR), vals.length + m = N → (srch s okT fx yc m vals r).1 = 0 → (srch s okT fx yc m vals r).2.2 = r.2.2 ++ allF s okT m vals
  | 0, vals, r, _, h => rfl
  | m + 1, vals, r, hN, h => by
    have hsk := hfx vals.length (by omega)
    have key : ∀ (l : List Nat) (q : FR), (l.foldl (stepA (srch s okT fx yc m) okT fx vals) q).1 = 0 → (l.foldl (stepA (srch s okT fx yc m) okT fx vals) q).2.2 = q.2.2 ++ l.flatMap fun a : Nat => match okT (vals ++ [(a : Int)]) with
        | true => allF s okT m (vals ++ [(a : Int)])
        | false => [] := by
      intro l
      induction l with
      | nil => intro q _; simp
      | cons a l ih =>
        intro q
        rw [List.foldl_cons, List.flatMap_cons]
        by_cases h0 : q.1 = 0
        · by_cases h2 : q.2.1 = 6000
          · rw [step_bud h0 (hsk _) h2, fold_stop (by show (7 : Int) ≠ 0; decide)]
            intro h7
            exact absurd h7 (by show ¬ (7 : Int) = 0; decide)
          · cases h3 : okT (vals ++ [(a : Int)])
            · rw [step_no h0 (hsk _) h2 h3]
              intro h
              rw [ih _ h]
              rfl
            · rw [step_yes h0 (hsk _) h2 h3]
              intro h
              by_cases h4 : (srch s okT fx yc m (vals ++ [(a : Int)]) (0, q.2.1 + 1, q.2.2)).1 = 0
              · rw [ih _ h, srch_all hfx m _ _ (by simp; omega) h4, List.append_assoc]
              · rw [fold_stop h4] at h
                exact absurd h h4
        · rw [step_stop h0, fold_stop h0]
          exact fun h => absurd h h0
    exact key _ r h
theorem skip_fxN {t : Tpl} {ar : Int} : ∀ i, i < tabL t ar → ∀ a, skipB (fxN t ar) i a = false := fun i h a => by
  have : (fxN t ar).getD i 0 = -1 := by
    unfold fxN
    rw [List.getD_eq_getElem?_getD, List.getElem?_replicate, if_pos h]
    rfl
  unfold skipB
  rw [this]
  rfl
theorem allF_mem {s : Nat} {okT : List Int → Bool} : ∀ {m : Nat} {vals x : List Int}, x ∈ allF s okT m vals ↔ ∃ y : List Int, x = vals ++ y ∧ y.length = m ∧ (∀ a ∈ y, 0 ≤ a ∧ a < s) ∧ ∀ k, k < m → okT (vals ++ y.take (k + 1)) = true
  | 0, vals, x => by
    simp only [allF, List.mem_singleton]
    constructor
    · rintro rfl
      exact ⟨[], by simp, rfl, fun a ha => (by cases ha), fun k hk => (by omega)⟩
    · rintro ⟨y, rfl, hy, -, -⟩
      rw [List.length_eq_zero_iff.1 hy, List.append_nil]
  | m + 1, vals, x => by
    simp only [allF, List.mem_flatMap, List.mem_range]
    constructor
    · rintro ⟨a, ha, hx⟩
      cases h : okT (vals ++ [(a : Int)])
      · rw [h] at hx; cases hx
      · rw [h] at hx
        obtain ⟨y, rfl, hy, hr, hk⟩ := allF_mem.1 hx
        refine ⟨(a : Int) :: y, by simp, by simp [hy], ?_, ?_⟩
        · intro b hb
          rcases List.mem_cons.1 hb with rfl | hb
          · omega
          · exact hr b hb
        · intro k hkm
          cases k with
          | zero => simpa using h
          | succ k =>
            have := hk k (by omega)
            simpa using this
    · rintro ⟨y, rfl, hy, hr, hk⟩
      cases y with
      | nil => simp at hy
      | cons a y =>
        have h1 := hr a (List.mem_cons_self ..)
        have e : ((a.toNat : Nat) : Int) = a := by omega
        refine ⟨a.toNat, by omega, ?_⟩
        have h0 := hk 0 (by omega)
        rw [e]
        rw [List.take_succ_cons, List.take_zero] at h0
        rw [h0]
        refine allF_mem.2 ⟨y, by simp, by simpa using hy, fun b hb => hr b (List.mem_cons_of_mem _ hb), fun k hkm => ?_⟩
        have := hk (k + 1) (by omega)
        simpa using this
/-- values at the places of a look are what the operation makes -/
theorem atL_cells {s : Int} {ar : Nat} {x : List Int} {r : Int × List (List Int)} {i : Int} : atL x (cellsL s ar r i) = makes s ((ar : Int), x) r i := by
  unfold atL cellsL makes madeL madeV
  rw [List.map_map, Int.toNat_natCast]
  rfl
theorem looksA_mem {t : Tpl} {ar : Nat} {a : Int × List Int} : a ∈ looksA t ar ↔ ∃ (k : Nat) (h : k < t.2.length) (i : Nat), (i : Int) < ((t.2[k]).2.length : Int) ^ ar ∧ a = ((k : Int), cellsL t.1 ar t.2[k] i) := by
  unfold looksA looksT
  rw [List.mem_flatMap]
  constructor
  · rintro ⟨k, hk, ha⟩
    have hk' : k < t.2.length := by simpa using hk
    rw [relAt_nat hk'] at ha
    obtain ⟨i, hi, rfl⟩ := List.mem_map.1 ha
    have hi' : i < powN (t.2[k]).2.length ar := by simpa using hi
    exact ⟨k, hk', i, by rw [← powN_cast]; omega, rfl⟩
  · rintro ⟨k, hk, i, hi, rfl⟩
    refine ⟨k, by simpa using hk, ?_⟩
    rw [relAt_nat hk]
    refine List.mem_map.2 ⟨i, ?_, rfl⟩
    rw [← powN_cast] at hi
    simp; omega
/-- all that is due goes just if the operation keeps the relations -/
theorem okF_all {t : Tpl} {ar : Int} {x : List Int} (hT : tplOk t) (har : 1 ≤ ar ∧ ar ≤ 3) (hx : x.length = tabL t ar) (h0 : 0 < tabL t ar) : (∀ k, k < tabL t ar → okF t ar (x.take (k + 1)) = true) ↔ ∀ r ∈ t.2, keepsP t.1 (ar, x) r := by
  have hN := tabL_of (ar := ar) hT
  have hs := hT.1
  unfold sizeOk at hs
  have hok := looksA_ok hT hN (by omega) _ (Nat.le_refl _)
  have e : ((ar.toNat : Nat) : Int) = ar := by omega
  constructor
  · intro h r hr i hi
    obtain ⟨k, hk, rfl⟩ := List.mem_iff_getElem.1 hr
    have ha := looksA_mem.2 ⟨k, hk, i, hi, rfl⟩
    have hl := hok _ ha
    obtain ⟨_, -, -, -, hp⟩ := hl
    have ht0 := topI_nn (xs := cellsL t.1 ar.toNat t.2[k] i)
    have ht1 : topI (cellsL t.1 ar.toNat t.2[k] i) ≤ (tabL t ar : Int) - 1 := topI_le (by omega) fun p hp' => by have := hp p hp'; omega
    obtain ⟨v, hv⟩ : ∃ v : Nat, topI (cellsL t.1 ar.toNat t.2[k] i) = v := ⟨(topI (cellsL t.1 ar.toNat t.2[k] i)).toNat, by omega⟩
    have hvN : v < tabL t ar := by omega
    have hg := h v hvN
    unfold okF at hg
    rw [goesF_at (k := v) (by rw [List.length_take]; omega) (by rw [duesF_len]; exact hvN), duesF_get] at hg
    have hd : ((k : Int), cellsL t.1 ar.toNat t.2[k] i) ∈ dueF (looksA t ar.toNat) v := List.mem_filter.2 ⟨ha, by simpa using hv⟩
    have hn := (List.any_eq_false.1 (by simpa [anyB] using hg : (dueF (looksA t ar.toNat) v).any (fun a => !tb (holdsC t (x.take (v + 1)) a)) = false)) _ hd
    have hh : holdsC t (x.take (v + 1)) ((k : Int), cellsL t.1 ar.toNat t.2[k] i) := tb_iff.1 (by simpa using hn)
    unfold holdsC at hh
    rw [relAt_nat hk, atL_pre (k := v + 1) (fun p hp' => by have h1 : p ≤ topI (cellsL t.1 ar.toNat t.2[k] i) := topI_ge hp'; have h2 := hp p hp'; omega), atL_cells, e] at hh
    exact hh
  · intro h k hk
    unfold okF
    rw [goesF_at (k := k) (by rw [List.length_take]; omega) (by rw [duesF_len]; exact hk), duesF_get]
    have hnone : anyB (fun a => !tb (holdsC t (x.take (k + 1)) a)) (dueF (looksA t ar.toNat) k) = false := by
      refine List.any_eq_false.2 fun a ha => ?_
      obtain ⟨ha, htop⟩ := List.mem_filter.1 ha
      have hl := hok _ ha
      obtain ⟨q, hq, i, hi, rfl⟩ := looksA_mem.1 ha
      obtain ⟨_, -, -, -, hp⟩ := hl
      have htop' : topI (cellsL t.1 ar.toNat t.2[q] i) = (k : Int) := by simpa using htop
      have hh : holdsC t (x.take (k + 1)) ((q : Int), cellsL t.1 ar.toNat t.2[q] i) := by
        unfold holdsC
        rw [relAt_nat hq, atL_pre (k := k + 1) (fun p hp' => by have h1 : p ≤ topI (cellsL t.1 ar.toNat t.2[q] i) := topI_ge hp'; have h2 := hp p hp'; omega), atL_cells, e]
        exact h _ (List.getElem_mem hq) i hi
      rw [tb_true hh]
      decide
    rw [hnone]
    rfl
/-- the value of an operation -/
def opV (s : Int) (tab xs : List Int) : Int := tab.getD (idxL s 0 xs).toNat 0
/-- the table of a function of lists -/
def tabOf (s : Int) (ar N : Nat) (g : List Int → Int) : List Int := (List.range N).map fun i : Nat => g (digL s i ar)
theorem tabOf_len {s : Int} {ar N : Nat} {g : List Int → Int} : (tabOf s ar N g).length = N := by simp [tabOf]
theorem dig_of {s : Int} {ar : Nat} (hs : 1 ≤ s) {xs : List Int} (hl : xs.length = ar) (hx : ∀ a ∈ xs, 0 ≤ a ∧ a ≤ s - 1) : digL s (idxL s 0 xs) ar = xs := by
  have hb := idx_lt hs hl hx
  refine idxL_inj hs ar digL_len hl (digL_in hs) hx ?_
  have h1 := dig_idx (n := ar) hs hb.1 (by omega) ar (Nat.le_refl _)
  rw [Nat.sub_self, Int.pow_zero, Int.ediv_one, List.take_of_length_le (by rw [digL_len]; exact Nat.le_refl _)] at h1
  exact h1
theorem tabOf_at {s : Int} {ar N : Nat} {g : List Int → Int} (hs : 1 ≤ s) (hN : s ^ ar = N) {xs : List Int} (hl : xs.length = ar) (hx : ∀ a ∈ xs, 0 ≤ a ∧ a ≤ s - 1) : opV s (tabOf s ar N g) xs = g xs := by
  have hb := idx_lt hs hl hx
  rw [hN] at hb
  unfold opV tabOf
  rw [List.getD_eq_getElem?_getD, List.getElem?_map, List.getElem?_range (by omega)]
  show g (digL s ((idxL s 0 xs).toNat : Int) ar) = g xs
  rw [show (((idxL s 0 xs).toNat : Nat) : Int) = idxL s 0 xs by omega, dig_of hs hl hx]
theorem madeV_op {s : Int} {tab : List Int} {ts : List (List Int)} {p : Nat} : madeV s tab ts p = opV s tab (colL ts p) := rfl
/-- the projection to a place -/
def projT (s : Int) (ar N p : Nat) : List Int := tabOf s ar N fun xs => xs.getD p 0
theorem madeL_ext {s : Int} {tab : List Int} {ts : List (List Int)} {m : Nat} {u : List Int} (hu : u.length = m) (h : ∀ p, p < m → madeV s tab ts p = u.getD p 0) : madeL s tab ts m = u := by
  refine List.ext_getElem (by rw [madeL_len, hu]) fun i hi hi' => ?_
  have : i < m := by rw [madeL_len] at hi; exact hi
  have e : (madeL s tab ts m)[i] = madeV s tab ts i := by simp [madeL]
  rw [e, h i this, List.getD_eq_getElem?_getD, List.getElem?_eq_getElem hi']
  rfl
theorem colL_getD {ts : List (List Int)} {p q : Nat} (hq : q < ts.length) : (colL ts p).getD q 0 = (ts[q]).getD p 0 := by
  unfold colL
  rw [List.getD_eq_getElem?_getD, List.getElem?_map, List.getElem?_eq_getElem hq]
  rfl
theorem keeps_proj {s : Int} {ar N p : Nat} {r : Int × List (List Int)} (hr : relOk s r) (hN : s ^ ar = N) (har : 1 ≤ ar ∧ ar ≤ 3) (hp : p < ar) : keepsP s ((ar : Int), projT s ar N p) r := by
  have hs := hr.1
  unfold sizeOk at hs
  intro i hi
  have h0 : 0 < r.2.length := by
    rcases Nat.eq_zero_or_pos r.2.length with h | h
    · rw [h] at hi
      simp only [Int.toNat_natCast] at hi
      rw [show ((0 : Nat) : Int) = 0 from rfl, Int.zero_pow (by omega)] at hi
      omega
    · exact h
  have hop : opOk s ((ar : Int), List.replicate N 0) := ⟨hr.1, ⟨by show (1 : Int) ≤ ar; omega, by show (ar : Int) ≤ 3; omega⟩, by simp [hN], fun a ha => by rw [List.eq_of_mem_replicate ha]; omega⟩
  have hpk := picks_ok hr hop h0 (i : Int)
  simp only [Int.toNat_natCast] at hpk
  have hpl : p < (picks r.2 ar (i : Int)).length := by rw [picks_len]; exact hp
  have hmem : (picks r.2 ar (i : Int))[p] ∈ r.2 := by
    have h1 := List.getElem_mem hpl
    generalize (picks r.2 ar (i : Int))[p] = q at *
    obtain ⟨k, hk, rfl⟩ := List.mem_map.1 h1
    obtain ⟨k1, k2⟩ := dig_mem (by omega) hk
    rw [List.getD_eq_getElem?_getD, List.getElem?_eq_getElem (show k.toNat < r.2.length by omega)]
    exact List.getElem_mem _
  have e : makes s ((ar : Int), projT s ar N p) r i = (picks r.2 ar (i : Int))[p] := by
    unfold makes
    simp only [Int.toNat_natCast]
    have hl := hpk.2 _ (List.getElem_mem hpl)
    refine madeL_ext hl.1 fun q hq => ?_
    rw [madeV_op]
    unfold projT
    rw [tabOf_at (by omega) hN (by rw [colL_len, picks_len]) (colL_in hpk hq), colL_getD hpl]
  rw [e]
  exact hmem
/-- what is listed -/
theorem po_mem {t : Tpl} {ar : Int} (h : askC t ar = 0) (hc : poC t ar = 0) {x : List Int} : (ar, x) ∈ poV t ar ↔ (x.length = tabL t ar ∧ (∀ a ∈ x, 0 ≤ a ∧ a ≤ t.1 - 1) ∧ ∀ r ∈ t.2, keepsP t.1 (ar, x) r) := by
  obtain ⟨hT, har⟩ := ask_ok h
  have hs := hT.1
  unfold sizeOk at hs
  have hN := tabL_of (ar := ar) hT
  have h0 : 0 < tabL t ar := by
    have : 0 < t.1 ^ ar.toNat := Int.pow_pos (by omega)
    omega
  cases h1 : limF t ar.toNat
  · by_cases h2 : (poR t ar).1 = 0
    · rw [(po_yes h h1 h2).1]
      have hall := srch_all (skip_fxN (t := t) (ar := ar)) _ _ _ (by simp) h2
      rw [show srch t.1.toNat (okF t ar) (fxN t ar) po3 (tabL t ar) [] (0, 0, []) = poR t ar from rfl] at hall
      simp only [List.mem_map, Prod.mk.injEq, true_and, exists_eq_right]
      rw [hall, List.nil_append, allF_mem]
      constructor
      · rintro ⟨y, rfl, hy, hr, hk⟩
        simp only [List.nil_append] at hk ⊢
        exact ⟨hy, fun a ha => by have := hr a ha; omega, (okF_all hT har hy h0).1 hk⟩
      · rintro ⟨hy, hr, hk⟩
        exact ⟨x, by simp, hy, fun a ha => by have := hr a ha; omega, by simpa using (okF_all hT har hy h0).2 hk⟩
    · rw [(po_no h h1 h2).2] at hc
      exact absurd hc h2
  · rw [(po_lim h h1).2] at hc
    omega
theorem po_ar {t : Tpl} {ar : Int} : ∀ f ∈ poV t ar, f.1 = ar := fun f hf => by
  unfold poV at hf
  split at hf
  · obtain ⟨x, _, rfl⟩ := List.mem_map.1 hf
    rfl
  · cases hf
theorem poly_true {t : Tpl} {f : Int × List Int} : polyB t f = true ↔ tplOk t ∧ opOk t.1 f ∧ ∀ r ∈ t.2, keepsP t.1 f r := by
  unfold polyB polyOk
  rw [Bool.and_eq_true, Bool.and_eq_true, tb_iff, tb_iff, decide_eq_true_iff, and_assoc]
  refine and_congr_right fun _ => and_congr_right fun _ => ?_
  unfold brokenI
  constructor
  · intro h r hr
    apply Classical.byContradiction
    intro hn
    have h1 := firstI_any (fun r => !tb (keepsP t.1 f r)) t.2
    have h2 : anyB (fun r => !tb (keepsP t.1 f r)) t.2 = true := List.any_eq_true.2 ⟨r, hr, by rw [tb_false hn]; rfl⟩
    rw [h2] at h1
    have := of_decide_eq_true h1
    omega
  · intro h
    have : noneB (fun r => !tb (keepsP t.1 f r)) t.2 := fun r hr => by show (!tb (keepsP t.1 f r)) = false; rw [tb_true (h r hr)]; rfl
    rw [firstI_none this]
    omega
/-- just the operations that keep the template are listed -/
theorem po_poly {t : Tpl} {ar : Int} (h : askC t ar = 0) (hc : poC t ar = 0) {f : Int × List Int} : f ∈ poV t ar ↔ (f.1 = ar ∧ polyB t f = true) := by
  obtain ⟨hT, har⟩ := ask_ok h
  have hN := tabL_of (ar := ar) hT
  constructor
  · intro hf
    have h1 := po_ar f hf
    obtain ⟨f1, x⟩ := f
    obtain rfl : f1 = ar := h1
    obtain ⟨h2, h3, h4⟩ := (po_mem h hc).1 hf
    exact ⟨rfl, poly_true.2 ⟨hT, ⟨hT.1, har, by show (x.length : Int) = t.1 ^ f1.toNat; omega, h3⟩, h4⟩⟩
  · rintro ⟨h1, h2⟩
    obtain ⟨f1, x⟩ := f
    obtain rfl : f1 = ar := h1
    obtain ⟨-, h3, h4⟩ := poly_true.1 h2
    have h5 : (x.length : Int) = t.1 ^ f1.toNat := h3.2.2.1
    exact (po_mem h hc).2 ⟨by omega, h3.2.2.2, h4⟩
/-- how a search that lists at most 64 and one that only counts go together -/
theorem srch_two {s N : Nat} {okT : List Int → Bool} {fx : List Int} : ∀ (m : Nat) (vals : List Int) (r : FR), (srch s okT fx po3 m vals r = srch s okT fx (fun _ => 0) m vals r) ∨ ((srch s okT fx po3 m vals r).1 = 3 ∧ 64 < (srch s okT fx (fun _ => 0) m vals r).2.2.length)
  | 0, vals, r => by
    simp only [srch]
    unfold po3
    by_cases h : 64 < (r.2.2 ++ [vals]).length
    · rw [if_pos h]; exact .inr ⟨rfl, h⟩
    · rw [if_neg h]; exact .inl rfl
  | m + 1, vals, r => by
    have grow : ∀ (m : Nat) (vals : List Int) (r : FR), r.2.2.length ≤ (srch s okT fx (fun _ => 0) m vals r).2.2.length := by
      intro m
      induction m with
      | zero => intro vals r; simp [srch]
      | succ m ihm =>
        intro vals r
        have key : ∀ (l : List Nat) (q : FR), q.2.2.length ≤ (l.foldl (stepA (srch s okT fx (fun _ => 0) m) okT fx vals) q).2.2.length := by
          intro l
          induction l with
          | nil => intro q; exact Nat.le_refl _
          | cons a l ih =>
            intro q
            rw [List.foldl_cons]
            by_cases h0 : q.1 = 0
            · cases h1 : skipB fx vals.length a
              · by_cases h2 : q.2.1 = 6000
                · rw [step_bud h0 h1 h2]; exact ih (7, q.2)
                · cases h3 : okT (vals ++ [(a : Int)])
                  · rw [step_no h0 h1 h2 h3]; exact ih (0, q.2.1 + 1, q.2.2)
                  · rw [step_yes h0 h1 h2 h3]
                    exact Nat.le_trans (ihm (vals ++ [(a : Int)]) (0, q.2.1 + 1, q.2.2)) (ih _)
              · rw [step_skip h1]; exact ih q
            · rw [step_stop h0]; exact ih q
        exact key _ r
    have fgrow : ∀ (l : List Nat) (q : FR), q.2.2.length ≤ (l.foldl (stepA (srch s okT fx (fun _ => 0) m) okT fx vals) q).2.2.length := by
      intro l
      induction l with
      | nil => intro q; exact Nat.le_refl _
      | cons a l ih =>
        intro q
        rw [List.foldl_cons]
        by_cases h0 : q.1 = 0
        · cases h1 : skipB fx vals.length a
          · by_cases h2 : q.2.1 = 6000
            · rw [step_bud h0 h1 h2]; exact ih (7, q.2)
            · cases h3 : okT (vals ++ [(a : Int)])
              · rw [step_no h0 h1 h2 h3]; exact ih (0, q.2.1 + 1, q.2.2)
              · rw [step_yes h0 h1 h2 h3]
                exact Nat.le_trans (grow m (vals ++ [(a : Int)]) (0, q.2.1 + 1, q.2.2)) (ih _)
          · rw [step_skip h1]; exact ih q
        · rw [step_stop h0]; exact ih q
    have key : ∀ (l : List Nat) (q : FR), (l.foldl (stepA (srch s okT fx po3 m) okT fx vals) q = l.foldl (stepA (srch s okT fx (fun _ => 0) m) okT fx vals) q) ∨ ((l.foldl (stepA (srch s okT fx po3 m) okT fx vals) q).1 = 3 ∧ 64 < (l.foldl (stepA (srch s okT fx (fun _ => 0) m) okT fx vals) q).2.2.length) := by
      intro l
      induction l with
      | nil => intro q; exact .inl rfl
      | cons a l ih =>
        intro q
        rw [List.foldl_cons, List.foldl_cons]
        by_cases h0 : q.1 = 0
        · cases h1 : skipB fx vals.length a
          · by_cases h2 : q.2.1 = 6000
            · rw [step_bud h0 h1 h2, step_bud h0 h1 h2]; exact ih (7, q.2)
            · cases h3 : okT (vals ++ [(a : Int)])
              · rw [step_no h0 h1 h2 h3, step_no h0 h1 h2 h3]; exact ih (0, q.2.1 + 1, q.2.2)
              · rw [step_yes h0 h1 h2 h3, step_yes h0 h1 h2 h3]
                rcases srch_two (N := N) m (vals ++ [(a : Int)]) (0, q.2.1 + 1, q.2.2) with h4 | ⟨h4, h5⟩
                · rw [h4]; exact ih _
                · refine .inr ⟨?_, Nat.lt_of_lt_of_le h5 (fgrow _ _)⟩
                  rw [fold_stop (by rw [h4]; decide)]
                  exact h4
          · rw [step_skip h1, step_skip h1]; exact ih q
        · rw [step_stop h0, step_stop h0, fold_stop h0, fold_stop h0]
          exact .inl rfl
    exact key _ r
end Go.Proofs.YthjafhjghjbdmaaGreat
namespace Go.Proofs.YthjafhjghjbdmaaGreat
open Go.RowKit Go.Sort
/-- a listener of operations: what it keeps (I), and the blocks that are its own (O); it is told operations with the property V alone -/
structure YfV (P : Program) (ar : Int) (g : FuncId) (caps : Array Value) (yc : List (List Int) → Int) (V : List Int → Prop) (I : List (List Int) → (Nat → Prop) → World → Prop) : Prop where
  stable : ∀ {told O w w'}, I told O w → (∀ k, k < w.heap.size → O k → w'.heap[k]? = w.heap[k]?) → w.heap.size ≤ w'.heap.size → I told O w'
  lt : ∀ {told O w}, I told O w → ∀ k, O k → k < w.heap.size
  step : ∀ {told O w0 w u x}, I told O w0 → Below w0.heap.size w0 w → intsT.Fr w0.heap.size w [u] x → x.length ≤ 64 → told.length ≤ 2000000 → V x →
    Calls P g (#[.agg #[.int .i64 ar, u]] ++ caps) w fun e w' => e = .returned (.int .i64 (yc (told ++ [x]))) ∧ ∃ O', I (told ++ [x]) O' w' ∧ TchP O w w' ∧ ∀ k, O' k → O k ∨ w0.heap.size ≤ k
set_option maxHeartbeats 6400000 in
set_option maxRecDepth 100000 in
theorem searchV_any {t : Tpl} {ar : Int} {due : List (List (Int × List Int))} {fx : List Int} (hT : tplOk t) {s N : Nat} (hs : t.1 = s) (hN : N ≤ 64) (hdl : due.length = N) (hD : ldueOk t due) (hd3 : ∀ d ∈ due, d.length ≤ 1000000) (hfx : fx.length = N) (g : Nat) (caps : Array Value) (eg : ∀ args w, (callFunc g args).run Tryz.prog w = .ok (.enter g args) w)
    (yc : List (List Int) → Int) (I : List (List Int) → (Nat → Prop) → World → Prop) {V : List Int → Prop} (hY : YfV Tryz.prog ar g caps yc V I) (hVV : ∀ x : List Int, x.length = N → (∀ a ∈ x, 0 ≤ a ∧ a ≤ t.1 - 1) → V x) (bs base : Nat) (ok : Nat → Prop) (hbb : bs < base) (hok : ∀ k, ok k → k < base ∧ k ≠ bs) :
    ∀ (m : Nat) (w : World) (v : Value) (vals : List Int) (st : Nat) (told : List (List Int)) (O : Nat → Prop), vals.length + m = N → (∀ a ∈ vals, 0 ≤ a ∧ a ≤ t.1 - 1) → Fd ok w bs t ar due fx → Tb 2 base w bs st v vals → I told O w → (∀ k, ok k → ¬ O k) → ¬ O bs → (∀ k, v.ownBlock = some k → ¬ O k) → st ≤ 6000 → told.length ≤ st + 1 → base ≤ w.heap.size →
      Calls Tryz.prog 61 #[.pointer (some ⟨bs, 0, none⟩), .func (.func g) #[] caps] w fun e w' => e = .returned (.int .i64 (srch s (goesF t due) fx yc m vals (0, st, told)).1) ∧
        SrR 2 base ok bs t ar due fx I w v O vals (srch s (goesF t due) fx yc m vals (0, st, told)) w' := by
  have HT := Lib.hid hT
  have HD := Lib.hid hD
  have HD3 := Lib.hid hd3
  have HY := Lib.hid hY
  have HVV := Lib.hid hVV
  have HOK := Lib.hid hok
  have hs4 := hT.1
  unfold sizeOk at hs4
  have hs41 : 1 ≤ s ∧ s ≤ 4 := by omega
  clear hT hD hd3 hY hok hs4 hVV
  intro m
  induction m with
  | zero =>
    intro w v vals st told O hlen hin hF hTb hI hokO hbO hvO hst htl hbw
    have HF := Lib.hid hF
    have HTB := Lib.hid hTb
    obtain ⟨hbs, v3, v4, v5, c0, c2, c3, c4, c5, -, -, hfd⟩ := hF
    obtain ⟨c6, c7, f6, f7, hBl⟩ := hTb
    obtain ⟨va, vc, rfl⟩ := rd_slice (hBl.fr (by unfold capMax; omega)).rd
    obtain ⟨xa, xc, rfl⟩ := rdP_slice hfd
    have HV := Lib.hid (hBl.fr (by unfold capMax; omega)).rd
    have HI := Lib.hid hI
    have HOO := Lib.hid hokO
    have HVO := Lib.hid hvO
    have hl : vals.length = N := by omega
    have HVX := Lib.hid (HVV.out vals hl hin)
    rw [show srch s (goesF t due) fx yc 0 vals (0, st, told) = (yc (told ++ [vals]), st, told ++ [vals]) from rfl]
    simp only []
    rw [hl] at c7 HV ⊢
    rw [hfx] at c5
    have hbOH := Lib.hid hbO
    clear hI hBl hokO hvO hin hfd c0 c3 c4 c6 f6 f7 hbO
    go_enter Tryz.func61, Tryz.ntmps61
    go_wp2_with fail
    refine wp_region_T (fun w' => w'.cell? ⟨bs, 2, none⟩ = some (.int .i64 ar) ∧ w'.cell? ⟨bs, 7, none⟩ = some (.slice va N vc)) [11, 12] (by kernel_rfl) ⟨c2, c7⟩ (fun hHeld => ?_)
    refine wpAnyT_take (i := 0) (v := ?_) rfl (by kernel_rfl) (fun _ _ _ h => h) (Or.inl ⟨by rfl, ?_⟩) (by assumption) ?_
    rotate_left
    · (intro w hSw; (try dsimp only at hSw); go_simp <;> with_reducible rfl)
    go_simp
    refine wpAnyT_take (i := 1) (v := ?_) rfl (by kernel_rfl) (fun _ _ _ h => h) (Or.inl ⟨by rfl, ?_⟩) (by assumption) ?_
    rotate_left
    · (intro w hSw; (try dsimp only at hSw); go_simp <;> with_reducible rfl)
    go_simp
    refine wpAnyT_take (i := 2) (v := ?_) rfl (by kernel_rfl) (fun _ _ _ h => h) (Or.inl ⟨by rfl, ?_⟩) (by assumption) ?_
    rotate_left
    · (intro w hSw; (try dsimp only at hSw); go_simp <;> with_reducible rfl)
    go_simp
    refine wpAnyT_take (i := 3) (v := ?_) rfl (by kernel_rfl) (fun _ _ _ h => h) (Or.inl ⟨by rfl, ?_⟩) (by assumption) ?_
    rotate_left
    · (intro w hSw; (try dsimp only at hSw); go_simp <;> with_reducible rfl)
    go_simp
    refine wpAnyT_take (i := 4) (v := ?_) rfl (by kernel_rfl) (fun _ _ _ h => h) (Or.inl ⟨by rfl, ?_⟩) (by assumption) ?_
    rotate_left
    · (intro w hSw; (try dsimp only at hSw); go_simp <;> with_reducible rfl)
    go_simp
    refine wpAnyT_take (i := 5) (v := ?_) rfl (by kernel_rfl) (fun _ _ _ h => h) (Or.inl ⟨by rfl, ?_⟩) (by assumption) ?_
    rotate_left
    · (intro w hSw; (try dsimp only at hSw); go_simp <;> with_reducible rfl)
    go_simp
    refine wpAnyT_take (i := 6) (v := ?_) rfl (by kernel_rfl) (fun _ _ _ h => h) (Or.inl ⟨by rfl, ?_⟩) (by assumption) ?_
    rotate_left
    · (intro w hSw; (try dsimp only at hSw); go_simp <;> with_reducible rfl)
    go_simp
    refine wpAnyT_take (i := 7) (v := ?_) rfl (by kernel_rfl) (fun _ _ _ h => h) (Or.inl ⟨by rfl, ?_⟩) (by assumption) ?_
    rotate_left
    · (intro w hSw; (try dsimp only at hSw); go_simp <;> with_reducible rfl)
    go_simp
    refine wpAnyT_take (i := 8) (v := ?_) rfl (by kernel_rfl) (fun _ _ _ h => h) (Or.inl ⟨by rfl, ?_⟩) (by assumption) ?_
    rotate_left
    · (intro w hSw; (try dsimp only at hSw); go_simp <;> with_reducible rfl)
    go_simp
    refine wpAnyT_one (i := 9) rfl (by kernel_rfl) (fun K hK => ?_)
    go_simp
    go_at_call 105
    refine (Clone_any _ (HV.out.below bD) (by omega)).mono ?_
    rintro e w1 ⟨u, rfl, hf, hb1⟩
    have hb1' : Below w.heap.size w w1 := bthen bD hb1
    obtain ⟨ua, un, uc, rfl⟩ := ex_slice hf
    have HFR : Hid (intsT.Fr w.heap.size w1 [.slice ua un uc] vals) := hf
    replace c2 := (cellB hb1' (by omega)).trans c2
    replace c7 := (cellB hb1' (by omega)).trans c7
    clear hf hb1
    dsimp only
    refine hK.out _ _ ⟨c2, c7⟩ (fun hHeld => ?_)
    clear hK K
    refine wpAnyT_one (i := 10) rfl (by kernel_rfl) (fun K hK => ?_)
    go_simp
    refine hK.out _ _ ⟨c2, c7⟩ (fun hHeld => ?_)
    clear hK K
    refine wpAnyT_last (i := 11) rfl (by kernel_rfl) (by kernel_rfl) (fun K hK => ?_)
    go_simp
    refine (HY.out.step HI.out hb1' HFR.out (by omega) (by omega) HVX.out).mono ?_
    rintro e w2 ⟨rfl, O', hI', ht, hO'⟩
    have HI2 := Lib.hid hI'
    have HO := Lib.hid hO'
    have HTC : Hid (TchP O w w2) := (TchP.of_below hb1' O).then ht (fun k _ hk => hk)
    have HW1 := Lib.hid (fun k (hk : k < w.heap.size) (hn : ¬ O k) => HTC.out.block k hk hn)
    clear hI' ht hO'
    dsimp only
    refine hK.out _ _ ?_
    clear hK K
    refine wpAnyT_last (i := 12) rfl (by kernel_rfl) (by kernel_rfl) (fun K hK => ?_)
    go_simp
    refine hK.out _ _ ?_
    clear hK K
    refine wpAnyT_done (by kernel_rfl) ?_ _
    go_simp
    go_wp2_with fail
    go_ret
    refine ⟨rfl, SrR.mk (.slice va N vc) O' ?_ ?_ HI2.out HO.out (fun k hk => ⟨fun hm => ?_, .inl hk⟩) (HTC.out.mono (fun k _ h => .inl h))⟩
    · exact HF.out.tchP HTC.out (fun k _ hk => HOO.out k hk) hbOH.out
    · rw [← hl]
      exact HTB.out.same (HTC.out.block bs hbs hbOH.out) (fun q hq => HTC.out.block q (HTB.out.2.2.2.2.lt_top hq) (HVO.out q hq)) HTC.out.size
    · rcases HO.out k hm with h | h
      · exact HVO.out k (by rw [hl]; exact hk) h
      · have := HTB.out.2.2.2.2.lt_top (g := k) (by rw [hl]; exact hk)
        omega
  | succ m ih =>
    intro w v vals st told O hlen hin hF hTb hI hokO hbO hvO hst htl hbw
    have HF := Lib.hid hF
    have HTB := Lib.hid hTb
    obtain ⟨hbs, v3, v4, v5, c0, c2, c3, c4, c5, -, -, hfd⟩ := hF
    obtain ⟨c6, c7, f6, f7, hBl⟩ := hTb
    obtain ⟨va, vc, rfl⟩ := rd_slice (hBl.fr (by unfold capMax; omega)).rd
    have HI := Lib.hid hI
    have HOO := Lib.hid hokO
    have HVO := Lib.hid hvO
    have HIN := Lib.hid hin
    have HIH := Lib.hid ih
    have hbOH := Lib.hid hbO
    have hl : vals.length < N := by omega
    have hne : ((vals.length : Int) == (N : Int)) = false := by simp; omega
    have hatf : vals.length < fx.length := by omega
    obtain ⟨_, _, hx, -, hxe⟩ := slice_exP hfd
    obtain rfl : v5 = _ := by simpa using hx
    obtain ⟨xb, xo, rfl, hxb, hxok, hxc⟩ := hxe.2 (by omega)
    obtain ⟨cs, ⟨fpc, ⟨rfl, hIx, _⟩, _⟩, hxc⟩ := hxc vals.length hatf
    have cx := hxc 0 (by simp)
    simp only [Ty.int, Nat.mul_one, Nat.add_zero, List.getElem_cons_zero] at cx
    rw [hfx] at c5
    rw [srch_succ]
    rw [hs] at c0
    clear hI hBl hokO hvO hfd c3 c4 hbO hxe hxc
    clear hin ih
    go_enter Tryz.func61, Tryz.ntmps61
    go_wp2_with fail
    go_loopw [37] (fun i wr => ∃ (k : Nat) (v' : Value) (O' : Nat → Prop), k ≤ s ∧ i = .int .i64 k ∧ (srchTo s (goesF t due) fx yc m vals k (0, st, told)).1 = 0 ∧ Fd ok wr bs t ar due fx ∧ Tb 2 base wr bs (srchTo s (goesF t due) fx yc m vals k (0, st, told)).2.1 v' vals ∧
      I (srchTo s (goesF t due) fx yc m vals k (0, st, told)).2.2 O' wr ∧ (∀ q, O' q → O q ∨ w.heap.size ≤ q) ∧ (∀ q, v'.ownBlock = some q → ¬ O' q ∧ ((Value.slice va vals.length vc).ownBlock = some q ∨ w.heap.size ≤ q)) ∧ TchP (fun q => O q ∨ q = bs ∨ (Value.slice va vals.length vc).ownBlock = some q) w wr) (fun i _ => s - (intOf i).toNat)
    case atStart => exact ⟨0, _, O, Nat.zero_le _, rfl, rfl, HF.out, HTB.out, HI.out, fun q hq => .inl hq, fun q hq => ⟨HVO.out q hq, .inl hq⟩, TchP.refl _ _⟩
    case round =>
      obtain ⟨k, v', O', hk, rfl, hz0, hF', hTb', hI', hO', hv', ht'⟩ := hrel
      have HF2 := Lib.hid hF'
      have HTB2 := Lib.hid hTb'
      have HI2 := Lib.hid hI'
      have HO2 := Lib.hid hO'
      have HV2 := Lib.hid hv'
      have HTC := Lib.hid ht'
      have HZ0 := Lib.hid hz0
      have hzr := ht'.size
      obtain ⟨hst', htl'⟩ : (srchTo s (goesF t due) fx yc m vals k (0, st, told)).2.1 ≤ 6000 ∧ (srchTo s (goesF t due) fx yc m vals k (0, st, told)).2.2.length ≤ (srchTo s (goesF t due) fx yc m vals k (0, st, told)).2.1 + 1 := by
        have h1 := srchTo_steps (s := s) (okT := goesF t due) (fx := fx) (yc := yc) (m := m) (vals := vals) (k := k) (r := (0, st, told)) hst
        have h2 := (srchTo_told (s := s) (okT := goesF t due) (fx := fx) (yc := yc) (m := m) (vals := vals) (k := k) (r := (0, st, told))).1
        simp only at h2
        omega
      have HSC := Lib.hid (srchTo_succ (s := s) (okT := goesF t due) (fx := fx) (yc := yc) (m := m) (vals := vals) (k := k) (r := (0, st, told)))
      have HST : Hid ((srchTo s (goesF t due) fx yc m vals (k + 1) (0, st, told)).1 ≠ 0 → k < s → srchTo s (goesF t due) fx yc m vals s (0, st, told) = srchTo s (goesF t due) fx yc m vals (k + 1) (0, st, told)) := fun h hk => srchTo_stop h (by omega)
      generalize hR : srchTo s (goesF t due) fx yc m vals k (0, st, told) = R at *
      obtain ⟨rc, rst, rtold⟩ := R
      simp only at hst' htl' HTB2 HI2 HZ0 hz0
      clear hF' hTb' hI' hO' hv' ht'
      by_cases hkl : k < s
      · obtain rfl : rc = 0 := HZ0.out
        obtain ⟨hbs', _, _, v5', -, -, -, -, c5', -, -, hfd'⟩ := HF2.out
        obtain ⟨_, _, hx, -, -, hxe⟩ := slice_exP hfd'
        obtain rfl : v5' = _ := by simpa using hx
        obtain ⟨xb, xo, rfl, hxb, hxok, hxc⟩ := hxe (by omega)
        obtain ⟨cs, ⟨fpc, ⟨rfl, hIx, _⟩, _⟩, hxc⟩ := hxc vals.length hatf
        have cx := hxc 0 (by simp)
        simp only [Ty.int, Nat.mul_one, Nat.add_zero, List.getElem_cons_zero] at cx
        rw [hfx] at c5'
        have HSK := Lib.hid (skip_at (a := (k : Int)) hatf)
        generalize fx[vals.length] = x at cx HSK
        obtain ⟨c6', c7', f6', f7', hBl'⟩ := HTB2.out
        obtain ⟨va', vc', rfl⟩ := rd_slice (hBl'.fr (by unfold capMax; omega)).rd
        have HBL := Lib.hid hBl'
        have HRE := Lib.hid hR
        obtain ⟨wv, rfl⟩ : ∃ wv : World, wv = wr := ⟨_, rfl⟩
        clear hxe hxc hfd' hIx hBl' hR hz0 c0 c2 c5 c6 c7 f6 f7
        go_upto_region 7 with fail
        go_cut [58] from 40 to 57 (fun v58 wx => v58 = .bool (skipB fx vals.length k) ∧ wv = wx)
        case rest =>
          obtain ⟨rfl, rfl⟩ := hcut
          cases hsk : skipB fx vals.length k
          · cases hb : ((rst : Int) == 6000)
            · have hne6 : rst ≠ 6000 := by intro e; rw [e] at hb; exact absurd hb (by decide)
              have hst6 : rst + 1 ≤ 6000 := by omega
              go_upto_region 11 with fail
              have HB1 : Hid (Bl Ty.int 2 base wv.heap.size (wv.setCell ⟨bs, 6, none⟩ (.int .i64 ((rst : Int) + 1))) (.slice va' vals.length vc') vals) := bl_int_same HBL.out (fun b hb => Below.heap_setCell _ _ _ _ (by have := HBL.out.ge hb; simp; omega)) (Nat.le_refl _)
              have hnb : ¬ O' bs := fun h => by
                rcases HO2.out bs h with h | h
                · exact hbOH.out h
                · omega
              have HOB : Hid (¬ ok bs) := fun h => (HOK.out bs h).2 rfl
              have HVB : Hid ((Value.slice va' vals.length vc').ownBlock ≠ some bs) := fun h => by have := HBL.out.ge h; omega
              have HF1 : Hid (Fd ok (wv.setCell ⟨bs, 6, none⟩ (.int .i64 ((rst : Int) + 1))) bs t ar due fx) := HF2.out.set (by omega) HOB.out
              have hs1 : TchP (fun q => q = bs) wv (wv.setCell ⟨bs, 6, none⟩ (.int .i64 ((rst : Int) + 1))) := TchP.set rfl
              have hzz : (wv.setCell ⟨bs, 6, none⟩ (.int .i64 ((rst : Int) + 1))).heap.size ≤ wv.heap.size := by simp [World.setCell]
              have HI1 : Hid (I rtold O' (wv.setCell ⟨bs, 6, none⟩ (.int .i64 ((rst : Int) + 1)))) := HY.out.stable HI2.out (fun q hq ho => hs1.block q hq (fun e => hnb (e ▸ ho))) hs1.size
              have d6 : (wv.setCell ⟨bs, 6, none⟩ (.int .i64 ((rst : Int) + 1))).cell? ⟨bs, 6, none⟩ = some (.int .i64 ((rst : Int) + 1)) := World.cell?_setCell_same _ _ _ c6'
              have d7 : (wv.setCell ⟨bs, 6, none⟩ (.int .i64 ((rst : Int) + 1))).cell? ⟨bs, 7, none⟩ = some (.slice va' vals.length vc') := (World.cell?_setCell_other _ _ _ _ (by simp)).trans c7'
              have e6 : (wv.setCell ⟨bs, 6, none⟩ (.int .i64 ((rst : Int) + 1))).frozen? ⟨bs, 6, none⟩ = false := (World.frozen?_setCell _ _ _ _).trans f6'
              have e7 : (wv.setCell ⟨bs, 6, none⟩ (.int .i64 ((rst : Int) + 1))).frozen? ⟨bs, 7, none⟩ = false := (World.frozen?_setCell _ _ _ _).trans f7'
              generalize wv.setCell ⟨bs, 6, none⟩ (.int .i64 ((rst : Int) + 1)) = w1 at *
              have hz1 := hs1.size
              have hbs1 : bs < w1.heap.size := by omega
              have hIk : I64 (k : Int) := I64.small (by omega) (by omega)
              have HT1 : Hid (TchP (fun q => O q ∨ q = bs ∨ (Value.slice va vals.length vc).ownBlock = some q) w w1) := HTC.out.then hs1 (fun q _ h => .inr (.inl h))
              have HNB := Lib.hid hnb
              have HSKF := Lib.hid hsk
              clear c6' c7' f6' f7' c5' cx hnb hsk
              go_wp2_with (at_builtin; go_loud (refine wpList_push (E := Ty.int) _ rfl _ _ 26 2 rfl elInt rfl (HB1.out.below bA (by omega)) rfl news1 (fr_int hIk) (by omega) (by decide) (by omega) (by first | (simp; done) | (simp; omega)) ?_; intro v5 w5 hB5 hg5 hown; obtain ⟨a5, n5, c5, rfl⟩ := ex_slice (hB5.fr (by rw [List.length_append]; unfold capMax; simp only [List.length_singleton]; omega)); have i7 := (grown_cell' (i := 7) hg5 (show bs < _ by first | (simp; done) | (simp; omega)) HVB.out).trans ((cellB (bA (w := w1)) hbs1).trans d7); have im := (World.frozen?_of_block (a := ⟨bs, 7, none⟩) (hg5.block bs (by first | (simp; done) | (simp; omega)) (fun e => HVB.out e.symm))).trans ((frozenB (bA (w := w1)) hbs1).trans e7)); have i6 := (grown_cell' (i := 6) hg5 (show bs < _ by first | (simp; done) | (simp; omega)) HVB.out).trans ((cellB (bA (w := w1)) hbs1).trans d6); have i8 := (World.frozen?_of_block (a := ⟨bs, 6, none⟩) (hg5.block bs (by first | (simp; done) | (simp; omega)) (fun e => HVB.out e.symm))).trans ((frozenB (bA (w := w1)) hbs1).trans e6))
              have hla : (w1.alloc (.cells #[.int .i64 (k : Int)] 2)).heap.size = w1.heap.size + 1 := by simp
              have hown6 : (Value.slice a5 n5 c5).ownBlock = (Value.slice va' vals.length vc').ownBlock ∨ (Value.slice a5 n5 c5).ownBlock = some (w1.alloc (.cells #[.int .i64 (k : Int)] 2)).heap.size := hown
              have hg6 : (w1.alloc (.cells #[.int .i64 (k : Int)] 2)).grownBy w5 (Value.slice va' vals.length vc').ownBlock := hg5
              have hOWN : ∀ q, (Value.slice a5 n5 c5).ownBlock = some q → (Value.slice va' vals.length vc').ownBlock = some q ∨ w1.heap.size ≤ q := fun q hq => by
                rcases hown6 with h | h
                · exact .inl (by rw [← h]; exact hq)
                · rw [h] at hq
                  simp at hq
                  exact .inr (by omega)
              have HOWN := Lib.hid hOWN
              have hV5 : (Value.slice a5 n5 c5).ownBlock ≠ some bs := fun h => by
                rcases hOWN bs h with h | h
                · exact HVB.out h
                · omega
              have ht5 : TchP (fun q => (Value.slice va' vals.length vc').ownBlock = some q) w1 w5 := (TchP.of_below bA _).then (TchP.grown hg6 (fun q h => h)) (fun q _ h => h)
              have ht6 : TchP (fun q => q = bs ∨ (Value.slice va' vals.length vc').ownBlock = some q) w1 (w5.setCell ⟨bs, 7, none⟩ (.slice a5 n5 c5)) := (ht5.mono (fun q _ h => .inr h)).then (TchP.set (O := fun q => q = bs) rfl) (fun q _ h => .inl h)
              have HF6 : Hid (Fd ok (w5.setCell ⟨bs, 7, none⟩ (.slice a5 n5 c5)) bs t ar due fx) := (HF1.out.tchP ht5 (fun q _ hq h => by have := HBL.out.ge h; have := (HOK.out q hq).1; omega) HVB.out).set (by omega) HOB.out
              have HI6 : Hid (I rtold O' (w5.setCell ⟨bs, 7, none⟩ (.slice a5 n5 c5))) := HY.out.stable HI1.out (fun q hq ho => ht6.block q hq (fun h => by
                rcases h with h | h
                · exact HNB.out (h ▸ ho)
                · exact (HV2.out q h).1 ho)) ht6.size
              have HTB6 : Hid (Tb 2 base (w5.setCell ⟨bs, 7, none⟩ (.slice a5 n5 c5)) bs (rst + 1) (.slice a5 n5 c5) (vals ++ [(k : Int)])) := by
                refine ⟨(World.cell?_setCell_other _ _ _ _ (by simp)).trans ?_, World.cell?_setCell_same _ _ _ i7, (World.frozen?_setCell _ _ _ _).trans i8, (World.frozen?_setCell _ _ _ _).trans im, bl_int_same hB5 (fun b hb => Below.heap_setCell _ _ _ _ (fun e => hV5 (by rw [hb]; simp at e; rw [e]))) (by simp [World.setCell])⟩
                rw [i6]
                exact congrArg some (by go_num)
              have HT6 : Hid (TchP (fun q => O q ∨ q = bs ∨ (Value.slice va vals.length vc).ownBlock = some q) w (w5.setCell ⟨bs, 7, none⟩ (.slice a5 n5 c5))) := HT1.out.then ht6 (fun q hq h => by
                rcases h with h | h
                · exact .inr (.inl h)
                · rcases (HV2.out q h).2 with h | h
                  · exact .inr (.inr h)
                  · omega)
              have hz6 := ht6.size
              clear hB5 hg5 hown hg6 hown6 hOWN hV5 ht5 ht6 i6 i7 i8 im hla d6 d7 e6 e7
              generalize w5.setCell ⟨bs, 7, none⟩ (.slice a5 n5 c5) = w6 at *
              have hls : (vals ++ [(k : Int)]).length = vals.length + 1 := by simp
              have HLS := Lib.hid hls
              have HINK : Hid (∀ a ∈ vals ++ [(k : Int)], 0 ≤ a ∧ a ≤ t.1 - 1) := fun a ha => by
                rcases List.mem_append.1 ha with ha | ha
                · exact HIN.out a ha
                · rw [List.mem_singleton.1 ha]; omega
              have HRD6 : Hid (intsT.Rd w6 [.slice a5 n5 c5] (vals ++ [(k : Int)])) := (HTB6.out.2.2.2.2.fr (by unfold capMax; omega)).rd
              clear hls
              refine (fgoes_any w6 HF6.out HTB6.out.2.1 HRD6.out HT.out HD.out HINK.out (by have := HLS.out; omega) (by have := HLS.out; omega) (by omega) HD3.out).mono ?_
              rintro e w7 ⟨rfl, hb7⟩
              have hz7 := hb7.size
              have HF7 := Lib.hid (HF6.out.below hb7)
              have HTB7 := Lib.hid (HTB6.out.below HF6.out.1 hb7)
              have HI7 : Hid (I rtold O' w7) := HY.out.stable HI6.out (fun q hq _ => hb7.block q hq) hz7
              have HT7 : Hid (TchP (fun q => O q ∨ q = bs ∨ (Value.slice va vals.length vc).ownBlock = some q) w w7) := HT6.out.then (TchP.of_below hb7 (fun _ => False)) (fun q _ h => h.elim)
              cases hg : goesF t due (vals ++ [(k : Int)])
              · have HN : Hid (srchTo s (goesF t due) fx yc m vals (k + 1) (0, st, told) = (0, rst + 1, rtold)) := by unfold Hid; rw [HSC.out, step_no rfl HSKF.out hne6 hg]
                obtain ⟨hF8, hT8, hc8, rfl, g8, rfl⟩ := tb_cut HF7.out HTB7.out HOB.out hbb
                have HF8 := Lib.hid hF8
                have HTB8 := Lib.hid hT8
                have ht8 : TchP (fun q => q = bs) w7 (w7.setCell ⟨bs, 7, none⟩ (.slice (some ⟨g8, 0, none⟩) vals.length c5)) := TchP.set rfl
                have HI8 : Hid (I rtold O' (w7.setCell ⟨bs, 7, none⟩ (.slice (some ⟨g8, 0, none⟩) vals.length c5))) := HY.out.stable HI7.out (fun q hq ho => ht8.block q hq (fun e => HNB.out (e ▸ ho))) ht8.size
                have HT8 : Hid (TchP (fun q => O q ∨ q = bs ∨ (Value.slice va vals.length vc).ownBlock = some q) w (w7.setCell ⟨bs, 7, none⟩ (.slice (some ⟨g8, 0, none⟩) vals.length c5))) := HT7.out.then ht8 (fun q _ h => .inr (.inl h))
                obtain ⟨-, j7, -, j8, -⟩ := HTB7.out
                clear hF8 hT8 ht8 hg
                go_wp2_with fail
                go_roundw
                case rel => exact ⟨k + 1, _, O', by omega, by go_num, by rw [HN.out], HF8.out, by rw [HN.out]; exact HTB8.out, by rw [HN.out]; exact HI8.out, HO2.out, fun q hq => by
                    rcases HOWN.out q hq with h | h
                    · exact HV2.out q h
                    · exact ⟨fun ho => by have := HY.out.lt HI1.out q ho; omega, .inr (by omega)⟩, HT8.out⟩
                case measure => simp [intOf]; omega
              · have HN : Hid (srchTo s (goesF t due) fx yc m vals (k + 1) (0, st, told) = srch s (goesF t due) fx yc m (vals ++ [(k : Int)]) (0, rst + 1, rtold)) := by unfold Hid; rw [HSC.out, step_yes rfl HSKF.out hne6 hg]
                clear hg
                go_wp2_with fail
                refine (HIH.out w7 _ (vals ++ [(k : Int)]) (rst + 1) rtold O' (by have := HLS.out; omega) HINK.out HF7.out HTB7.out HI7.out (fun q hq ho => by
                    rcases HO2.out q ho with h | h
                    · exact HOO.out q hq h
                    · have := (HOK.out q hq).1; omega) HNB.out (fun q hq => by
                    rcases HOWN.out q hq with h | h
                    · exact (HV2.out q h).1
                    · exact fun ho => by have := HY.out.lt HI1.out q ho; omega) (by omega) (by omega) (by omega)).mono ?_
                rintro e w8 ⟨rfl, hSr⟩
                obtain ⟨v8, O8, hF8, hTb8, hI8, hO8, hv8, ht8⟩ := hSr
                have hz8 := ht8.size
                generalize srch s (goesF t due) fx yc m (vals ++ [(k : Int)]) (0, rst + 1, rtold) = R8 at *
                obtain ⟨rc8, st8, L8⟩ := R8
                simp only at hTb8 hI8
                obtain ⟨va8, vc8, rfl⟩ := rd_slice (hTb8.2.2.2.2.fr (by have := HLS.out; unfold capMax; omega)).rd
                obtain ⟨hF9, hT9, hc9, hn9, g9, rfl⟩ := tb_cut hF8 hTb8 HOB.out hbb
                have HF9 := Lib.hid hF9
                have HTB9 := Lib.hid hT9
                have HO8 := Lib.hid hO8
                have HV8 := Lib.hid hv8
                have hnb8 : ¬ O8 bs := fun h => by
                  rcases hO8 bs h with h | h
                  · exact HNB.out h
                  · omega
                have ht9 : TchP (fun q => q = bs) w8 (w8.setCell ⟨bs, 7, none⟩ (.slice (some ⟨g9, 0, none⟩) vals.length vc8)) := TchP.set rfl
                have HI9 : Hid (I L8 O8 (w8.setCell ⟨bs, 7, none⟩ (.slice (some ⟨g9, 0, none⟩) vals.length vc8))) := HY.out.stable hI8 (fun q hq ho => ht9.block q hq (fun e => hnb8 (e ▸ ho))) ht9.size
                have HT8 : Hid (TchP (fun q => O q ∨ q = bs ∨ (Value.slice va vals.length vc).ownBlock = some q) w w8) := HT7.out.then ht8 (fun q hq h => by
                  rcases h with h | h | h
                  · rcases HO2.out q h with h | h
                    · exact .inl h
                    · omega
                  · exact .inr (.inl h)
                  · rcases HOWN.out q h with h | h
                    · rcases (HV2.out q h).2 with h | h
                      · exact .inr (.inr h)
                      · omega
                    · omega)
                have HT9 : Hid (TchP (fun q => O q ∨ q = bs ∨ (Value.slice va vals.length vc).ownBlock = some q) w (w8.setCell ⟨bs, 7, none⟩ (.slice (some ⟨g9, 0, none⟩) vals.length vc8))) := HT8.out.then ht9 (fun q _ h => .inr (.inl h))
                have HO9 : Hid (∀ q, O8 q → O q ∨ w.heap.size ≤ q) := fun q hq => by
                  rcases hO8 q hq with h | h
                  · exact HO2.out q h
                  · exact .inr (by omega)
                have HV9 : Hid (∀ q, (Value.slice (some ⟨g9, 0, none⟩) vals.length vc8).ownBlock = some q → ¬ O8 q ∧ ((Value.slice va vals.length vc).ownBlock = some q ∨ w.heap.size ≤ q)) := fun q hq => by
                  obtain ⟨h1, h2⟩ := hv8 q hq
                  refine ⟨h1, ?_⟩
                  rcases h2 with h | h
                  · rcases HOWN.out q h with h | h
                    · exact (HV2.out q h).2
                    · exact .inr (by omega)
                  · exact .inr (by omega)
                obtain ⟨-, j7, -, j8, -⟩ := hTb8
                rw [HLS.out] at j7
                simp only []
                clear hF8 hI8 hO8 hv8 ht8 hF9 hT9 ht9 hnb8 hn9
                cases hc : (rc8 != 0)
                · have hc0 : rc8 = 0 := by simpa using hc
                  have HN2 : Hid (srchTo s (goesF t due) fx yc m vals (k + 1) (0, st, told) = (0, st8, L8)) := by unfold Hid; rw [HN.out, hc0]
                  clear hc0 HN
                  go_wp2_with fail
                  go_roundw
                  case rel => exact ⟨k + 1, _, O8, by omega, by go_num, by rw [HN2.out], HF9.out, by rw [HN2.out]; exact HTB9.out, by rw [HN2.out]; exact HI9.out, HO9.out, HV9.out, HT9.out⟩
                  case measure => simp [intOf]; omega
                · have hc0 : rc8 ≠ 0 := by simpa using hc
                  have HF7' : Hid (srchTo s (goesF t due) fx yc m vals s (0, st, told) = (rc8, st8, L8)) := by unfold Hid; rw [HST.out (by rw [HN.out]; exact hc0) hkl, HN.out]
                  clear hc0
                  go_wp2_with fail
                  go_ret
                  rw [HF7'.out]
                  exact ⟨rfl, SrR.mk _ O8 HF9.out HTB9.out HI9.out HO9.out HV9.out HT9.out⟩
            · have he6 : rst = 6000 := by have : (rst : Int) = 6000 := by simpa using hb
                                          omega
              have HN : Hid (srchTo s (goesF t due) fx yc m vals (k + 1) (0, st, told) = (7, rst, rtold)) := by unfold Hid; rw [HSC.out, step_bud rfl hsk he6]
              have HF7 : Hid (srchTo s (goesF t due) fx yc m vals s (0, st, told) = (7, rst, rtold)) := by unfold Hid; rw [HST.out (by rw [HN.out]; show (7 : Int) ≠ 0; decide) hkl, HN.out]
              clear hsk he6
              go_wp2_with fail
              go_ret
              rw [HF7.out]
              exact ⟨rfl, SrR.mk _ O' HF2.out HTB2.out HI2.out HO2.out HV2.out HTC.out⟩
          · have HN : Hid (srchTo s (goesF t due) fx yc m vals (k + 1) (0, st, told) = (0, rst, rtold)) := by unfold Hid; rw [HSC.out, step_skip hsk]
            clear hsk
            go_wp2_with fail
            go_roundw
            case rel => exact ⟨k + 1, _, O', by omega, by go_num, by rw [HN.out], HF2.out, by rw [HN.out]; exact HTB2.out, by rw [HN.out]; exact HI2.out, HO2.out, HV2.out, HTC.out⟩
            case measure => simp [intOf]; omega
        cases h1 : decide (0 ≤ x)
        · go_wp2_with fail
          go_meet
          case rel => exact ⟨by rw [HSK.out, h1]; rfl, rfl⟩
        · go_wp2_with fail
          go_meet
          case rel => exact ⟨by rw [HSK.out, h1]; rfl, rfl⟩
      · obtain rfl : k = s := by omega
        go_wp2_with fail
        go_ret
        rw [hR]
        exact ⟨ret_int HZ0.out.symm, SrR.mk v' O' HF2.out HTB2.out HI2.out HO2.out HV2.out HTC.out⟩
end Go.Proofs.YthjafhjghjbdmaaGreat
namespace Go.Proofs.YthjafhjghjbdmaaGreat
open Go.RowKit Go.Sort
/-- one value told; none if it was told otherwise -/
def tellAt (s : Int) (l : List Int) (v : Int) (f : List Int) : Option (List Int) := match decide (0 ≤ f.getD (idxL s 0 l).toNat 0) && (f.getD (idxL s 0 l).toNat 0 != v) with
  | true => none
  | false => some (f.set (idxL s 0 l).toNat v)
/-- the first k values told -/
def telK (s : Int) (ls : List (List Int)) (vs : List Int) (f : List Int) : Nat → Option (List Int)
  | 0 => some f
  | k + 1 => (telK s ls vs f k).bind (tellAt s (ls.getD k []) (vs.getD k 0))
section
variable {s : Int} {ls : List (List Int)} {vs f g : List Int} {k : Nat}
theorem telK_none (h : telK s ls vs f k = none) : ∀ {n}, k ≤ n → telK s ls vs f n = none := by
  intro n hn
  obtain ⟨d, rfl⟩ : ∃ d, n = k + d := ⟨n - k, by omega⟩
  induction d with
  | zero => exact h
  | succ d ih =>
    show (telK s ls vs f (k + d)).bind _ = none
    rw [ih (by omega)]
    rfl
theorem telK_no (h : telK s ls vs f k = some g) (hk : k < ls.length) (hv : k < vs.length) (h1 : (decide (0 ≤ g.getD (idxL s 0 ls[k]).toNat 0) && (g.getD (idxL s 0 ls[k]).toNat 0 != vs[k])) = true) : telK s ls vs f (k + 1) = none := by
  show (telK s ls vs f k).bind _ = none
  rw [h]
  show tellAt s (ls.getD k []) (vs.getD k 0) g = none
  rw [List.getD_eq_getElem?_getD, List.getD_eq_getElem?_getD, List.getElem?_eq_getElem hk, List.getElem?_eq_getElem hv]
  simp only [Option.getD_some, tellAt, h1]
theorem telK_yes (h : telK s ls vs f k = some g) (hk : k < ls.length) (hv : k < vs.length) (h1 : (decide (0 ≤ g.getD (idxL s 0 ls[k]).toNat 0) && (g.getD (idxL s 0 ls[k]).toNat 0 != vs[k])) = false) : telK s ls vs f (k + 1) = some (g.set (idxL s 0 ls[k]).toNat vs[k]) := by
  show (telK s ls vs f k).bind _ = _
  rw [h]
  show tellAt s (ls.getD k []) (vs.getD k 0) g = _
  rw [List.getD_eq_getElem?_getD, List.getD_eq_getElem?_getD, List.getElem?_eq_getElem hk, List.getElem?_eq_getElem hv]
  simp only [Option.getD_some, tellAt, h1]
theorem telK_ok (h : telK s ls vs f k = some g) (hf : ∀ a ∈ f, -1 ≤ a ∧ a ≤ s - 1) (hv : ∀ a ∈ vs, 0 ≤ a ∧ a ≤ s - 1) (hs : 1 ≤ s) : g.length = f.length ∧ ∀ a ∈ g, -1 ≤ a ∧ a ≤ s - 1 := by
  induction k generalizing g with
  | zero => cases h; exact ⟨rfl, hf⟩
  | succ k ih =>
    cases h0 : telK s ls vs f k with
    | none => rw [telK_none h0 (Nat.le_succ k)] at h; cases h
    | some q =>
      obtain ⟨i1, i2⟩ := ih h0
      have h' : tellAt s (ls.getD k []) (vs.getD k 0) q = some g := by
        have h9 : (telK s ls vs f k).bind (tellAt s (ls.getD k []) (vs.getD k 0)) = some g := h
        rw [h0] at h9
        exact h9
      unfold tellAt at h'
      split at h'
      · cases h'
      · cases h'
        refine ⟨by rw [List.length_set]; exact i1, fun a ha => ?_⟩
        rcases List.mem_or_eq_of_mem_set ha with ha | rfl
        · exact i2 a ha
        · rw [List.getD_eq_getElem?_getD]
          cases h3 : vs[k]? with
          | none => simp; omega
          | some b => have := hv b (List.mem_of_getElem? h3); simp; omega
end
set_option maxHeartbeats 3200000 in
set_option maxRecDepth 100000 in
theorem tell_any (w : World) {e base bs gt N : Nat} {s : Int} {fx : List Int} {v v' : Value} {ls : List (List Int)} {vs : List Int} (hbs : bs < w.heap.size) (c0 : w.cell? ⟨bs, 0, none⟩ = some (.int .i64 s)) (c5 : w.cell? ⟨bs, 5, none⟩ = some (.slice (some ⟨gt, 0, none⟩) N N)) (hI : IR e base w gt N N fx) (hne : gt ≠ bs) (hs : 1 ≤ s ∧ s ≤ 4)
    (hl : rowsT.RdP (fun k => k ≠ gt) w [v] ls) (hv : intsT.RdP (fun k => k ≠ gt) w [v'] vs) (hlen : ls.length = vs.length) (hin : ∀ l ∈ ls, l.length ≤ 3 ∧ (∀ a ∈ l, 0 ≤ a ∧ a ≤ s - 1) ∧ idxL s 0 l < N) (hvs : ∀ a ∈ vs, 0 ≤ a ∧ a ≤ s - 1) (hfx : ∀ a ∈ fx, -1 ≤ a ∧ a ≤ s - 1) (hL : ls.length ≤ 140737488351232) :
    Calls Tryz.prog 69 #[.pointer (some ⟨bs, 0, none⟩), v, v'] w fun en w' => en = .returned (.bool (telK s ls vs fx ls.length).isSome) ∧ TchP (fun k => k = gt) w w' ∧ ∀ f, telK s ls vs fx ls.length = some f → IR e base w' gt N N f := by
  have HL := Lib.hid hl
  have HV := Lib.hid hv
  have HI := Lib.hid hI
  have HIN := Lib.hid hin
  have HVS := Lib.hid hvs
  have HFX := Lib.hid hfx
  have HLEN := Lib.hid hlen
  obtain ⟨la, lc, hx, -, -, -⟩ := slice_exP hl
  obtain rfl : v = _ := by simpa using hx
  obtain ⟨va, vc, hx', -, -, -⟩ := slice_exP hv
  obtain rfl : v' = _ := by simpa using hx'
  have HC0 := Lib.hid c0
  have HC5 := Lib.hid c5
  have hnb : bs ≠ gt := fun h => hne h.symm
  clear hl hv hI hin hvs hfx hx hx' hlen c0 c5
  go_enter Tryz.func69, Tryz.ntmps69
  go_wp2_with fail
  go_loopw [12] (fun i wr => ∃ (k : Nat) (f : List Int), k ≤ ls.length ∧ i = .int .i64 k ∧ telK s ls vs fx k = some f ∧ IR e base wr gt N N f ∧ TchP (fun q => q = gt) w wr) (fun i _ => ls.length - (intOf i).toNat)
  case atStart => exact ⟨0, fx, Nat.zero_le _, rfl, rfl, HI.out, TchP.refl _ _⟩
  case round =>
    obtain ⟨k, f, hk, rfl, htk, hIf, ht⟩ := hrel
    have HTK := Lib.hid htk
    have HIF := Lib.hid hIf
    have HT := Lib.hid ht
    obtain ⟨hfl, hfb⟩ := telK_ok htk HFX.out HVS.out hs.1
    have hfN : f.length = N := hIf.1
    have hzr := ht.size
    have b0 := (ht.cell (i := 0) hbs hnb).trans HC0.out
    have b5 := (ht.cell (i := 5) hbs hnb).trans HC5.out
    obtain ⟨wv, rfl⟩ : ∃ wv : World, wv = wr := ⟨_, rfl⟩
    clear htk hIf ht
    by_cases hkl : k < ls.length
    · have hkv : k < vs.length := by rw [← HLEN.out]; exact hkl
      obtain ⟨_, _, hx, -, -, hxe⟩ := slice_exP (HL.out.tchP HT.out (fun q _ h e => h e))
      simp only [List.cons.injEq, Value.slice.injEq, and_true] at hx
      obtain ⟨rfl, -, rfl⟩ := hx
      obtain ⟨lb, lo, rfl, hlb, -, hce⟩ := hxe (by omega)
      obtain ⟨cs, hcs, hcell⟩ := hce k hkl
      obtain ⟨ka, kc, rfl, -, -, -⟩ := slice_exP hcs
      have d0 : wv.cell? ⟨lb, lo + k, none⟩ = some (.slice ka ls[k].length kc) := by
        have := hcell 0 (by simp)
        simpa [Ty.slice] using this
      obtain ⟨_, _, hx, -, -, hxe'⟩ := slice_exP (HV.out.tchP HT.out (fun q _ h e => h e))
      simp only [List.cons.injEq, Value.slice.injEq, and_true] at hx
      obtain ⟨rfl, -, rfl⟩ := hx
      obtain ⟨vb, vo, rfl, hvb, hvg, hce'⟩ := hxe' (by omega)
      obtain ⟨cs', ⟨fp', ⟨rfl, hIv, -⟩, -⟩, hcell'⟩ := hce' k hkv
      have d1 : wv.cell? ⟨vb, vo + k, none⟩ = some (.int .i64 vs[k]) := by
        have := hcell' 0 (by simp)
        simpa [Ty.int] using this
      obtain ⟨i1, i2, i3⟩ := HIN.out ls[k] (List.getElem_mem hkl)
      have HRD := Lib.hid hcs.rd
      have hi0 := (idx_bd hs.1 i2 ls[k].length (Nat.le_refl _)).1
      rw [List.take_length] at hi0
      have HI2 := Lib.hid i2
      have HYES := Lib.hid (fun h => telK_yes (s := s) HTK.out hkl hkv h)
      have HNO := Lib.hid (fun h => telK_no (s := s) HTK.out hkl hkv h)
      have hvk := HVS.out vs[k] (List.getElem_mem hkv)
      rw [HLEN.out] at *
      clear hxe hce hcell hxe' hce' hcell' hcs i2
      go_wp2_with fail
      refine (indexOf_any _ s HRD.out hs.1 (by omega) (by omega) HI2.out).mono ?_
      rintro e' _ ⟨rfl, rfl⟩
      obtain ⟨q, hq⟩ : ∃ q : Nat, idxL s 0 ls[k] = q := ⟨_, (Int.toNat_of_nonneg hi0).symm⟩
      rw [hq] at i3 HYES HNO ⊢
      have hqN : q < N := by omega
      have hqf : q < f.length := by omega
      have dq : wv.cell? ⟨gt, q, none⟩ = some (.int .i64 f[q]) := by
        rw [World.ownsRow.cellAt HIF.out.2.2.2 q (by omega), List.getElem?_map, List.getElem?_eq_getElem hqf]
        rfl
      have fq := HIF.out.free q
      have hgd : f.getD q 0 = f[q] := by rw [List.getD_eq_getElem?_getD, List.getElem?_eq_getElem hqf]; rfl
      rw [Int.toNat_natCast, hgd] at HYES HNO
      have hgl := HIF.out.lt
      generalize hfq : f[q] = y at *
      generalize hvq : vs[k] = z at *
      clear hq hgd hfq hvq hi0
      go_wp2_with fail
      cases hd : decide (0 ≤ y)
      · have HE := Lib.hid (HYES.out (by rw [hd]; rfl))
        go_quiet (fail)
        go_wp2_with fail
        generalize hW : wv.drewN _ = wx
        have hbx : Below wv.heap.size wv wx := hW ▸ (Quiet.drewN wv _).below
        clear hW
        have hgx : gt < wx.heap.size := Nat.lt_of_lt_of_le hgl hbx.size
        have b5x := (cellB hbx (show bs < wv.heap.size by omega)).trans b5
        have d1x := (cellB hbx hvb).trans d1
        have dqx := (cellB hbx hgl).trans dq
        have fqx := (frozenB hbx hgl).trans fq
        have HIX : Hid (IR e base wx gt N N f) := HIF.out.same (hbx.block gt hgl)
        have HTX : Hid (TchP (fun q => q = gt) w wx) := HT.out.then (TchP.of_below hbx (fun q => q = gt)) (fun q _ h => h)
        clear b0 b5 d0 d1 dq fq
        refine wp_region_T (fun w' => w'.cell? ⟨bs, 5, none⟩ = some (.slice (some ⟨gt, 0, none⟩) N N) ∧ w'.cell? ⟨vb, vo + k, none⟩ = some (.int .i64 z)) [10] (by kernel_rfl) ⟨b5x, d1x⟩ (fun hHeld => ?_)
        refine wpAnyT_take (i := 0) (v := ?_) rfl (by kernel_rfl) (fun _ _ _ h => h) (Or.inl ⟨by rfl, ?_⟩) (by assumption) ?_
        rotate_left
        · (intro w hSw; (try dsimp only at hSw); go_simp <;> with_reducible rfl)
        go_simp
        refine wpAnyT_take (i := 1) (v := ?_) rfl (by kernel_rfl) (fun _ _ _ h => h) (Or.inl ⟨by rfl, ?_⟩) (by assumption) ?_
        rotate_left
        · (intro w hSw; (try dsimp only at hSw); go_simp <;> with_reducible rfl)
        go_simp
        refine wpAnyT_take (i := 2) (v := ?_) rfl (by kernel_rfl) (fun _ _ _ h => h) (Or.inl ⟨by rfl, ?_⟩) (by assumption) ?_
        rotate_left
        · (intro w hSw; (try dsimp only at hSw); go_simp <;> with_reducible rfl)
        go_simp
        refine wpAnyT_take (i := 3) (v := ?_) rfl (by kernel_rfl) (fun _ _ _ h => h) (Or.inl ⟨by rfl, ?_⟩) (by assumption) ?_
        rotate_left
        · (intro w hSw; (try dsimp only at hSw); go_simp <;> with_reducible rfl)
        go_simp
        refine wpAnyT_take (i := 4) (v := ?_) rfl (by kernel_rfl) (fun _ _ _ h => h) (Or.inl ⟨by rfl, ?_⟩) (by assumption) ?_
        rotate_left
        · (intro w hSw; (try dsimp only at hSw); go_simp <;> with_reducible rfl)
        go_simp
        refine wpAnyT_take (i := 5) (v := ?_) rfl (by kernel_rfl) (fun _ _ _ h => h) (Or.inl ⟨by rfl, ?_⟩) (by assumption) ?_
        rotate_left
        · (intro w hSw; (try dsimp only at hSw); go_simp <;> with_reducible rfl)
        go_simp
        refine wpAnyT_take (i := 6) (v := ?_) rfl (by kernel_rfl) (fun _ _ _ h => h) (Or.inl ⟨by rfl, ?_⟩) (by assumption) ?_
        rotate_left
        · (intro w hSw; (try dsimp only at hSw); go_simp <;> with_reducible rfl)
        go_simp
        refine wpAnyT_take (i := 7) (v := ?_) rfl (by kernel_rfl) (fun _ _ _ h => h) (Or.inl ⟨by rfl, ?_⟩) (by assumption) ?_
        rotate_left
        · (intro w hSw; (try dsimp only at hSw); go_simp <;> with_reducible rfl)
        go_simp
        refine wpAnyT_take (i := 8) (v := ?_) rfl (by kernel_rfl) (fun _ _ _ h => h) (Or.inl ⟨by rfl, ?_⟩) (by assumption) ?_
        rotate_left
        · (intro w hSw; (try dsimp only at hSw); go_simp <;> with_reducible rfl)
        go_simp
        refine wpAnyT_take (i := 9) (v := ?_) rfl (by kernel_rfl) (fun _ _ _ h => h) (Or.inl ⟨by rfl, ?_⟩) (by assumption) ?_
        rotate_left
        · (intro w hSw; (try dsimp only at hSw); go_simp <;> with_reducible rfl)
        go_simp
        refine wpAnyT_last (i := 10) rfl (by kernel_rfl) (by kernel_rfl) (fun K hK => ?_)
        go_simp
        have hz6 : gt < (wx.setCell ⟨gt, q, none⟩ (.int .i64 z)).heap.size := by simpa [World.setCell] using hgx
        have HI5 : Hid (IR e base (wx.setCell ⟨gt, q, none⟩ (.int .i64 z)).drew gt N N (f.set q z)) := (HIX.out.set q hIv).same (bD.block gt hz6)
        have HT5 : Hid (TchP (fun q => q = gt) w (wx.setCell ⟨gt, q, none⟩ (.int .i64 z)).drew) := (HTX.out.then (TchP.set (O := fun q => q = gt) rfl) (fun q _ h => h)).then (TchP.of_below bD (fun q => q = gt)) (fun q _ h => h)
        generalize (wx.setCell ⟨gt, q, none⟩ (.int .i64 z)).drew = w5 at *
        refine hK.out _ _ ?_
        clear hK K
        refine wpAnyT_done (by kernel_rfl) ?_ _
        go_simp
        go_wp2_with fail
        go_roundw
        case rel => exact ⟨k + 1, f.set q z, by omega, by go_num, HE.out, HI5.out, HT5.out⟩
        case measure => simp [intOf]; omega
      · cases hn : (y != z)
        · have HE := Lib.hid (HYES.out (by rw [hd, hn]; rfl))
          go_quiet (fail)
          go_wp2_with fail
          generalize hW : wv.drewN _ = wx
          have hbx : Below wv.heap.size wv wx := hW ▸ (Quiet.drewN wv _).below
          clear hW
          have hgx : gt < wx.heap.size := Nat.lt_of_lt_of_le hgl hbx.size
          have b5x := (cellB hbx (show bs < wv.heap.size by omega)).trans b5
          have d1x := (cellB hbx hvb).trans d1
          have dqx := (cellB hbx hgl).trans dq
          have fqx := (frozenB hbx hgl).trans fq
          have HIX : Hid (IR e base wx gt N N f) := HIF.out.same (hbx.block gt hgl)
          have HTX : Hid (TchP (fun q => q = gt) w wx) := HT.out.then (TchP.of_below hbx (fun q => q = gt)) (fun q _ h => h)
          clear b0 b5 d0 d1 dq fq
          refine wp_region_T (fun w' => w'.cell? ⟨bs, 5, none⟩ = some (.slice (some ⟨gt, 0, none⟩) N N) ∧ w'.cell? ⟨vb, vo + k, none⟩ = some (.int .i64 z)) [10] (by kernel_rfl) ⟨b5x, d1x⟩ (fun hHeld => ?_)
          refine wpAnyT_take (i := 0) (v := ?_) rfl (by kernel_rfl) (fun _ _ _ h => h) (Or.inl ⟨by rfl, ?_⟩) (by assumption) ?_
          rotate_left
          · (intro w hSw; (try dsimp only at hSw); go_simp <;> with_reducible rfl)
          go_simp
          refine wpAnyT_take (i := 1) (v := ?_) rfl (by kernel_rfl) (fun _ _ _ h => h) (Or.inl ⟨by rfl, ?_⟩) (by assumption) ?_
          rotate_left
          · (intro w hSw; (try dsimp only at hSw); go_simp <;> with_reducible rfl)
          go_simp
          refine wpAnyT_take (i := 2) (v := ?_) rfl (by kernel_rfl) (fun _ _ _ h => h) (Or.inl ⟨by rfl, ?_⟩) (by assumption) ?_
          rotate_left
          · (intro w hSw; (try dsimp only at hSw); go_simp <;> with_reducible rfl)
          go_simp
          refine wpAnyT_take (i := 3) (v := ?_) rfl (by kernel_rfl) (fun _ _ _ h => h) (Or.inl ⟨by rfl, ?_⟩) (by assumption) ?_
          rotate_left
          · (intro w hSw; (try dsimp only at hSw); go_simp <;> with_reducible rfl)
          go_simp
          refine wpAnyT_take (i := 4) (v := ?_) rfl (by kernel_rfl) (fun _ _ _ h => h) (Or.inl ⟨by rfl, ?_⟩) (by assumption) ?_
          rotate_left
          · (intro w hSw; (try dsimp only at hSw); go_simp <;> with_reducible rfl)
          go_simp
          refine wpAnyT_take (i := 5) (v := ?_) rfl (by kernel_rfl) (fun _ _ _ h => h) (Or.inl ⟨by rfl, ?_⟩) (by assumption) ?_
          rotate_left
          · (intro w hSw; (try dsimp only at hSw); go_simp <;> with_reducible rfl)
          go_simp
          refine wpAnyT_take (i := 6) (v := ?_) rfl (by kernel_rfl) (fun _ _ _ h => h) (Or.inl ⟨by rfl, ?_⟩) (by assumption) ?_
          rotate_left
          · (intro w hSw; (try dsimp only at hSw); go_simp <;> with_reducible rfl)
          go_simp
          refine wpAnyT_take (i := 7) (v := ?_) rfl (by kernel_rfl) (fun _ _ _ h => h) (Or.inl ⟨by rfl, ?_⟩) (by assumption) ?_
          rotate_left
          · (intro w hSw; (try dsimp only at hSw); go_simp <;> with_reducible rfl)
          go_simp
          refine wpAnyT_take (i := 8) (v := ?_) rfl (by kernel_rfl) (fun _ _ _ h => h) (Or.inl ⟨by rfl, ?_⟩) (by assumption) ?_
          rotate_left
          · (intro w hSw; (try dsimp only at hSw); go_simp <;> with_reducible rfl)
          go_simp
          refine wpAnyT_take (i := 9) (v := ?_) rfl (by kernel_rfl) (fun _ _ _ h => h) (Or.inl ⟨by rfl, ?_⟩) (by assumption) ?_
          rotate_left
          · (intro w hSw; (try dsimp only at hSw); go_simp <;> with_reducible rfl)
          go_simp
          refine wpAnyT_last (i := 10) rfl (by kernel_rfl) (by kernel_rfl) (fun K hK => ?_)
          go_simp
          have hz6 : gt < (wx.setCell ⟨gt, q, none⟩ (.int .i64 z)).heap.size := by simpa [World.setCell] using hgx
          have HI5 : Hid (IR e base (wx.setCell ⟨gt, q, none⟩ (.int .i64 z)).drew gt N N (f.set q z)) := (HIX.out.set q hIv).same (bD.block gt hz6)
          have HT5 : Hid (TchP (fun q => q = gt) w (wx.setCell ⟨gt, q, none⟩ (.int .i64 z)).drew) := (HTX.out.then (TchP.set (O := fun q => q = gt) rfl) (fun q _ h => h)).then (TchP.of_below bD (fun q => q = gt)) (fun q _ h => h)
          generalize (wx.setCell ⟨gt, q, none⟩ (.int .i64 z)).drew = w5 at *
          refine hK.out _ _ ?_
          clear hK K
          refine wpAnyT_done (by kernel_rfl) ?_ _
          go_simp
          go_wp2_with fail
          go_roundw
          case rel => exact ⟨k + 1, f.set q z, by omega, by go_num, HE.out, HI5.out, HT5.out⟩
          case measure => simp [intOf]; omega
        · have HE := Lib.hid (HNO.out (by rw [hd, hn]; rfl))
          go_quiet (fail)
          go_wp2_with fail
          go_ret
          have hno : telK s ls vs fx ls.length = none := telK_none HE.out (by omega)
          rw [hno]
          exact ⟨rfl, HT.out.then (TchP.of_below (Quiet.drewN wv _).below (fun q => q = gt)) (fun q _ h => h), fun g hg => by cases hg⟩
    · obtain rfl : k = ls.length := by omega
      have hnl : ¬ (ls.length < ls.length) := by omega
      go_wp2_with fail
      go_ret
      rw [HTK.out]
      exact ⟨rfl, HT.out, fun g hg => by cases hg; exact HIF.out⟩
end Go.Proofs.YthjafhjghjbdmaaGreat
namespace Go.Proofs.YthjafhjghjbdmaaGreat
open Go.RowKit Go.Sort
/-- lists and values that may be told -/
noncomputable def wOk (t : Tpl) (ar : Int) (ls : List (List Int)) (vs : List Int) : Bool := tb (rowOk t.1 ls.length vs) && ls.all fun l => tb (rowOk t.1 ar l)
/-- what is told, in all -/
noncomputable def wF (t : Tpl) (ar : Int) (ls : List (List Int)) (vs : List Int) : Option (List Int) := telK t.1 ls vs (List.replicate (tabL t ar) (-1)) ls.length
/-- the search behind it -/
noncomputable def wR (t : Tpl) (ar : Int) (ls : List (List Int)) (vs : List Int) : FR := polyF t ar ((wF t ar ls vs).getD []) fun _ => -1
noncomputable def pwC (t : Tpl) (ar : Int) (ls : List (List Int)) (vs : List Int) : Int :=
  match askC t ar == 0, wOk t ar ls vs, (wF t ar ls vs).isSome, limF t ar.toNat with
  | false, _, _, _ => askC t ar
  | true, false, _, _ => 2
  | true, true, false, _ => 4
  | true, true, true, true => 3
  | true, true, true, false => if (wR t ar ls vs).1 = -1 then 0 else if (wR t ar ls vs).1 = 0 then 6 else (wR t ar ls vs).1
noncomputable def pwV (t : Tpl) (ar : Int) (ls : List (List Int)) (vs : List Int) : Int × List Int :=
  match askC t ar == 0, wOk t ar ls vs, (wF t ar ls vs).isSome, limF t ar.toNat, (wR t ar ls vs).1 == -1 with
  | true, true, true, false, true => (ar, (wR t ar ls vs).2.2.getLastD [])
  | _, _, _, _, _ => (0, [])
section
variable {t : Tpl} {ar : Int} {ls : List (List Int)} {vs : List Int}
theorem pw_ask (h : askC t ar ≠ 0) : pwV t ar ls vs = (0, []) ∧ pwC t ar ls vs = askC t ar := by
  have : (askC t ar == 0) = false := by simpa using h
  simp [pwV, pwC, this]
theorem pw_bad (h : askC t ar = 0) (h1 : wOk t ar ls vs = false) : pwV t ar ls vs = (0, []) ∧ pwC t ar ls vs = 2 := by simp [pwV, pwC, h, h1]
theorem pw_st (h : askC t ar = 0) (h1 : wOk t ar ls vs = true) (h2 : wF t ar ls vs = none) : pwV t ar ls vs = (0, []) ∧ pwC t ar ls vs = 4 := by simp [pwV, pwC, h, h1, h2]
theorem pw_lim {f : List Int} (h : askC t ar = 0) (h1 : wOk t ar ls vs = true) (h2 : wF t ar ls vs = some f) (h3 : limF t ar.toNat = true) : pwV t ar ls vs = (0, []) ∧ pwC t ar ls vs = 3 := by simp [pwV, pwC, h, h1, h2, h3]
theorem pw_yes {f : List Int} (h : askC t ar = 0) (h1 : wOk t ar ls vs = true) (h2 : wF t ar ls vs = some f) (h3 : limF t ar.toNat = false) (h4 : (polyF t ar f fun _ => -1).1 = -1) : pwV t ar ls vs = (ar, (polyF t ar f fun _ => -1).2.2.getLastD []) ∧ pwC t ar ls vs = 0 := by
  have e : wR t ar ls vs = polyF t ar f fun _ => -1 := by unfold wR; rw [h2]; rfl
  simp [pwV, pwC, h, h1, h2, h3, e, h4]
theorem pw_non {f : List Int} (h : askC t ar = 0) (h1 : wOk t ar ls vs = true) (h2 : wF t ar ls vs = some f) (h3 : limF t ar.toNat = false) (h4 : (polyF t ar f fun _ => -1).1 = 0) : pwV t ar ls vs = (0, []) ∧ pwC t ar ls vs = 6 := by
  have e : wR t ar ls vs = polyF t ar f fun _ => -1 := by unfold wR; rw [h2]; rfl
  simp [pwV, pwC, h, h1, h2, h3, e, h4]
theorem pw_err {f : List Int} (h : askC t ar = 0) (h1 : wOk t ar ls vs = true) (h2 : wF t ar ls vs = some f) (h3 : limF t ar.toNat = false) (h4 : (polyF t ar f fun _ => -1).1 ≠ -1) (h5 : (polyF t ar f fun _ => -1).1 ≠ 0) : pwV t ar ls vs = (0, []) ∧ pwC t ar ls vs = (polyF t ar f fun _ => -1).1 := by
  have e : wR t ar ls vs = polyF t ar f fun _ => -1 := by unfold wR; rw [h2]; rfl
  simp [pwV, pwC, h, h1, h2, h3, e, h4, h5]
end
end Go.Proofs.YthjafhjghjbdmaaGreat
