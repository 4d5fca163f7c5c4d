/-
  Plain mathematics: the tuples of a relation made by number are in order; where two values of formulas are apart.
-/
import Derived.Test.YtbpjejhjlmpcjaaGreatS12
import Derived.Test.YtbpjejhjlmpcjaaGreatK9
import Derived.Test.YtbpjejhjlmpcjaaGreatK36
namespace Go.Proofs.YtbpjejhjlmpcjaaGreat
open Go.RowKit Go.Sort
theorem dig_idx {s idx : Int} {n : Nat} (hs : 1 ≤ s) (h0 : 0 ≤ idx) (h : idx < s ^ n) : ∀ k, k ≤ n → idxL s 0 ((digL s idx n).take k) = idx / s ^ (n - k)
  | 0, _ => by
    rw [List.take_zero, Nat.sub_zero, Int.ediv_eq_zero_of_lt h0 h]
    rfl
  | k + 1, hk => by
    have hl : k < (digL s idx n).length := by rw [digL_len]; omega
    rw [idxL_take hl, dig_idx hs h0 h k (by omega)]
    have hg : (digL s idx n)[k] = dig s idx (n - 1 - k) := by simp [digL]
    rw [hg, show n - k = (n - (k + 1)) + 1 by omega, show n - 1 - k = n - (k + 1) by omega, ← quo_succ hs]
    unfold dig
    have h1 := Int.ediv_mul_add_emod (idx / s ^ (n - (k + 1))) s
    exact h1
theorem digL_in {s idx : Int} {n : Nat} (hs : 1 ≤ s) : ∀ a ∈ digL s idx n, 0 ≤ a ∧ a ≤ s - 1 := fun a ha => by
  obtain ⟨i, -, rfl⟩ := List.mem_map.1 ha
  have := dig_nn (idx := idx) hs (n - 1 - i)
  omega
theorem idx_mono {s : Int} (hs : 1 ≤ s) : ∀ {xs ys : List Int} {a b : Int}, xs.length = ys.length → (∀ x ∈ xs, 0 ≤ x ∧ x ≤ s - 1) → (∀ y ∈ ys, 0 ≤ y ∧ y ≤ s - 1) → a < b → idxL s a xs < idxL s b ys
  | [], [], _, _, _, _, _, h => h
  | [], _ :: _, _, _, hl, _, _, _ => by simp at hl
  | _ :: _, [], _, _, hl, _, _, _ => by simp at hl
  | x :: xs, y :: ys, a, b, hl, hx, hy, h => by
    simp only [idxL]
    refine idx_mono hs (by simpa using hl) (fun z hz => hx z (List.mem_cons_of_mem _ hz)) (fun z hz => hy z (List.mem_cons_of_mem _ hz)) ?_
    have h1 := hx x (List.mem_cons_self ..)
    have h2 := hy y (List.mem_cons_self ..)
    have h3 := Int.mul_le_mul_of_nonneg_right (show a + 1 ≤ b by omega) (show (0 : Int) ≤ s by omega)
    rw [Int.add_mul, Int.one_mul] at h3
    omega
theorem lt_of_idx {s : Int} (hs : 1 ≤ s) : ∀ {xs ys : List Int} {a : Int}, xs.length = ys.length → (∀ x ∈ xs, 0 ≤ x ∧ x ≤ s - 1) → (∀ y ∈ ys, 0 ≤ y ∧ y ≤ s - 1) → idxL s a xs < idxL s a ys → ltL xs ys
  | [], [], _, _, _, _, h => absurd h (Int.lt_irrefl _)
  | [], _ :: _, _, hl, _, _, _ => by simp at hl
  | _ :: _, [], _, hl, _, _, _ => by simp at hl
  | x :: xs, y :: ys, a, hl, hx, hy, h => by
    simp only [idxL] at h
    have hx' := fun z hz => hx z (List.mem_cons_of_mem x hz)
    have hy' := fun z hz => hy z (List.mem_cons_of_mem y hz)
    unfold ltL
    rcases Int.lt_trichotomy x y with hc | hc | hc
    · rw [cmpL, if_neg (by omega), cmpI_lt hc]
      decide
    · subst hc
      rw [cmpL, if_pos rfl]
      exact lt_of_idx hs (by simpa using hl) hx' hy' h
    · have := idx_mono hs (a := a * s + y) (b := a * s + x) (show ys.length = xs.length by simpa using hl.symm) hy' hx' (by omega)
      omega
theorem dig_lt {s : Int} {n : Nat} {k j : Int} (hs : 1 ≤ s) (h0 : 0 ≤ k) (h : k < j) (hj : j < s ^ n) : ltL (digL s k n) (digL s j n) := by
  refine lt_of_idx hs (a := 0) (by rw [digL_len, digL_len]) (digL_in hs) (digL_in hs) ?_
  have h1 := dig_idx (n := n) hs h0 (by omega) n (Nat.le_refl _)
  have h2 := dig_idx (n := n) hs (show 0 ≤ j by omega) hj n (Nat.le_refl _)
  rw [Nat.sub_self, Int.pow_zero, Int.ediv_one, List.take_of_length_le (by rw [digL_len]; exact Nat.le_refl _)] at h1 h2
  rw [h1, h2]
  exact h
theorem relL_sorted {s : Int} {n N : Nat} {p : List Int → Bool} (hs : 1 ≤ s) (hN : s ^ n = N) : sortedL (relL s n p N) := by
  have h1 : ((List.range N).map fun i : Nat => digL s i n).Pairwise ltL := by
    rw [List.pairwise_map]
    refine List.Pairwise.imp_of_mem ?_ (List.pairwise_lt_range (n := N))
    intro a b _ hb hab
    have : b < N := by simpa using hb
    exact dig_lt hs (by omega) (by omega) (by omega)
  have h2 := h1.filter p
  intro i hi h0
  exact (List.pairwise_iff_getElem.1 h2) (i - 1) i (by unfold relL at hi; omega) hi (by omega)
theorem dig_inj {s : Int} {n : Nat} {k j : Nat} {N : Nat} (hs : 1 ≤ s) (hN : s ^ n = N) (hk : k < N) (hj : j < N) (h : digL s k n = digL s j n) : k = j := by
  have h1 := dig_idx (n := n) hs (show (0 : Int) ≤ k by omega) (by omega) n (Nat.le_refl _)
  have h2 := dig_idx (n := n) hs (show (0 : Int) ≤ j by omega) (by omega) n (Nat.le_refl _)
  rw [Nat.sub_self, Int.pow_zero, Int.ediv_one] at h1 h2
  rw [h] at h1
  omega
/-- what is in such a relation -/
theorem relL_mem {s : Int} {n N : Nat} {p : List Int → Bool} {k : Nat} (hk : k < N) : tb (digL s k n ∈ relL s n p N) = p (digL s k n) := by
  cases h : p (digL s k n)
  · refine tb_false fun hm => ?_
    have := (List.mem_filter.1 hm).2
    rw [h] at this
    cases this
  · exact tb_true (List.mem_filter.2 ⟨List.mem_map.2 ⟨k, by simpa using hk, rfl⟩, h⟩)
/-- are two values apart at a tuple? -/
noncomputable def apB (t : Int × List (Int × List (List Int))) (f g : Int × Int × List (Int × List Int)) (tu : List Int) : Bool := tb (tu ∈ (vaR t f).2) != tb (tu ∈ (vaR t g).2)
noncomputable def apL (t : Int × List (Int × List (List Int))) (f g : Int × Int × List (Int × List Int)) : List (List Int) := relL t.1 f.1.toNat (apB t f g) (t.1 ^ f.1.toNat).toNat
theorem apL_nil {t : Int × List (Int × List (List Int))} {f g : Int × Int × List (Int × List Int)} (hfg : f.1 = g.1) : headB (apL t f g) = false ↔ vaR t f = vaR t g := by
  have hmf : ∀ k, k < (t.1 ^ f.1.toNat).toNat → tb (digL t.1 (k : Nat) f.1.toNat ∈ (vaR t f).2) = vaP t f (digL t.1 (k : Nat) f.1.toNat) := fun k hk => relL_mem hk
  have hmg : ∀ k, k < (t.1 ^ f.1.toNat).toNat → tb (digL t.1 (k : Nat) f.1.toNat ∈ (vaR t g).2) = vaP t g (digL t.1 (k : Nat) f.1.toNat) := fun k hk => by
    unfold vaR
    rw [← hfg]
    exact relL_mem hk
  constructor
  · intro h
    have hn := head_no h
    have hall : ∀ k, k < (t.1 ^ f.1.toNat).toNat → vaP t f (digL t.1 (k : Nat) f.1.toNat) = vaP t g (digL t.1 (k : Nat) f.1.toNat) := by
      intro k hk
      have h1 : digL t.1 (k : Nat) f.1.toNat ∉ apL t f g := by rw [hn]; simp
      have h2 : apB t f g (digL t.1 (k : Nat) f.1.toNat) = false := by
        cases h3 : apB t f g (digL t.1 (k : Nat) f.1.toNat)
        · rfl
        · exact absurd (List.mem_filter.2 ⟨List.mem_map.2 ⟨k, by simpa using hk, rfl⟩, h3⟩) h1
      unfold apB at h2
      rw [hmf k hk, hmg k hk] at h2
      simpa using h2
    unfold vaR
    rw [← hfg]
    refine Prod.ext rfl ?_
    unfold relL
    refine List.filter_congr fun x hx => ?_
    obtain ⟨k, hk, rfl⟩ := List.mem_map.1 hx
    exact hall k (by simpa using hk)
  · intro h
    have hb : ∀ tu, apB t f g tu = false := fun tu => by unfold apB; rw [h]; simp
    have : apL t f g = [] := by
      unfold apL relL
      rw [List.filter_eq_nil_iff]
      intro a _
      simp [hb a]
    rw [this]
    rfl
section
variable (t : Int × List (Int × List (List Int))) (f g : Int × Int × List (Int × List Int))
noncomputable def faV : List Int := if twoC t f g = 0 then headV (apL t f g) else []
noncomputable def faC : Int := if twoC t f g = 0 then (match headB (apL t f g) with | true => 0 | false => 6) else twoC t f g
noncomputable def aeB : Bool := if twoC t f g = 0 then eqB (vaR t f) (vaR t g) else false
end
section
variable {t : Int × List (Int × List (List Int))} {f g : Int × Int × List (Int × List Int)}
theorem fa_no (h : twoC t f g ≠ 0) : faV t f g = [] ∧ faC t f g = twoC t f g ∧ aeB t f g = false := by simp [faV, faC, aeB, h]
theorem fa_none (h : twoC t f g = 0) (h2 : headB (apL t f g) = false) : faV t f g = [] ∧ faC t f g = 6 ∧ aeB t f g = true := by
  simp only [faV, faC, aeB, h, h2, if_pos, true_and]
  refine ⟨by rw [head_no h2]; rfl, eqB_true ((apL_nil (two_ok h).2.2).1 h2)⟩
theorem fa_yes (h : twoC t f g = 0) (h2 : headB (apL t f g) = true) : faV t f g = headV (apL t f g) ∧ faC t f g = 0 ∧ aeB t f g = false := by
  simp only [faV, faC, aeB, h, h2, if_pos, true_and]
  refine eqB_false fun e => ?_
  have := (apL_nil (two_ok h).2.2).2 e
  rw [h2] at this
  cases this
end
end Go.Proofs.YtbpjejhjlmpcjaaGreat
