/-
  Contracts: full domains.
-/
import Derived.Test.YtepebfpgmnidnaaK11
namespace Go.Proofs.Ytepebfpgmnidnaa
open Go.RowKit Go.Sort
def fullL (n size : Nat) : List (List Int) := List.replicate n (upL 0 size)
theorem fullL_succ (n size : Nat) : fullL n size ++ [upL 0 size] = fullL (n + 1) size := (List.replicate_succ' ..).symm
theorem fullL_len {n size : Nat} : (fullL n size).length = n := by simp [fullL]
noncomputable def fullV (t : Int × List (Int × List (List Int))) (x : Int × List (Int × List Int)) : List (List Int) :=
  match tb (instOk t x) with
  | true => fullL x.1.toNat t.1.toNat
  | false => []
noncomputable def fullC (t : Int × List (Int × List (List Int))) (x : Int × List (Int × List Int)) : Int :=
  match tb (instOk t x) with
  | true => 0
  | false => 1
section
variable {t : Int × List (Int × List (List Int))} {x : Int × List (Int × List Int)}
theorem full_1 (h : tb (instOk t x) = false) : fullV t x = [] ∧ fullC t x = 1 := by simp [fullV, fullC, h]
theorem full_0 (h : tb (instOk t x) = true) : fullV t x = fullL x.1.toNat t.1.toNat ∧ fullC t x = 0 := by simp [fullV, fullC, h]
theorem inst_bd (h : tb (instOk t x) = true) : 1 ≤ t.1 ∧ t.1 ≤ 4 ∧ 1 ≤ x.1 ∧ x.1 ≤ 10 := by
  have h := tb_iff.1 h
  have h1 := h.1.1
  have h2 := h.2.1
  unfold sizeOk at h1
  omega
theorem full_cnt : cntRows (fullV t x) ≤ 1000000 := by
  cases h : tb (instOk t x)
  · rw [(full_1 h).1]; simp [cntRows, sumL]
  · rw [(full_0 h).1]
    obtain ⟨h1, h2, h3, h4⟩ := inst_bd h
    have hk : ∀ n : Nat, cntRows (fullL n t.1.toNat) = (n : Int) * t.1 := by
      intro n
      induction n with
      | zero => simp [fullL, cntRows, sumL]
      | succ n ih =>
        have : cntRows (fullL (n + 1) t.1.toNat) = cntI (upL 0 t.1.toNat) + cntRows (fullL n t.1.toNat) := by simp [fullL, List.replicate_succ, cntRows, sumL]
        rw [this, ih, cntI, upL_len, show ((n + 1 : Nat) : Int) = (n : Int) + 1 by omega, Int.add_mul]
        omega
    rw [hk]
    have : (x.1.toNat : Int) * t.1 ≤ 10 * 4 := Int.mul_le_mul (by omega) h2 (by omega) (by omega)
    omega
end
end Go.Proofs.Ytepebfpgmnidnaa
