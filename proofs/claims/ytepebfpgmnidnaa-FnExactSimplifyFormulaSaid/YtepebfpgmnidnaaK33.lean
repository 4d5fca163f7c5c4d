/-
  Contracts: the formula of an instance, both sides.
-/
import Derived.Test.YtepebfpgmnidnaaK32
import Derived.Test.YtepebfpgmnidnaaK12
import Derived.Test.YtepebfpgmnidnaaAlias
import Derived.Test.YtepebfpgmnidnaaK18
namespace Go.Proofs.Ytepebfpgmnidnaa
open Go.RowKit Go.Sort
def ifrF (x : Int × List (Int × List Int)) (n : Int) : Int × Int × List (Int × List Int) := (n, x.1, x.2)
noncomputable def ifrV (t : Int × List (Int × List (List Int))) (x : Int × List (Int × List Int)) (n : Int) : Int × Int × List (Int × List Int) :=
  match tb (instOk t x), inB n 1 4, decide (n ≤ x.1) with
  | true, true, true => limV (ifrF x n)
  | _, _, _ => frm0
noncomputable def ifrC (t : Int × List (Int × List (List Int))) (x : Int × List (Int × List Int)) (n : Int) : Int :=
  match tb (instOk t x), inB n 1 4, decide (n ≤ x.1) with
  | false, _, _ => 1
  | true, false, _ => 2
  | true, true, false => 2
  | true, true, true => limC (ifrF x n)
section
variable {t : Int × List (Int × List (List Int))} {x : Int × List (Int × List Int)} {n : Int}
theorem ifr_1 (h : tb (instOk t x) = false) : ifrV t x n = frm0 ∧ ifrC t x n = 1 := by simp [ifrV, ifrC, h]
theorem ifr_2 (h : tb (instOk t x) = true) (h2 : inB n 1 4 = false) : ifrV t x n = frm0 ∧ ifrC t x n = 2 := by simp [ifrV, ifrC, h, h2]
theorem ifr_3 (h : tb (instOk t x) = true) (h2 : inB n 1 4 = true) (h3 : x.1 < n) : ifrV t x n = frm0 ∧ ifrC t x n = 2 := by
  have : decide (n ≤ x.1) = false := by simp; omega
  simp [ifrV, ifrC, h, h2, this]
theorem ifr_0 (h : tb (instOk t x) = true) (h2 : inB n 1 4 = true) (h3 : n ≤ x.1) : ifrV t x n = limV (ifrF x n) ∧ ifrC t x n = limC (ifrF x n) := by simp [ifrV, ifrC, h, h2, h3]
theorem inst_bd2 (h : tb (instOk t x) = true) : x.2.length ≤ 24 ∧ ∀ c ∈ x.2, c.2.length ≤ 1000000 := by
  have h1 := tb_iff.1 h
  refine ⟨h1.2.2.1, fun c hc => ?_⟩
  have h2 := scope_short h1.1 (h1.2.2.2 c hc)
  omega
theorem inst_scopes (h : tb (instOk t x) = true) : ∀ c ∈ x.2, c.2.length ≤ 4 := fun c hc => by
  have h1 := tb_iff.1 h
  exact scope_short h1.1 (h1.2.2.2 c hc)
theorem ifr_cnt : cntFrm (ifrV t x n) ≤ 1000000 := by
  cases h1 : tb (instOk t x)
  · rw [(ifr_1 h1).1, cnt_frm0]; omega
  cases h2 : inB n 1 4
  · rw [(ifr_2 h1 h2).1, cnt_frm0]; omega
  rcases ilt x.1 n with h3 | h3
  · rw [(ifr_3 h1 h2 h3).1, cnt_frm0]; omega
  · rw [(ifr_0 h1 h2 h3).1]
    have h4 := (inst_bd2 h1).1
    have := cntOps_bd (xs := x.2) (inst_scopes h1)
    by_cases hl : (ifrF x n).2.1 ≤ 8 ∧ (ifrF x n).2.2.length ≤ 16
    · rw [(lim_yes hl).1]
      simp only [ifrF, cntFrm]
      omega
    · rw [(lim_no hl).1, cnt_frm0]; omega
end
end Go.Proofs.Ytepebfpgmnidnaa
