/-
  Contracts: the solutions of an instance, counted, listed, the first; the program's.
-/
import Derived.Test.YtbpjejhjlmpcjaaGreatS6
import Derived.Test.YtbpjejhjlmpcjaaGreatK12
namespace Go.Proofs.YtbpjejhjlmpcjaaGreat
open Go.RowKit Go.Sort
/-- the solutions, in order -/
noncomputable def solsX (t : Int × List (Int × List (List Int))) (x : Int × List (Int × List Int)) : List (List Int) := solsL t.1.toNat (goesB t (duesL x.2 x.1.toNat)) x.1.toNat []
theorem solsX_len {t : Int × List (Int × List (List Int))} {x : Int × List (Int × List Int)} (h : instOk t x) : (solsX t x).length ≤ 1048576 := by
  have h1 := solsL_len (s := t.1.toNat) (sure := goesB t (duesL x.2 x.1.toNat)) (m := x.1.toNat) (vals := [])
  have h2 := h.1.1
  have h3 := h.2.1
  unfold sizeOk at h2
  have hpow : t.1.toNat ^ x.1.toNat ≤ 4 ^ 10 := Nat.le_trans (Nat.pow_le_pow_left (by omega) _) (Nat.pow_le_pow_right (by omega) (by omega))
  have : (4 : Nat) ^ 10 = 1048576 := by decide
  unfold solsX
  omega
noncomputable def csV (t : Int × List (Int × List (List Int))) (x : Int × List (Int × List Int)) : Int := match tb (instOk t x) with
  | true => (solsX t x).length
  | false => 0
noncomputable def csC (t : Int × List (Int × List (List Int))) (x : Int × List (Int × List Int)) : Int := match tb (instOk t x) with
  | true => 0
  | false => 1
noncomputable def asV (t : Int × List (Int × List (List Int))) (x : Int × List (Int × List Int)) : List (List Int) := match tb (instOk t x), decide ((solsX t x).length ≤ 200) with
  | true, true => solsX t x
  | _, _ => []
noncomputable def asC (t : Int × List (Int × List (List Int))) (x : Int × List (Int × List Int)) : Int := match tb (instOk t x), decide ((solsX t x).length ≤ 200) with
  | true, true => 0
  | true, false => 3
  | false, _ => 1
noncomputable def fsV (t : Int × List (Int × List (List Int))) (x : Int × List (Int × List Int)) : List Int := match tb (instOk t x) with
  | true => headV (solsX t x)
  | false => []
noncomputable def fsC (t : Int × List (Int × List (List Int))) (x : Int × List (Int × List Int)) : Int := match tb (instOk t x), headB (solsX t x) with
  | true, true => 0
  | true, false => 6
  | false, _ => 1
section
variable {t : Int × List (Int × List (List Int))} {x : Int × List (Int × List Int)}
theorem cs_no (h : tb (instOk t x) = false) : csV t x = 0 ∧ csC t x = 1 := by simp [csV, csC, h]
theorem cs_yes (h : tb (instOk t x) = true) : csV t x = (solsX t x).length ∧ csC t x = 0 := by simp [csV, csC, h]
theorem as_no (h : tb (instOk t x) = false) : asV t x = [] ∧ asC t x = 1 := by simp [asV, asC, h]
theorem as_more (h : tb (instOk t x) = true) (h2 : decide ((solsX t x).length ≤ 200) = false) : asV t x = [] ∧ asC t x = 3 := by simp only [asV, asC, h, h2]; exact ⟨trivial, trivial⟩
theorem as_yes (h : tb (instOk t x) = true) (h2 : decide ((solsX t x).length ≤ 200) = true) : asV t x = solsX t x ∧ asC t x = 0 := by simp only [asV, asC, h, h2]; exact ⟨trivial, trivial⟩
theorem fs_no (h : tb (instOk t x) = false) : fsV t x = [] ∧ fsC t x = 1 := by simp [fsV, fsC, h]
theorem fs_none (h : tb (instOk t x) = true) (h2 : headB (solsX t x) = false) : fsV t x = [] ∧ fsC t x = 6 := by
  simp only [fsV, fsC, h, h2]
  refine ⟨?_, trivial⟩
  cases hs : solsX t x
  · rfl
  · rw [hs] at h2; cases h2
theorem fs_yes (h : tb (instOk t x) = true) (h2 : headB (solsX t x) = true) : fsV t x = headV (solsX t x) ∧ fsC t x = 0 := by simp only [fsV, fsC, h, h2]; exact ⟨trivial, trivial⟩
theorem witL_nil : witL t.1.toNat (goesB t (duesL x.2 x.1.toNat)) x.1.toNat [] = solsX t x := by
  rw [witL_yes (by simpa using preTo_zero)]
  rfl
end
/-- a counter -/
def countI (bx : Nat) (told : List (List Int)) (O : List Nat) (w : World) : Prop := O = [bx] ∧ bx < w.heap.size ∧ w.frozen? ⟨bx, 0, none⟩ = false ∧ w.cell? ⟨bx, 0, none⟩ = some (.int .i64 told.length)
/-- a list of all that was told -/
def listI (e bx base : Nat) (told : List (List Int)) (O : List Nat) (w : World) : Prop :=
  ∃ v, O = bx :: v.ownBlock.toList ∧ bx < w.heap.size ∧ w.frozen? ⟨bx, 0, none⟩ = false ∧ w.cell? ⟨bx, 0, none⟩ = some v ∧ Bl (intsT.off bx) e base w.heap.size w v told ∧ v.ownBlock ≠ some bx ∧ base ≤ bx
end Go.Proofs.YtbpjejhjlmpcjaaGreat
