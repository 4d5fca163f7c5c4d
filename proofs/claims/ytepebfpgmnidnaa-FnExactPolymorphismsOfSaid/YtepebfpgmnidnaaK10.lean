/-
  Constraints that hold for values: the program's and the reference's.
-/
import Derived.Test.YtepebfpgmnidnaaK9
import Derived.Test.YtepebfpgmnidnaaK8
import Derived.Test.YtepebfpgmnidnaaLoose
namespace Go.Proofs.Ytepebfpgmnidnaa
open Go.RowKit Go.Sort
set_option maxHeartbeats 1600000 in
set_option maxRecDepth 100000 in
theorem l01At_any (w : World) {v u : Value} {xs ps : List Int} (h : intsT.Rd w [v] xs) (h' : intsT.Rd w [u] ps) (hin : ∀ p ∈ ps, 0 ≤ p ∧ p < (xs.length : Int)) (hlen : ps.length ≤ 1000000) :
    Calls Try.prog 186 #[v, u] w (RetS intsT w (atL xs ps)) := by
  obtain ⟨ad, cap, hv, hl, hc, hcell⟩ := ints_ex h
  obtain rfl : v = _ := by simpa using hv
  obtain ⟨ad', cap', hv', hl', hc', hcell'⟩ := ints_ex h'
  obtain rfl : u = _ := by simpa using hv'
  have HIN := Lib.hid hin
  clear h hv h' hv' hin
  go_enter Try.func186, Try.ntmps186
  go_wp2_with fail
  go_loopw [6, 5] (fun i o wr => ∃ k : Nat, k ≤ ps.length ∧ i = .int .i64 k ∧ Bl Ty.int 2 w.heap.size wr.heap.size wr o (atL xs (ps.take k)) ∧ Below w.heap.size w wr) (fun i _ _ => ps.length - (intOf i).toNat)
  case atStart => exact ⟨0, Nat.zero_le _, rfl, by simpa [atL] using Bl.lit0 (E := Ty.int) (e := 2) (w := w) (Nat.le_refl _), bA⟩
  case round =>
    obtain ⟨k, hk, rfl, hBl, hbel⟩ := hrel
    have HB := Lib.hid hBl
    clear hBl
    by_cases hkl : k < ps.length
    · obtain ⟨b', o', rfl, hb', hce'⟩ := hcell' (by omega)
      have hin := HIN.out ps[k] (List.getElem_mem hkl)
      obtain ⟨j, hj⟩ : ∃ j : Nat, ps[k] = j := ⟨ps[k].toNat, by omega⟩
      have hjl : j < xs.length := by omega
      obtain ⟨b, o, rfl, hb, hce⟩ := hcell (by omega)
      have e0 := (hbel.cell hb').trans (hce' k hkl).2
      rw [hj] at e0
      have e1 := (hbel.cell hb).trans (hce j hjl).2
      have hI := (hce j hjl).1
      clear hcell hcell' hce hce' hin
      have hrec := atL_take hkl hj hjl
      have HR := Lib.hid hrec
      clear hrec
      go_wp2_with (refine wpList_push (E := Ty.int) _ rfl _ _ 62 2 rfl elInt rfl (HB.out.below bA (Nat.le_refl _)) rfl news1 (fr_int hI) (by rw [atL_len, take_len hk]; omega) (by decide) hbel.size (by simp) ?_; intro v1 w1 hB1 hg1 _)
      have hbel1 : Below w.heap.size w w1 := (hbel.alloc hbel.size _).grown hg1 (by have := hbel.size; simp; omega) (fun k hk => HB.out.own hk)
      rw [HR.out] at hB1
      have HB1 := Lib.hid hB1
      clear hB1
      go_wp2_with fail
      go_roundw
      case rel => exact ⟨k + 1, by omega, by go_num, HB1.out, hbel1⟩
      case measure => simp [intOf]; omega
    · obtain rfl : k = ps.length := by omega
      go_wp2_with fail
      go_ret
      rw [List.take_length] at HB
      exact ⟨_, rfl, HB.out.fr (by rw [atL_len]; unfold capMax; omega), hbel⟩
/-- the relation with a number; a constraint holds for values -/
def relAt (t : Int × List (Int × List (List Int))) (k : Int) : Int × List (List Int) := t.2.getD k.toNat (0, [])
def holdsC (t : Int × List (Int × List (List Int))) (vals : List Int) (c : Int × List Int) : Prop := atL vals c.2 ∈ (relAt t c.1).2
theorem relAt_nat {t : Int × List (Int × List (List Int))} {k : Nat} (h : k < t.2.length) : relAt t (k : Int) = t.2[k] := by simp [relAt, h]
theorem scope_in {t : Int × List (Int × List (List Int))} {vars : Int} {c : Int × List Int} {vals : List Int} (h : conOk t vars c) (hv : (vals.length : Int) = vars) : ∀ p ∈ c.2, 0 ≤ p ∧ p < (vals.length : Int) := fun p hp => by
  have := h.2.2 p hp
  omega
theorem scope_short {t : Int × List (Int × List (List Int))} {vars : Int} {c : Int × List Int} (hT : tplOk t) (h : conOk t vars c) : c.2.length ≤ 4 := by
  obtain ⟨k, hck⟩ : ∃ k : Nat, c.1 = k := ⟨c.1.toNat, by have := h.1; omega⟩
  have hkl : k < t.2.length := by have := h.1; omega
  have h1 := h.2.1
  rw [hck, arOf_nat hkl] at h1
  have h2 := (hT.2.2 _ (List.getElem_mem hkl)).2.1.2
  omega
/-- the number of the first constraint that does not hold, or -1 -/
noncomputable def failI (t : Int × List (Int × List (List Int))) (x : Int × List (Int × List Int)) (vals : List Int) : Int := firstI (fun c => !tb (holdsC t vals c)) x.2
theorem box2 {w : World} {A B : Obj} {u : Value} {T : TypeId} : (((w.alloc A).alloc B).alloc (.cells #[u] T)).cell? ⟨w.heap.size + 2, 0, none⟩ = some u := by
  have h : ((w.alloc A).alloc B).heap.size = w.heap.size + 2 := by simp
  rw [← h]
  unfold World.cell?
  rw [heap_alloc_new]
  simp
/-- the code of an instance and values -/
noncomputable def givenC (t : Int × List (Int × List (List Int))) (x : Int × List (Int × List Int)) (vals : List Int) : Int := if tb (instOk t x) then if tb (rowOk t.1 x.1 vals) then 0 else 2 else 1
theorem givenC_1 {t : Int × List (Int × List (List Int))} {x : Int × List (Int × List Int)} {vals : List Int} (h : tb (instOk t x) = false) : givenC t x vals = 1 := by simp [givenC, h]
theorem givenC_2 {t : Int × List (Int × List (List Int))} {x : Int × List (Int × List Int)} {vals : List Int} (h : tb (instOk t x) = true) (h' : tb (rowOk t.1 x.1 vals) = false) : givenC t x vals = 2 := by simp [givenC, h, h']
theorem givenC_0 {t : Int × List (Int × List (List Int))} {x : Int × List (Int × List Int)} {vals : List Int} (h : tb (instOk t x) = true) (h' : tb (rowOk t.1 x.1 vals) = true) : givenC t x vals = 0 := by simp [givenC, h, h']
/-- the first constraint that does not hold, where the arguments are right -/
noncomputable def ffV (t : Int × List (Int × List (List Int))) (x : Int × List (Int × List Int)) (vals : List Int) : Int := if givenC t x vals = 0 then failI t x vals else 0
theorem given_ok {t : Int × List (Int × List (List Int))} {x : Int × List (Int × List Int)} {vals : List Int} (h : givenC t x vals = 0) : instOk t x ∧ (vals.length : Int) = x.1 := by
  cases h1 : tb (instOk t x)
  · rw [givenC_1 h1] at h; omega
  cases h2 : tb (rowOk t.1 x.1 vals)
  · rw [givenC_2 h1 h2] at h; omega
  exact ⟨tb_iff.1 h1, (tb_iff.1 h2).1⟩
theorem ffV_no {t : Int × List (Int × List (List Int))} {x : Int × List (Int × List Int)} {vals : List Int} {n : Int} (h : givenC t x vals = n) (h0 : n ≠ 0) : Ending.returned (.tuple #[.int .i64 0, .int .i64 n]) = .returned (.tuple #[.int .i64 (ffV t x vals), .int .i64 (givenC t x vals)]) := by
  subst h; rw [ffV, if_neg h0]
theorem ffV_yes {t : Int × List (Int × List (List Int))} {x : Int × List (Int × List Int)} {vals : List Int} (h : givenC t x vals = 0) : Ending.returned (.tuple #[.int .i64 (failI t x vals), .int .i64 0]) = .returned (.tuple #[.int .i64 (ffV t x vals), .int .i64 (givenC t x vals)]) := by
  rw [ffV, if_pos h, h]
/-- do the values solve the instance? -/
noncomputable def solB (t : Int × List (Int × List (List Int))) (x : Int × List (Int × List Int)) (vals : List Int) : Bool := givenC t x vals == 0 && decide (ffV t x vals < 0)
theorem solB_no {t : Int × List (Int × List (List Int))} {x : Int × List (Int × List Int)} {vals : List Int} (h : givenC t x vals ≠ 0) : Ending.returned (.tuple #[.bool false, .int .i64 (givenC t x vals)]) = .returned (.tuple #[.bool (solB t x vals), .int .i64 (givenC t x vals)]) := by
  have : (givenC t x vals == 0) = false := by simpa using h
  rw [solB, this, Bool.false_and]
theorem solB_yes {t : Int × List (Int × List (List Int))} {x : Int × List (Int × List Int)} {vals : List Int} (h : givenC t x vals = 0) : Ending.returned (.tuple #[.bool (decide (ffV t x vals < 0)), .int .i64 (givenC t x vals)]) = .returned (.tuple #[.bool (solB t x vals), .int .i64 (givenC t x vals)]) := by
  rw [solB, h]; rfl
theorem solB_yes' {t : Int × List (Int × List (List Int))} {x : Int × List (Int × List Int)} {vals : List Int} (h : givenC t x vals = 0) : Ending.returned (.tuple #[.bool (decide (failI t x vals < 0)), .int .i64 0]) = .returned (.tuple #[.bool (solB t x vals), .int .i64 (givenC t x vals)]) := by
  rw [← solB_yes h, ffV, if_pos h, h]
end Go.Proofs.Ytepebfpgmnidnaa
