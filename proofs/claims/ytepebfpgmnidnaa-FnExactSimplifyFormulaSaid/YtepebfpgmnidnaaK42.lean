/-
  Contracts: whether a number is one of a list's; whether a constraint leaves values of two variables.
-/
import Derived.Test.YtepebfpgmnidnaaK41
namespace Go.Proofs.Ytepebfpgmnidnaa
open Go.RowKit Go.Sort
/-- is a number one of a list's -/
def hasI (xs : List Int) (n : Int) : Bool := anyB (fun a => n == a) xs
theorem hasI_no {xs : List Int} {n : Int} (h : noneB (fun a => n == a) xs) : hasI xs n = false := by
  unfold hasI anyB
  rw [List.any_eq_false]
  intro a ha hh
  have h1 : (n == a) = false := h a ha
  rw [h1] at hh
  cases hh
theorem hasI_yes {xs : List Int} {n : Int} {k : Nat} (h : k < xs.length) (he : (n == xs[k]) = true) : hasI xs n = true := by
  unfold hasI anyB
  rw [List.any_eq_true]
  exact ⟨_, List.getElem_mem h, he⟩
theorem hasI_first {xs : List Int} {n : Int} : decide (0 ≤ firstI (fun a => n == a) xs) = hasI xs n := firstI_any _ _
set_option maxHeartbeats 800000 in
theorem IndexI_any (w : World) {v : Value} {xs : List Int} (h : intsT.Rd w [v] xs) (n : Int) :
    Calls Try.prog 150 #[v, .int .i64 n] w fun e w' => e = .returned (.int .i64 (firstI (fun a => n == a) xs)) ∧ w = w' := by
  obtain ⟨ad, cap, hv, -, hcl, hcell⟩ := ints_ex h
  obtain rfl : v = _ := by simpa using hv
  clear h hv
  go_enter Try.func150, Try.ntmps150
  go_wp2_with fail
  go_loop [8] (fun i => ∃ k : Nat, k ≤ xs.length ∧ i = .int .i64 k ∧ noneB (fun a => n == a) (xs.take k)) (fun i => xs.length - (intOf i).toNat)
  case atStart => exact ⟨0, Nat.zero_le _, rfl, noneB_zero _ _⟩
  case round =>
    obtain ⟨k, hk, rfl, hne⟩ := hrel
    have HNE := Lib.hid hne
    clear hne
    by_cases hkl : k < xs.length
    · obtain ⟨b, o, rfl, hb, hce⟩ := hcell (by omega)
      have e0 := (hce k hkl).2
      clear hcell hce
      cases he : (n == xs[k])
      · have HN := Lib.hid (noneB_succ (p := fun a => n == a) hkl HNE.out he)
        go_wp2_with fail
        go_round
        case rel => exact ⟨k + 1, by omega, by go_num, HN.out⟩
        case measure => simp [intOf]; omega
      · have HN := Lib.hid (firstI_at (p := fun a => n == a) hkl HNE.out he)
        go_wp2_with fail
        go_ret
        exact ⟨ret_int HN.out.symm, rfl⟩
    · obtain rfl : k = xs.length := by omega
      have HN : Hid (firstI (fun a => n == a) xs = -1) := firstI_none (by have := HNE.out; rwa [List.take_length] at this)
      clear hcell
      go_wp2_with fail
      go_ret
      exact ⟨ret_int HN.out.symm, rfl⟩
theorem ContainsI_any (w : World) {v : Value} {xs : List Int} (h : intsT.Rd w [v] xs) (n : Int) :
    Calls Try.prog 148 #[v, .int .i64 n] w fun e w' => e = .returned (.bool (hasI xs n)) ∧ w = w' := by
  have HX := Lib.hid h
  have HF := Lib.hid (hasI_first (xs := xs) (n := n))
  clear h
  go_enter Try.func148, Try.ntmps148
  go_wp2_with fail
  refine (IndexI_any _ HX.out n).mono ?_
  rintro e _ ⟨rfl, rfl⟩
  go_wp2_with fail
  go_ret
  exact ⟨ret_bool HF.out, rfl⟩
set_option maxHeartbeats 800000 in
theorem l00Has_any (w : World) {v : Value} {xs : List Int} (h : intsT.Rd w [v] xs) (n : Int) :
    Calls Try.prog 132 #[v, .int .i64 n] w fun e w' => e = .returned (.bool (hasI xs n)) ∧ w = w' := by
  obtain ⟨ad, cap, hv, -, hcl, hcell⟩ := ints_ex h
  obtain rfl : v = _ := by simpa using hv
  clear h hv
  go_enter Try.func132, Try.ntmps132
  go_wp2_with fail
  go_loop [5] (fun i => ∃ k : Nat, k ≤ xs.length ∧ i = .int .i64 k ∧ noneB (fun a => n == a) (xs.take k)) (fun i => xs.length - (intOf i).toNat)
  case atStart => exact ⟨0, Nat.zero_le _, rfl, noneB_zero _ _⟩
  case round =>
    obtain ⟨k, hk, rfl, hne⟩ := hrel
    have HNE := Lib.hid hne
    clear hne
    by_cases hkl : k < xs.length
    · obtain ⟨b, o, rfl, hb, hce⟩ := hcell (by omega)
      have e0 := (hce k hkl).2
      clear hcell hce
      cases he : (n == xs[k])
      · have HN := Lib.hid (noneB_succ (p := fun a => n == a) hkl HNE.out he)
        have he' := beq_swap he
        clear he
        go_wp2_with fail
        go_round
        case rel => exact ⟨k + 1, by omega, by go_num, HN.out⟩
        case measure => simp [intOf]; omega
      · have HN := Lib.hid (hasI_yes hkl he)
        have he' := beq_swap he
        clear he
        go_wp2_with fail
        go_ret
        exact ⟨ret_bool HN.out.symm, rfl⟩
    · obtain rfl : k = xs.length := by omega
      have HN : Hid (hasI xs n = false) := hasI_no (by have := HNE.out; rwa [List.take_length] at this)
      clear hcell
      go_wp2_with fail
      go_ret
      exact ⟨ret_bool HN.out.symm, rfl⟩
end Go.Proofs.Ytepebfpgmnidnaa
