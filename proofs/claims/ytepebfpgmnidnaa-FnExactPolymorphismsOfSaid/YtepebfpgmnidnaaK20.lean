/-
  Contracts: powers, indices of lists, lists of indices.
-/
import Derived.Test.YtepebfpgmnidnaaK3
import Derived.Test.YtepebfpgmnidnaaMem
import Derived.Test.YtepebfpgmnidnaaKT
namespace Go.Proofs.Ytepebfpgmnidnaa
open Go.RowKit Go.Sort
theorem wrap64_id {n : Int} (h0 : -1000000000000000000 ≤ n) (h1 : n ≤ 1000000000000000000) : wrap64 n = n := by unfold wrap64; omega
theorem pow_nn {s : Int} (h : 0 ≤ s) : ∀ k : Nat, 0 ≤ s ^ k
  | 0 => by rw [Int.pow_zero]; decide
  | k + 1 => by rw [Int.pow_succ]; exact Int.mul_nonneg (pow_nn h k) h
theorem pow_mono {s : Int} (h : 0 ≤ s) (h1 : s ≤ 1000) : ∀ k : Nat, s ^ k ≤ 1000 ^ k
  | 0 => by rw [Int.pow_zero, Int.pow_zero]; exact Int.le_refl _
  | k + 1 => by
    rw [Int.pow_succ, Int.pow_succ]
    exact Int.mul_le_mul (pow_mono h h1 k) h1 h (pow_nn (by decide) k)
theorem pow_le {s : Int} (h : 0 ≤ s) (h1 : s ≤ 1000) {k : Nat} (hk : k ≤ 5) : s ^ k ≤ 1000000000000000 := by
  refine Int.le_trans (pow_mono h h1 k) ?_
  rcases (show k = 0 ∨ k = 1 ∨ k = 2 ∨ k = 3 ∨ k = 4 ∨ k = 5 by omega) with rfl | rfl | rfl | rfl | rfl | rfl <;> decide
theorem pow_mono' {s c : Int} (h : 0 ≤ s) (h1 : s ≤ c) : ∀ k : Nat, s ^ k ≤ c ^ k
  | 0 => by rw [Int.pow_zero, Int.pow_zero]; exact Int.le_refl _
  | k + 1 => by
    rw [Int.pow_succ, Int.pow_succ]
    exact Int.mul_le_mul (pow_mono' h h1 k) h1 h (pow_nn (by omega) k)
theorem bD' {B : Nat} {w : World} : Below B w w.drew := ⟨rfl, rfl, rfl, Nat.le_refl _, fun _ _ => rfl⟩
set_option maxHeartbeats 800000 in
theorem power_any (w : World) (s m : Int) (hs : 0 ≤ s) (hs1 : s ≤ 1000) (hm : m ≤ 5) :
    Calls Try.prog 79 #[.int .i64 s, .int .i64 m] w fun e w' => e = .returned (.int .i64 (s ^ m.toNat)) ∧ w = w' := by
  go_enter Try.func79, Try.ntmps79
  go_wp2_with fail
  go_loop [7, 5] (fun i o => ∃ k : Nat, k ≤ m.toNat ∧ i = .int .i64 k ∧ o = .int .i64 (s ^ k)) (fun i _ => m.toNat - (intOf i).toNat)
  case atStart => exact ⟨0, Nat.zero_le _, rfl, by simp⟩
  case round =>
    obtain ⟨k, hk, rfl, rfl⟩ := hrel
    by_cases hkl : (k : Int) < m
    · have h1 := pow_nn hs (k + 1)
      have h2 := pow_le hs hs1 (k := k + 1) (by omega)
      have HM : Hid (wrap64 (s ^ k * s) = s ^ (k + 1)) := by
        unfold Hid
        rw [← Int.pow_succ]; exact wrap64_id (Int.le_trans (by decide) h1) (Int.le_trans h2 (by decide))
      clear h1 h2
      go_wp2_with fail
      go_round
      case rel => exact ⟨k + 1, by omega, by go_num, by first | exact congrArg _ HM.out | (rw [← HM.out]; go_num)⟩
      case measure => simp [intOf]; omega
    · obtain rfl : k = m.toNat := by omega
      go_wp2_with fail
      go_ret
      exact ⟨rfl, rfl⟩
set_option maxHeartbeats 800000 in
theorem l01Power_any (w : World) (s m : Int) (hs : 0 ≤ s) (hs1 : s ≤ 1000) (hm : m ≤ 5) :
    Calls Try.prog 154 #[.int .i64 s, .int .i64 m] w fun e w' => e = .returned (.int .i64 (s ^ m.toNat)) ∧ w = w' := by
  by_cases hm0 : m ≤ 0
  · obtain h0 : m.toNat = 0 := by omega
    have HZ : Hid (s ^ m.toNat = 1) := by unfold Hid; rw [h0, Int.pow_zero]
    clear h0
    go_enter Try.func154, Try.ntmps154
    go_wp2_with fail
    go_loop [1, 5] (fun i o => i = .int .i64 m ∧ o = .int .i64 1) (fun i _ => (intOf i).toNat)
    case atStart => exact ⟨rfl, rfl⟩
    case round =>
      obtain ⟨rfl, rfl⟩ := hrel
      go_wp2_with fail
      go_ret
      exact ⟨ret_int HZ.out.symm, rfl⟩
  go_enter Try.func154, Try.ntmps154
  go_wp2_with fail
  go_loop [1, 5] (fun i o => ∃ k : Nat, k ≤ m.toNat ∧ i = .int .i64 (m - k) ∧ o = .int .i64 (s ^ k)) (fun i _ => (intOf i).toNat)
  case atStart => exact ⟨0, Nat.zero_le _, by simp, by simp⟩
  case round =>
    obtain ⟨k, hk, rfl, rfl⟩ := hrel
    by_cases hkl : (k : Int) < m
    · have h1 := pow_nn hs (k + 1)
      have h2 := pow_le hs hs1 (k := k + 1) (by omega)
      have HM : Hid (wrap64 (s ^ k * s) = s ^ (k + 1)) := by
        unfold Hid
        rw [← Int.pow_succ]; exact wrap64_id (Int.le_trans (by decide) h1) (Int.le_trans h2 (by decide))
      clear h1 h2
      go_wp2_with fail
      go_round
      case rel => exact ⟨k + 1, by omega, by go_num, by first | exact congrArg _ HM.out | (rw [← HM.out]; go_num)⟩
      case measure => simp [intOf]; omega
    · have hkm : (k : Int) = m := by omega
      have HK : Hid (s ^ k = s ^ m.toNat) := by unfold Hid; rw [show k = m.toNat by omega]
      go_wp2_with fail
      go_ret
      exact ⟨ret_int HK.out, rfl⟩
/-- a list's index in the order of lists -/
def idxL (s : Int) : Int → List Int → Int
  | acc, [] => acc
  | acc, a :: r => idxL s (acc * s + a) r
theorem idxL_append (s acc : Int) : ∀ (xs ys : List Int), idxL s acc (xs ++ ys) = idxL s (idxL s acc xs) ys := by
  intro xs
  induction xs generalizing acc with
  | nil => intro ys; rfl
  | cons a r ih => intro ys; exact ih _ ys
theorem idxL_take {s : Int} {xs : List Int} {k : Nat} (h : k < xs.length) : idxL s 0 (xs.take (k + 1)) = idxL s 0 (xs.take k) * s + xs[k] := by
  rw [List.take_succ_eq_append_getElem h, idxL_append]
  rfl
theorem idx_bd {s : Int} (hs : 1 ≤ s) {xs : List Int} (h : ∀ a ∈ xs, 0 ≤ a ∧ a ≤ s - 1) : ∀ k, k ≤ xs.length → 0 ≤ idxL s 0 (xs.take k) ∧ idxL s 0 (xs.take k) ≤ s ^ k - 1
  | 0, _ => by simp [idxL]
  | k + 1, hk => by
    have ih := idx_bd hs h k (by omega)
    have ha := h xs[k] (List.getElem_mem hk)
    have h1 := Int.mul_le_mul_of_nonneg_right ih.2 (show (0 : Int) ≤ s by omega)
    have h2 : (s ^ k - 1) * s = s ^ (k + 1) - s := by rw [Int.sub_mul, Int.pow_succ, Int.one_mul]
    have h3 := Int.mul_nonneg ih.1 (show (0 : Int) ≤ s by omega)
    rw [idxL_take hk]
    rw [h2] at h1
    generalize s ^ (k + 1) = P at *
    generalize idxL s 0 (xs.take k) * s = Q at *
    constructor <;> omega
set_option maxHeartbeats 800000 in
theorem indexOf_any (w : World) (s : Int) {v : Value} {xs : List Int} (h : intsT.Rd w [v] xs) (hs : 1 ≤ s) (hs1 : s ≤ 1000) (hl5 : xs.length ≤ 5) (hin : ∀ a ∈ xs, 0 ≤ a ∧ a ≤ s - 1) :
    Calls Try.prog 84 #[.int .i64 s, v] w fun e w' => e = .returned (.int .i64 (idxL s 0 xs)) ∧ w = w' := by
  obtain ⟨ad, cap, hv, hl, hc, hcell⟩ := ints_ex h
  obtain rfl : v = _ := by simpa using hv
  have HIN := Lib.hid hin
  clear h hv hin
  go_enter Try.func84, Try.ntmps84
  go_wp2_with fail
  go_loop [10, 5] (fun i o => ∃ k : Nat, k ≤ xs.length ∧ i = .int .i64 k ∧ o = .int .i64 (idxL s 0 (xs.take k))) (fun i _ => xs.length - (intOf i).toNat)
  case atStart => exact ⟨0, Nat.zero_le _, rfl, by simp [idxL]⟩
  case round =>
    obtain ⟨k, hk, rfl, rfl⟩ := hrel
    by_cases hkl : k < xs.length
    · obtain ⟨b, o, rfl, hb, hce⟩ := hcell (by omega)
      have e0 := (hce k hkl).2
      have b0 := idx_bd hs HIN.out k hk
      have b1 := idx_bd hs HIN.out (k + 1) hkl
      have p0 := pow_le (s := s) (by omega) hs1 (k := k + 1) (by omega)
      have ha := HIN.out xs[k] (List.getElem_mem hkl)
      have hr := idxL_take (s := s) hkl
      have HM : Hid (wrap64 (wrap64 (idxL s 0 (xs.take k) * s) + xs[k]) = idxL s 0 (xs.take (k + 1))) := by
        unfold Hid
        have hq := Int.mul_nonneg b0.1 (show (0 : Int) ≤ s by omega)
        rw [hr] at b1 ⊢
        generalize s ^ (k + 1) = P at *
        generalize idxL s 0 (xs.take k) * s = Q at *
        rw [wrap64_id (n := Q) (by omega) (by omega), wrap64_id (by omega) (by omega)]
      clear hcell hce b0 b1 p0 ha hr
      go_wp2_with fail
      go_round
      case rel => exact ⟨k + 1, by omega, by go_num, by first | exact congrArg _ HM.out | (rw [← HM.out]; go_num)⟩
      case measure => simp [intOf]; omega
    · obtain rfl : k = xs.length := by omega
      clear hcell
      rw [List.take_length]
      go_wp2_with fail
      go_ret
      exact ⟨rfl, rfl⟩
set_option maxHeartbeats 800000 in
theorem l01Code_any (w : World) (s : Int) {v : Value} {xs : List Int} (h : intsT.Rd w [v] xs) (hs : 1 ≤ s) (hs1 : s ≤ 1000) (hl5 : xs.length ≤ 5) (hin : ∀ a ∈ xs, 0 ≤ a ∧ a ≤ s - 1) :
    Calls Try.prog 75 #[.int .i64 s, v] w fun e w' => e = .returned (.int .i64 (idxL s 0 xs)) ∧ w = w' := by
  obtain ⟨ad, cap, hv, hl, hc, hcell⟩ := ints_ex h
  obtain rfl : v = _ := by simpa using hv
  have HIN := Lib.hid hin
  clear h hv hin
  go_enter Try.func75, Try.ntmps75
  go_wp2_with fail
  go_loop [6, 5] (fun i o => ∃ k : Nat, k ≤ xs.length ∧ i = .int .i64 k ∧ o = .int .i64 (idxL s 0 (xs.take k))) (fun i _ => xs.length - (intOf i).toNat)
  case atStart => exact ⟨0, Nat.zero_le _, rfl, by simp [idxL]⟩
  case round =>
    obtain ⟨k, hk, rfl, rfl⟩ := hrel
    by_cases hkl : k < xs.length
    · obtain ⟨b, o, rfl, hb, hce⟩ := hcell (by omega)
      have e0 := (hce k hkl).2
      have b0 := idx_bd hs HIN.out k hk
      have b1 := idx_bd hs HIN.out (k + 1) hkl
      have p0 := pow_le (s := s) (by omega) hs1 (k := k + 1) (by omega)
      have ha := HIN.out xs[k] (List.getElem_mem hkl)
      have hr := idxL_take (s := s) hkl
      have HM : Hid (wrap64 (wrap64 (idxL s 0 (xs.take k) * s) + xs[k]) = idxL s 0 (xs.take (k + 1))) := by
        unfold Hid
        have hq := Int.mul_nonneg b0.1 (show (0 : Int) ≤ s by omega)
        rw [hr] at b1 ⊢
        generalize s ^ (k + 1) = P at *
        generalize idxL s 0 (xs.take k) * s = Q at *
        rw [wrap64_id (n := Q) (by omega) (by omega), wrap64_id (by omega) (by omega)]
      clear hcell hce b0 b1 p0 ha hr
      go_wp2_with fail
      go_round
      case rel => exact ⟨k + 1, by omega, by go_num, by first | exact congrArg _ HM.out | (rw [← HM.out]; go_num)⟩
      case measure => simp [intOf]; omega
    · obtain rfl : k = xs.length := by omega
      clear hcell
      rw [List.take_length]
      go_wp2_with fail
      go_ret
      exact ⟨rfl, rfl⟩
end Go.Proofs.Ytepebfpgmnidnaa
