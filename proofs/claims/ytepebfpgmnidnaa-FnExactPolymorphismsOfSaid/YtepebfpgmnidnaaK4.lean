/-
  Contracts: valid relations and templates, in the program and in the reference.
-/
import Derived.Test.YtepebfpgmnidnaaK3
namespace Go.Proofs.Ytepebfpgmnidnaa
open Go.RowKit Go.Sort
set_option maxHeartbeats 400000 in
theorem l01Before_quiet (w : World) {v u : Value} {xs ys : List Int} (h : intsT.Rd w [v] xs) (h' : intsT.Rd w [u] ys) (hn : xs.length ≤ ys.length) (hs : xs.length = ys.length) :
    Calls Try.prog 191 #[v, u] w fun e w' => e = .returned (.bool (tb (ltL xs ys))) ∧ Quiet w w' := by
  obtain ⟨ad, cap, hv, hl, hc, hcell⟩ := ints_ex h
  obtain ⟨ad', cap', hv', hl', hc', hcell'⟩ := ints_ex h'
  obtain rfl : v = _ := by simpa using hv
  obtain rfl : u = _ := by simpa using hv'
  have HS := Lib.hid hs
  clear h hv h' hv' hs
  go_enter Try.func191, Try.ntmps191
  go_wp2_with fail
  go_loopw [5] (fun i wr => ∃ k : Nat, k ≤ xs.length ∧ i = .int .i64 k ∧ xs.take k = ys.take k ∧ Quiet w wr) (fun i _ => xs.length - (intOf i).toNat)
  case atStart => exact ⟨0, Nat.zero_le _, rfl, rfl, Quiet.refl _⟩
  case round =>
    obtain ⟨k, hk, rfl, ht, nq, rfl⟩ := hrel
    have HT := Lib.hid ht
    clear ht
    by_cases hkl : k < xs.length
    · have hkl' : k < ys.length := by omega
      obtain ⟨b, o, rfl, hb, hce⟩ := hcell (by omega)
      obtain ⟨b', o', rfl, hb', hce'⟩ := hcell' (by omega)
      have d0 := (hce k hkl).2
      have d1 := (hce' k hkl').2
      clear hce hce' hcell hcell'
      cases hq : (xs[k] != ys[k])
      · go_wp2_with fail
        go_quiet (fail)
        go_wp2_with fail
        go_roundw
        case rel => exact ⟨k + 1, by omega, by go_num, take_eq_succ hkl hkl' HT.out (by simpa using hq), (by first | exact Quiet.refl _ | exact Quiet.drewN _ _ | exact (Quiet.drewN _ _).then (Quiet.drewN _ _) | exact ((Quiet.drewN _ _).then (Quiet.drewN _ _)).then (Quiet.drewN _ _))⟩
        case measure => simp [intOf]; omega
      · have hc := cmpL_ne HT.out hkl hkl' (by simpa using hq)
        have hr : decide (xs[k] < ys[k]) = tb (ltL xs ys) := by
          rw [Bool.eq_iff_iff, tb_iff, ltL, hc, decide_eq_true_iff]
          rcases ilt xs[k] ys[k] with h | h
          · rw [cmpI_lt h]; simp [h]
          · have hne : xs[k] ≠ ys[k] := by simpa using hq
            rw [cmpI_gt (by omega)]; simp; omega
        have HR := Lib.hid hr
        clear hr hc
        go_wp2_with fail
        go_quiet (fail)
        go_wp2_with fail
        go_quiet (fail)
        go_wp2_with fail
        go_ret
        exact ⟨ret_bool HR.out, (by first | exact Quiet.refl _ | exact Quiet.drewN _ _ | exact (Quiet.drewN _ _).then (Quiet.drewN _ _) | exact ((Quiet.drewN _ _).then (Quiet.drewN _ _)).then (Quiet.drewN _ _))⟩
    · obtain rfl : k = xs.length := by omega
      go_wp2_with fail
      go_ret
      have e : xs = ys := by have := HT.out; rwa [List.take_length, HS.out, List.take_length] at this
      exact ⟨ret_bool (tb_false (by rw [e, ltL, cmpL_self]; omega)).symm, (by first | exact Quiet.refl _ | exact Quiet.drewN _ _ | exact (Quiet.drewN _ _).then (Quiet.drewN _ _) | exact ((Quiet.drewN _ _).then (Quiet.drewN _ _)).then (Quiet.drewN _ _))⟩
set_option maxHeartbeats 1600000 in
theorem l01Ok_quiet (w : World) {v : Value} {r : Int × List (List Int)} (h : relT.Pt w v r) (size : Int) :
    Calls Try.prog 175 #[.int .i64 size, v] w fun e w' => e = .returned (.bool (tb (relOk size r))) ∧ Quiet w w' := by
  obtain ⟨b, o, ad, cap, rfl, hb, hI, c0, c1, hx⟩ := pt_pair h
  clear h
  cases hs : inB size 1 4
  · go_enter Try.func175, Try.ntmps175
    go_wp2_with (go_at_call 182; refine (l01Size_any _ _).mono ?_; rintro e w' ⟨rfl, rfl⟩)
    go_ret
    exact ⟨ret_bool (tb_false (fun hr => by have := inB_true.2 hr.1; rw [hs] at this; cases this)).symm, Quiet.refl _⟩
  cases ha : inB r.1 1 4
  · go_enter Try.func175, Try.ntmps175
    go_wp2_with (first | (go_at_call 182; refine (l01Size_any _ _).mono ?_; rintro e w' ⟨rfl, rfl⟩) | (go_at_call 153; refine (l01Arity_any _ _).mono ?_; rintro e w' ⟨rfl, rfl⟩))
    go_ret
    exact ⟨ret_bool (tb_false (fun hr => by have := inB_true.2 hr.2.1; rw [ha] at this; cases this)).symm, Quiet.refl _⟩
  have hs' := inB_true.1 hs
  have ha' := inB_true.1 ha
  obtain ⟨_, _, e1, hle, hle2, hcell⟩ := slices_ex hx
  simp only [List.cons.injEq, Value.slice.injEq, and_true, true_and] at e1
  obtain ⟨rfl, rfl⟩ := e1
  go_enter Try.func175, Try.ntmps175
  go_wp2_with (first | (go_at_call 182; refine (l01Size_any _ _).mono ?_; rintro e w' ⟨rfl, rfl⟩) | (go_at_call 153; refine (l01Arity_any _ _).mono ?_; rintro e w' ⟨rfl, rfl⟩))
  go_loopw [5] (fun i wr => ∃ k : Nat, k ≤ r.2.length ∧ i = .int .i64 k ∧ relUp size r k ∧ Quiet w wr) (fun i _ => r.2.length - (intOf i).toNat)
  case atStart => exact ⟨0, Nat.zero_le _, rfl, relUp_zero _ _, Quiet.refl _⟩
  case round =>
    obtain ⟨k, hk, rfl, ht, hqw⟩ := hrel
    have HT := Lib.hid ht
    have d0 := (hqw.below.cell hb).trans c0
    have d1 := (hqw.below.cell hb).trans c1
    clear ht c0 c1
    by_cases hkl : k < r.2.length
    · obtain ⟨a, q, rfl, haa, hce⟩ := hcell (by omega)
      obtain ⟨u, hu, f0⟩ := hce k hkl
      have g0 := (hqw.below.cell haa).trans f0
      have hu' := hu.below hqw.below
      have cT : ∀ n, Calls Try.prog 100 #[.int .i64 size, .int .i64 r.1, u] (wr.drewN n) fun e w'' => e = .returned (.bool (tb (rowOk size r.1 r.2[k]))) ∧ ∃ m, w'' = wr.drewN m := fun n =>
        quiet_call ((l01Tuple_any _ _ _ (hu'.below (Quiet.drewN wr n).below) (by omega) (by omega)).mono fun _ _ ⟨p, q⟩ => ⟨p, q ▸ Quiet.refl _⟩)
      cases hr : tb (rowOk size r.1 r.2[k])
      · rw [hr] at cT
        clear hcell hce
        go_wp2_with fail
        go_quiet (exact cT _)
        go_wp2_with fail
        go_ret
        exact ⟨ret_bool (tb_false (fun hh => by have := tb_true (hh.2.2 k hkl).1; rw [hr] at this; cases this)).symm, hqw.then (by first | exact Quiet.refl _ | exact Quiet.drewN _ _ | exact (Quiet.drewN _ _).then (Quiet.drewN _ _) | exact ((Quiet.drewN _ _).then (Quiet.drewN _ _)).then (Quiet.drewN _ _))⟩
      have hrow := tb_iff.1 hr
      have HROW := Lib.hid hrow
      rw [hr] at cT
      clear hrow
      by_cases h0 : k = 0
      · have H0 := Lib.hid h0
        have hg : decide (0 < k) = false := by rw [h0]; rfl
        clear hcell hce h0
        go_wp2_with fail
        go_quiet (exact cT _)
        go_wp2_with fail
        go_roundw
        case rel => exact ⟨k + 1, by omega, by go_num, relUp_succ hkl HT.out HROW.out (fun h => by have := H0.out; omega), hqw.then (by first | exact Quiet.refl _ | exact Quiet.drewN _ _ | exact (Quiet.drewN _ _).then (Quiet.drewN _ _) | exact ((Quiet.drewN _ _).then (Quiet.drewN _ _)).then (Quiet.drewN _ _))⟩
        case measure => simp [intOf]; omega
      · have h1 : k - 1 < r.2.length := by omega
        obtain ⟨u1, hu1, f1⟩ := hce (k - 1) h1
        have g1 := (hqw.below.cell haa).trans f1
        have hu1' := hu1.below hqw.below
        have hg : decide (0 < k) = true := by simp; omega
        have hl1 : r.2[k - 1].length = r.2[k].length := by
          have p1 := (HT.out (k - 1) h1 (by omega)).1.1
          have p2 := HROW.out.1
          omega
        have cB : ∀ n, Calls Try.prog 191 #[u1, u] (wr.drewN n) fun e w'' => e = .returned (.bool (tb (ltL r.2[k - 1] r.2[k]))) ∧ ∃ m, w'' = wr.drewN m := fun n =>
          quiet_call (l01Before_quiet _ (hu1'.below (Quiet.drewN wr n).below) (hu'.below (Quiet.drewN wr n).below) (by omega) hl1)
        have HL := Lib.hid hl1
        clear hcell hce hl1
        go_wp2_with fail
        cases hlt : tb (ltL r.2[k - 1] r.2[k])
        · rw [hlt] at cB
          go_quiet (first | exact cT _ | exact cB _)
          go_wp2_with fail
          go_ret
          exact ⟨ret_bool (tb_false (fun hh => by have := tb_true ((hh.2.2 k hkl).2 (by omega)); rw [hlt] at this; cases this)).symm, hqw.then (by first | exact Quiet.refl _ | exact Quiet.drewN _ _ | exact (Quiet.drewN _ _).then (Quiet.drewN _ _) | exact ((Quiet.drewN _ _).then (Quiet.drewN _ _)).then (Quiet.drewN _ _))⟩
        · rw [hlt] at cB
          go_quiet (first | exact cT _ | exact cB _)
          go_wp2_with fail
          go_roundw
          case rel => exact ⟨k + 1, by omega, by go_num, relUp_succ hkl HT.out HROW.out (fun _ => tb_iff.1 hlt), hqw.then (by first | exact Quiet.refl _ | exact Quiet.drewN _ _ | exact (Quiet.drewN _ _).then (Quiet.drewN _ _) | exact ((Quiet.drewN _ _).then (Quiet.drewN _ _)).then (Quiet.drewN _ _))⟩
          case measure => simp [intOf]; omega
    · obtain rfl : k = r.2.length := by omega
      go_wp2_with fail
      go_ret
      exact ⟨ret_bool (tb_true ⟨hs', ha', fun i h => HT.out i h h⟩).symm, hqw⟩
end Go.Proofs.Ytepebfpgmnidnaa
