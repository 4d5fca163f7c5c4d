/-
  Contracts: the reference's sameness of formulas and of instances.
-/
import Derived.Test.YtiffaeiiodmnfaaK1
namespace Go.Proofs.Ytiffaeiiodmnfaa
open Go.RowKit Go.Sort
set_option maxHeartbeats 800000 in
theorem l03Same_quiet (w : World) {v v' : Value} {x y : Int × Int × List (Int × List Int)} (h : frmT.Pt w v x) (h' : frmT.Pt w v' y) :
    Calls Try.prog 41 #[v, v'] w fun e w' => e = .returned (.bool (eqB x y)) ∧ Quiet w w' := by
  obtain ⟨b, o, ad, cap, rfl, hb, hI, hI2, c0, c1, c2, hx⟩ := pt_trip h
  obtain ⟨b', o', ad', cap', rfl, hb', hI', hI2', c0', c1', c2', hx'⟩ := pt_trip h'
  clear h h'
  cases hn : (x.1 != y.1)
  rotate_left
  · go_enter Try.func41, Try.ntmps41
    go_wp2_with fail
    go_quiet (fail)
    go_wp2_with fail
    go_ret
    exact ⟨ret_bool (eqB_fst (by simpa using hn)).symm, (by first | exact Quiet.refl _ | exact Quiet.drewN _ _ | exact (Quiet.drewN _ _).then (Quiet.drewN _ _) | exact ((Quiet.drewN _ _).then (Quiet.drewN _ _)).then (Quiet.drewN _ _))⟩
  have HN : Hid (x.1 = y.1) := by simpa [Hid] using hn
  cases hm : (x.2.1 != y.2.1)
  rotate_left
  · go_enter Try.func41, Try.ntmps41
    go_wp2_with fail
    go_quiet (fail)
    go_wp2_with fail
    go_ret
    exact ⟨ret_bool (eqB_snd HN.out (eqB_fst (by simpa using hm))).symm, (by first | exact Quiet.refl _ | exact Quiet.drewN _ _ | exact (Quiet.drewN _ _).then (Quiet.drewN _ _) | exact ((Quiet.drewN _ _).then (Quiet.drewN _ _)).then (Quiet.drewN _ _))⟩
  have HM : Hid (x.2.1 = y.2.1) := by simpa [Hid] using hm
  cases hl : (((x.2.2.length : Nat) : Int) != (y.2.2.length : Nat))
  rotate_left
  · go_enter Try.func41, Try.ntmps41
    go_wp2_with fail
    go_quiet (fail)
    go_wp2_with fail
    go_ret
    exact ⟨ret_bool (eqB_snd HN.out (eqB_snd HM.out (eqB_len (by simp at hl; omega)))).symm, (by first | exact Quiet.refl _ | exact Quiet.drewN _ _ | exact (Quiet.drewN _ _).then (Quiet.drewN _ _) | exact ((Quiet.drewN _ _).then (Quiet.drewN _ _)).then (Quiet.drewN _ _))⟩
  have hl' : x.2.2.length = y.2.2.length := by simp at hl; omega
  have HL := Lib.hid hl'
  clear hl'
  obtain ⟨_, _, e1, hle, hle2, hcell⟩ := pairs_ex hx
  obtain ⟨_, _, e2, hle', hle2', hcell'⟩ := pairs_ex hx'
  simp only [List.cons.injEq, Value.slice.injEq, and_true, true_and] at e1 e2
  obtain ⟨rfl, rfl⟩ := e1
  obtain ⟨rfl, rfl⟩ := e2
  go_enter Try.func41, Try.ntmps41
  go_wp2_with fail
  go_quiet (fail)
  go_wp2_with fail
  go_loopw [5] (fun i wr => ∃ k : Nat, k ≤ x.2.2.length ∧ i = .int .i64 k ∧ x.2.2.take k = y.2.2.take k ∧ Quiet w wr) (fun i _ => x.2.2.length - (intOf i).toNat)
  case atStart => exact ⟨0, Nat.zero_le _, rfl, rfl, (by first | exact Quiet.refl _ | exact Quiet.drewN _ _ | exact (Quiet.drewN _ _).then (Quiet.drewN _ _) | exact ((Quiet.drewN _ _).then (Quiet.drewN _ _)).then (Quiet.drewN _ _))⟩
  case round =>
    obtain ⟨k, hk, rfl, ht, hqw⟩ := hrel
    have HT := Lib.hid ht
    have d2 := (hqw.below.cell hb).trans c2
    have d2' := (hqw.below.cell hb').trans c2'
    clear ht hn hm hl c0 c1 c2 c0' c1' c2'
    by_cases hkl : k < x.2.2.length
    · have hkl' : k < y.2.2.length := by have := HL.out; omega
      obtain ⟨a, q, rfl, ha, -⟩ := hcell (by omega)
      obtain ⟨a', q', rfl, ha', -⟩ := hcell' (by omega)
      have p1 := (pt_elem hx hkl).below hqw.below
      have p2 := (pt_elem hx' hkl').below hqw.below
      have cQ : ∀ n, Calls Try.prog 66 #[.pointer (some ⟨a, q + k * 2, none⟩), .pointer (some ⟨a', q' + k * 2, none⟩)] (wr.drewN n) fun e w'' => e = .returned (.bool (eqB x.2.2[k] y.2.2[k])) ∧ ∃ m, w'' = wr.drewN m := fun n =>
        quiet_call (l03SameAtom_quiet _ (p1.below (Quiet.drewN wr n).below) (p2.below (Quiet.drewN wr n).below))
      cases hq : eqB x.2.2[k] y.2.2[k]
      · rw [hq] at cQ
        go_wp2_with fail
        go_quiet (exact cQ _)
        go_wp2_with fail
        go_ret
        exact ⟨ret_bool (eqB_snd HN.out (eqB_snd HM.out (eqB_get hkl hkl' (fun e => by rw [eqB_true e] at hq; cases hq)))).symm, hqw.then (by first | exact Quiet.refl _ | exact Quiet.drewN _ _ | exact (Quiet.drewN _ _).then (Quiet.drewN _ _) | exact ((Quiet.drewN _ _).then (Quiet.drewN _ _)).then (Quiet.drewN _ _))⟩
      · rw [hq] at cQ
        go_wp2_with fail
        go_quiet (exact cQ _)
        go_wp2_with fail
        go_roundw
        case rel => exact ⟨k + 1, by omega, by go_num, take_eq_succ hkl hkl' HT.out (eqB_iff.1 hq), hqw.then (by first | exact Quiet.refl _ | exact Quiet.drewN _ _ | exact (Quiet.drewN _ _).then (Quiet.drewN _ _) | exact ((Quiet.drewN _ _).then (Quiet.drewN _ _)).then (Quiet.drewN _ _))⟩
        case measure => simp [intOf]; omega
    · obtain rfl : k = x.2.2.length := by omega
      go_wp2_with fail
      go_ret
      exact ⟨ret_bool (eqB_snd HN.out (eqB_snd HM.out (eqB_true (by have h1 := HT.out; have h2 := HL.out; rw [List.take_length, h2, List.take_length] at h1; exact h1)))).symm, hqw⟩
set_option maxHeartbeats 800000 in
theorem l05Same_quiet (w : World) {v v' : Value} {x y : Int × List (Int × List Int)} (h : instT.Pt w v x) (h' : instT.Pt w v' y) :
    Calls Try.prog 35 #[v, v'] w fun e w' => e = .returned (.bool (eqB x y)) ∧ Quiet w w' := by
  obtain ⟨b, o, ad, cap, rfl, hb, hI, c0, c1, hx⟩ := pt_pair h
  obtain ⟨b', o', ad', cap', rfl, hb', hI', c0', c1', hx'⟩ := pt_pair h'
  clear h h'
  cases hn : (x.1 != y.1)
  rotate_left
  · go_enter Try.func35, Try.ntmps35
    go_wp2_with fail
    go_quiet (fail)
    go_wp2_with fail
    go_ret
    exact ⟨ret_bool (eqB_fst (by simpa using hn)).symm, (by first | exact Quiet.refl _ | exact Quiet.drewN _ _ | exact (Quiet.drewN _ _).then (Quiet.drewN _ _) | exact ((Quiet.drewN _ _).then (Quiet.drewN _ _)).then (Quiet.drewN _ _))⟩
  have HN : Hid (x.1 = y.1) := by simpa [Hid] using hn
  cases hl : (((x.2.length : Nat) : Int) != (y.2.length : Nat))
  rotate_left
  · go_enter Try.func35, Try.ntmps35
    go_wp2_with fail
    go_quiet (fail)
    go_wp2_with fail
    go_ret
    exact ⟨ret_bool (eqB_snd HN.out (eqB_len (by simp at hl; omega))).symm, (by first | exact Quiet.refl _ | exact Quiet.drewN _ _ | exact (Quiet.drewN _ _).then (Quiet.drewN _ _) | exact ((Quiet.drewN _ _).then (Quiet.drewN _ _)).then (Quiet.drewN _ _))⟩
  have hl' : x.2.length = y.2.length := by simp at hl; omega
  have HL := Lib.hid hl'
  clear hl'
  obtain ⟨_, _, e1, hle, hle2, hcell⟩ := pairs_ex hx
  obtain ⟨_, _, e2, hle', hle2', hcell'⟩ := pairs_ex hx'
  simp only [List.cons.injEq, Value.slice.injEq, and_true, true_and] at e1 e2
  obtain ⟨rfl, rfl⟩ := e1
  obtain ⟨rfl, rfl⟩ := e2
  go_enter Try.func35, Try.ntmps35
  go_wp2_with fail
  go_quiet (fail)
  go_wp2_with fail
  go_loopw [5] (fun i wr => ∃ k : Nat, k ≤ x.2.length ∧ i = .int .i64 k ∧ x.2.take k = y.2.take k ∧ Quiet w wr) (fun i _ => x.2.length - (intOf i).toNat)
  case atStart => exact ⟨0, Nat.zero_le _, rfl, rfl, (by first | exact Quiet.refl _ | exact Quiet.drewN _ _ | exact (Quiet.drewN _ _).then (Quiet.drewN _ _) | exact ((Quiet.drewN _ _).then (Quiet.drewN _ _)).then (Quiet.drewN _ _))⟩
  case round =>
    obtain ⟨k, hk, rfl, ht, hqw⟩ := hrel
    have HT := Lib.hid ht
    have d1 := (hqw.below.cell hb).trans c1
    have d1' := (hqw.below.cell hb').trans c1'
    clear ht hn hl c0 c1 c0' c1'
    by_cases hkl : k < x.2.length
    · have hkl' : k < y.2.length := by have := HL.out; omega
      obtain ⟨a, q, rfl, ha, hce⟩ := hcell (by omega)
      obtain ⟨a', q', rfl, ha', hce'⟩ := hcell' (by omega)
      obtain ⟨u, hu, hJ, f0, f1⟩ := hce k hkl
      obtain ⟨u', hu', hJ', f0', f1'⟩ := hce' k hkl'
      have g0 := (hqw.below.cell ha).trans f0
      have g1 := (hqw.below.cell ha).trans f1
      have g0' := (hqw.below.cell ha').trans f0'
      have g1' := (hqw.below.cell ha').trans f1'
      clear hce hce' hcell hcell' f0 f1 f0' f1'
      have r1 := hu.below hqw.below
      have r1' := hu'.below hqw.below
      cases hs : (x.2[k].1 != y.2[k].1)
      rotate_left
      · go_wp2_with fail
        go_quiet (fail)
        go_wp2_with fail
        go_ret
        exact ⟨ret_bool (eqB_snd HN.out (eqB_get hkl hkl' (fun e => by rw [e] at hs; simp at hs))).symm, hqw.then (by first | exact Quiet.refl _ | exact Quiet.drewN _ _ | exact (Quiet.drewN _ _).then (Quiet.drewN _ _) | exact ((Quiet.drewN _ _).then (Quiet.drewN _ _)).then (Quiet.drewN _ _))⟩
      have HS : Hid (x.2[k].1 = y.2[k].1) := by simpa [Hid] using hs
      have cQ : ∀ n, Calls Try.prog 61 #[u, u'] (wr.drewN n) fun e w'' => e = .returned (.bool (eqB x.2[k].2 y.2[k].2)) ∧ ∃ m, w'' = wr.drewN m := fun n =>
        quiet_call (l00Same_quiet _ (r1.below (Quiet.drewN wr n).below) (r1'.below (Quiet.drewN wr n).below))
      cases hq : eqB x.2[k].2 y.2[k].2
      · rw [hq] at cQ
        go_wp2_with fail
        go_quiet (exact cQ _)
        go_wp2_with fail
        go_ret
        exact ⟨ret_bool (eqB_snd HN.out (eqB_get hkl hkl' (fun e => by rw [e, eqB_true rfl] at hq; cases hq))).symm, hqw.then (by first | exact Quiet.refl _ | exact Quiet.drewN _ _ | exact (Quiet.drewN _ _).then (Quiet.drewN _ _) | exact ((Quiet.drewN _ _).then (Quiet.drewN _ _)).then (Quiet.drewN _ _))⟩
      · rw [hq] at cQ
        go_wp2_with fail
        go_quiet (exact cQ _)
        go_wp2_with fail
        go_roundw
        case rel => exact ⟨k + 1, by omega, by go_num, take_eq_succ hkl hkl' HT.out (Prod.ext HS.out (eqB_iff.1 hq)), hqw.then (by first | exact Quiet.refl _ | exact Quiet.drewN _ _ | exact (Quiet.drewN _ _).then (Quiet.drewN _ _) | exact ((Quiet.drewN _ _).then (Quiet.drewN _ _)).then (Quiet.drewN _ _))⟩
        case measure => simp [intOf]; omega
    · obtain rfl : k = x.2.length := by omega
      go_wp2_with fail
      go_ret
      exact ⟨ret_bool (eqB_snd HN.out (eqB_true (by have h1 := HT.out; have h2 := HL.out; rw [List.take_length, h2, List.take_length] at h1; exact h1))).symm, hqw⟩
theorem specSameFormula_any (w : World) {cs cs' : Array Value} {x y : Int × Int × List (Int × List Int)} (h : frmT.Rd w cs.toList x) (h' : frmT.Rd w cs'.toList y) :
    Calls Try.prog 16 #[.agg cs, .agg cs'] w fun e w' => e = .returned (.bool (eqB x y)) ∧ Below w.heap.size w w' := by
  have p1 := (pt_box (T := 42) h)
  have p2 := (pt_box (T := 42) (h'.below (bA (o := .cells cs.toList.toArray 42))))
  obtain ⟨u, hv, _⟩ := trip_ex h
  obtain rfl := agg_of hv
  obtain ⟨u', hv', _⟩ := trip_ex h'
  obtain rfl := agg_of hv'
  have p1' := p1.below (bA (o := .cells [.int .i64 y.1, .int .i64 y.2.1, u'].toArray 42))
  clear hv hv' h h' p1
  go_enter Try.func16, Try.ntmps16
  go_wp2_with fail
  rw [World.size_alloc] at p2
  refine (l03Same_quiet _ p1' p2).mono ?_
  rintro e w1 ⟨rfl, n, rfl⟩
  go_wp2_with fail
  go_ret
  exact ⟨rfl, (by repeat (first | exact Below.refl _ _ | exact bA | assumption | refine Below.setCell ?_ (by simp; try omega) _ | refine Below.alloc ?_ (by simp; try omega) _ | refine Below.drew ?_ | refine bDN ?_ | refine bthen ?_ (by assumption)))⟩
theorem specSameInstance_any (w : World) {cs cs' : Array Value} {x y : Int × List (Int × List Int)} (h : instT.Rd w cs.toList x) (h' : instT.Rd w cs'.toList y) :
    Calls Try.prog 11 #[.agg cs, .agg cs'] w fun e w' => e = .returned (.bool (eqB x y)) ∧ Below w.heap.size w w' := by
  have p1 := (pt_box (T := 32) h)
  have p2 := (pt_box (T := 32) (h'.below (bA (o := .cells cs.toList.toArray 32))))
  obtain ⟨u, hv, _⟩ := pair_ex h
  obtain rfl := agg_of hv
  obtain ⟨u', hv', _⟩ := pair_ex h'
  obtain rfl := agg_of hv'
  have p1' := p1.below (bA (o := .cells [.int .i64 y.1, u'].toArray 32))
  clear hv hv' h h' p1
  go_enter Try.func11, Try.ntmps11
  go_wp2_with fail
  rw [World.size_alloc] at p2
  refine (l05Same_quiet _ p1' p2).mono ?_
  rintro e w1 ⟨rfl, n, rfl⟩
  go_wp2_with fail
  go_ret
  exact ⟨rfl, (by repeat (first | exact Below.refl _ _ | exact bA | assumption | refine Below.setCell ?_ (by simp; try omega) _ | refine Below.alloc ?_ (by simp; try omega) _ | refine Below.drew ?_ | refine bDN ?_ | refine bthen ?_ (by assumption)))⟩
end Go.Proofs.Ytiffaeiiodmnfaa
