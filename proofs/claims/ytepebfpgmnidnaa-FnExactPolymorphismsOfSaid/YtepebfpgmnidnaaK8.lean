/-
  Contracts: valid instances and formulas, the reference's.
-/
import Derived.Test.YtepebfpgmnidnaaK7
namespace Go.Proofs.Ytepebfpgmnidnaa
open Go.RowKit Go.Sort
theorem pure_drawn {P : Program} {f : FuncId} {args : Array Value} {w : World} {n : Nat} {v : Value} (h : Calls P f args (w.drewN n) fun e w' => e = .returned v ∧ w.drewN n = w') :
    Calls P f args (w.drewN n) fun e w'' => e = .returned v ∧ ∃ m, w'' = w.drewN m := h.mono fun _ _ ⟨he, hw⟩ => ⟨he, n, hw.symm⟩
theorem noneB_all {α : Type} {p : α → Prop} {xs : List α} (h : noneB (fun c => !tb (p c)) (xs.take xs.length)) : ∀ c ∈ xs, p c := fun c hc => by
  have := h c (by rw [List.take_length]; exact hc)
  simpa [tb_iff] using this
set_option maxHeartbeats 1600000 in
theorem l03Ok_quiet (w : World) {vt vx : Value} {t : Int × List (Int × List (List Int))} {x : Int × Int × List (Int × List Int)} (ht : tplT.Pt w vt t) (hxp : frmT.Pt w vx x) :
    Calls Try.prog 60 #[vt, vx] w fun e w' => e = .returned (.bool (tb (frmOk t x))) ∧ Quiet w w' := by
  have htp := ht
  have hfp := hxp
  obtain ⟨b, o, ad, cap, rfl, hb, -, -, -, -⟩ := pt_pair ht
  obtain ⟨b', o', ad', cap', rfl, hb', -, -, c0', c1', c2', hx⟩ := pt_trip hxp
  obtain ⟨_, _, e1, hle', hle2', hcell⟩ := pairs_ex hx
  simp only [List.cons.injEq, Value.slice.injEq, and_true, true_and] at e1
  obtain ⟨rfl, rfl⟩ := e1
  clear ht hxp
  cases hT : tb (tplOk t)
  · go_enter Try.func60, Try.ntmps60
    go_wp2_with fail
    refine (l01Template_quiet _ htp).mono ?_
    rintro e w1 ⟨rfl, hq1⟩
    rw [hT]
    go_wp2_with fail
    go_ret
    exact ⟨ret_bool (tb_false (fun hh => by have := tb_true hh.1; rw [hT] at this; cases this)).symm, hq1⟩
  have HT := Lib.hid (tb_iff.1 hT)
  cases hF : tb (frameOk x)
  · go_enter Try.func60, Try.ntmps60
    go_wp2_with fail
    refine (l01Template_quiet _ htp).mono ?_
    rintro e w1 ⟨rfl, hq1⟩
    rw [hT]
    go_wp2_with fail
    refine (l03Counts_quiet _ (hfp.below hq1.below)).mono ?_
    rintro e w2 ⟨rfl, hq2⟩
    rw [hF]
    go_wp2_with fail
    go_ret
    exact ⟨ret_bool (tb_false (fun hh => by have := tb_true hh.2.1; rw [hF] at this; cases this)).symm, hq1.then hq2⟩
  have HF := Lib.hid (tb_iff.1 hF)
  go_enter Try.func60, Try.ntmps60
  go_wp2_with fail
  refine (l01Template_quiet _ htp).mono ?_
  rintro e w1 ⟨rfl, hq1⟩
  rw [hT]
  go_wp2_with fail
  refine (l03Counts_quiet _ (hfp.below hq1.below)).mono ?_
  rintro e w2 ⟨rfl, hq2⟩
  rw [hF]
  have hq := hq1.then hq2
  go_wp2_with fail
  go_loopw [5, 6] (fun i _ wr => ∃ k : Nat, k ≤ x.2.2.length ∧ i = .int .i64 k ∧ noneB (fun c => !tb (atomOk t x.2.1 c)) (x.2.2.take k) ∧ Quiet w wr) (fun i _ _ => x.2.2.length - (intOf i).toNat)
  case atStart => exact ⟨0, Nat.zero_le _, rfl, noneB_zero _ _, hq⟩
  case round =>
    obtain ⟨k, hk, rfl, hne, hqw⟩ := hrel
    have HNE := Lib.hid hne
    have g0 := (hqw.below.cell hb').trans c1'
    have g1 := (hqw.below.cell hb').trans c2'
    have htw := htp.below hqw.below
    clear hne c0' c1' c2' hq1 hq2 hq
    by_cases hkl : k < x.2.2.length
    · obtain ⟨a, q, rfl, haa, hce⟩ := hcell (by omega)
      obtain ⟨u, hu, hI, f0, f1⟩ := hce k hkl
      have e0 := (hqw.below.cell haa).trans f0
      have e1 := (hqw.below.cell haa).trans f1
      obtain ⟨_, _, hu0, -, hlu, -⟩ := ints_ex hu
      simp only [List.cons.injEq, and_true] at hu0
      subst hu0
      clear hcell hce f0 f1
      cases hz : (arOf t (x.2.2[k]).1 == 0)
      rotate_left
      · go_wp2_with fail
        refine (l03Arity_any _ htw _).mono ?_
        rintro e w3 ⟨rfl, rfl⟩
        go_wp2_with fail
        go_quiet (fail)
        go_wp2_with fail
        go_ret
        exact ⟨ret_bool (tb_false (fun hh => (hh.2.2 _ (List.getElem_mem hkl)).1 (eq_of_beq hz))).symm, hqw.then (by first | exact Quiet.refl _ | exact Quiet.drewN _ _ | exact (Quiet.drewN _ _).then (Quiet.drewN _ _) | exact ((Quiet.drewN _ _).then (Quiet.drewN _ _)).then (Quiet.drewN _ _))⟩
      have HZ : Hid (arOf t (x.2.2[k]).1 ≠ 0) := by unfold Hid; simpa using hz
      cases hm : (((x.2.2[k]).2.length : Int) != arOf t (x.2.2[k]).1)
      rotate_left
      · go_wp2_with fail
        refine (l03Arity_any _ htw _).mono ?_
        rintro e w3 ⟨rfl, rfl⟩
        go_wp2_with fail
        go_quiet (fail)
        go_wp2_with fail
        go_ret
        exact ⟨ret_bool (tb_false (fun hh => by have := (hh.2.2 _ (List.getElem_mem hkl)).2.1; simp [this] at hm)).symm, hqw.then (by first | exact Quiet.refl _ | exact Quiet.drewN _ _ | exact (Quiet.drewN _ _).then (Quiet.drewN _ _) | exact ((Quiet.drewN _ _).then (Quiet.drewN _ _)).then (Quiet.drewN _ _))⟩
      have hm' : ((x.2.2[k]).2.length : Int) = arOf t (x.2.2[k]).1 := by simpa using hm
      have HM := Lib.hid hm'
      have hu' := hu.below hqw.below
      have h0 : 0 ≤ x.2.1 := by have := HF.out.1.1; have := HF.out.2.1.1; omega
      have h1 : x.2.1 ≤ 1000000000000 := by have := HF.out.2.1.2; omega
      have cV : ∀ n, Calls Try.prog 124 #[.slice _ _ _, .int .i64 x.2.1] (wr.drewN n) fun e w'' => e = .returned (.bool (tb (rowOk x.2.1 (x.2.2[k]).2.length (x.2.2[k]).2))) ∧ ∃ m, w'' = wr.drewN m := fun n => pure_drawn (l01Places_any _ _ (hu'.below (Quiet.drewN wr n).below) h0 h1)
      clear hm' h0 h1
      cases hv : tb (rowOk x.2.1 (x.2.2[k]).2.length (x.2.2[k]).2)
      · rw [hv] at cV
        go_wp2_with fail
        refine (l03Arity_any _ htw _).mono ?_
        rintro e w3 ⟨rfl, rfl⟩
        go_wp2_with fail
        go_quiet (exact cV _)
        go_wp2_with fail
        go_ret
        exact ⟨ret_bool (tb_false (fun hh => by have h9 := (hh.2.2 _ (List.getElem_mem hkl)).2; rw [← HM.out] at h9; have := tb_true h9; rw [hv] at this; cases this)).symm, hqw.then (by first | exact Quiet.refl _ | exact Quiet.drewN _ _ | exact (Quiet.drewN _ _).then (Quiet.drewN _ _) | exact ((Quiet.drewN _ _).then (Quiet.drewN _ _)).then (Quiet.drewN _ _))⟩
      have HV := Lib.hid (tb_iff.1 hv)
      rw [hv] at cV
      go_wp2_with fail
      refine (l03Arity_any _ htw _).mono ?_
      rintro e w3 ⟨rfl, rfl⟩
      go_wp2_with fail
      go_quiet (exact cV _)
      go_wp2_with fail
      go_roundw
      case rel => exact ⟨k + 1, by omega, by go_num, noneB_succ hkl HNE.out (by rw [tb_true (show atomOk t x.2.1 x.2.2[k] from ⟨HZ.out, HM.out ▸ HV.out⟩)]; rfl), hqw.then (by first | exact Quiet.refl _ | exact Quiet.drewN _ _ | exact (Quiet.drewN _ _).then (Quiet.drewN _ _) | exact ((Quiet.drewN _ _).then (Quiet.drewN _ _)).then (Quiet.drewN _ _))⟩
      case measure => simp [intOf]; omega
    · obtain rfl : k = x.2.2.length := by omega
      have HA := Lib.hid (noneB_all HNE.out)
      go_wp2_with fail
      go_ret
      exact ⟨ret_bool (tb_true ⟨HT.out, HF.out, HA.out⟩).symm, hqw⟩
end Go.Proofs.Ytepebfpgmnidnaa
