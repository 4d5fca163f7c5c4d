/-
  Contracts: valid relations and templates (the program's), valid templates (the reference's).
-/
import Derived.Test.YtepebfpgmnidnaaK4
namespace Go.Proofs.Ytepebfpgmnidnaa
open Go.RowKit Go.Sort
theorem geq_cmp (xs ys : List Int) : decide (0 ≤ cmpL xs ys) = !tb (ltL xs ys) := by
  rw [tb_not, Bool.eq_iff_iff, tb_iff, ltL, decide_eq_true_iff]; omega
set_option maxHeartbeats 1600000 in
theorem ValidRel_any (w : World) {cs : Array Value} {r : Int × List (List Int)} (h : relT.Rd w cs.toList r) (size : Int) :
    Calls Try.prog 169 #[.int .i64 size, .agg cs] w fun e w' => e = .returned (.bool (tb (relOk size r))) ∧ Below w.heap.size w w' := by
  obtain ⟨v, hv, hI, hx⟩ := pair_ex h
  obtain rfl := agg_of hv
  obtain ⟨ad, cap, rfl⟩ := rd_slice hx
  clear h hv
  cases hs : inB size 1 4
  · go_enter Try.func169, Try.ntmps169
    go_wp2_with (go_at_call 166; refine (isSize_any _ _).mono ?_; rintro e w' ⟨rfl, rfl⟩)
    go_ret
    exact ⟨ret_bool (tb_false (fun hr => by have := inB_true.2 hr.1; rw [hs] at this; cases this)).symm, (by repeat (first | exact Below.refl _ _ | exact bA | assumption | refine Below.setCell ?_ (by first | omega | (simp; try omega)) _ | refine Below.alloc ?_ (by first | omega | (simp; try omega)) _ | refine Below.drew ?_ | refine bDN ?_ | refine bthen ?_ (by assumption)))⟩
  cases ha : inB r.1 1 4
  · go_enter Try.func169, Try.ntmps169
    go_wp2_with (first | (go_at_call 166; refine (isSize_any _ _).mono ?_; rintro e w' ⟨rfl, rfl⟩) | (go_at_call 158; refine (isArity_any _ _).mono ?_; rintro e w' ⟨rfl, rfl⟩))
    go_ret
    exact ⟨ret_bool (tb_false (fun hr => by have := inB_true.2 hr.2.1; rw [ha] at this; cases this)).symm, (by repeat (first | exact Below.refl _ _ | exact bA | assumption | refine Below.setCell ?_ (by first | omega | (simp; try omega)) _ | refine Below.alloc ?_ (by first | omega | (simp; try omega)) _ | refine Below.drew ?_ | refine bDN ?_ | refine bthen ?_ (by assumption)))⟩
  have hs' := inB_true.1 hs
  have ha' := inB_true.1 ha
  obtain ⟨_, _, e1, hle, hle2, hcell⟩ := slices_ex hx
  simp only [List.cons.injEq, Value.slice.injEq, and_true, true_and] at e1
  obtain ⟨rfl, rfl⟩ := e1
  go_enter Try.func169, Try.ntmps169
  go_wp2_with (first | (go_at_call 166; refine (isSize_any _ _).mono ?_; rintro e w' ⟨rfl, rfl⟩) | (go_at_call 158; refine (isArity_any _ _).mono ?_; rintro e w' ⟨rfl, rfl⟩))
  go_loopw [19] (fun i wr => ∃ k : Nat, k ≤ r.2.length ∧ i = .int .i64 k ∧ relUp size r k ∧ Below w.heap.size w wr ∧ w.heap.size < wr.heap.size ∧ wr.cell? ⟨w.heap.size, 0, none⟩ = some (.int .i64 r.1) ∧ wr.cell? ⟨w.heap.size, 1, none⟩ = some (.slice ad r.2.length cap)) (fun i _ => r.2.length - (intOf i).toNat)
  case atStart => exact ⟨0, Nat.zero_le _, rfl, relUp_zero _ _, (by repeat (first | exact Below.refl _ _ | exact bA | assumption | refine Below.setCell ?_ (by first | omega | (simp; try omega)) _ | refine Below.alloc ?_ (by first | omega | (simp; try omega)) _ | refine Below.drew ?_ | refine bDN ?_ | refine bthen ?_ (by assumption))), by simp, by simp, by simp⟩
  case round =>
    obtain ⟨k, hk, rfl, ht, hbel, hz, b0, b1⟩ := hrel
    have HT := Lib.hid ht
    clear ht
    by_cases hkl : k < r.2.length
    · obtain ⟨a, q, rfl, haa, hce⟩ := hcell (by omega)
      obtain ⟨u, hu, f0⟩ := hce k hkl
      have g0 := (hbel.cell haa).trans f0
      cases hr : tb (rowOk size r.1 r.2[k])
      · clear hcell hce
        go_wp2_with fail
        refine (areValues_any _ (hu.below hbel) _ _ (by omega) (by omega)).mono ?_
        rintro e w1 ⟨rfl, hb1⟩
        rw [hr]
        go_wp2_with fail
        go_ret
        exact ⟨ret_bool (tb_false (fun hh => by have := tb_true (hh.2.2 k hkl).1; rw [hr] at this; cases this)).symm, bthen hbel hb1⟩
      have HROW := Lib.hid (tb_iff.1 hr)
      by_cases h0 : k = 0
      · have H0 := Lib.hid h0
        have hg : decide (0 < k) = false := by rw [h0]; rfl
        clear hcell hce h0
        go_wp2_with fail
        refine (areValues_any _ (hu.below hbel) _ _ (by omega) (by omega)).mono ?_
        rintro e w1 ⟨rfl, hb1⟩
        rw [hr]
        have c0 := (hb1.cell hz).trans b0
        have c1 := (hb1.cell hz).trans b1
        have hz1 : w.heap.size < w1.heap.size := Nat.lt_of_lt_of_le hz hb1.size
        go_wp2_with fail
        go_roundw
        case rel => exact ⟨k + 1, by omega, by go_num, relUp_succ hkl HT.out HROW.out (fun h => by have := H0.out; omega), bthen hbel hb1, hz1, c0, c1⟩
        case measure => simp [intOf]; omega
      · have h1 : k - 1 < r.2.length := by omega
        obtain ⟨u1, hu1, f1⟩ := hce (k - 1) h1
        have hg : decide (0 < k) = true := by simp; omega
        have hgeq := geq_cmp r.2[k - 1] r.2[k]
        clear hcell hce
        go_wp2_with fail
        refine (areValues_any _ (hu.below hbel) _ _ (by omega) (by omega)).mono ?_
        rintro e w1 ⟨rfl, hb1⟩
        rw [hr]
        have hbel1 := bthen hbel hb1
        have c0 := (hb1.cell hz).trans b0
        have c1 := (hb1.cell hz).trans b1
        have g1 := (hbel1.cell haa).trans f1
        have hz1 : w.heap.size < w1.heap.size := Nat.lt_of_lt_of_le hz hb1.size
        clear b0 b1 g0 hb1 hbel
        cases hlt : tb (ltL r.2[k - 1] r.2[k])
        · rw [hlt] at hgeq
          go_wp2_with fail
          refine (Compare_any _ (hu1.below hbel1) (hu.below hbel1)).mono ?_
          rintro e w2 ⟨rfl, rfl⟩
          go_wp2_with fail
          go_ret
          exact ⟨ret_bool (tb_false (fun hh => by have := tb_true ((hh.2.2 k hkl).2 (by omega)); rw [hlt] at this; cases this)).symm, hbel1⟩
        · rw [hlt] at hgeq
          go_wp2_with fail
          refine (Compare_any _ (hu1.below hbel1) (hu.below hbel1)).mono ?_
          rintro e w2 ⟨rfl, rfl⟩
          go_wp2_with fail
          go_roundw
          case rel => exact ⟨k + 1, by omega, by go_num, relUp_succ hkl HT.out HROW.out (fun _ => tb_iff.1 hlt), hbel1, hz1, c0, c1⟩
          case measure => simp [intOf]; omega
    · obtain rfl : k = r.2.length := by omega
      go_wp2_with fail
      go_ret
      exact ⟨ret_bool (tb_true ⟨hs', ha', fun i h => HT.out i h h⟩).symm, hbel⟩
theorem ValidTemplate1_any (w : World) {cs : Array Value} {r : Int × List (List Int)} (h : relT.Rd w cs.toList r) (size : Int) (b : Nat) (hb : b < w.heap.size) (hc : w.cell? ⟨b, 0, none⟩ = some (.int .i64 size)) :
    Calls Try.prog 168 #[.agg cs, .pointer (some ⟨b, 0, none⟩)] w fun e w' => e = .returned (.bool (!tb (relOk size r))) ∧ Below w.heap.size w w' := by
  have hx := h
  obtain ⟨v, hv, hI, -⟩ := pair_ex h
  obtain rfl := agg_of hv
  clear h hv
  go_enter Try.func168, Try.ntmps168
  go_wp2_with fail
  refine (ValidRel_any _ (hx.below bA) size).mono ?_
  rintro e w1 ⟨rfl, hb1⟩
  go_wp2_with fail
  go_ret
  exact ⟨rfl, (by repeat (first | exact Below.refl _ _ | exact bA | assumption | refine Below.setCell ?_ (by first | omega | (simp; try omega)) _ | refine Below.alloc ?_ (by first | omega | (simp; try omega)) _ | refine Below.drew ?_ | refine bDN ?_ | refine bthen ?_ (by assumption)))⟩
theorem tplOk_any {t : Int × List (Int × List (List Int))} (h0 : sizeOk t.1) (h1 : t.2.length ≤ 6) : (!anyB (fun r => !tb (relOk t.1 r)) t.2) = tb (tplOk t) := by
  rw [Bool.eq_iff_iff, tb_iff]
  simp only [anyB, tplOk, h0, h1, true_and, Bool.not_eq_true', List.any_eq_false, Bool.not_eq_false, tb_iff]
theorem ValidTemplate_any (w : World) {cs : Array Value} {t : Int × List (Int × List (List Int))} (h : tplT.Rd w cs.toList t) :
    Calls Try.prog 97 #[.agg cs] w fun e w' => e = .returned (.bool (tb (tplOk t))) ∧ Below w.heap.size w w' := by
  obtain ⟨v, hv, hI, hx⟩ := pair_ex h
  obtain rfl := agg_of hv
  obtain ⟨ad, cap, rfl⟩ := rd_slice hx
  clear h hv
  cases hs : inB t.1 1 4
  · go_enter Try.func97, Try.ntmps97
    go_wp2_with (go_at_call 166; refine (isSize_any _ _).mono ?_; rintro e w' ⟨rfl, rfl⟩)
    go_ret
    exact ⟨ret_bool (tb_false (fun hr => by have := inB_true.2 hr.1; rw [hs] at this; cases this)).symm, (by repeat (first | exact Below.refl _ _ | exact bA | assumption | refine Below.setCell ?_ (by first | omega | (simp; try omega)) _ | refine Below.alloc ?_ (by first | omega | (simp; try omega)) _ | refine Below.drew ?_ | refine bDN ?_ | refine bthen ?_ (by assumption)))⟩
  have hs' := inB_true.1 hs
  by_cases hl : t.2.length ≤ 6
  rotate_left
  · have hl' : decide (t.2.length ≤ 6) = false := by simpa using hl
    have hl2 : decide ((t.2.length : Int) ≤ 6) = false := by simp; omega
    have HL := Lib.hid hl
    clear hl
    go_enter Try.func97, Try.ntmps97
    go_wp2_with (go_at_call 166; refine (isSize_any _ _).mono ?_; rintro e w' ⟨rfl, rfl⟩)
    go_ret
    exact ⟨ret_bool (tb_false (fun hr => HL.out hr.2.1)).symm, (by repeat (first | exact Below.refl _ _ | exact bA | assumption | refine Below.setCell ?_ (by first | omega | (simp; try omega)) _ | refine Below.alloc ?_ (by first | omega | (simp; try omega)) _ | refine Below.drew ?_ | refine bDN ?_ | refine bthen ?_ (by assumption)))⟩
  have hl2 : decide ((t.2.length : Int) ≤ 6) = true := by simp; omega
  have HT := Lib.hid (tplOk_any hs' hl)
  clear hs'
  go_enter Try.func97, Try.ntmps97
  go_wp2_with (go_at_call 166; refine (isSize_any _ _).mono ?_; rintro e w' ⟨rfl, rfl⟩)
  refine (ContainsFuncRel_any _ (hx.below bA) (fun r => !tb (relOk t.1 r)) 168 #[.pointer (some ⟨w.heap.size, 0, none⟩)] (enters Try.func168 (by kernel_rfl) rfl) (fun W hW k hk cs hcs => ValidTemplate1_any W hcs t.1 w.heap.size ?_ ?_)).mono ?_
  · have := hW.size; simp at this; omega
  · rw [hW.cell (by simp)]; simp
  rintro e w1 ⟨rfl, hb1⟩
  go_wp2_with fail
  go_ret
  exact ⟨ret_bool HT.out, (by repeat (first | exact Below.refl _ _ | exact bA | assumption | refine Below.setCell ?_ (by first | omega | (simp; try omega)) _ | refine Below.alloc ?_ (by first | omega | (simp; try omega)) _ | refine Below.drew ?_ | refine bDN ?_ | refine bthen ?_ (by assumption)))⟩
theorem pt_tpl_elem {w : World} {b o n cap : Nat} {xs : List (Int × List (List Int))} (h : relsT.Rd w [.slice (some ⟨b, o, none⟩) n cap] xs) {k : Nat} (hk : k < xs.length) : relT.Pt w (.pointer (some ⟨b, o + k * 2, none⟩)) xs[k] := pt_elem h hk
set_option maxHeartbeats 800000 in
theorem l01Template_quiet (w : World) {v : Value} {t : Int × List (Int × List (List Int))} (h : tplT.Pt w v t) :
    Calls Try.prog 121 #[v] w fun e w' => e = .returned (.bool (tb (tplOk t))) ∧ Quiet w w' := by
  obtain ⟨b, o, ad, cap, rfl, hb, hI, c0, c1, hx⟩ := pt_pair h
  clear h
  obtain ⟨_, _, e1, hle, hle2, hcell⟩ := pairs_ex hx
  simp only [List.cons.injEq, Value.slice.injEq, and_true, true_and] at e1
  obtain ⟨rfl, rfl⟩ := e1
  go_enter Try.func121, Try.ntmps121
  go_wp2_with fail
  go_loopw [3] (fun i wr => ∃ k : Nat, k ≤ t.2.length ∧ i = .int .i64 k ∧ noneB (fun r => !tb (relOk t.1 r)) (t.2.take k) ∧ Quiet w wr) (fun i _ => t.2.length - (intOf i).toNat)
  case atStart => exact ⟨0, Nat.zero_le _, rfl, noneB_zero _ _, Quiet.refl _⟩
  case round =>
    obtain ⟨k, hk, rfl, ht, hqw⟩ := hrel
    have HT := Lib.hid ht
    have d0 := (hqw.below.cell hb).trans c0
    have d1 := (hqw.below.cell hb).trans c1
    clear ht c0 c1
    by_cases hkl : k < t.2.length
    · obtain ⟨a, q, rfl, haa, -⟩ := hcell (by omega)
      have p := (pt_tpl_elem hx hkl).below hqw.below
      have cT : ∀ n, Calls Try.prog 175 #[.int .i64 t.1, .pointer (some ⟨a, q + k * 2, none⟩)] (wr.drewN n) fun e w'' => e = .returned (.bool (tb (relOk t.1 t.2[k]))) ∧ ∃ m, w'' = wr.drewN m := fun n =>
        quiet_call (l01Ok_quiet _ (p.below (Quiet.drewN wr n).below) t.1)
      cases hr : tb (relOk t.1 t.2[k])
      · rw [hr] at cT
        go_wp2_with fail
        go_quiet (exact cT _)
        go_wp2_with fail
        go_ret
        exact ⟨ret_bool (tb_false (fun hh => by have := tb_true (hh.2.2 _ (List.getElem_mem hkl)); rw [hr] at this; cases this)).symm, hqw.then (by first | exact Quiet.refl _ | exact Quiet.drewN _ _ | exact (Quiet.drewN _ _).then (Quiet.drewN _ _) | exact ((Quiet.drewN _ _).then (Quiet.drewN _ _)).then (Quiet.drewN _ _))⟩
      · rw [hr] at cT
        go_wp2_with fail
        go_quiet (exact cT _)
        go_wp2_with fail
        go_roundw
        case rel => exact ⟨k + 1, by omega, by go_num, noneB_succ hkl HT.out (by rw [hr]; rfl), hqw.then (by first | exact Quiet.refl _ | exact Quiet.drewN _ _ | exact (Quiet.drewN _ _).then (Quiet.drewN _ _) | exact ((Quiet.drewN _ _).then (Quiet.drewN _ _)).then (Quiet.drewN _ _))⟩
        case measure => simp [intOf]; omega
    · obtain rfl : k = t.2.length := by omega
      have hall : ∀ r ∈ t.2, relOk t.1 r := fun r hr => by
        have := HT.out r (by rw [List.take_length]; exact hr)
        simpa [tb_iff] using this
      have HALL := Lib.hid hall
      clear hall
      cases hs : inB t.1 1 4
      · go_wp2_with (go_at_call 182; refine (l01Size_any _ _).mono ?_; rintro e w' ⟨rfl, rfl⟩)
        go_ret
        exact ⟨ret_bool (tb_false (fun hr => by have := inB_true.2 hr.1; rw [hs] at this; cases this)).symm, hqw⟩
      have hs' := inB_true.1 hs
      have HR : Hid (decide ((t.2.length : Int) ≤ 6) = tb (tplOk t)) := by
        unfold Hid
        rw [Bool.eq_iff_iff, tb_iff, decide_eq_true_iff]
        exact ⟨fun h => ⟨hs', by omega, HALL.out⟩, fun h => by have := h.2.1; omega⟩
      go_wp2_with (go_at_call 182; refine (l01Size_any _ _).mono ?_; rintro e w' ⟨rfl, rfl⟩)
      go_ret
      exact ⟨ret_bool HR.out, hqw⟩
end Go.Proofs.Ytepebfpgmnidnaa
