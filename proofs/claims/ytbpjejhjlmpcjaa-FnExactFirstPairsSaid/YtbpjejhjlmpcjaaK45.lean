/-
  Contracts: the pairs that constraints tell, the reference's.
-/
import Derived.Test.YtbpjejhjlmpcjaaK44
import Derived.Test.YtbpjejhjlmpcjaaK41
import Derived.Test.YtbpjejhjlmpcjaaK8
namespace Go.Proofs.Ytbpjejhjlmpcjaa
open Go.RowKit Go.Sort
theorem anyB_no {α : Type} {p : α → Bool} {xs : List α} (h : noneB p xs) : anyB p xs = false := by
  unfold anyB
  rw [List.any_eq_false]
  intro x hx
  simp [h x hx]
theorem anyB_yes {α : Type} {p : α → Bool} {xs : List α} {k : Nat} (h : k < xs.length) (hp : p xs[k] = true) : anyB p xs = true := by
  unfold anyB
  rw [List.any_eq_true]
  exact ⟨_, List.getElem_mem h, hp⟩
theorem okTo_keep {sc tu : List Int} {i j a b : Int} {n : Nat} (h : okR sc tu i j a b n) : tb (okTo sc tu i j a b (n + 1)) = tb (okTo sc tu i j a b n) :=
  tb_congr ⟨fun hh q hq => hh q (by omega), fun hh => okTo_succ hh h⟩
set_option maxHeartbeats 6400000 in
set_option maxRecDepth 100000 in
theorem l05Tells_quiet (w : World) {vt vc : Value} {c : Int × List Int} {t : Int × List (Int × List (List Int))} (ht : tplT.Pt w vt t) (hc : opT.Pt w vc c) {vars : Int} (hT : tplOk t) (hC : conOk t vars c) (i j a b : Int) :
    Calls Try.prog 82 #[vt, vc, .int .i64 i, .int .i64 j, .int .i64 a, .int .i64 b] w fun e w' => e = .returned (.bool (tellsB t c i j a b)) ∧ Quiet w w' := by
  have HCP := Lib.hid hc
  obtain ⟨bc, oc, ac, cc, rfl, hbc, -, c0, c1, hx⟩ := pt_pair hc
  obtain ⟨bt, ot, at0, ct, rfl, hbt, -, -, t1, htx⟩ := pt_pair ht
  obtain ⟨kk, hkc⟩ : ∃ kk : Nat, c.1 = kk := ⟨c.1.toNat, by have := hC.1; omega⟩
  have hkk : kk < t.2.length := by have := hC.1; omega
  obtain ⟨ra, ro, rfl, hp⟩ := rd_elem htx hkk
  obtain ⟨_, _, ar, cr, hpe, hbr, -, -, r1, hrx⟩ := pt_pair (show relT.Pt w (.pointer (some ⟨ra, ro + kk * 2, none⟩)) t.2[kk] from hp)
  simp only [Value.pointer.injEq, Option.some.injEq, Addr.mk.injEq, and_true] at hpe
  obtain ⟨rfl, rfl⟩ := hpe
  have hlen : ∀ tu ∈ (t.2[kk]).2, tu.length = c.2.length := fun tu htu => by
    obtain ⟨q, hq, rfl⟩ := List.mem_iff_getElem.1 htu
    have h1 := ((hT.2.2 _ (List.getElem_mem hkk)).2.2 q hq).1.1
    have h2 := hC.2.1
    rw [hkc, arOf_nat hkk] at h2
    omega
  have HLEN := Lib.hid hlen
  have HX := Lib.hid hx
  have HRX := Lib.hid hrx
  have HRA : Hid ((relAt t c.1).2 = (t.2[kk]).2) := by unfold Hid; rw [hkc, relAt_nat hkk]
  obtain ⟨_, _, e1, -, hcl, hsc⟩ := ints_ex hx
  simp only [List.cons.injEq, Value.slice.injEq, and_true, true_and] at e1
  obtain ⟨rfl, rfl⟩ := e1
  obtain ⟨_, _, e1, -, hcl2, hrs⟩ := slices_ex hrx
  simp only [List.cons.injEq, Value.slice.injEq, and_true, true_and] at e1
  obtain ⟨rfl, rfl⟩ := e1
  have HSC := Lib.hid hsc
  have HRS := Lib.hid hrs
  rw [hkc] at c0
  clear hc ht htx hp hC hT hlen hx hrx hsc hrs hkc
  have HE : Hid (tellsB t c i j a b = match hasI c.2 i, hasI c.2 j with | false, false => true | _, _ => anyB (fun tu => tb (okT c.2 tu i j a b)) (t.2[kk]).2) := by
    unfold Hid
    rw [← HRA.out]
    rfl
  cases h1 : hasI c.2 i <;> cases h2 : hasI c.2 j
  · rw [h1, h2] at HE
    go_enter Try.func82, Try.ntmps82
    go_wp2_with fail
    refine (l00Has_any _ HX.out i).mono ?_
    rintro e _ ⟨rfl, rfl⟩
    rw [h1]
    go_wp2_with fail
    refine (l00Has_any _ HX.out j).mono ?_
    rintro e _ ⟨rfl, rfl⟩
    rw [h2]
    go_wp2_with fail
    go_ret
    exact ⟨ret_bool HE.out.symm, Quiet.refl _⟩
  all_goals
    rw [h1, h2] at HE
    go_enter Try.func82, Try.ntmps82
    go_wp2_with fail
    refine (l00Has_any _ HX.out i).mono ?_
    rintro e _ ⟨rfl, rfl⟩
    rw [h1]
    go_wp2_with fail
    try (refine (l00Has_any _ HX.out j).mono ?_; rintro e _ ⟨rfl, rfl⟩; rw [h2]; go_wp2_with fail)
    clear h1 h2
    go_quiet (fail)
    go_wp2_with fail
    go_loopw [14] (fun x wr => ∃ k : Nat, k ≤ (t.2[kk]).2.length ∧ x = .int .i64 k ∧ noneB (fun tu => tb (okT c.2 tu i j a b)) ((t.2[kk]).2.take k) ∧ Quiet w wr) (fun x _ => (t.2[kk]).2.length - (intOf x).toNat)
    case atStart => exact ⟨0, Nat.zero_le _, rfl, noneB_zero _ _, (by first | exact Quiet.refl _ | exact Quiet.drewN _ _ | exact (Quiet.drewN _ _).then (Quiet.drewN _ _) | exact ((Quiet.drewN _ _).then (Quiet.drewN _ _)).then (Quiet.drewN _ _))⟩
    case round =>
      obtain ⟨k, hk, rfl, hne, hq⟩ := hrel
      have HNE := Lib.hid hne
      have hbq := hq.below
      have g1 := (hbq.cell hbr).trans r1
      have gc1 := (hbq.cell hbc).trans c1
      have HCW := Lib.hid (HCP.out.below hbq)
      clear hne
      by_cases hkl : k < (t.2[kk]).2.length
      · obtain ⟨ra2, rq, rfl, hra, hrc⟩ := HRS.out (by omega)
        obtain ⟨u, hu, hcu⟩ := hrc k hkl
        obtain ⟨ua, un, uc, rfl⟩ := rd_sl hu
        have d2 := (hbq.cell hra).trans hcu
        have HU := Lib.hid (hu.below hbq)
        have hlt := HLEN.out _ (List.getElem_mem hkl)
        obtain ⟨_, _, e1, -, hul, hus⟩ := ints_ex hu
        simp only [List.cons.injEq, Value.slice.injEq, and_true] at e1
        obtain ⟨rfl, rfl, rfl⟩ := e1
        have HUS := Lib.hid hus
        have HLT := Lib.hid hlt
        clear hrc hu hcu hus hlt
        generalize hTU : (t.2[kk]).2[k] = tu at *
        go_wp2_with fail
        refine (l05Whole_quiet _ HCW.out HU.out HLT.out).mono ?_
        rintro e w2 ⟨rfl, hq2⟩
        go_wp2_with fail
        have hB2 : Below w.heap.size w w2 := bthen hbq hq2.below
        have HQ2 := Lib.hid (hq.then hq2)
        have hz2 := hB2.size
        have y1 := (cellB hB2 hbr).trans r1
        have yc := (cellB hB2 hbc).trans c1
        have yd := (hq2.below.cell (cell_lt d2)).trans d2
        have HTU := Lib.hid hTU
        clear g1 gc1 d2 r1 c1 hq hq2 hTU HCW hbq
        go_loopw [16, 15] (fun p o wi => ∃ q : Nat, q ≤ c.2.length ∧ p = .int .i64 q ∧ o = .bool (tb (agTo c.2 tu c.2.length) && tb (okTo c.2 tu i j a b q)) ∧ Quiet w2 wi) (fun p _ _ => c.2.length - (intOf p).toNat)
        case atStart => exact ⟨0, Nat.zero_le _, rfl, by rw [tb_true okTo_zero, Bool.and_true], Quiet.refl _⟩
        case round =>
          obtain ⟨q, hq, rfl, rfl, hqi⟩ := hrel
          have hbi := hqi.below
          have z1 := (cellB hbi (by omega)).trans y1
          have zc := (cellB hbi (by omega)).trans yc
          have zd := (cellB hbi (cell_lt yd)).trans yd
          have hBi : Below w.heap.size w wr := bthen hB2 hbi
          by_cases hql : q < c.2.length
          · obtain ⟨sb, so, rfl, hsb, hsc⟩ := HSC.out (by omega)
            have hlen := HLT.out
            have hqt : q < tu.length := by omega
            obtain ⟨ub, uo, rfl, hub, huc⟩ := HUS.out (by omega)
            have s0 := (hBi.cell hsb).trans (hsc q hql).2
            have t0 := (hBi.cell hub).trans (huc q hqt).2
            have hqt' : (q : Int) < (tu.length : Int) := by omega
            clear hsc huc hlen y1 yc yd
            cases h1 : (c.2[q] == i) <;> cases h2 : (tu[q] != a) <;> cases h3 : (c.2[q] == j) <;> cases h4 : (tu[q] != b)
            all_goals
              first
                | (have HN : Hid (tb (okTo c.2 tu i j a b (q + 1)) = false) := tb_false (okR_not (Nat.lt_succ_self q) hql hqt (by first | exact .inl (by simp only [okB, h1, h2]; rfl) | exact .inr (by simp only [okB, h3, h4]; rfl)))
                   go_wp2_with fail
                   go_roundw
                   case rel => exact ⟨q + 1, by omega, by go_num, by rw [HN.out, Bool.and_false], hqi⟩
                   case measure => simp [intOf]; omega)
                | (have HN := Lib.hid (okTo_keep (okR_of (i := i) (j := j) (a := a) (b := b) hql hqt (by simp only [okB, h1, h2]; rfl) (by simp only [okB, h3, h4]; rfl)))
                   go_wp2_with fail
                   go_roundw
                   case rel => exact ⟨q + 1, by omega, by go_num, by rw [HN.out], hqi⟩
                   case measure => simp [intOf]; omega)
          · obtain rfl : q = c.2.length := by omega
            have HB : Hid ((tb (agTo c.2 tu c.2.length) && tb (okTo c.2 tu i j a b c.2.length)) = tb (okT c.2 tu i j a b)) := by
              unfold Hid
              rw [tb_and]
              exact tb_congr ⟨fun h => ⟨h.2, h.1⟩, fun h => ⟨h.2, h.1⟩⟩
            rw [HB.out]
            cases hr : tb (okT c.2 tu i j a b)
            · have HN := Lib.hid (noneB_succ (p := fun tu => tb (okT c.2 tu i j a b)) hkl HNE.out (by rw [HTU.out]; exact hr))
              clear hr
              go_wp2_with fail
              go_roundw
              case rel => exact ⟨k + 1, by omega, by go_num, HN.out, HQ2.out.then hqi⟩
              case measure => simp [intOf]; omega
            · have HN : Hid (tellsB t c i j a b = true) := by unfold Hid; rw [HE.out]; exact anyB_yes hkl (by rw [HTU.out]; exact hr)
              clear hr
              go_wp2_with fail
              go_ret
              exact ⟨ret_bool HN.out.symm, HQ2.out.then hqi⟩
      · obtain rfl : k = (t.2[kk]).2.length := by omega
        have HN : Hid (tellsB t c i j a b = false) := by unfold Hid; rw [HE.out]; exact anyB_no (by have := HNE.out; rwa [List.take_length] at this)
        go_wp2_with fail
        go_ret
        exact ⟨ret_bool HN.out.symm, hq⟩
end Go.Proofs.Ytbpjejhjlmpcjaa
