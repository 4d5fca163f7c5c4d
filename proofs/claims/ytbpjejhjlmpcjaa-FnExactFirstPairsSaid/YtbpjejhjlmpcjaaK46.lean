/-
  Contracts: the pairs that constraints tell, all of them.
-/
import Derived.Test.YtbpjejhjlmpcjaaK45
import Derived.Test.YtbpjejhjlmpcjaaK12
import Derived.Test.YtbpjejhjlmpcjaaS1
import Derived.Test.YtbpjejhjlmpcjaaMark
namespace Go.Proofs.Ytbpjejhjlmpcjaa
open Go.RowKit Go.Sort
/-- two numbers, just made -/
theorem fr_ints2 {base : Nat} {w : World} {a b : Int} {e : TypeId} {g : Nat} (ha : I64 a) (hb : I64 b) (hg : w.heap.size = g) (hbs : base ≤ g) : intsT.Fr base (w.alloc (.cells #[.int .i64 a, .int .i64 b] e)) [.slice (some ⟨g, 0, none⟩) 2 2] [a, b] := by
  subst hg
  refine IR.fr (e := e) ⟨rfl, ?_, hbs, World.ownsRow_lit w #[.int .i64 a, .int .i64 b] 2 hbs (by decide) (by rfl)⟩ (by decide)
  intro x hx
  simp at hx
  rcases hx with rfl | rfl
  · exact ha
  · exact hb
/-- .. by the first k constraints -/
noncomputable def leftK (t : Int × List (Int × List (List Int))) (x : Int × List (Int × List Int)) (i j a b : Int) (k : Nat) : Bool := !anyB (fun c => !tellsB t c i j a b) (x.2.take k)
theorem leftK_zero {t : Int × List (Int × List (List Int))} {x : Int × List (Int × List Int)} {i j a b : Int} : leftK t x i j a b 0 = true := by simp [leftK, anyB]
theorem leftK_succ {t : Int × List (Int × List (List Int))} {x : Int × List (Int × List Int)} {i j a b : Int} {k : Nat} (h : k < x.2.length) (hk : leftK t x i j a b k = true) : leftK t x i j a b (k + 1) = tellsB t x.2[k] i j a b := by
  unfold leftK anyB at hk ⊢
  rw [List.take_succ_eq_append_getElem h, List.any_append]
  rw [Bool.not_eq_true'] at hk
  rw [hk]
  simp
theorem leftK_no {t : Int × List (Int × List (List Int))} {x : Int × List (Int × List Int)} {i j a b : Int} {k : Nat} (hk : leftK t x i j a b k = false) : leftK t x i j a b x.2.length = false := by
  unfold leftK anyB at hk ⊢
  simp only [Bool.not_eq_false', List.any_eq_true] at hk
  obtain ⟨c, hc, h⟩ := hk
  simp only [List.take_length, Bool.not_eq_false', List.any_eq_true]
  exact ⟨c, List.mem_of_mem_take hc, h⟩
theorem leftK_all {t : Int × List (Int × List (List Int))} {x : Int × List (Int × List Int)} {i j a b : Int} : leftK t x i j a b x.2.length = leftB t x i j [a, b] := by simp [leftK, leftB]
/-- a pair's two values by its number -/
theorem digL_two {s : Int} {q : Nat} (hs : 1 ≤ s) (hq : (q : Int) < s * s) : digL s q 2 = [(q : Int) / s, (q : Int) % s] := by
  have h1 : (q : Int) / s < s := Int.ediv_lt_of_lt_mul (by omega) hq
  have h2 : 0 ≤ (q : Int) / s := Int.ediv_nonneg (by omega) (by omega)
  have h3 : (q : Int) / s % s = (q : Int) / s := Int.emod_eq_of_lt h2 h1
  simp only [digL, dig, List.range_succ, List.range_zero, List.nil_append, List.cons_append, List.map_cons, List.map_nil, Nat.sub_zero, Nat.reduceSub, Int.pow_one, Int.pow_zero, Int.ediv_one]
  rw [h3]
set_option maxHeartbeats 12800000 in
set_option maxRecDepth 100000 in
theorem l05First_any (w : World) {vt vx : Value} {t : Int × List (Int × List (List Int))} {x : Int × List (Int × List Int)} (ht : tplT.Pt w vt t) (hxp : instT.Pt w vx x) (hok : instOk t x) (N : Nat) (hN : t.1 ^ 2 = N) :
    Calls Try.prog 49 #[vt, vx] w (RetS relsT w (allP t x N x.1.toNat)) := by
  have HTP := Lib.hid ht
  obtain ⟨bt, ot, at0, ct, rfl, hbt, -, t0, -, -⟩ := pt_pair ht
  obtain ⟨bx, ox, ax, cx, rfl, hbx, -, x0, x1, hx⟩ := pt_pair hxp
  have HX := Lib.hid hx
  have HOK := Lib.hid hok
  have hs := hok.1.1
  unfold sizeOk at hs
  have hx1 := hok.2.1
  have hxl := hok.2.2.1
  obtain ⟨n, hn⟩ : ∃ n : Nat, x.1 = n := ⟨x.1.toNat, by omega⟩
  have HNN : Hid (x.1.toNat = n) := by unfold Hid; omega
  rw [hn] at hx1 x0
  have HN := Lib.hid hN
  have hmul : t.1 * t.1 = (N : Int) := by rw [← hN, Int.pow_succ, Int.pow_succ, Int.pow_zero, Int.one_mul]
  have hN16 : N ≤ 16 := by
    have : t.1 * t.1 ≤ 4 * 4 := Int.mul_le_mul hs.2 hs.2 (by omega) (by omega)
    omega
  clear ht hxp hok hN hx hn
  go_enter Try.func49, Try.ntmps49
  go_wp2_with fail
  generalize hW : World.alloc w _ = W
  have hbW : Below w.heap.size w W := hW ▸ bA
  have hsW : W.heap.size = w.heap.size + 1 := by rw [← hW]; simp
  have HB0 : Hid (Bl relT 88 w.heap.size W.heap.size W (.slice (some ⟨w.heap.size, 0, none⟩) 0 0) []) := by
    unfold Hid
    rw [← hW]
    simpa using Bl.lit0 (E := relT) (e := 88) (base := w.heap.size) (w := w) (Nat.le_refl _)
  clear hW
  go_loopw [6, 5] (fun i o wr => ∃ j : Nat, 1 ≤ j ∧ j ≤ n ∧ i = .int .i64 j ∧ Bl relT 88 w.heap.size wr.heap.size wr o (allP t x N j) ∧ Below w.heap.size w wr) (fun i _ _ => n - (intOf i).toNat)
  case atStart => exact ⟨1, by omega, by omega, rfl, by simpa [allP, rowP] using HB0.out, hbW⟩
  case round =>
    obtain ⟨j, hj1, hj, rfl, hBl, hbe⟩ := hrel
    have HB := Lib.hid hBl
    have hse := hbe.size
    have d0 := (cellB hbe hbx).trans x0
    have HLA := Lib.hid (allP_len (t := t) (x := x) (N := N) (n := j) (by omega))
    clear hBl HB0 hbW hsW
    by_cases hjl : j < n
    · go_wp2_with fail
      obtain ⟨wo, rfl⟩ : ∃ wo : World, wo = wr := ⟨_, rfl⟩
      go_loopw [7, 5] (fun i o wi => ∃ m : Nat, m ≤ j ∧ i = .int .i64 m ∧ Bl relT 88 w.heap.size wi.heap.size wi o (allP t x N j ++ rowP t x N j m) ∧ Below w.heap.size w wi) (fun i _ _ => j - (intOf i).toNat)
      case atStart => exact ⟨0, by omega, rfl, by rw [show rowP t x N j 0 = [] by simp [rowP], List.append_nil]; exact HB.out, hbe⟩
      case round =>
        obtain ⟨m, hm, rfl, hBi, hbi⟩ := hrel
        have HBi := Lib.hid hBi
        have hsi := hbi.size
        have HLR := Lib.hid (rowP_len (t := t) (x := x) (N := N) (j := j) (m := m))
        clear hBi HB hbe hse d0
        by_cases hml : m < j
        · go_wp2_with fail
          generalize hWb : World.alloc wr _ = wb
          have hbb : Below wr.heap.size wr wb := hWb ▸ bA
          have hsb : wb.heap.size = wr.heap.size + 1 := by rw [← hWb]; simp
          have r0 : wb.cell? ⟨wr.heap.size, 0, none⟩ = some (.int .i64 2) := by rw [← hWb]; simp
          have r1 : wb.cell? ⟨wr.heap.size, 1, none⟩ = some (.slice none 0 0) := by rw [← hWb]; simp
          have m1 : wb.frozen? ⟨wr.heap.size, 1, none⟩ = false := by rw [← hWb]; simp
          clear hWb
          obtain ⟨wp, rfl⟩ : ∃ wp : World, wp = wr := ⟨_, rfl⟩
          go_loopw [9] (fun i wi => ∃ (q : Nat) (v : Value), q ≤ N ∧ i = .int .i64 q ∧ Bl intsT 54 (wp.heap.size + 1) wi.heap.size wi v (relL t.1 2 (leftB t x m j) q) ∧ wi.cell? ⟨wp.heap.size, 1, none⟩ = some v ∧ wi.cell? ⟨wp.heap.size, 0, none⟩ = some (.int .i64 2) ∧ wi.frozen? ⟨wp.heap.size, 1, none⟩ = false ∧ Below wp.heap.size wp wi ∧ wp.heap.size + 1 ≤ wi.heap.size) (fun i _ => N - (intOf i).toNat)
          case atStart => exact ⟨0, _, Nat.zero_le _, rfl, by rw [relL_zero]; simpa using Bl.nil, r1, r0, m1, hbb, by omega⟩
          case round =>
            obtain ⟨q, v, hq, rfl, hBv, z1, z0, zn, hbq, hsq⟩ := hrel
            have hlr := relL_len (s := t.1) (ar := 2) (p := leftB t x m j) (k := q)
            obtain ⟨av0, nv0, cv0, rfl⟩ := ex_slice (hBv.fr (by unfold capMax; omega))
            have HBv := Lib.hid hBv
            have hbw : Below w.heap.size w wr := bthen hbi hbq
            have e0 := (cellB hbw hbt).trans t0
            have e1 := (cellB hbw hbx).trans x1
            clear hBv r0 r1 m1
            by_cases hql : q < N
            · have hqi : (q : Int) < (N : Int) := by omega
              have HD2 := Lib.hid (digL_two hs.1 (show (q : Int) < t.1 * t.1 by omega))
              have hda : 0 ≤ (q : Int) / t.1 := Int.ediv_nonneg (by omega) (by omega)
              have hdb : (q : Int) / t.1 < t.1 := Int.ediv_lt_of_lt_mul (by omega) (by omega)
              have hdc : 0 ≤ (q : Int) % t.1 := Int.emod_nonneg _ (by omega)
              have hdd : (q : Int) % t.1 < t.1 := Int.emod_lt_of_pos _ (by omega)
              go_wp2_with fail
              go_quiet (fail)
              rename_i nq
              generalize hWq : wr.drewN nq = wq
              have hbdq : Below wr.heap.size wr wq := hWq ▸ bDN (Below.refl _ _)
              have hsq : wq.heap.size = wr.heap.size := by rw [← hWq]; rfl
              have hbwq : Below w.heap.size w wq := bthen hbw hbdq
              replace z1 := (cellB hbdq (by omega)).trans z1
              replace z0 := (cellB hbdq (by omega)).trans z0
              replace e0 := (cellB hbdq (by omega)).trans e0
              replace e1 := (cellB hbdq (by omega)).trans e1
              replace zn := (frozenB hbdq (by omega)).trans zn
              have hbq2 : Below wp.heap.size wp wq := hbq.trans (hbdq.mono (by omega))
              clear hWq
              go_wp2_with fail
              have hIA : I64 ((q : Int) / t.1) := I64.small (by omega) (by omega)
              have hIC : I64 ((q : Int) % t.1) := I64.small (by omega) (by omega)
              generalize hA : (q : Int) / t.1 = A at HD2 hda hdb hIA ⊢
              generalize hBm : (q : Int) % t.1 = C at HD2 hdc hdd hIC ⊢
              have HBz : Hid (Bl intsT 54 (wp.heap.size + 1) wq.heap.size wq _ (relL t.1 2 (leftB t x m j) q)) := (HBv.out.below hbdq (Nat.le_refl _)).mono (by omega)
              clear hA hBm HBv
              obtain ⟨wz, rfl⟩ : ∃ wz : World, wz = wq := ⟨_, rfl⟩
              go_loopw [13, 12] (fun i o wi => ∃ k : Nat, k ≤ x.2.length ∧ i = .int .i64 k ∧ o = .bool (leftK t x m j A C k) ∧ Quiet wz wi) (fun i _ _ => x.2.length - (intOf i).toNat)
              case atStart => exact ⟨0, Nat.zero_le _, rfl, by rw [leftK_zero], Quiet.refl _⟩
              case round =>
                obtain ⟨k, hk, rfl, rfl, hqk⟩ := hrel
                have hbk := hqk.below
                have f1 := (cellB hbk (by omega)).trans e1
                have HBk : Hid (Bl intsT 54 (wp.heap.size + 1) wr.heap.size wr _ (relL t.1 2 (leftB t x m j) q)) := (HBz.out.below hbk (Nat.le_refl _)).mono (by have := hbk.size; omega)
                have hzk := hbk.size
                replace z1 := (cellB hbk (by omega)).trans z1
                replace z0 := (cellB hbk (by omega)).trans z0
                replace zn := (frozenB hbk (by omega)).trans zn
                have hbq3 : Below wp.heap.size wp wr := hbq2.trans (hbk.mono (by omega))
                clear HBz e0 e1
                cases hc : leftK t x m j A C k
                · have HOUT : Hid (leftB t x m j (digL t.1 q 2) = false) := by unfold Hid; rw [HD2.out, ← leftK_all]; exact leftK_no hc
                  have HNO := Lib.hid (relL_no HOUT.out)
                  clear hc HOUT
                  rcases Nat.lt_or_ge k x.2.length with hkl | hkl
                  all_goals
                    go_wp2_with fail
                    go_roundw
                    case rel => exact ⟨q + 1, _, by omega, by go_num, by rw [← HNO.out]; exact HBk.out, z1, z0, zn, hbq3, by omega⟩
                    case measure => simp [intOf]; omega
                · by_cases hkl : k < x.2.length
                  · obtain ⟨xa, xo, rfl, hp⟩ := rd_elem HX.out hkl
                    have hbwk : Below w.heap.size w wr := bthen hbwq hbk
                    have HPE : Hid (opT.Pt wr (.pointer (some ⟨xa, xo + k * 2, none⟩)) x.2[k]) := Ty.Pt.below hp hbwk
                    have HKS := Lib.hid (leftK_succ hkl hc)
                    clear hp hc
                    go_wp2_with fail
                    refine (l05Tells_quiet _ (HTP.out.below hbwk) HPE.out HOK.out.1 (HOK.out.2.2.2 _ (List.getElem_mem hkl)) m j A C).mono ?_
                    rintro e w2 ⟨rfl, hq2⟩
                    go_wp2_with fail
                    go_roundw
                    case rel => exact ⟨k + 1, by omega, by go_num, by rw [HKS.out], hqk.then hq2⟩
                    case measure => simp [intOf]; omega
                  · obtain rfl : k = x.2.length := by omega
                    have HOUT : Hid (leftB t x m j (digL t.1 q 2) = true) := by unfold Hid; rw [HD2.out, ← leftK_all]; exact hc
                    have HYES := Lib.hid (relL_yes HOUT.out)
                    clear hc HOUT
                    go_wp2_with (refine wpList_push (E := intsT) _ rfl _ _ 49 54 rfl elInt64SS rfl (HBk.out.below (bAA (w := wr)) (Nat.le_refl _)) rfl (news1' (by simp)) ((fr_ints2 (base := wr.heap.size) hIA hIC rfl (Nat.le_refl _)).below bA) (by omega) (by decide) (by omega) (by first | (simp; done) | (simp; omega)) ?_; intro v5 w5 hB5 hg5 _; obtain ⟨a5, n5, c5, rfl⟩ := ex_slice (hB5.fr (by rw [List.length_append]; unfold capMax; simp only [List.length_singleton]; omega)); have hb5 : Below (wp.heap.size + 1) wr w5 := ((bAA (w := wr)).mono (by omega)).grown hg5 (by first | (simp; done) | (simp; omega)) (fun q hq => HBk.out.own hq); have i1 := (cellB hb5 (by omega)).trans z1; have i0 := (cellB hb5 (by omega)).trans z0; have i2 := (frozenB hb5 (by omega)).trans zn)
                    have hz5 := hb5.size
                    rw [← HD2.out, HYES.out] at hB5
                    have HB5 := Lib.hid hB5
                    clear hB5 hg5
                    go_wp2_with fail
                    go_roundw
                    case rel => exact ⟨q + 1, _, by omega, by go_num, by rw [size_set]; exact HB5.out.sameB (fun q hq1 hq2 => Below.heap_setCell _ _ _ _ (by simp; omega)), World.cell?_setCell_same _ _ _ i1, (World.cell?_setCell_other _ _ _ _ (by simp)).trans i0, (World.frozen?_setCell _ _ _ _).trans i2, (hbq3.trans (hb5.mono (by omega))).setCell (by simp) _, by rw [size_set]; omega⟩
                    case measure => simp [intOf]; omega
            · obtain rfl : q = N := by omega
              have HFO := Lib.hid (HBv.out.fr (by unfold capMax; omega))
              have hrel2 : relT.Fr (wp.heap.size + 1) wr [.int .i64 2, .slice av0 nv0 cv0] ((2 : Int), relL t.1 2 (leftB t x m j) q) := fr_cons (I64.small (by omega) (by omega)) HFO.out
              have HRL := Lib.hid hrel2
              have HBo : Hid (Bl relT 88 w.heap.size wp.heap.size wr _ (allP t x q j ++ rowP t x q j m)) := HBi.out.below hbq (Nat.le_refl _)
              have hrs : (rowP t x q j m) ++ [((2 : Int), relL t.1 2 (leftB t x m j) q)] = rowP t x q j (m + 1) := rowP_succ
              have HRS := Lib.hid hrs
              clear HBi HFO hrel2 hrs HBv
              go_wp2_with fail
              go_quiet (fail)
              rename_i nq
              generalize hWq : wr.drewN nq = wq
              have hbdq : Below wr.heap.size wr wq := hWq ▸ bDN (Below.refl _ _)
              have hsq2 := hbdq.size
              replace z1 := (cellB hbdq (by omega)).trans z1
              replace z0 := (cellB hbdq (by omega)).trans z0
              have hbq2 : Below wp.heap.size wp wq := hbq.trans (hbdq.mono (by omega))
              have HRLq := Lib.hid (HRL.out.below hbdq)
              have HBq : Hid (Bl relT 88 w.heap.size wp.heap.size wq _ (allP t x q j ++ rowP t x q j m)) := HBo.out.below hbdq (by omega)
              clear hWq HRL HBo
              go_wp2_with (refine wpList_push (E := relT) _ rfl _ _ 30 88 rfl elRelS rfl (HBq.out.below ((bA (w := wq)).mono (by omega)) (Nat.le_refl _)) rfl news2 ((HRLq.out.below bA).mono (by omega)) (by rw [List.length_append, HLR.out]; have := HLA.out; omega) (by decide) (by omega) (by first | (simp; done) | (simp; omega)) ?_; intro v5 w5 hB5 hg5 hown; have hb5 : Below w.heap.size wq w5 := ((bA (w := wq)).mono (by omega)).grown hg5 (by first | (simp; done) | (simp; omega)) (fun q hq => HBq.out.own hq))
              rw [List.append_assoc, HRS.out] at hB5
              have HB5 := Lib.hid hB5
              clear hB5 hg5
              have hbw5 : Below w.heap.size w w5 := (bthen hbi hbq2).trans hb5
              go_roundw
              case rel => exact ⟨m + 1, by omega, by go_num, HB5.out, hbw5⟩
              case measure => simp [intOf]; omega
        · obtain rfl : m = j := by omega
          go_wp2_with fail
          go_roundw
          case rel => exact ⟨m + 1, by omega, by omega, by go_num, by rw [← allP_succ]; exact HBi.out, hbi⟩
          case measure => simp [intOf]; omega
    · obtain rfl : j = n := by omega
      have HFO := Lib.hid (HB.out.fr (by have := HLA.out; unfold capMax; omega))
      obtain ⟨oa, on, oc, rfl⟩ := ex_slice HFO.out
      go_wp2_with fail
      go_ret
      exact ⟨_, rfl, by rw [HNN.out]; exact HFO.out, hbe⟩
noncomputable def fpV (t : Int × List (Int × List (List Int))) (x : Int × List (Int × List Int)) : List (Int × List (List Int)) := match tb (instOk t x) with
  | true => allP t x (t.1 ^ 2).toNat x.1.toNat
  | false => []
noncomputable def fpC (t : Int × List (Int × List (List Int))) (x : Int × List (Int × List Int)) : Int := match tb (instOk t x) with
  | true => 0
  | false => 1
theorem fp_no {t : Int × List (Int × List (List Int))} {x : Int × List (Int × List Int)} (h : tb (instOk t x) = false) : fpV t x = [] ∧ fpC t x = 1 := by simp [fpV, fpC, h]
theorem fp_yes {t : Int × List (Int × List (List Int))} {x : Int × List (Int × List Int)} (h : tb (instOk t x) = true) : fpV t x = allP t x (t.1 ^ 2).toNat x.1.toNat ∧ fpC t x = 0 := by simp [fpV, fpC, h]
theorem fp_cnt {t : Int × List (Int × List (List Int))} {x : Int × List (Int × List Int)} : cntRels (fpV t x) ≤ 1000000 := by
  cases h : tb (instOk t x)
  · rw [(fp_no h).1]; simp [cntRels, sumL]
  rw [(fp_yes h).1]
  obtain ⟨h1, h2, h3, h4⟩ := inst_bd h
  have hN : (t.1 ^ 2).toNat ≤ 16 := by
    have : t.1 * t.1 ≤ 4 * 4 := Int.mul_le_mul h2 h2 (by omega) (by omega)
    rw [Int.pow_succ, Int.pow_succ, Int.pow_zero, Int.one_mul]
    omega
  have hl := allP_len (t := t) (x := x) (N := (t.1 ^ 2).toNat) (n := x.1.toNat) (by omega)
  have hb : ∀ r ∈ allP t x (t.1 ^ 2).toNat x.1.toNat, cntRel1 r ≤ 33 := by
    intro r hr
    obtain ⟨j, -, hr⟩ := List.mem_flatMap.1 hr
    obtain ⟨i, -, rfl⟩ := List.mem_map.1 hr
    have h5 := sumL_bd (f := cntI) (c := 2) (xs := relL t.1 2 (leftB t x i j) (t.1 ^ 2).toNat) (fun l hl => by
      have hm : l ∈ (List.range (t.1 ^ 2).toNat).map fun i : Nat => digL t.1 i 2 := (List.mem_filter.1 hl).1
      obtain ⟨q, -, rfl⟩ := List.mem_map.1 hm
      rw [cntI, digL_len]
      omega)
    have h6 := relL_len (s := t.1) (ar := 2) (p := leftB t x i j) (k := (t.1 ^ 2).toNat)
    have h7 : cntRel1 ((2 : Int), relL t.1 2 (leftB t x i j) (t.1 ^ 2).toNat) = 1 + sumL cntI (relL t.1 2 (leftB t x i j) (t.1 ^ 2).toNat) := rfl
    rw [h7]
    omega
  have h8 := sumL_bd hb
  unfold cntRels
  omega
set_option maxHeartbeats 1600000 in
set_option maxRecDepth 100000 in
theorem FirstPairs_any (w : World) {cs cs' : Array Value} {t : Int × List (Int × List (List Int))} {x : Int × List (Int × List Int)} (h : tplT.Rd w cs.toList t) (h' : instT.Rd w cs'.toList x) :
    Calls Try.prog 15 #[.agg cs, .agg cs'] w (RetSC relsT w (fpV t x) (fpC t x)) := by
  have HT := Lib.hid h
  have HX := Lib.hid h'
  obtain ⟨v1, hv, hI, -⟩ := pair_ex h
  obtain rfl := agg_of hv
  obtain ⟨v2, hv', hI', -⟩ := pair_ex h'
  obtain rfl := agg_of hv'
  clear h hv h' hv'
  go_enter Try.func15, Try.ntmps15
  go_wp2_with fail
  generalize hW : World.alloc _ _ = W
  have hbW : Below w.heap.size w W := hW ▸ bAA
  have hsW : W.heap.size = w.heap.size + 2 := by rw [← hW]; simp
  have t0 : W.cell? ⟨w.heap.size, 0, none⟩ = some (.int .i64 t.1) := by rw [← hW]; simp [go_sem]
  have t1 : W.cell? ⟨w.heap.size, 1, none⟩ = some v1 := by rw [← hW]; simp [go_sem]
  have x0 : W.cell? ⟨w.heap.size + 1, 0, none⟩ = some (.int .i64 x.1) := by rw [← hW]; simp [go_sem]
  have x1 : W.cell? ⟨w.heap.size + 1, 1, none⟩ = some v2 := by rw [← hW]; simp [go_sem]
  clear hW
  refine (ValidInstance_any _ (HT.out.below hbW) (HX.out.below hbW)).mono ?_
  rintro e w1 ⟨rfl, hb1⟩
  have hB1 := bthen hbW hb1
  replace t0 := (cellB hb1 (by omega)).trans t0
  replace t1 := (cellB hb1 (by omega)).trans t1
  replace x0 := (cellB hb1 (by omega)).trans x0
  replace x1 := (cellB hb1 (by omega)).trans x1
  cases hok : tb (instOk t x)
  · have HR := Lib.hid (fp_no hok)
    clear hok
    go_wp2_with fail
    go_ret2
    exact ⟨.slice none 0 0, by rw [HR.out.2]; rfl, by rw [HR.out.1]; exact fr_nil, hB1⟩
  · have HR := Lib.hid (fp_yes hok)
    have HOK := Lib.hid (tb_iff.1 hok)
    have h2 : t.1 ^ 2 = ((t.1 ^ 2).toNat : Int) := by
      have := pow_nn (s := t.1) (by have := (tb_iff.1 hok).1.1.1; omega) 2
      omega
    have H2 := Lib.hid h2
    clear hok h2
    go_wp2_with fail
    refine (firstPairs_any _ (cs := #[.int .i64 t.1, v1]) (cs' := #[.int .i64 x.1, v2]) (HT.out.below hB1) (HX.out.below hB1) HOK.out _ H2.out).mono ?_
    rintro e w2 ⟨u, rfl, hf, hb2⟩
    have HF := Lib.hid hf
    clear hf
    go_wp2_with fail
    go_ret2
    exact ⟨u, by rw [HR.out.2]; rfl, by rw [HR.out.1]; exact HF.out.mono hB1.size, bthen hB1 hb2⟩
set_option maxHeartbeats 1600000 in
set_option maxRecDepth 100000 in
theorem specFirstPairs_any (w : World) {cs cs' : Array Value} {t : Int × List (Int × List (List Int))} {x : Int × List (Int × List Int)} (h : tplT.Rd w cs.toList t) (h' : instT.Rd w cs'.toList x) :
    Calls Try.prog 12 #[.agg cs, .agg cs'] w (RetSC relsT w (fpV t x) (fpC t x)) := by
  have p0 : tplT.Pt ((w.alloc (.cells cs 34)).alloc (.cells cs' 38)) (.pointer (some ⟨w.heap.size, 0, none⟩)) t := (pt_box h).below bA
  have p1 : instT.Pt ((w.alloc (.cells cs 34)).alloc (.cells cs' 38)) (.pointer (some ⟨w.heap.size + 1, 0, none⟩)) x := by
    simpa using pt_box (T := 38) (h'.below (bA (o := .cells cs 34)))
  obtain ⟨v1, hv, hI, -⟩ := pair_ex h
  obtain rfl := agg_of hv
  obtain ⟨v2, hv', hI', -⟩ := pair_ex h'
  obtain rfl := agg_of hv'
  clear h hv h' hv'
  go_enter Try.func12, Try.ntmps12
  go_wp2_with fail
  generalize hW : World.alloc _ _ = W at p0 p1 ⊢
  have hbW : Below w.heap.size w W := hW ▸ bAA
  clear hW
  refine (l05Ok_quiet _ p0 p1).mono ?_
  rintro e w1 ⟨rfl, hq1⟩
  have hb1 := hq1.below
  have hB1 := bthen hbW hb1
  clear hq1
  cases hok : tb (instOk t x)
  · have HR := Lib.hid (fp_no hok)
    clear hok
    go_wp2_with fail
    go_ret2
    exact ⟨.slice (some ⟨w1.heap.size, 0, none⟩) 0 0, by rw [HR.out.2]; rfl, by rw [HR.out.1]; exact fr_nil, hB1.alloc hB1.size _⟩
  · have HR := Lib.hid (fp_yes hok)
    have HOK := Lib.hid (tb_iff.1 hok)
    have h2 : t.1 ^ 2 = ((t.1 ^ 2).toNat : Int) := by
      have := pow_nn (s := t.1) (by have := (tb_iff.1 hok).1.1.1; omega) 2
      omega
    have H2 := Lib.hid h2
    clear hok h2
    go_wp2_with fail
    refine (l05First_any _ (p0.below hb1) (p1.below hb1) HOK.out _ H2.out).mono ?_
    rintro e w2 ⟨u, rfl, hf, hb2⟩
    have HF := Lib.hid hf
    clear hf
    go_wp2_with fail
    go_ret2
    exact ⟨u, by rw [HR.out.2]; rfl, by rw [HR.out.1]; exact HF.out.mono hB1.size, bthen hB1 hb2⟩
end Go.Proofs.Ytbpjejhjlmpcjaa
