/-
Contracts: whether a formula holds at a tuple, and where; both sides.
Contracts: powers, indices of lists, lists of indices.
Contracts: the list of an index.
Contracts: the relation of all tuples for which something is so.
Contracts: the value of a formula, both sides.
Plain mathematics of the search for operations: the program's recursion and the reference's steps answer alike. No program is named here.
Contracts: valid operations.
Contracts: the tuple that an operation makes of tuples.
Contracts: the tuple that an operation makes of tuples, the reference's.
Rows of truth values; rows of slices that lie in older memory; indices of lists are one to one.
Plain: a relation that has all tuples; what an operation makes of tuples of a relation; whether it keeps the relation.
Contracts: the set of a relation's tuples, the reference's.
Contracts: the set of a relation's tuples, filled.
Contracts: whether an operation breaks a relation, the reference's.
Plain mathematics: the lists of tuples that a finder of operations looks at; which are due at each place; whether they go.
Memory of a search for operations: blocks that may be written, as a property; rows whose data lie in such blocks; a row cut short; rows of truth values; pointers to sets. No program is named here.
Contracts: a finder's data; whether what is due goes.
-/
import Derived.Test.YtnhdohednekhjaaGreatDoorQAD
import Derived.Test.YtnhdohednekhjaaGreatDoorQAB
import Derived.Test.YtnhdohednekhjaaGreatDoorQAA
import Derived.Laws.OwnMore
import Derived.Test.YtnhdohednekhjaaGreatDoorQAC
import Derived.Deep.RegionHeldLaw
namespace Go.Proofs.YtnhdohednekhjaaGreatDoor
open Go.RowKit Go.Sort
set_option maxHeartbeats 3200000 in
set_option maxRecDepth 100000 in
theorem l03Witness_any (w : World) {t : Int × List (Int × List (List Int))} {f : Int × Int × List (Int × List Int)} (hok : frmOk t f) {n s : Nat} (hn : f.2.1 = n) (hs : t.1 = s) {vt vf v : Value} {tu : List Int} (ht : tplT.Pt w vt t) (hf : frmT.Pt w vf f) (hv : intsT.Rd w [v] tu) (hl : tu.length ≤ n) :
  Calls Tryz.prog 100 #[vt, vf, v] w fun e w' => ∃ u, e = .returned (.tuple #[u, .bool (headB (witL s (goesB t (duesL f.2.2 n)) n tu))]) ∧ intsT.Fr w.heap.size w' [u] (headV (witL s (goesB t (duesL f.2.2 n)) n tu)) ∧ Below w.heap.size w w' := by
 have HOK := Lib.hid hok
 have HTP := Lib.hid ht
 have HFP := Lib.hid hf
 have HV := Lib.hid hv
 have hn1 := hok.2.1
 have hn10 : n ≤ 10 := by unfold frameOk at hn1; omega
 have HN := Lib.hid hn
 have HS := Lib.hid hs
 obtain ⟨va, vc, rfl⟩ := rd_slice hv
 have hvc : tu.length ≤ vc := by obtain ⟨_, _, he, h, _⟩ := ints_ex hv; simp at he; omega
 clear hok ht hf hv hn1 hn hs
 go_enter Tryz.func100, Tryz.ntmps100
 go_wp2_with fail
 go_loopw [8] (fun i wr => ∃ k : Nat, k ≤ tu.length ∧ i = .int .i64 ((k : Int) + 1) ∧ preTo (goesB t (duesL f.2.2 n)) tu k ∧ Below w.heap.size w wr) (fun i _ => tu.length + 1 - (intOf i).toNat)
 case atStart => exact ⟨0, Nat.zero_le _, rfl, preTo_zero, Below.refl _ _⟩
 case round =>
  obtain ⟨k, hk, rfl, hpre, hbe⟩ := hrel
  have HP := Lib.hid hpre
  have hz := hbe.size
  clear hpre
  by_cases hkl : k < tu.length
  ·have hk1 : k + 1 ≤ vc := by omega
   have hNN := HN.out
   have hle : (k : Int) + 1 ≤ (tu.length : Int) := by omega
   go_wp2_with fail
   refine (l03Sure_any _ (HTP.out.below hbe) (HFP.out.below hbe) (rd_prefix (HV.out.below hbe) (show k + 1 ≤ tu.length by omega)) HOK.out (k := k) (take_len (show k + 1 ≤ tu.length by omega)) (by omega)).mono ?_
   rintro e w1 ⟨rfl, hb1⟩
   rw [show f.2.1.toNat = n by omega]
   have hbw1 := bthen hbe hb1
   clear hNN
   cases hg : goesB t (duesL f.2.2 n) (tu.take (k + 1))
   ·have HW := Lib.hid (witL_no (s := s) (n := n) hkl hg)
    clear hg
    go_wp2_with fail
    go_ret2
    exact ⟨.slice (some ⟨w1.heap.size, 0, none⟩) 0 0, by rw [HW.out]; rfl, by rw [HW.out]; exact fr_nil, hbw1.alloc hbw1.size _⟩
   ·have HP1 := Lib.hid (preTo_succ HP.out hg)
    clear hg
    go_wp2_with fail
    go_roundw
    case rel => exact ⟨k + 1, by omega, by go_num, HP1.out, hbw1⟩
    case measure => simp [intOf]; omega
  ·obtain rfl : k = tu.length := by omega
   have HW := Lib.hid (witL_yes (s := s) (n := n) HP.out)
   go_wp2_with fail
   refine (l00Own_any _ (HV.out.below hbe) (by omega)).mono ?_
   rintro e w2 ⟨u2, rfl, hB2, hb2⟩
   have hf2 := hB2.fr (by unfold capMax; omega)
   obtain ⟨a2, n2, c2, rfl⟩ := ex_slice hf2
   have HF2 := Lib.hid hf2
   have hz2 := hb2.size
   have hbw2 := bthen hbe hb2
   clear hB2 hf2
   go_wp2_with fail
   refine (l03Search_any HOK.out HN.out HS.out w.heap.size _ _ (n - tu.length) w2 _ tu (by omega) (by omega) (HTP.out.below hbw2) (HFP.out.below hbw2) (HF2.out.mono hz)).mono ?_
   rintro e w3 ⟨u3, rfl, hf3, hb3⟩
   obtain ⟨a3, n3, c3, rfl⟩ := ex_slice hf3
   rw [← HW.out] at hf3 ⊢
   have HF3 := Lib.hid hf3
   clear hf3
   go_wp2_with fail
   go_ret2
   exact ⟨.slice a3 n3 c3, rfl, HF3.out, bthen hbw2 hb3⟩
/-- the code of a formula and a tuple -/
noncomputable def atC (t : Int × List (Int × List (List Int))) (f : Int × Int × List (Int × List Int)) (tu : List Int) : Int := match tb (frmOk t f), tb (rowOk t.1 f.1 tu) with
 | false, _ => 1
 | true, false => 2
 | true, true => 0
noncomputable def witX (t : Int × List (Int × List (List Int))) (f : Int × Int × List (Int × List Int)) (tu : List Int) : List (List Int) := witL t.1.toNat (goesB t (duesL f.2.2 f.2.1.toNat)) f.2.1.toNat tu
noncomputable def waV (t : Int × List (Int × List (List Int))) (f : Int × Int × List (Int × List Int)) (tu : List Int) : List Int := match tb (frmOk t f), tb (rowOk t.1 f.1 tu) with
 | true, true => headV (witX t f tu)
 | _, _ => []
noncomputable def waC (t : Int × List (Int × List (List Int))) (f : Int × Int × List (Int × List Int)) (tu : List Int) : Int := match tb (frmOk t f), tb (rowOk t.1 f.1 tu), headB (witX t f tu) with
 | false, _, _ => 1
 | true, false, _ => 2
 | true, true, false => 6
 | true, true, true => 0
noncomputable def haB (t : Int × List (Int × List (List Int))) (f : Int × Int × List (Int × List Int)) (tu : List Int) : Bool := match tb (frmOk t f), tb (rowOk t.1 f.1 tu) with
 | true, true => headB (witX t f tu)
 | _, _ => false
section
variable {t : Int × List (Int × List (List Int))} {f : Int × Int × List (Int × List Int)} {tu : List Int}
theorem wa_1 (h : tb (frmOk t f) = false) : atC t f tu = 1 ∧ waV t f tu = [] ∧ waC t f tu = 1 ∧ haB t f tu = false := by simp [atC, waV, waC, haB, h]
theorem wa_2 (h : tb (frmOk t f) = true) (h2 : tb (rowOk t.1 f.1 tu) = false) : atC t f tu = 2 ∧ waV t f tu = [] ∧ waC t f tu = 2 ∧ haB t f tu = false := by simp [atC, waV, waC, haB, h, h2]
theorem wa_6 (h : tb (frmOk t f) = true) (h2 : tb (rowOk t.1 f.1 tu) = true) (h3 : headB (witX t f tu) = false) : atC t f tu = 0 ∧ waV t f tu = [] ∧ waC t f tu = 6 ∧ haB t f tu = false := by
 simp only [atC, waV, waC, haB, h, h2, h3, and_true, true_and]
 rw [head_no h3]
 rfl
theorem wa_0 (h : tb (frmOk t f) = true) (h2 : tb (rowOk t.1 f.1 tu) = true) (h3 : headB (witX t f tu) = true) : atC t f tu = 0 ∧ waV t f tu = headV (witX t f tu) ∧ waC t f tu = 0 ∧ haB t f tu = true := by simp only [atC, waV, waC, haB, h, h2, h3]; exact ⟨trivial, trivial, trivial, trivial⟩
theorem at_ok (h : tb (frmOk t f) = true) (h2 : tb (rowOk t.1 f.1 tu) = true) : atC t f tu = 0 := by simp only [atC, h, h2]
theorem frm_nums (h : frmOk t f) : 1 ≤ t.1 ∧ t.1 ≤ 4 ∧ 1 ≤ f.1 ∧ f.1 ≤ 4 ∧ f.1 ≤ f.2.1 ∧ f.2.1 ≤ 8 ∧ f.2.2.length ≤ 16 := by
 have h1 := h.1.1
 have h2 := h.2.1
 unfold sizeOk at h1
 unfold frameOk at h2
 omega
end
set_option maxHeartbeats 1600000 in
theorem l03At_quiet (w : World) {vt vf v : Value} {t : Int × List (Int × List (List Int))} {f : Int × Int × List (Int × List Int)} {tu : List Int} (ht : tplT.Pt w vt t) (hfp : frmT.Pt w vf f) (hvr : intsT.Rd w [v] tu) :
  Calls Tryz.prog 99 #[vt, vf, v] w fun e w' => e = .returned (.int .i64 (atC t f tu)) ∧ Quiet w w' := by
 have htp := ht
 have hf0 := hfp
 obtain ⟨b, o, ad, cap, rfl, hb, -, -, c0, -, -, -⟩ := pt_trip hfp
 obtain ⟨b2, o2, _, _, rfl, hb2, -, f0, -, -⟩ := pt_pair ht
 obtain ⟨av, capv, rfl⟩ := rd_slice hvr
 clear ht hfp
 cases hi : tb (frmOk t f)
 ·go_enter Tryz.func99, Tryz.ntmps99
  go_wp2_with fail
  refine (l03Ok_quiet _ htp hf0).mono ?_
  rintro e w1 ⟨rfl, hq1⟩
  rw [hi]
  go_wp2_with fail
  go_ret
  exact ⟨ret_int (wa_1 hi).1.symm, hq1⟩
 have hT := frm_nums (tb_iff.1 hi)
 have HH : Hid (0 ≤ t.1 ∧ t.1 ≤ 1000000000000) := ⟨by omega, by omega⟩
 clear hT
 cases hr : tb (rowOk t.1 f.1 tu)
 all_goals
  go_enter Tryz.func99, Tryz.ntmps99
  go_wp2_with fail
  refine (l03Ok_quiet _ htp hf0).mono ?_
  rintro e wr ⟨rfl, hq1⟩
  rw [hi]
  have d0 := (hq1.below.cell hb).trans c0
  have d1 := (hq1.below.cell hb2).trans f0
  have hv1 := hvr.below hq1.below
  have cT : ∀ n, Calls Tryz.prog 121 #[.int .i64 t.1, .int .i64 f.1, .slice av tu.length capv] (wr.drewN n) fun e w'' => e = .returned (.bool (tb (rowOk t.1 f.1 tu))) ∧ ∃ m, w'' = wr.drewN m := fun n => pure_drawn (l01Tuple_any _ _ _ (hv1.below (Quiet.drewN wr n).below) HH.out.1 HH.out.2)
  rw [hr] at cT
  clear c0 f0
  go_wp2_with fail
  go_quiet (exact cT _)
  go_wp2_with fail
  go_ret
 ·exact ⟨ret_int (wa_2 hi hr).1.symm, hq1.then (by first | exact Quiet.refl _ | exact Quiet.drewN _ _ | exact (Quiet.drewN _ _).then (Quiet.drewN _ _) | exact ((Quiet.drewN _ _).then (Quiet.drewN _ _)).then (Quiet.drewN _ _))⟩
 ·exact ⟨ret_int (at_ok hi hr).symm, hq1.then (by first | exact Quiet.refl _ | exact Quiet.drewN _ _ | exact (Quiet.drewN _ _).then (Quiet.drewN _ _) | exact ((Quiet.drewN _ _).then (Quiet.drewN _ _)).then (Quiet.drewN _ _))⟩
set_option maxHeartbeats 3200000 in
set_option maxRecDepth 100000 in
theorem WitnessAt_any (w : World) {cs cf : Array Value} {v : Value} {t : Int × List (Int × List (List Int))} {f : Int × Int × List (Int × List Int)} {tu : List Int} (h : tplT.Rd w cs.toList t) (hf : frmT.Rd w cf.toList f) (hv : intsT.Rd w [v] tu) :
  Calls Tryz.prog 30 #[.agg cs, .agg cf, v] w (RetSC intsT w (waV t f tu) (waC t f tu)) := by
 have HT := Lib.hid h
 have HF := Lib.hid hf
 have HV := Lib.hid hv
 obtain ⟨v1, hv1, hI, -⟩ := pair_ex h
 obtain rfl := agg_of hv1
 obtain ⟨v2, hv2, hIf, hIf2, hfx⟩ := trip_ex hf
 obtain rfl := agg_of hv2
 obtain ⟨fa, fn, fc, rfl⟩ := rd_sl hfx
 obtain ⟨va, vc, rfl⟩ := rd_slice hv
 have HFX := Lib.hid hfx
 clear h hv1 hf hv2 hfx hv
 go_enter Tryz.func30, Tryz.ntmps30
 go_wp2_with fail
 generalize hW : World.alloc _ _ = W
 have hbW : Below w.heap.size w W := hW ▸ bAA
 have hsW : w.heap.size + 2 ≤ W.heap.size := by rw [← hW]; simp
 have t0 : W.cell? ⟨w.heap.size, 0, none⟩ = some (.int .i64 t.1) := by rw [← hW]; simp [go_sem]
 have t1 : W.cell? ⟨w.heap.size, 1, none⟩ = some v1 := by rw [← hW]; simp [go_sem]
 have f0 : W.cell? ⟨w.heap.size + 1, 0, none⟩ = some (.int .i64 f.1) := by rw [← hW]; simp [go_sem]
 have f1 : W.cell? ⟨w.heap.size + 1, 1, none⟩ = some (.int .i64 f.2.1) := by rw [← hW]; simp [go_sem]
 have f2 : W.cell? ⟨w.heap.size + 1, 2, none⟩ = some (.slice fa fn fc) := by rw [← hW]; simp [go_sem]
 clear hW
 refine (ValidFormula_any _ (HT.out.below hbW) (HF.out.below hbW)).mono ?_
 rintro e w1 ⟨rfl, hb1⟩
 have hB1 := bthen hbW hb1
 have hz1 := hb1.size
 replace t0 := (cellB hb1 (by omega)).trans t0
 replace t1 := (cellB hb1 (by omega)).trans t1
 replace f0 := (cellB hb1 (by omega)).trans f0
 replace f1 := (cellB hb1 (by omega)).trans f1
 replace f2 := (cellB hb1 (by omega)).trans f2
 cases hok : tb (frmOk t f)
 ·have HR := Lib.hid (wa_1 (tu := tu) hok)
  clear hok
  go_wp2_with fail
  go_ret2
  exact ⟨.slice none 0 0, by rw [HR.out.2.2.1]; rfl, by rw [HR.out.2.1]; exact fr_nil, hB1⟩
 have hnum := frm_nums (tb_iff.1 hok)
 have HOK := Lib.hid (tb_iff.1 hok)
 go_wp2_with fail
 refine (areValues_any _ (HV.out.below hB1) _ _ (by omega) (by omega)).mono ?_
 rintro e w2 ⟨rfl, hb2⟩
 have hB2 := bthen hB1 hb2
 have hz2 := hb2.size
 replace t0 := (cellB hb2 (by omega)).trans t0
 replace t1 := (cellB hb2 (by omega)).trans t1
 replace f0 := (cellB hb2 (by omega)).trans f0
 replace f1 := (cellB hb2 (by omega)).trans f1
 replace f2 := (cellB hb2 (by omega)).trans f2
 cases hr : tb (rowOk t.1 f.1 tu)
 ·have HR := Lib.hid (wa_2 hok hr)
  clear hok hr
  go_wp2_with fail
  go_ret2
  exact ⟨.slice none 0 0, by rw [HR.out.2.2.1]; rfl, by rw [HR.out.2.1]; exact fr_nil, hB2⟩
 have HRN := Lib.hid (fun h => wa_6 hok hr h)
 have HRY := Lib.hid (fun h => wa_0 hok hr h)
 have hrl := (tb_iff.1 hr).1
 obtain ⟨n, hn⟩ : ∃ n : Nat, f.2.1 = n := ⟨f.2.1.toNat, by omega⟩
 obtain ⟨s, hs⟩ : ∃ s : Nat, t.1 = s := ⟨t.1.toNat, by omega⟩
 have HWX : Hid (witL s (goesB t (duesL f.2.2 n)) n tu = witX t f tu) := by
  unfold Hid witX
  rw [show f.2.1.toNat = n by omega, show t.1.toNat = s by omega]
 have HNM := Lib.hid hn
 have HSM := Lib.hid hs
 have hn8 : n ≤ 8 := by omega
 have htl : tu.length ≤ n := by omega
 have hfl : f.2.2.length ≤ 16 := hnum.2.2.2.2.2.2
 rw [hn] at f1
 clear hok hr hnum hrl hn hs
 go_wp2_with fail
 refine (solverOf_any (ct := #[.int .i64 t.1, v1]) _ ((HT.out.below hB2).P) (n := n) (by omega) ((HFX.out.below hB2).P) (by omega) (fun a ha => by
  have h1 := HOK.out.2.2 a ha
  have h2 := atom_len HOK.out.1 h1
  exact ⟨h2.1, fun p hp => by have := h1.2.2 p hp; have := HNM.out; omega⟩)).mono ?_
 rintro e w3 ⟨bs, rfl, hsv, hb3⟩
 have hB3 := bthen hB2 hb3
 have HSV := Lib.hid hsv
 have HDU : Hid (dueOk t n (duesL f.2.2 n)) := duesL_ok (fun a ha => by have := HOK.out.2.2 a ha; rwa [HNM.out] at this)
 clear hsv
 go_wp2_with fail
 refine (first_any (n := n) (s := s) w3 HOK.out.1 HSM.out (by omega) duesL_len HDU.out HSV.out (HV.out.below hB3) htl).mono ?_
 rintro e w4 ⟨u, rfl, hf4, hb4⟩
 rw [HWX.out] at hf4 ⊢
 obtain ⟨ua, un, uc, rfl⟩ := ex_slice hf4
 have HF4 := Lib.hid hf4
 have hz3 := hB3.size
 clear hf4
 cases hh : headB (witX t f tu)
 ·have HR := Lib.hid (HRN.out hh)
  clear hh
  go_wp2_with fail
  go_ret2
  exact ⟨.slice none 0 0, by rw [HR.out.2.2.1]; rfl, by rw [HR.out.2.1]; exact fr_nil, bthen hB3 hb4⟩
 ·have HR := Lib.hid (HRY.out hh)
  clear hh
  go_wp2_with fail
  go_ret2
  exact ⟨.slice ua un uc, by rw [HR.out.2.2.1]; rfl, by rw [HR.out.2.1]; exact HF4.out.mono hz3, bthen hB3 hb4⟩
set_option maxHeartbeats 3200000 in
set_option maxRecDepth 100000 in
theorem HoldsAt_any (w : World) {cs cf : Array Value} {v : Value} {t : Int × List (Int × List (List Int))} {f : Int × Int × List (Int × List Int)} {tu : List Int} (h : tplT.Rd w cs.toList t) (hf : frmT.Rd w cf.toList f) (hv : intsT.Rd w [v] tu) :
  Calls Tryz.prog 29 #[.agg cs, .agg cf, v] w fun e w' => e = .returned (.tuple #[.bool (haB t f tu), .int .i64 (atC t f tu)]) ∧ Below w.heap.size w w' := by
 have HT := Lib.hid h
 have HF := Lib.hid hf
 have HV := Lib.hid hv
 obtain ⟨v1, hv1, hI, -⟩ := pair_ex h
 obtain rfl := agg_of hv1
 obtain ⟨v2, hv2, hIf, hIf2, -⟩ := trip_ex hf
 obtain rfl := agg_of hv2
 obtain ⟨va, vc, rfl⟩ := rd_slice hv
 clear h hv1 hf hv2 hv
 go_enter Tryz.func29, Tryz.ntmps29
 go_wp2_with fail
 generalize hW : World.alloc _ _ = W
 have hbW : Below w.heap.size w W := hW ▸ bAA
 clear hW
 refine (WitnessAt_any _ (cs := #[.int .i64 t.1, v1]) (cf := #[.int .i64 f.1, .int .i64 f.2.1, v2]) (HT.out.below hbW) (HF.out.below hbW) (HV.out.below hbW)).mono ?_
 rintro e w1 ⟨u, rfl, hf1, hb1⟩
 obtain ⟨ua, un, uc, rfl⟩ := ex_slice hf1
 have hB1 := bthen hbW hb1
 clear hf1
 cases hok : tb (frmOk t f)
 ·have HR := Lib.hid (wa_1 (tu := tu) hok)
  rw [HR.out.2.2.1]
  clear hok
  go_wp2_with fail
  go_ret2
  exact ⟨by rw [HR.out.1, HR.out.2.2.2]; rfl, hB1⟩
 cases hr : tb (rowOk t.1 f.1 tu)
 ·have HR := Lib.hid (wa_2 hok hr)
  rw [HR.out.2.2.1]
  clear hok hr
  go_wp2_with fail
  go_ret2
  exact ⟨by rw [HR.out.1, HR.out.2.2.2]; rfl, hB1⟩
 cases hh : headB (witX t f tu)
 ·have HR := Lib.hid (wa_6 hok hr hh)
  rw [HR.out.2.2.1]
  clear hok hr hh
  go_wp2_with fail
  go_ret2
  exact ⟨by rw [HR.out.1, HR.out.2.2.2]; rfl, hB1⟩
 ·have HR := Lib.hid (wa_0 hok hr hh)
  rw [HR.out.2.2.1]
  clear hok hr hh
  go_wp2_with fail
  go_ret2
  exact ⟨by rw [HR.out.1, HR.out.2.2.2]; rfl, hB1⟩
set_option maxHeartbeats 3200000 in
set_option maxRecDepth 100000 in
theorem specHoldsAt_any (w : World) {cs cf : Array Value} {v : Value} {t : Int × List (Int × List (List Int))} {f : Int × Int × List (Int × List Int)} {tu : List Int} (h : tplT.Rd w cs.toList t) (hf : frmT.Rd w cf.toList f) (hv : intsT.Rd w [v] tu) :
  Calls Tryz.prog 27 #[.agg cs, .agg cf, v] w fun e w' => e = .returned (.tuple #[.bool (haB t f tu), .int .i64 (atC t f tu)]) ∧ Below w.heap.size w w' := by
 have p0 : tplT.Pt ((w.alloc (.cells cs 27)).alloc (.cells cf 31)) (.pointer (some ⟨w.heap.size, 0, none⟩)) t := (pt_box h).below bA
 have p1 : frmT.Pt ((w.alloc (.cells cs 27)).alloc (.cells cf 31)) (.pointer (some ⟨w.heap.size + 1, 0, none⟩)) f := by
  simpa using pt_box (T := 31) (hf.below (bA (o := .cells cs 27)))
 have HV := Lib.hid hv
 obtain ⟨v1, hv1, hI, -⟩ := pair_ex h
 obtain rfl := agg_of hv1
 obtain ⟨v2, hv2, hIf, hIf2, -⟩ := trip_ex hf
 obtain rfl := agg_of hv2
 obtain ⟨va, vc, rfl⟩ := rd_slice hv
 clear h hv1 hf hv2 hv
 go_enter Tryz.func27, Tryz.ntmps27
 go_wp2_with fail
 generalize hW : World.alloc _ _ = W at p0 p1 ⊢
 have hbW : Below w.heap.size w W := hW ▸ bAA
 clear hW
 refine (l03At_quiet _ p0 p1 (HV.out.below hbW)).mono ?_
 rintro e w1 ⟨rfl, hq1⟩
 have hb1 := hq1.below
 have hB1 := bthen hbW hb1
 clear hq1
 cases hok : tb (frmOk t f)
 ·have HR := Lib.hid (wa_1 (tu := tu) hok)
  rw [HR.out.1]
  clear hok
  go_wp2_with fail
  go_ret2
  exact ⟨by rw [HR.out.1, HR.out.2.2.2]; rfl, hB1⟩
 cases hr : tb (rowOk t.1 f.1 tu)
 ·have HR := Lib.hid (wa_2 hok hr)
  rw [HR.out.1]
  clear hok hr
  go_wp2_with fail
  go_ret2
  exact ⟨by rw [HR.out.1, HR.out.2.2.2]; rfl, hB1⟩
 have HHB : Hid (haB t f tu = headB (witX t f tu)) := by
  unfold Hid
  simp only [haB, hok, hr]
 have HAT := Lib.hid (at_ok hok hr)
 have hrl := (tb_iff.1 hr).1
 have hnum := frm_nums (tb_iff.1 hok)
 have HOK := Lib.hid (tb_iff.1 hok)
 have htl : tu.length ≤ f.2.1.toNat := by omega
 have HNM : Hid (f.2.1 = (f.2.1.toNat : Int)) := by unfold Hid; omega
 have HSM : Hid (t.1 = (t.1.toNat : Int)) := by unfold Hid; omega
 rw [at_ok hok hr]
 clear hok hr hnum hrl
 go_wp2_with fail
 refine (l03Witness_any _ HOK.out HNM.out HSM.out (p0.below hb1) (p1.below hb1) (HV.out.below hB1) htl).mono ?_
 rintro e w2 ⟨u, rfl, hf2, hb2⟩
 rw [show witL t.1.toNat (goesB t (duesL f.2.2 f.2.1.toNat)) f.2.1.toNat tu = witX t f tu from rfl]
 obtain ⟨ua, un, uc, rfl⟩ := ex_slice hf2
 have hB2 := bthen hB1 hb2
 clear hf2
 go_wp2_with fail
 go_ret2
 exact ⟨by rw [HHB.out, HAT.out]; rfl, hB2⟩
end Go.Proofs.YtnhdohednekhjaaGreatDoor
namespace Go.Proofs.YtnhdohednekhjaaGreatDoor
open Go.RowKit Go.Sort
theorem wrap64_id {n : Int} (h0 : -1000000000000000000 ≤ n) (h1 : n ≤ 1000000000000000000) : wrap64 n = n := by unfold wrap64; omega
theorem pow_nn {s : Int} (h : 0 ≤ s) : ∀ k : Nat, 0 ≤ s ^ k
 | 0 => by rw [Int.pow_zero]; decide
 | k + 1 => by rw [Int.pow_succ]; exact Int.mul_nonneg (pow_nn h k) h
theorem pow_mono {s : Int} (h : 0 ≤ s) (h1 : s ≤ 1000) : ∀ k : Nat, s ^ k ≤ 1000 ^ k
 | 0 => by rw [Int.pow_zero, Int.pow_zero]; exact Int.le_refl _
 | k + 1 => by
  rw [Int.pow_succ, Int.pow_succ]
  exact Int.mul_le_mul (pow_mono h h1 k) h1 h (pow_nn (by decide) k)
theorem pow_le {s : Int} (h : 0 ≤ s) (h1 : s ≤ 1000) {k : Nat} (hk : k ≤ 5) : s ^ k ≤ 1000000000000000 := by
 refine Int.le_trans (pow_mono h h1 k) ?_
 rcases (show k = 0 ∨ k = 1 ∨ k = 2 ∨ k = 3 ∨ k = 4 ∨ k = 5 by omega) with rfl | rfl | rfl | rfl | rfl | rfl <;> decide
theorem pow_mono' {s c : Int} (h : 0 ≤ s) (h1 : s ≤ c) : ∀ k : Nat, s ^ k ≤ c ^ k
 | 0 => by rw [Int.pow_zero, Int.pow_zero]; exact Int.le_refl _
 | k + 1 => by
  rw [Int.pow_succ, Int.pow_succ]
  exact Int.mul_le_mul (pow_mono' h h1 k) h1 h (pow_nn (by omega) k)
set_option maxHeartbeats 800000 in
theorem power_any (w : World) (s m : Int) (hs : 0 ≤ s) (hs1 : s ≤ 1000) (hm : m ≤ 5) :
  Calls Tryz.prog 117 #[.int .i64 s, .int .i64 m] w fun e w' => e = .returned (.int .i64 (s ^ m.toNat)) ∧ w = w' := by
 go_enter Tryz.func117, Tryz.ntmps117
 go_wp2_with fail
 go_loop [7, 5] (fun i o => ∃ k : Nat, k ≤ m.toNat ∧ i = .int .i64 k ∧ o = .int .i64 (s ^ k)) (fun i _ => m.toNat - (intOf i).toNat)
 case atStart => exact ⟨0, Nat.zero_le _, rfl, by simp⟩
 case round =>
  obtain ⟨k, hk, rfl, rfl⟩ := hrel
  by_cases hkl : (k : Int) < m
  ·have h1 := pow_nn hs (k + 1)
   have h2 := pow_le hs hs1 (k := k + 1) (by omega)
   have HM : Hid (wrap64 (s ^ k * s) = s ^ (k + 1)) := by
    unfold Hid
    rw [← Int.pow_succ]; exact wrap64_id (Int.le_trans (by decide) h1) (Int.le_trans h2 (by decide))
   clear h1 h2
   go_wp2_with fail
   go_round
   case rel => exact ⟨k + 1, by omega, by go_num, by first | exact congrArg _ HM.out | (rw [← HM.out]; go_num)⟩
   case measure => simp [intOf]; omega
  ·obtain rfl : k = m.toNat := by omega
   go_wp2_with fail
   go_ret
   exact ⟨rfl, rfl⟩
set_option maxHeartbeats 800000 in
theorem l01Power_any (w : World) (s m : Int) (hs : 0 ≤ s) (hs1 : s ≤ 1000) (hm : m ≤ 5) :
  Calls Tryz.prog 145 #[.int .i64 s, .int .i64 m] w fun e w' => e = .returned (.int .i64 (s ^ m.toNat)) ∧ w = w' := by
 by_cases hm0 : m ≤ 0
 ·obtain h0 : m.toNat = 0 := by omega
  have HZ : Hid (s ^ m.toNat = 1) := by unfold Hid; rw [h0, Int.pow_zero]
  clear h0
  go_enter Tryz.func145, Tryz.ntmps145
  go_wp2_with fail
  go_loop [1, 5] (fun i o => i = .int .i64 m ∧ o = .int .i64 1) (fun i _ => (intOf i).toNat)
  case atStart => exact ⟨rfl, rfl⟩
  case round =>
   obtain ⟨rfl, rfl⟩ := hrel
   go_wp2_with fail
   go_ret
   exact ⟨ret_int HZ.out.symm, rfl⟩
 go_enter Tryz.func145, Tryz.ntmps145
 go_wp2_with fail
 go_loop [1, 5] (fun i o => ∃ k : Nat, k ≤ m.toNat ∧ i = .int .i64 (m - k) ∧ o = .int .i64 (s ^ k)) (fun i _ => (intOf i).toNat)
 case atStart => exact ⟨0, Nat.zero_le _, by simp, by simp⟩
 case round =>
  obtain ⟨k, hk, rfl, rfl⟩ := hrel
  by_cases hkl : (k : Int) < m
  ·have h1 := pow_nn hs (k + 1)
   have h2 := pow_le hs hs1 (k := k + 1) (by omega)
   have HM : Hid (wrap64 (s ^ k * s) = s ^ (k + 1)) := by
    unfold Hid
    rw [← Int.pow_succ]; exact wrap64_id (Int.le_trans (by decide) h1) (Int.le_trans h2 (by decide))
   clear h1 h2
   go_wp2_with fail
   go_round
   case rel => exact ⟨k + 1, by omega, by go_num, by first | exact congrArg _ HM.out | (rw [← HM.out]; go_num)⟩
   case measure => simp [intOf]; omega
  ·have hkm : (k : Int) = m := by omega
   have HK : Hid (s ^ k = s ^ m.toNat) := by unfold Hid; rw [show k = m.toNat by omega]
   go_wp2_with fail
   go_ret
   exact ⟨ret_int HK.out, rfl⟩
/-- a list's index in the order of lists -/
def idxL (s : Int) : Int → List Int → Int
 | acc, [] => acc
 | acc, a :: r => idxL s (acc * s + a) r
theorem idxL_append (s acc : Int) : ∀ (xs ys : List Int), idxL s acc (xs ++ ys) = idxL s (idxL s acc xs) ys := by
 intro xs
 induction xs generalizing acc with
 | nil => intro ys; rfl
 | cons a r ih => intro ys; exact ih _ ys
theorem idxL_take {s : Int} {xs : List Int} {k : Nat} (h : k < xs.length) : idxL s 0 (xs.take (k + 1)) = idxL s 0 (xs.take k) * s + xs[k] := by
 rw [List.take_succ_eq_append_getElem h, idxL_append]
 rfl
theorem idx_bd {s : Int} (hs : 1 ≤ s) {xs : List Int} (h : ∀ a ∈ xs, 0 ≤ a ∧ a ≤ s - 1) : ∀ k, k ≤ xs.length → 0 ≤ idxL s 0 (xs.take k) ∧ idxL s 0 (xs.take k) ≤ s ^ k - 1
 | 0, _ => by simp [idxL]
 | k + 1, hk => by
  have ih := idx_bd hs h k (by omega)
  have ha := h xs[k] (List.getElem_mem hk)
  have h1 := Int.mul_le_mul_of_nonneg_right ih.2 (show (0 : Int) ≤ s by omega)
  have h2 : (s ^ k - 1) * s = s ^ (k + 1) - s := by rw [Int.sub_mul, Int.pow_succ, Int.one_mul]
  have h3 := Int.mul_nonneg ih.1 (show (0 : Int) ≤ s by omega)
  rw [idxL_take hk]
  rw [h2] at h1
  generalize s ^ (k + 1) = P at *
  generalize idxL s 0 (xs.take k) * s = Q at *
  constructor <;> omega
set_option maxHeartbeats 800000 in
theorem l01Code_any (w : World) (s : Int) {v : Value} {xs : List Int} (h : intsT.Rd w [v] xs) (hs : 1 ≤ s) (hs1 : s ≤ 1000) (hl5 : xs.length ≤ 5) (hin : ∀ a ∈ xs, 0 ≤ a ∧ a ≤ s - 1) :
  Calls Tryz.prog 195 #[.int .i64 s, v] w fun e w' => e = .returned (.int .i64 (idxL s 0 xs)) ∧ w = w' := by
 obtain ⟨ad, cap, hv, hl, hc, hcell⟩ := ints_ex h
 obtain rfl : v = _ := by simpa using hv
 have HIN := Lib.hid hin
 clear h hv hin
 go_enter Tryz.func195, Tryz.ntmps195
 go_wp2_with fail
 go_loop [6, 5] (fun i o => ∃ k : Nat, k ≤ xs.length ∧ i = .int .i64 k ∧ o = .int .i64 (idxL s 0 (xs.take k))) (fun i _ => xs.length - (intOf i).toNat)
 case atStart => exact ⟨0, Nat.zero_le _, rfl, by simp [idxL]⟩
 case round =>
  obtain ⟨k, hk, rfl, rfl⟩ := hrel
  by_cases hkl : k < xs.length
  ·obtain ⟨b, o, rfl, hb, hce⟩ := hcell (by omega)
   have e0 := (hce k hkl).2
   have b0 := idx_bd hs HIN.out k hk
   have b1 := idx_bd hs HIN.out (k + 1) hkl
   have p0 := pow_le (s := s) (by omega) hs1 (k := k + 1) (by omega)
   have ha := HIN.out xs[k] (List.getElem_mem hkl)
   have hr := idxL_take (s := s) hkl
   have HM : Hid (wrap64 (wrap64 (idxL s 0 (xs.take k) * s) + xs[k]) = idxL s 0 (xs.take (k + 1))) := by
    unfold Hid
    have hq := Int.mul_nonneg b0.1 (show (0 : Int) ≤ s by omega)
    rw [hr] at b1 ⊢
    generalize s ^ (k + 1) = P at *
    generalize idxL s 0 (xs.take k) * s = Q at *
    rw [wrap64_id (n := Q) (by omega) (by omega), wrap64_id (by omega) (by omega)]
   clear hcell hce b0 b1 p0 ha hr
   go_wp2_with fail
   go_round
   case rel => exact ⟨k + 1, by omega, by go_num, by first | exact congrArg _ HM.out | (rw [← HM.out]; go_num)⟩
   case measure => simp [intOf]; omega
  ·obtain rfl : k = xs.length := by omega
   clear hcell
   rw [List.take_length]
   go_wp2_with fail
   go_ret
   exact ⟨rfl, rfl⟩
end Go.Proofs.YtnhdohednekhjaaGreatDoor
namespace Go.Proofs.YtnhdohednekhjaaGreatDoor
open Go.RowKit Go.Sort
/-- a row of numbers of the call's own, made and then written at places -/
def IR (e base : Nat) (w : World) (g n cap : Nat) (L : List Int) : Prop := L.length = n ∧ (∀ a ∈ L, I64 a) ∧ base ≤ g ∧ w.ownsRow base e 1 (.slice (some ⟨g, 0, none⟩) n cap) n (L.map (Value.int .i64))
section
variable {e base g n cap : Nat} {w w' : World} {L : List Int}
theorem IR.cell (h : IR e base w g n cap L) {j : Nat} (hj : j < n) : ∃ u, w.cell? ⟨g, j, none⟩ = some u := by
 rw [World.ownsRow.cellAt h.2.2.2 j (by omega)]
 exact ⟨_, List.getElem?_eq_getElem (by rw [List.length_map, h.1]; exact hj)⟩
theorem IR.free (h : IR e base w g n cap L) (j : Nat) : w.frozen? ⟨g, j, none⟩ = false := World.ownsRow.frozenAt h.2.2.2 j
theorem IR.lt (h : IR e base w g n cap L) : g < w.heap.size := (h.2.2.2.lt g rfl).2
theorem IR.set (h : IR e base w g n cap L) (j : Nat) {a : Int} (ha : I64 a) : IR e base (w.setCell ⟨g, j, none⟩ (.int .i64 a)) g n cap (L.set j a) := by
 refine ⟨by rw [List.length_set]; exact h.1, fun b hb => ?_, h.2.2.1, ?_⟩
 ·rcases List.mem_or_eq_of_mem_set hb with hb | rfl
  ·exact h.2.1 b hb
  ·exact ha
 ·rw [List.map_set]
  exact (h.2.2.2.stored j _).1
theorem IR.fr (h : IR e base w g n cap L) (hl : n ≤ capMax) : intsT.Fr base w [.slice (some ⟨g, 0, none⟩) n cap] L := by
 obtain ⟨h1, h2, h3, h4⟩ := h
 subst h1
 have hlt := (h4.lt g rfl).2
 have hfl : flat (fun _ => []) L.length = [] := List.eq_nil_iff_forall_not_mem.2 fun x hx => by obtain ⟨_, _, h⟩ := List.mem_flatMap.1 hx; cases h
 refine Bl.fr (E := Ty.int) (e := e) (top := w.heap.size) ⟨L.map (Value.int .i64), fun _ => [], h4, fun i hi => ⟨[.int .i64 L[i]], ⟨rfl, h2 _ (List.getElem_mem hi), rfl⟩, fun j hj => ?_⟩, by rw [hfl]; exact List.nodup_nil, by rw [hfl]; simp, fun g' hg' => ?_, by rw [hfl]; intro b hb; cases hb⟩ hl
 ·obtain rfl : j = 0 := by simpa using hj
  simp [Ty.int, hi]
 ·simp [Value.ownBlock] at hg'
  omega
end
theorem wpList_mkI {P : Program} (w : World) {ops : Array Oper} {rest : List Oper} {o : Oper} {a : Act} {Q : Exit → Act → World → Prop} (hg : o.guard = none) (l c : Operand) (t e : TypeId) {bytes : Nat}
  (hop : o.op = Op.makeSlice t l c) (ht : P.underlying t = some (.slice e)) (hinfo : (P.info? e).map (fun i => (i.zero, i.size, i.bytes)) = some (some (.int .i64 0), 1, bytes)) (base : Nat) (n : Nat) (hl : a.eval l = .int .i64 (n : Int)) (hc : a.eval c = .int .i64 (n : Int)) (hn : n ≤ 1000000000) (hby : bytes ≤ 100000) (hb : base ≤ w.heap.size)
  (hK : ∀ w', IR e base w' w.heap.size n n (List.replicate n 0) → w.grownBy w' none → w'.heap.size = w.heap.size + 1 → wpList P ops Q rest (a.put o.dst (.slice (some ⟨w.heap.size, 0, none⟩) n n)) w') :
  wpList P ops Q (o :: rest) a w := by
 obtain ⟨i, hi, hz, hsz, hbt'⟩ := info_parts hinfo
 have hlen' : bytes * n ≤ 281474976710656 := Nat.le_trans (Nat.mul_le_mul hby hn) (by decide)
 refine wpList_plain hg fun K hK' => ?_
 have hb48 : (i.bytes : Int) * (n : Int) ≤ 281474976710656 := by
  have h : ((bytes * n : Nat) : Int) ≤ 281474976710656 := by omega
  rw [hbt']
  rwa [Int.natCast_mul] at h
 have hr := run_make (P := P) w t e i (.int .i64 0) ht hi hz .i64 .i64 (n : Int) (n : Int) (by omega) (Int.le_refl _) hb48 (by omega)
 simp only [Int.toNat_natCast] at hr
 unfold Oper.wp
 simp only [execOp, hop, hl, hc, hr, Result.andThen_ok, Sem.run_bind, Sem.run_pure]
 have hown := World.ownsRow_lit (base := base) (e := e) (size := 1) w (madeCells (Value.int .i64 0).cells (n * i.size)) n hb (by unfold maxLen; omega) (by rw [size_madeCells, hsz])
 refine hK' _ _ (hK _ ⟨by simp, fun a ha => ?_, hb, ?_⟩ (World.grownBy_alloc w _ none) (by simp))
 ·rw [List.eq_of_mem_replicate ha]; exact I64.small (by omega) (by omega)
 ·have e1 : (madeCells (Value.int .i64 0).cells (n * i.size)).toList = (List.replicate n (0 : Int)).map (Value.int .i64) := by
   rw [hsz, Nat.mul_one, List.map_replicate]
   have hc0 : (Value.int .i64 0).cells = #[.int .i64 0] := by simp [Value.cells]
   rw [hc0]
   exact toList_madeCells_one (.int .i64 0) n
  rw [← e1]
  exact hown
def dig (s idx : Int) (j : Nat) : Int := (idx / s ^ j) % s
def digL (s idx : Int) (n : Nat) : List Int := (List.range n).map fun i => dig s idx (n - 1 - i)
theorem digL_len {s idx : Int} {n : Nat} : (digL s idx n).length = n := by simp [digL]
theorem dig_nn {s idx : Int} (hs : 1 ≤ s) (j : Nat) : 0 ≤ dig s idx j ∧ dig s idx j < s := ⟨Int.emod_nonneg _ (by omega), Int.emod_lt_of_pos _ (by omega)⟩
theorem quo_nn {s idx : Int} (hs : 1 ≤ s) (h : 0 ≤ idx) (j : Nat) : 0 ≤ idx / s ^ j ∧ idx / s ^ j ≤ idx := by
 have h1 : 0 ≤ s ^ j := pow_nn (by omega) j
 exact ⟨Int.ediv_nonneg h h1, Int.ediv_le_self _ h⟩
theorem quo_succ {s idx : Int} (hs : 1 ≤ s) (j : Nat) : idx / s ^ j / s = idx / s ^ (j + 1) := by
 rw [Int.pow_succ, Int.ediv_ediv_of_nonneg (pow_nn (by omega) j)]
theorem infoInt : (Tryz.prog.info? 2).map (fun i => (i.zero, i.size, i.bytes)) = some (some (.int .i64 0), 1, 8) := by kernel_rfl
set_option maxHeartbeats 800000 in
set_option maxRecDepth 100000 in
theorem listOf_any (w : World) (s idx : Int) (n : Nat) (hs : 1 ≤ s) (hs1 : s ≤ 1000) (hn : n ≤ 5) (h0 : 0 ≤ idx) (h1 : idx ≤ 1000000000000000) :
  Calls Tryz.prog 177 #[.int .i64 s, .int .i64 n, .int .i64 idx] w (RetS intsT w (digL s idx n)) := by
 go_enter Tryz.func177, Tryz.ntmps177
 go_wp2_with (refine wpList_mkI _ rfl _ _ 48 2 rfl Tryz.underlying48 infoInt w.heap.size n rfl rfl (by omega) (by decide) (by simp) ?_; intro w1 hA hg1 hs1)
 have hb1 := below_of_grown hg1
 go_loopw [8, 2] (fun i q wr => ∃ (k : Nat) (L : List Int), k ≤ n ∧ i = .int .i64 ((n : Int) - 1 - k) ∧ q = .int .i64 (idx / s ^ k) ∧ IR 2 w.heap.size wr w.heap.size n n L ∧ (∀ (j : Nat) (h : j < L.length), n - k ≤ j → L[j] = dig s idx (n - 1 - j)) ∧ Below w.heap.size w wr) (fun i _ _ => ((intOf i) + 1).toNat)
 case atStart => exact ⟨0, _, Nat.zero_le _, by simp, by simp, hA, fun j h hj => by simp at h; omega, hb1⟩
 case round =>
  obtain ⟨k, L, hk, rfl, rfl, hIR, hL, hbel⟩ := hrel
  have hLl := hIR.1
  by_cases hkl : k < n
  ·obtain ⟨j, hj⟩ : ∃ j : Nat, (n : Int) - 1 - k = j := ⟨n - 1 - k, by omega⟩
   have hjn : j < n := by omega
   have hjk : n - 1 - j = k := by omega
   obtain ⟨u0, d0⟩ := hIR.cell hjn
   have d1 := hIR.free j
   have hg := hIR.lt
   have hd := dig_nn (idx := idx) hs k
   have hq := quo_nn hs h0 k
   have hIs := hIR.set j (I64.small (n := dig s idx k) (by omega) (by omega))
   have HQ := Lib.hid (quo_succ (idx := idx) hs k)
   have HDG : Hid ((idx / s ^ k) % s = dig s idx k) := rfl
   have HIS := Lib.hid hIs
   have HLL := Lib.hid hL
   have HIR := Lib.hid hIR
   clear hIs hL hIR hA
   rw [hj]
   go_wp2_with fail
   refine ⟨⟨k + 1, L.set j (dig s idx k), by omega, congrArg _ (by omega), by rw [HQ.out], HIS.out, fun j' h hj' => ?_, hbel.setCell (Nat.le_refl _) _⟩, by simp [intOf]⟩
   by_cases e : j = j'
   ·subst e
    rw [List.getElem_set_self, hjk]
   ·rw [List.getElem_set_ne e]
    exact HLL.out j' (by simpa using h) (by omega)
  ·obtain rfl : k = n := by omega
   have hfr := Lib.hid (hIR.fr (by unfold capMax; omega))
   have HE : Hid (L = digL s idx k) := List.ext_getElem (by rw [hLl, digL_len]) fun j h h' => by rw [hL j h (by omega)]; simp [digL]
   clear hIR hL hA
   go_wp2_with fail
   go_ret
   exact ⟨_, rfl, by rw [← HE.out]; exact hfr.out, hbel⟩
set_option maxHeartbeats 800000 in
set_option maxRecDepth 100000 in
theorem l01Digits_any (w : World) (s idx : Int) (n : Nat) (hs : 1 ≤ s) (hs1 : s ≤ 1000) (hn : n ≤ 5) (h0 : 0 ≤ idx) (h1 : idx ≤ 1000000000000000) :
  Calls Tryz.prog 146 #[.int .i64 s, .int .i64 n, .int .i64 idx] w (RetS intsT w (digL s idx n)) := by
 go_enter Tryz.func146, Tryz.ntmps146
 go_wp2_with (refine wpList_mkI _ rfl _ _ 48 2 rfl Tryz.underlying48 infoInt w.heap.size n rfl rfl (by omega) (by decide) (by simp) ?_; intro w1 hA hg1 hs1)
 have hb1 := below_of_grown hg1
 go_loopw [8, 2] (fun i q wr => ∃ (k : Nat) (L : List Int), k ≤ n ∧ i = .int .i64 ((n : Int) - 1 - k) ∧ q = .int .i64 (idx / s ^ k) ∧ IR 2 w.heap.size wr w.heap.size n n L ∧ (∀ (j : Nat) (h : j < L.length), n - k ≤ j → L[j] = dig s idx (n - 1 - j)) ∧ Below w.heap.size w wr) (fun i _ _ => ((intOf i) + 1).toNat)
 case atStart => exact ⟨0, _, Nat.zero_le _, by simp, by simp, hA, fun j h hj => by simp at h; omega, hb1⟩
 case round =>
  obtain ⟨k, L, hk, rfl, rfl, hIR, hL, hbel⟩ := hrel
  have hLl := hIR.1
  by_cases hkl : k < n
  ·obtain ⟨j, hj⟩ : ∃ j : Nat, (n : Int) - 1 - k = j := ⟨n - 1 - k, by omega⟩
   have hjn : j < n := by omega
   have hjk : n - 1 - j = k := by omega
   obtain ⟨u0, d0⟩ := hIR.cell hjn
   have d1 := hIR.free j
   have hg := hIR.lt
   have hd := dig_nn (idx := idx) hs k
   have hq := quo_nn hs h0 k
   have hIs := hIR.set j (I64.small (n := dig s idx k) (by omega) (by omega))
   have HQ := Lib.hid (quo_succ (idx := idx) hs k)
   have HDG : Hid ((idx / s ^ k) % s = dig s idx k) := rfl
   have HIS := Lib.hid hIs
   have HLL := Lib.hid hL
   have HIR := Lib.hid hIR
   clear hIs hL hIR hA
   rw [hj]
   go_wp2_with fail
   refine ⟨⟨k + 1, L.set j (dig s idx k), by omega, congrArg _ (by omega), by rw [HQ.out], HIS.out, fun j' h hj' => ?_, hbel.setCell (Nat.le_refl _) _⟩, by simp [intOf]⟩
   by_cases e : j = j'
   ·subst e
    rw [List.getElem_set_self, hjk]
   ·rw [List.getElem_set_ne e]
    exact HLL.out j' (by simpa using h) (by omega)
  ·obtain rfl : k = n := by omega
   have hfr := Lib.hid (hIR.fr (by unfold capMax; omega))
   have HE : Hid (L = digL s idx k) := List.ext_getElem (by rw [hLl, digL_len]) fun j h h' => by rw [hL j h (by omega)]; simp [digL]
   clear hIR hL hA
   go_wp2_with fail
   go_ret
   exact ⟨_, rfl, by rw [← HE.out]; exact hfr.out, hbel⟩
end Go.Proofs.YtnhdohednekhjaaGreatDoor
namespace Go.Proofs.YtnhdohednekhjaaGreatDoor
open Go.RowKit Go.Sort
/-- the tuples for which it is so, of the first k ones -/
def relL (s : Int) (ar : Nat) (p : List Int → Bool) (k : Nat) : List (List Int) := ((List.range k).map fun i : Nat => digL s i ar).filter p
theorem relL_zero {s : Int} {ar : Nat} {p : List Int → Bool} : relL s ar p 0 = [] := by simp [relL]
theorem relL_yes {s : Int} {ar : Nat} {p : List Int → Bool} {k : Nat} (h : p (digL s k ar) = true) : relL s ar p k ++ [digL s k ar] = relL s ar p (k + 1) := by simp [relL, List.range_succ, h]
theorem relL_no {s : Int} {ar : Nat} {p : List Int → Bool} {k : Nat} (h : p (digL s k ar) = false) : relL s ar p k = relL s ar p (k + 1) := by simp [relL, List.range_succ, h]
theorem relL_len {s : Int} {ar : Nat} {p : List Int → Bool} {k : Nat} : (relL s ar p k).length ≤ k := by
 unfold relL
 exact Nat.le_trans (List.length_filter_le _ _) (by simp)
set_option maxHeartbeats 3200000 in
set_option maxRecDepth 100000 in
theorem relOf_any (w : World) (s : Int) (ar : Nat) (hs : 1 ≤ s ∧ s ≤ 4) (har : ar ≤ 4) (g : Nat) (caps : Array Value) (eg : ∀ args w, (callFunc g args).run Tryz.prog w = .ok (.enter g args) w) (p : List Int → Bool) (N : Nat) (hN : s ^ ar = N)
  (hto : Hid (∀ W u (k : Nat), Below w.heap.size w W → k < N → intsT.Rd W [u] (digL s k ar) → Calls Tryz.prog g (#[u] ++ caps) W fun e w' => e = .returned (.bool (p (digL s k ar))) ∧ Below W.heap.size W w')) :
  Calls Tryz.prog 95 #[.int .i64 s, .int .i64 ar, .func (.func g) #[] caps] w (RetA relT w ((ar : Int), relL s ar p N)) := by
 have hNle : N ≤ 1000000 := by
  have h1 : s ^ ar ≤ 1000000 := by
   refine Int.le_trans (pow_mono' (by omega) (show s ≤ 4 by omega) ar) ?_
   rcases (show ar = 0 ∨ ar = 1 ∨ ar = 2 ∨ ar = 3 ∨ ar = 4 by omega) with e | e | e | e | e <;> rw [e] <;> decide
  omega
 have HN : Hid (s ^ ((ar : Int)).toNat = N) := by unfold Hid; rw [Int.toNat_natCast]; exact hN
 clear hN
 go_enter Tryz.func95, Tryz.ntmps95
 go_wp2_with fail
 generalize hW : World.alloc _ _ = W
 have hbW : Below w.heap.size w W := hW ▸ bAA
 have hsW : W.heap.size = w.heap.size + 2 := by rw [← hW]; simp
 have r0 : W.cell? ⟨w.heap.size, 0, none⟩ = some (.int .i64 0) := by rw [← hW]; simp [go_sem]
 have r1 : W.cell? ⟨w.heap.size, 1, none⟩ = some (.slice none 0 0) := by rw [← hW]; simp [go_sem]
 have m0 : W.frozen? ⟨w.heap.size, 0, none⟩ = false := by rw [← hW]; simp [go_sem]
 have m1 : W.frozen? ⟨w.heap.size, 1, none⟩ = false := by rw [← hW]; simp [go_sem]
 have y0 : W.cell? ⟨w.heap.size + 1, 0, none⟩ = some (.int .i64 (ar : Int)) := by rw [← hW]; simp [go_sem]
 have y1 : W.cell? ⟨w.heap.size + 1, 1, none⟩ = some (.slice none 0 0) := by rw [← hW]; simp [go_sem]
 have n1 : W.frozen? ⟨w.heap.size + 1, 1, none⟩ = false := by rw [← hW]; simp [go_sem]
 clear hW
 refine (power_any _ s (ar : Int) (by omega) (by omega) (by omega)).mono ?_
 rintro e _ ⟨rfl, rfl⟩
 rw [HN.out]
 go_wp2_with fail
 go_loopw [15] (fun i wr => ∃ (k : Nat) (v : Value), k ≤ N ∧ i = .int .i64 k ∧ Bl intsT 48 (w.heap.size + 2) wr.heap.size wr v (relL s ar p k) ∧ wr.cell? ⟨w.heap.size + 1, 1, none⟩ = some v ∧ wr.cell? ⟨w.heap.size + 1, 0, none⟩ = some (.int .i64 (ar : Int)) ∧ wr.frozen? ⟨w.heap.size + 1, 1, none⟩ = false ∧ Below (w.heap.size + 1) W wr ∧ w.heap.size + 2 ≤ wr.heap.size) (fun i _ => N - (intOf i).toNat)
 case atStart => exact ⟨0, _, Nat.zero_le _, rfl, by rw [relL_zero]; simpa using Bl.nil, y1, y0, n1, Below.refl _ _, by omega⟩
 case round =>
  obtain ⟨k, v, hk, rfl, hBv, z1, z0, zn, hbe, hse⟩ := hrel
  have hlr := relL_len (s := s) (ar := ar) (p := p) (k := k)
  obtain ⟨av0, nv0, cv0, rfl⟩ := ex_slice (hBv.fr (by unfold capMax; omega))
  have HBv := Lib.hid hBv
  have hbw : Below w.heap.size w wr := hbW.trans (hbe.mono (by omega))
  clear hBv y0 y1 n1
  by_cases hkl : k < N
  ·go_wp2_with fail
   refine (listOf_any _ s (k : Int) ar (by omega) (by omega) (by omega) (by omega) (by omega)).mono ?_
   rintro e w2 ⟨u, rfl, hf, hb2⟩
   obtain ⟨a2, n2, c2, rfl⟩ := ex_slice hf
   have HF := Lib.hid hf
   have hz2 := hb2.size
   replace z0 := (cellB hb2 (by omega)).trans z0
   replace z1 := (cellB hb2 (by omega)).trans z1
   replace zn := (frozenB hb2 (by omega)).trans zn
   clear hf
   go_wp2_with fail
   refine (hto.out _ _ k (bthen hbw hb2) hkl HF.out.rd).mono ?_
   rintro e w3 ⟨rfl, hb3⟩
   have hz3 := hb3.size
   replace z0 := (cellB hb3 (by omega)).trans z0
   replace z1 := (cellB hb3 (by omega)).trans z1
   replace zn := (frozenB hb3 (by omega)).trans zn
   have hb23 : Below wr.heap.size wr w3 := bthen hb2 hb3
   cases hp : p (digL s k ar)
   ·have HNO := Lib.hid (relL_no hp)
    clear hp
    go_wp2_with fail
    go_roundw
    case rel => exact ⟨k + 1, _, by omega, by go_num, by rw [← HNO.out]; exact (HBv.out.below hb23 (Nat.le_refl _)).mono (by omega), z1, z0, zn, hbe.trans (hb23.mono (by omega)), by omega⟩
    case measure => simp [intOf]; omega
   ·have HYES := Lib.hid (relL_yes hp)
    have HF3 := Lib.hid (HF.out.below hb3)
    clear hp
    go_wp2_with (refine wpList_push (E := intsT) _ rfl _ _ 33 48 rfl elInt64SS rfl (HBv.out.below (hb23.alloc hb23.size _) (Nat.le_refl _)) rfl news1 (HF3.out.below bA) (by omega) (by decide) hse (by first | (simp; done) | (simp; omega)) ?_; intro v5 w5 hB5 hg5 _; obtain ⟨a5, n5, c5, rfl⟩ := ex_slice (hB5.fr (by rw [List.length_append]; unfold capMax; simp only [List.length_singleton]; omega)); have hb5 : Below (w.heap.size + 2) w3 w5 := ((Below.refl _ w3).alloc (by omega) _).grown hg5 (by first | (simp; done) | (simp; omega)) (fun q hq => HBv.out.own hq); have i1 := (cellB hb5 (by omega)).trans z1; have i0 := (cellB hb5 (by omega)).trans z0; have i2 := (frozenB hb5 (by omega)).trans zn)
    have hz5 := hb5.size
    rw [HYES.out] at hB5
    have HB5 := Lib.hid hB5
    clear hB5 hg5
    go_wp2_with fail
    go_roundw
    case rel => exact ⟨k + 1, _, by omega, by go_num, by rw [size_set]; exact HB5.out.sameB (fun q hq1 hq2 => Below.heap_setCell _ _ _ _ (by simp; omega)), World.cell?_setCell_same _ _ _ i1, (World.cell?_setCell_other _ _ _ _ (by simp)).trans i0, (World.frozen?_setCell _ _ _ _).trans i2, (hbe.trans ((hb23.mono (by omega)).trans (hb5.mono (by omega)))).setCell (by simp) _, by rw [size_set]; omega⟩
    case measure => simp [intOf]; omega
  ·obtain rfl : k = N := by omega
   have HFO := Lib.hid (HBv.out.fr (by unfold capMax; omega))
   replace r0 := (cellB hbe (by omega)).trans r0
   replace r1 := (cellB hbe (by omega)).trans r1
   replace m0 := (frozenB hbe (by omega)).trans m0
   replace m1 := (frozenB hbe (by omega)).trans m1
   obtain ⟨q0, q1⟩ := set2_cells (x := .int .i64 (ar : Int)) (y := .slice av0 nv0 cv0) r0 r1
   have hl1 : w.heap.size + 1 < wr.heap.size := by omega
   go_wp2_with fail
   refine bodyPost_ret (v := .agg #[.int .i64 (ar : Int), .slice av0 nv0 cv0]) (by simp [results, Tryz.results95, go_sem, q0, q1]) rfl ⟨[.int .i64 (ar : Int), .slice av0 nv0 cv0], rfl, ?_, ?_⟩
   ·exact (fr_cons (I64.small (by omega) (by omega)) (fr_set2 HFO.out (by omega))).mono (by omega)
   ·exact (hbw.setCell (by simp) _).setCell (by simp) _
end Go.Proofs.YtnhdohednekhjaaGreatDoor
namespace Go.Proofs.YtnhdohednekhjaaGreatDoor
open Go.RowKit Go.Sort
noncomputable def vaP (t : Int × List (Int × List (List Int))) (f : Int × Int × List (Int × List Int)) (tu : List Int) : Bool := headB (witX t f tu)
/-- the value of a formula -/
noncomputable def vaR (t : Int × List (Int × List (List Int))) (f : Int × Int × List (Int × List Int)) : Int × List (List Int) := (f.1, relL t.1 f.1.toNat (vaP t f) (t.1 ^ f.1.toNat).toNat)
set_option maxHeartbeats 1600000 in
set_option maxRecDepth 100000 in
theorem valueOf1_any (w : World) {b1 bs : Nat} {v : Value} {tu : List Int} {t : Int × List (Int × List (List Int))} {f : Int × Int × List (Int × List Int)} (hok : frmOk t f) {n s : Nat} (hn : f.2.1 = n) (hs : t.1 = s) {ok : Nat → Prop} (hS : Sv ok w bs t n (duesL f.2.2 n)) (c0 : w.cell? ⟨b1, 0, none⟩ = some (.pointer (some ⟨bs, 0, none⟩))) (hv : intsT.Rd w [v] tu) (hl : tu.length ≤ n) :
  Calls Tryz.prog 142 #[v, .pointer (some ⟨b1, 0, none⟩)] w fun e w' => e = .returned (.bool (vaP t f tu)) ∧ Below w.heap.size w w' := by
 have HS := Lib.hid hS
 have HV := Lib.hid hv
 have HOK := Lib.hid hok
 have hn8 : n ≤ 8 := by have := frm_nums hok; omega
 have HWX : Hid (witL s (goesB t (duesL f.2.2 n)) n tu = witX t f tu) := by
  unfold Hid witX
  rw [show f.2.1.toNat = n by omega, show t.1.toNat = s by omega]
 have HDU : Hid (dueOk t n (duesL f.2.2 n)) := duesL_ok (fun a ha => by have := hok.2.2 a ha; rwa [hn] at this)
 have HSM := Lib.hid hs
 obtain ⟨va, vc, rfl⟩ := rd_slice hv
 clear hS hv hok hn hs
 go_enter Tryz.func142, Tryz.ntmps142
 go_wp2_with fail
 refine (first_any (n := n) (s := s) w HOK.out.1 HSM.out (by omega) duesL_len HDU.out HS.out HV.out hl).mono ?_
 rintro e w1 ⟨u, rfl, hf, hb1⟩
 rw [HWX.out]
 obtain ⟨ua, un, uc, rfl⟩ := ex_slice hf
 clear hf
 go_wp2_with fail
 go_ret
 exact ⟨rfl, hb1⟩
set_option maxHeartbeats 3200000 in
set_option maxRecDepth 100000 in
theorem valueOf_any (w : World) {cs cf : Array Value} {t : Int × List (Int × List (List Int))} {f : Int × Int × List (Int × List Int)} (h : tplT.Rd w cs.toList t) (hf : frmT.Rd w cf.toList f) (hok : frmOk t f) :
  Calls Tryz.prog 57 #[.agg cs, .agg cf] w (RetA relT w (vaR t f)) := by
 have HT := Lib.hid h
 have HF := Lib.hid hf
 have HOK := Lib.hid hok
 obtain ⟨v1, hv1, hI, -⟩ := pair_ex h
 obtain rfl := agg_of hv1
 obtain ⟨v2, hv2, hIf, hIf2, hfx⟩ := trip_ex hf
 obtain rfl := agg_of hv2
 obtain ⟨fa, fn, fc, rfl⟩ := rd_sl hfx
 have HFX := Lib.hid hfx
 have hnum := frm_nums hok
 obtain ⟨n, hn⟩ : ∃ n : Nat, f.2.1 = n := ⟨f.2.1.toNat, by omega⟩
 obtain ⟨s, hs⟩ : ∃ s : Nat, t.1 = s := ⟨t.1.toNat, by omega⟩
 obtain ⟨ar, har⟩ : ∃ ar : Nat, f.1 = ar := ⟨f.1.toNat, by omega⟩
 have HN := Lib.hid hn
 have HS := Lib.hid hs
 have HAR := Lib.hid har
 have hn8 : n ≤ 8 := by omega
 have har4 : ar ≤ 4 := by omega
 have harn : ar ≤ n := by omega
 have ht4 : 1 ≤ t.1 ∧ t.1 ≤ 4 := by omega
 have hfl : f.2.2.length ≤ 16 := hnum.2.2.2.2.2.2
 have HP : Hid (t.1 ^ ar = ((t.1 ^ ar).toNat : Int)) := by
  unfold Hid
  have := pow_nn (s := t.1) (by omega) ar
  omega
 clear h hv1 hf hv2 hfx hok hnum
 go_enter Tryz.func57, Tryz.ntmps57
 rw [hn, har]
 clear hn har hs
 go_wp2_with fail
 generalize hW : World.alloc _ _ = W
 have hbW : Below w.heap.size w W := hW ▸ ((bAA (w := w)).alloc (by simp; omega) _)
 have hsW : w.heap.size + 3 ≤ W.heap.size := by rw [← hW]; simp
 have t0 : W.cell? ⟨w.heap.size, 0, none⟩ = some (.int .i64 t.1) := by rw [← hW]; simp [go_sem]
 have t1 : W.cell? ⟨w.heap.size, 1, none⟩ = some v1 := by rw [← hW]; simp [go_sem]
 have f0 : W.cell? ⟨w.heap.size + 1, 0, none⟩ = some (.int .i64 ar) := by rw [← hW]; simp [go_sem]
 have f1 : W.cell? ⟨w.heap.size + 1, 1, none⟩ = some (.int .i64 n) := by rw [← hW]; simp [go_sem]
 have f2 : W.cell? ⟨w.heap.size + 1, 2, none⟩ = some (.slice fa fn fc) := by rw [← hW]; simp [go_sem]
 have r0 : W.cell? ⟨w.heap.size + 2, 0, none⟩ = some (.int .i64 0) := by rw [← hW]; simp [go_sem]
 have r1 : W.cell? ⟨w.heap.size + 2, 1, none⟩ = some (.slice none 0 0) := by rw [← hW]; simp [go_sem]
 have m0 : W.frozen? ⟨w.heap.size + 2, 0, none⟩ = false := by rw [← hW]; simp [go_sem]
 have m1 : W.frozen? ⟨w.heap.size + 2, 1, none⟩ = false := by rw [← hW]; simp [go_sem]
 clear hW
 refine (solverOf_any (ct := #[.int .i64 t.1, v1]) _ ((HT.out.below hbW).P) (n := n) (by omega) ((HFX.out.below hbW).P) (by omega) (fun a ha => by
  have h1 := HOK.out.2.2 a ha
  have h2 := atom_len HOK.out.1 h1
  exact ⟨h2.1, fun p hp => by have := h1.2.2 p hp; have := HN.out; omega⟩)).mono ?_
 rintro e w1 ⟨bs, rfl, hsv, hb1⟩
 have hB1 := bthen hbW hb1
 have hz1 := hb1.size
 replace t0 := (cellB hb1 (by omega)).trans t0
 replace f0 := (cellB hb1 (by omega)).trans f0
 replace r0 := (cellB hb1 (by omega)).trans r0
 replace r1 := (cellB hb1 (by omega)).trans r1
 replace m0 := (frozenB hb1 (by omega)).trans m0
 replace m1 := (frozenB hb1 (by omega)).trans m1
 have HSV := Lib.hid hsv
 have hl1 : w.heap.size + 2 < w1.heap.size := by omega
 have hl0 : w.heap.size + 1 < w1.heap.size := by omega
 have hl2 : w.heap.size < w1.heap.size := by omega
 clear hsv t1 f1 f2
 go_wp2_with fail
 generalize hWa : World.alloc w1 _ = wa
 have hba : Below w1.heap.size w1 wa := hWa ▸ bA
 have hsa : w1.heap.size + 1 ≤ wa.heap.size := by rw [← hWa]; simp
 have y0 : wa.cell? ⟨w1.heap.size, 0, none⟩ = some (.pointer (some ⟨bs, 0, none⟩)) := by rw [← hWa]; simp
 replace t0 := (cellB hba (by omega)).trans t0
 replace f0 := (cellB hba (by omega)).trans f0
 replace r0 := (cellB hba (by omega)).trans r0
 replace r1 := (cellB hba (by omega)).trans r1
 replace m0 := (frozenB hba (by omega)).trans m0
 replace m1 := (frozenB hba (by omega)).trans m1
 have hBa := bthen hB1 hba
 clear hWa
 refine (relOf_any _ t.1 ar ht4 har4 142 #[.pointer (some ⟨w1.heap.size, 0, none⟩)] (enters Tryz.func142 (by kernel_rfl) rfl) (vaP t f) _ HP.out (Lib.hid (fun W' u k hW' hk hu => valueOf1_any W' HOK.out HN.out HS.out ((HSV.out.below hba).below hW') ((cellB hW' (by omega)).trans y0) hu (by rw [digL_len]; exact harn)))).mono ?_
 rintro e w2 ⟨cs2, rfl, hf2, hb2⟩
 obtain ⟨a2, c2, rfl⟩ := fr_pair hf2
 have HF2 := Lib.hid hf2
 have hB2 := bthen hBa hb2
 have hz2 := hb2.size
 replace r0 := (cellB hb2 (by omega)).trans r0
 replace r1 := (cellB hb2 (by omega)).trans r1
 replace m0 := (frozenB hb2 (by omega)).trans m0
 replace m1 := (frozenB hb2 (by omega)).trans m1
 obtain ⟨g0, g1⟩ := set2_cells (x := .int .i64 (ar : Int)) (y := .slice a2 (relL t.1 ar (vaP t f) (t.1 ^ ar).toNat).length c2) r0 r1
 have hl3 : w.heap.size + 2 < w2.heap.size := by omega
 clear hf2 y0 t0 f0
 go_wp2_with fail
 refine bodyPost_ret (v := .agg #[.int .i64 (ar : Int), .slice a2 (relL t.1 ar (vaP t f) (t.1 ^ ar).toNat).length c2]) (by simp [results, Tryz.results57, go_sem, g0, g1]) rfl ⟨[.int .i64 (ar : Int), .slice a2 (relL t.1 ar (vaP t f) (t.1 ^ ar).toNat).length c2], rfl, ?_, ?_⟩
 ·have e : vaR t f = ((ar : Int), relL t.1 ar (vaP t f) (t.1 ^ ar).toNat) := by unfold vaR; rw [HAR.out, Int.toNat_natCast]
  rw [e]
  exact (fr_set2 HF2.out (by omega)).mono (by omega)
 ·exact (hB2.setCell (show w.heap.size ≤ w.heap.size + 2 by omega) _).setCell (show w.heap.size ≤ w.heap.size + 2 by omega) _
set_option maxHeartbeats 6400000 in
set_option maxRecDepth 100000 in
theorem l03Value_any (w : World) {vt vf : Value} {t : Int × List (Int × List (List Int))} {f : Int × Int × List (Int × List Int)} (ht : tplT.Pt w vt t) (hf : frmT.Pt w vf f) (hok : frmOk t f) :
  Calls Tryz.prog 59 #[vt, vf] w (RetA relT w (vaR t f)) := by
 have HTP := Lib.hid ht
 have HFP := Lib.hid hf
 have HOK := Lib.hid hok
 obtain ⟨bt, ot, _, _, rfl, hbt, -, t0, -, -⟩ := pt_pair ht
 obtain ⟨bf, of, _, _, rfl, hbf, -, -, f0, -, -, -⟩ := pt_trip hf
 have hnum := frm_nums hok
 obtain ⟨n, hn⟩ : ∃ n : Nat, f.2.1 = n := ⟨f.2.1.toNat, by omega⟩
 obtain ⟨s, hs⟩ : ∃ s : Nat, t.1 = s := ⟨t.1.toNat, by omega⟩
 obtain ⟨ar, har⟩ : ∃ ar : Nat, f.1 = ar := ⟨f.1.toNat, by omega⟩
 have HN := Lib.hid hn
 have HS := Lib.hid hs
 have HAR := Lib.hid har
 have har4 : ar ≤ 4 := by omega
 have harn : ar ≤ n := by omega
 have ht4 : 1 ≤ t.1 ∧ t.1 ≤ 4 := by omega
 obtain ⟨N, hN⟩ : ∃ N : Nat, t.1 ^ ar = N := ⟨(t.1 ^ ar).toNat, by have := pow_nn (s := t.1) (by omega) ar; omega⟩
 have hNle : N ≤ 1000000 := by
  have h1 : t.1 ^ ar ≤ 1000000 := by
   refine Int.le_trans (pow_mono' (by omega) (show t.1 ≤ 4 by omega) ar) ?_
   rcases (show ar = 0 ∨ ar = 1 ∨ ar = 2 ∨ ar = 3 ∨ ar = 4 by omega) with e | e | e | e | e <;> rw [e] <;> decide
  omega
 have HRES : Hid (vaR t f = ((ar : Int), relL t.1 ar (vaP t f) N)) := by unfold Hid vaR; rw [har, Int.toNat_natCast, hN]; simp
 have HP : Hid (t.1 ^ ((ar : Int)).toNat = N) := by unfold Hid; rw [Int.toNat_natCast]; exact hN
 have HWX : Hid (∀ tu, witL s (goesB t (duesL f.2.2 n)) n tu = witX t f tu) := fun tu => by
  unfold witX
  rw [show f.2.1.toNat = n by omega, show t.1.toNat = s by omega]
 rw [har] at f0
 clear ht hf hok hnum hn hs har hN
 go_enter Tryz.func59, Tryz.ntmps59
 go_wp2_with fail
 generalize hW : World.alloc _ _ = W
 have hbW : Below w.heap.size w W := hW ▸ bAA
 have hsW : w.heap.size + 2 ≤ W.heap.size := by rw [← hW]; simp
 have r0 : W.cell? ⟨w.heap.size, 0, none⟩ = some (.int .i64 0) := by rw [← hW]; simp [go_sem]
 have r1 : W.cell? ⟨w.heap.size, 1, none⟩ = some (.slice none 0 0) := by rw [← hW]; simp [go_sem]
 have m0 : W.frozen? ⟨w.heap.size, 0, none⟩ = false := by rw [← hW]; simp [go_sem]
 have m1 : W.frozen? ⟨w.heap.size, 1, none⟩ = false := by rw [← hW]; simp [go_sem]
 have y0 : W.cell? ⟨w.heap.size + 1, 0, none⟩ = some (.int .i64 ar) := by rw [← hW]; simp [go_sem]
 have y1 : W.cell? ⟨w.heap.size + 1, 1, none⟩ = some (.slice none 0 0) := by rw [← hW]; simp [go_sem]
 have n1 : W.frozen? ⟨w.heap.size + 1, 1, none⟩ = false := by rw [← hW]; simp [go_sem]
 clear hW
 go_loopw [6] (fun i wr => ∃ (k : Nat) (v : Value), k ≤ N ∧ i = .int .i64 k ∧ Bl intsT 48 (w.heap.size + 2) wr.heap.size wr v (relL t.1 ar (vaP t f) k) ∧ wr.cell? ⟨w.heap.size + 1, 1, none⟩ = some v ∧ wr.cell? ⟨w.heap.size + 1, 0, none⟩ = some (.int .i64 (ar : Int)) ∧ wr.frozen? ⟨w.heap.size + 1, 1, none⟩ = false ∧ Below (w.heap.size + 1) W wr ∧ w.heap.size + 2 ≤ wr.heap.size) (fun i _ => N - (intOf i).toNat)
 case atStart => exact ⟨0, _, Nat.zero_le _, rfl, by rw [relL_zero]; simpa using Bl.nil, y1, y0, n1, Below.refl _ _, hsW⟩
 case round =>
  obtain ⟨k, v, hk, rfl, hBv, z1, z0, zn, hbe, hse⟩ := hrel
  have hlr := relL_len (s := t.1) (ar := ar) (p := vaP t f) (k := k)
  obtain ⟨av0, nv0, cv0, rfl⟩ := ex_slice (hBv.fr (by unfold capMax; omega))
  have HBv := Lib.hid hBv
  have hbw : Below w.heap.size w wr := hbW.trans (hbe.mono (by omega))
  have e0 := (cellB hbw hbt).trans t0
  have e1 := (cellB hbw hbf).trans f0
  have cP : ∀ q, Calls Tryz.prog 145 #[.int .i64 t.1, .int .i64 (ar : Int)] (wr.drewN q) fun e w'' => e = .returned (.int .i64 N) ∧ ∃ m, w'' = wr.drewN m := fun q => by
   have h1 := l01Power_any (wr.drewN q) t.1 (ar : Int) (by omega) (by omega) (by omega)
   rw [HP.out] at h1
   exact pure_drawn h1
  clear hBv y0 y1 n1
  by_cases hkl : k < N
  ·go_wp2_with fail
   go_quiet (exact cP _)
   rename_i nq
   generalize hWq : wr.drewN nq = wq
   have hbdq : Below wr.heap.size wr wq := hWq ▸ bDN (Below.refl _ _)
   have hzq := hbdq.size
   replace z1 := (cellB hbdq (by omega)).trans z1
   replace z0 := (cellB hbdq (by omega)).trans z0
   replace e0 := (cellB hbdq (by omega)).trans e0
   replace e1 := (cellB hbdq (by omega)).trans e1
   replace zn := (frozenB hbdq (by omega)).trans zn
   have HBq := Lib.hid ((HBv.out.below hbdq (Nat.le_refl _)).mono hzq)
   have hbwq := bthen hbw hbdq
   clear hWq cP HBv
   go_wp2_with fail
   refine wp_region_T (fun w' => w'.cell? ⟨bt, ot, none⟩ = some (.int .i64 t.1) ∧ w'.cell? ⟨bf, of, none⟩ = some (.int .i64 ar)) [9, 10] (by kernel_rfl) ⟨e0, e1⟩ (fun hHeld => ?_)
   refine wpAnyT_take (i := 0) (v := ?_) rfl (by kernel_rfl) (fun _ _ _ h => h) (Or.inl ⟨by rfl, ?_⟩) (by assumption) ?_
   rotate_left
   ·(intro w hSw; (try dsimp only at hSw); go_simp <;> with_reducible rfl)
   try simp only [Act.put]
   refine wpAnyT_take (i := 1) (v := ?_) rfl (by kernel_rfl) (fun _ _ _ h => h) (Or.inl ⟨by rfl, ?_⟩) (by assumption) ?_
   rotate_left
   ·(intro w hSw; (try dsimp only at hSw); go_simp <;> with_reducible rfl)
   try simp only [Act.put]
   refine wpAnyT_take (i := 2) (v := ?_) rfl (by kernel_rfl) (fun _ _ _ h => h) (Or.inl ⟨by rfl, ?_⟩) (by assumption) ?_
   rotate_left
   ·(intro w hSw; (try dsimp only at hSw); go_simp <;> with_reducible rfl)
   try simp only [Act.put]
   refine wpAnyT_take (i := 3) (v := ?_) rfl (by kernel_rfl) (fun _ _ _ h => h) (Or.inl ⟨by rfl, ?_⟩) (by assumption) ?_
   rotate_left
   ·(intro w hSw; (try dsimp only at hSw); go_simp <;> with_reducible rfl)
   try simp only [Act.put]
   refine wpAnyT_take (i := 4) (v := ?_) rfl (by kernel_rfl) (fun _ _ _ h => h) (Or.inl ⟨by rfl, ?_⟩) (by assumption) ?_
   rotate_left
   ·(intro w hSw; (try dsimp only at hSw); go_simp <;> with_reducible rfl)
   try simp only [Act.put]
   refine wpAnyT_take (i := 5) (v := ?_) rfl (by kernel_rfl) (fun _ _ _ h => h) (Or.inl ⟨by rfl, ?_⟩) (by assumption) ?_
   rotate_left
   ·(intro w hSw; (try dsimp only at hSw); go_simp <;> with_reducible rfl)
   try simp only [Act.put]
   refine wpAnyT_take (i := 6) (v := ?_) rfl (by kernel_rfl) (fun _ _ _ h => h) (Or.inl ⟨by rfl, ?_⟩) (by assumption) ?_
   rotate_left
   ·(intro w hSw; (try dsimp only at hSw); go_simp <;> with_reducible rfl)
   try simp only [Act.put]
   refine wpAnyT_take (i := 7) (v := ?_) rfl (by kernel_rfl) (fun _ _ _ h => h) (Or.inl ⟨by rfl, ?_⟩) (by assumption) ?_
   rotate_left
   ·(intro w hSw; (try dsimp only at hSw); go_simp <;> with_reducible rfl)
   try simp only [Act.put]
   refine wpAnyT_take (i := 8) (v := ?_) rfl (by kernel_rfl) (fun _ _ _ h => h) (Or.inl ⟨by rfl, ?_⟩) (by assumption) ?_
   rotate_left
   ·(intro w hSw; (try dsimp only at hSw); go_simp <;> with_reducible rfl)
   try simp only [Act.put]
   refine wpAnyT_last (i := 9) rfl (by kernel_rfl) (by kernel_rfl) (fun K hK => ?_)
   go_simp
   go_at_call 146
   refine (l01Digits_any _ t.1 (k : Int) ar (by omega) (by omega) (by omega) (by omega) (by omega)).mono ?_
   rintro e w2 ⟨u, rfl, hf2, hb2⟩
   obtain ⟨a2, n2, c2, rfl⟩ := ex_slice hf2
   have hb2' : Below wq.heap.size wq w2 := bthen bD hb2
   have HF2 : Hid (intsT.Fr wq.heap.size w2 [.slice a2 n2 c2] (digL t.1 k ar)) := hf2
   replace z1 := (cellB hb2' (by omega)).trans z1
   replace z0 := (cellB hb2' (by omega)).trans z0
   replace e0 := (cellB hb2' (by omega)).trans e0
   replace e1 := (cellB hb2' (by omega)).trans e1
   replace zn := (frozenB hb2' (by omega)).trans zn
   have hz2 := hb2'.size
   have hbw2 := bthen hbwq hb2'
   clear hf2 hb2 hHeld
   dsimp only
   refine hK.out _ _ ?_
   clear hK K
   refine wpAnyT_last (i := 10) rfl (by kernel_rfl) (by kernel_rfl) (fun K hK => ?_)
   go_simp
   refine hK.out _ _ ?_
   clear hK K
   refine wpAnyT_done (by kernel_rfl) ?_ _
   go_simp
   go_wp2_with fail
   refine (l03Witness_any w2 HOK.out HN.out HS.out (HTP.out.below hbw2) (HFP.out.below hbw2) HF2.out.rd (by rw [digL_len]; exact harn)).mono ?_
   rintro e w3 ⟨u3, rfl, hf3, hb3⟩
   obtain ⟨a3, n3, c3, rfl⟩ := ex_slice hf3
   rw [HWX.out, show headB (witX t f (digL t.1 (k : Int) ar)) = vaP t f (digL t.1 (k : Int) ar) from rfl]
   replace z1 := (cellB hb3 (by omega)).trans z1
   replace z0 := (cellB hb3 (by omega)).trans z0
   replace e0 := (cellB hb3 (by omega)).trans e0
   replace e1 := (cellB hb3 (by omega)).trans e1
   replace zn := (frozenB hb3 (by omega)).trans zn
   have hz3 := hb3.size
   have hb23 : Below wq.heap.size wq w3 := bthen hb2' hb3
   have HB3 := Lib.hid (HBq.out.below hb23 (Nat.le_refl _))
   have HF3 := Lib.hid (HF2.out.below hb3)
   have hbe3 : Below (w.heap.size + 1) W w3 := hbe.trans ((hbdq.mono (by omega)).trans (hb23.mono (by omega)))
   clear hf3 HF2 HBq
   cases hp : vaP t f (digL t.1 (k : Int) ar)
   ·have HNO := Lib.hid (relL_no hp)
    clear hp
    go_wp2_with fail
    go_roundw
    case rel => exact ⟨k + 1, _, by omega, by go_num, by rw [← HNO.out]; exact HB3.out.mono hb23.size, z1, z0, zn, hbe3, by omega⟩
    case measure => simp [intOf]; omega
   ·have HYES := Lib.hid (relL_yes hp)
    clear hp
    go_wp2_with (refine wpList_push (E := intsT) _ rfl _ _ 33 48 rfl elInt64SS rfl (HB3.out.below (bA.mono (by omega)) (Nat.le_refl _)) rfl news1 (HF3.out.below bA) (by omega) (by decide) (by omega) (by first | (simp; done) | (simp; omega)) ?_; intro v5 w5 hB5 hg5 _; obtain ⟨a5, n5, c5, rfl⟩ := ex_slice (hB5.fr (by rw [List.length_append]; unfold capMax; simp only [List.length_singleton]; omega)); have hb5 : Below (w.heap.size + 2) w3 w5 := ((Below.refl _ w3).alloc (by omega) _).grown hg5 (by first | (simp; done) | (simp; omega)) (fun q hq => HB3.out.own hq); have i1 := (cellB hb5 (by omega)).trans z1; have i0 := (cellB hb5 (by omega)).trans z0; have i2 := (frozenB hb5 (by omega)).trans zn)
    have hz5 := hb5.size
    rw [HYES.out] at hB5
    have HB5 := Lib.hid hB5
    clear hB5 hg5
    go_wp2_with fail
    go_roundw
    case rel => exact ⟨k + 1, _, by omega, by go_num, by rw [size_set]; exact HB5.out.sameB (fun q hq1 hq2 => Below.heap_setCell _ _ _ _ (by simp; omega)), World.cell?_setCell_same _ _ _ i1, (World.cell?_setCell_other _ _ _ _ (by simp)).trans i0, (World.frozen?_setCell _ _ _ _).trans i2, (hbe3.trans (hb5.mono (by omega))).setCell (by simp) _, by rw [size_set]; omega⟩
    case measure => simp [intOf]; omega
  ·obtain rfl : k = N := by omega
   have HFO := Lib.hid (HBv.out.fr (by unfold capMax; omega))
   replace r0 := (cellB hbe (by omega)).trans r0
   replace r1 := (cellB hbe (by omega)).trans r1
   replace m0 := (frozenB hbe (by omega)).trans m0
   replace m1 := (frozenB hbe (by omega)).trans m1
   go_wp2_with fail
   go_quiet (exact cP _)
   rename_i nq
   generalize hWq : wr.drewN nq = wq
   have hbdq : Below wr.heap.size wr wq := hWq ▸ bDN (Below.refl _ _)
   have hzq := hbdq.size
   replace z1 := (cellB hbdq (by omega)).trans z1
   replace z0 := (cellB hbdq (by omega)).trans z0
   replace r0 := (cellB hbdq (by omega)).trans r0
   replace r1 := (cellB hbdq (by omega)).trans r1
   replace m0 := (frozenB hbdq (by omega)).trans m0
   replace m1 := (frozenB hbdq (by omega)).trans m1
   have HFQ := Lib.hid (HFO.out.below hbdq)
   have hbwq := bthen hbw hbdq
   obtain ⟨q0, q1⟩ := set2_cells (x := .int .i64 (ar : Int)) (y := .slice av0 nv0 cv0) r0 r1
   have hl1 : w.heap.size + 1 < wq.heap.size := by omega
   clear hWq cP HFO e0 e1
   go_wp2_with fail
   refine bodyPost_ret (v := .agg #[.int .i64 (ar : Int), .slice av0 nv0 cv0]) (by simp [results, Tryz.results59, go_sem, q0, q1]) rfl ⟨[.int .i64 (ar : Int), .slice av0 nv0 cv0], rfl, ?_, ?_⟩
   ·rw [HRES.out]
    exact (fr_cons (I64.small (by omega) (by omega)) (fr_set2 HFQ.out (by omega))).mono (by omega)
   ·exact (hbwq.setCell (by simp) _).setCell (by simp) _
end Go.Proofs.YtnhdohednekhjaaGreatDoor
namespace Go.Proofs.YtnhdohednekhjaaGreatDoor
/-- a code, how many steps, what has been told -/
abbrev FR := Int × Nat × List (List Int)
section
variable {s : Nat} {okT : List Int → Bool} {fx : List Int} {yc : List (List Int) → Int} {m : Nat} {vals : List Int} {r : FR} {rec : List Int → FR → FR} {a : Nat}
section
variable {N d : Nat} {pre : List Int} {cur : Int}
end
end
end Go.Proofs.YtnhdohednekhjaaGreatDoor
namespace Go.Proofs.YtnhdohednekhjaaGreatDoor
open Go.RowKit Go.Sort
end Go.Proofs.YtnhdohednekhjaaGreatDoor
namespace Go.Proofs.YtnhdohednekhjaaGreatDoor
open Go.RowKit Go.Sort
/-- the values of tuples at a place -/
def colL (ts : List (List Int)) (p : Nat) : List Int := ts.map fun t => t.getD p 0
def madeV (s : Int) (tab : List Int) (ts : List (List Int)) (p : Nat) : Int := tab.getD (idxL s 0 (colL ts p)).toNat 0
def madeL (s : Int) (tab : List Int) (ts : List (List Int)) (m : Nat) : List Int := (List.range m).map fun p => madeV s tab ts p
end Go.Proofs.YtnhdohednekhjaaGreatDoor
namespace Go.Proofs.YtnhdohednekhjaaGreatDoor
open Go.RowKit Go.Sort
end Go.Proofs.YtnhdohednekhjaaGreatDoor
namespace Go.Proofs.YtnhdohednekhjaaGreatDoor
open Go.RowKit Go.Sort
/-- a row of truth values of the call's own -/
def BR (e base : Nat) (w : World) (g n cap : Nat) (L : List Bool) : Prop := L.length = n ∧ base ≤ g ∧ w.ownsRow base e 1 (.slice (some ⟨g, 0, none⟩) n cap) n (L.map Value.bool)
section
variable {e base g n cap : Nat} {w w' : World} {L : List Bool}
theorem BR.cell (h : BR e base w g n cap L) {j : Nat} (hj : j < L.length) : w.cell? ⟨g, j, none⟩ = some (.bool L[j]) := by
 rw [World.ownsRow.cellAt h.2.2 j (by have := h.1; omega)]
 simp [hj]
theorem BR.free (h : BR e base w g n cap L) (j : Nat) : w.frozen? ⟨g, j, none⟩ = false := World.ownsRow.frozenAt h.2.2 j
theorem BR.lt (h : BR e base w g n cap L) : g < w.heap.size := (h.2.2.lt g rfl).2
theorem BR.set (h : BR e base w g n cap L) (j : Nat) (a : Bool) : BR e base (w.setCell ⟨g, j, none⟩ (.bool a)) g n cap (L.set j a) := by
 refine ⟨by rw [List.length_set]; exact h.1, h.2.1, ?_⟩
 rw [List.map_set]
 exact (h.2.2.stored j _).1
theorem BR.below {B : Nat} (h : BR e base w g n cap L) (hb : Below B w w') (hg : g < B) : BR e base w' g n cap L := by
 refine ⟨h.1, h.2.1, h.2.2.1, ?_⟩
 rcases h.2.2.2 with ⟨h', _⟩ | ⟨g', cap', cur, hg', hbg, hh, r⟩
 ·simp at h'
 ·simp only [Value.slice.injEq, Option.some.injEq, Addr.mk.injEq, and_true, true_and] at hg'
  obtain ⟨rfl, rfl⟩ := hg'
  exact .inr ⟨g, _, cur, rfl, hbg, by rw [hb.block g hg]; exact hh, r⟩
end
theorem wpList_mkB {P : Program} (w : World) {ops : Array Oper} {rest : List Oper} {o : Oper} {a : Act} {Q : Exit → Act → World → Prop} (hg : o.guard = none) (l c : Operand) (t e : TypeId) {bytes : Nat}
  (hop : o.op = Op.makeSlice t l c) (ht : P.underlying t = some (.slice e)) (hinfo : (P.info? e).map (fun i => (i.zero, i.size, i.bytes)) = some (some (.bool false), 1, bytes)) (base : Nat) (n : Nat) (hl : a.eval l = .int .i64 (n : Int)) (hc : a.eval c = .int .i64 (n : Int)) (hn : n ≤ 1000000000) (hby : bytes ≤ 100000) (hb : base ≤ w.heap.size)
  (hK : ∀ w', BR e base w' w.heap.size n n (List.replicate n false) → w.grownBy w' none → w'.heap.size = w.heap.size + 1 → wpList P ops Q rest (a.put o.dst (.slice (some ⟨w.heap.size, 0, none⟩) n n)) w') :
  wpList P ops Q (o :: rest) a w := by
 obtain ⟨i, hi, hz, hsz, hbt'⟩ := info_parts hinfo
 have hlen' : bytes * n ≤ 281474976710656 := Nat.le_trans (Nat.mul_le_mul hby hn) (by decide)
 refine wpList_plain hg fun K hK' => ?_
 have hb48 : (i.bytes : Int) * (n : Int) ≤ 281474976710656 := by
  have h : ((bytes * n : Nat) : Int) ≤ 281474976710656 := by omega
  rw [hbt']
  rwa [Int.natCast_mul] at h
 have hr := run_make (P := P) w t e i (.bool false) ht hi hz .i64 .i64 (n : Int) (n : Int) (by omega) (Int.le_refl _) hb48 (by omega)
 simp only [Int.toNat_natCast] at hr
 unfold Oper.wp
 simp only [execOp, hop, hl, hc, hr, Result.andThen_ok, Sem.run_bind, Sem.run_pure]
 have hown := World.ownsRow_lit (base := base) (e := e) (size := 1) w (madeCells (Value.bool false).cells (n * i.size)) n hb (by unfold maxLen; omega) (by rw [size_madeCells, hsz])
 refine hK' _ _ (hK _ ⟨by simp, hb, ?_⟩ (World.grownBy_alloc w _ none) (by simp))
 have e1 : (madeCells (Value.bool false).cells (n * i.size)).toList = (List.replicate n false).map Value.bool := by
  have hc0 : (Value.bool false).cells = #[.bool false] := by simp [Value.cells]
  rw [hsz, Nat.mul_one, List.map_replicate, hc0]
  exact toList_madeCells_one (.bool false) n
 rw [← e1]
 exact hown

/-- lists of one length with the same index are the same -/
theorem idxL_inj {s : Int} (hs : 1 ≤ s) : ∀ (n : Nat) {xs ys : List Int}, xs.length = n → ys.length = n → (∀ a ∈ xs, 0 ≤ a ∧ a ≤ s - 1) → (∀ a ∈ ys, 0 ≤ a ∧ a ≤ s - 1) → idxL s 0 xs = idxL s 0 ys → xs = ys
 | 0, xs, ys, hx, hy, _, _, _ => by rw [List.eq_nil_of_length_eq_zero hx, List.eq_nil_of_length_eq_zero hy]
 | n + 1, xs, ys, hx, hy, hxi, hyi, he => by
  have hx1 : n < xs.length := by omega
  have hy1 : n < ys.length := by omega
  have ex := idxL_take (s := s) hx1
  have ey := idxL_take (s := s) hy1
  rw [List.take_of_length_le (by omega)] at ex ey
  rw [ex, ey] at he
  have ax := hxi _ (List.getElem_mem hx1)
  have ay := hyi _ (List.getElem_mem hy1)
  have h1 : (idxL s 0 (xs.take n) * s + xs[n]) % s = xs[n] := by
   rw [Int.add_comm, Int.add_mul_emod_self_right]; exact Int.emod_eq_of_lt ax.1 (by omega)
  have h2 : (idxL s 0 (ys.take n) * s + ys[n]) % s = ys[n] := by
   rw [Int.add_comm, Int.add_mul_emod_self_right]; exact Int.emod_eq_of_lt ay.1 (by omega)
  have hn : xs[n] = ys[n] := by rw [← h1, ← h2, he]
  have hq : idxL s 0 (xs.take n) = idxL s 0 (ys.take n) := by
   have h3 : idxL s 0 (xs.take n) * s = idxL s 0 (ys.take n) * s := by omega
   exact Int.eq_of_mul_eq_mul_right (by omega) h3
  have ih := idxL_inj hs n (xs := xs.take n) (ys := ys.take n) (by rw [List.length_take]; omega) (by rw [List.length_take]; omega) (fun a ha => hxi a (List.mem_of_mem_take ha)) (fun a ha => hyi a (List.mem_of_mem_take ha)) hq
  rw [← List.take_of_length_le (l := xs) (i := n + 1) (by omega), ← List.take_of_length_le (l := ys) (i := n + 1) (by omega), List.take_succ_eq_append_getElem hx1, List.take_succ_eq_append_getElem hy1, ih, hn]
end Go.Proofs.YtnhdohednekhjaaGreatDoor
namespace Go.Proofs.YtnhdohednekhjaaGreatDoor
open Go.RowKit Go.Sort
theorem idx_lt {s : Int} (hs : 1 ≤ s) {xs : List Int} {m : Nat} (hl : xs.length = m) (h : ∀ a ∈ xs, 0 ≤ a ∧ a ≤ s - 1) : 0 ≤ idxL s 0 xs ∧ idxL s 0 xs ≤ s ^ m - 1 := by
 have := idx_bd hs h xs.length (Nat.le_refl _)
 rwa [List.take_length, hl] at this
/-- the tuples of a relation that an index picks -/
def picks (ts : List (List Int)) (ar : Nat) (i : Int) : List (List Int) := (digL ts.length i ar).map fun k => ts.getD k.toNat []
/-- what the operation makes of them -/
def makes (s : Int) (f : Int × List Int) (r : Int × List (List Int)) (i : Int) : List Int := madeL s f.2 (picks r.2 f.1.toNat i) r.1.toNat
end Go.Proofs.YtnhdohednekhjaaGreatDoor
namespace Go.Proofs.YtnhdohednekhjaaGreatDoor
open Go.RowKit Go.Sort
/-- a set of tuples in new memory: a box whose third cell is a row of truth values -/
def SetAt (e base : Nat) (w : World) (bx g n : Nat) (L : List Bool) : Prop := base ≤ bx ∧ bx < w.heap.size ∧ g ≠ bx ∧ w.cell? ⟨bx, 2, none⟩ = some (.slice (some ⟨g, 0, none⟩) n n) ∧ BR e base w g n n L
theorem SetAt.below {e base bx g n B : Nat} {w w' : World} {L : List Bool} (h : SetAt e base w bx g n L) (hb : Below B w w') (hB : w.heap.size ≤ B) : SetAt e base w' bx g n L :=
 let ⟨h1, h2, h3, h4, h5⟩ := h
 ⟨h1, Nat.lt_of_lt_of_le h2 hb.size, h3, (hb.cell (p := ⟨bx, 2, none⟩) (Nat.lt_of_lt_of_le h2 hB)).trans h4, h5.below hb (Nat.lt_of_lt_of_le h5.lt hB)⟩
theorem infoBool : (Tryz.prog.info? 4).map (fun i => (i.zero, i.size, i.bytes)) = some (some (.bool false), 1, 1) := by kernel_rfl
/-- the indices that have come up among the first k tuples -/
def seenL (s : Int) (N : Nat) (ts : List (List Int)) : List Bool := (List.range N).map fun j : Nat => ts.any fun t => idxL s 0 t == (j : Int)
theorem seenL_len {s : Int} {N : Nat} {ts : List (List Int)} : (seenL s N ts).length = N := by simp [seenL]
theorem seenL_nil {s : Int} {N : Nat} : seenL s N [] = List.replicate N false := by
 apply List.ext_getElem
 ·simp [seenL]
 ·intro i h1 h2; simp [seenL]
theorem seenL_set {s : Int} {N : Nat} {ts : List (List Int)} {k j : Nat} (hk : k < ts.length) (hj : idxL s 0 ts[k] = (j : Int)) (_hjN : j < N) : (seenL s N (ts.take k)).set j true = seenL s N (ts.take (k + 1)) := by
 apply List.ext_getElem
 ·simp [seenL]
 ·intro i h1 h2
  have hi : i < N := by simpa [seenL] using h2
  have htk : ts.take (k + 1) = ts.take k ++ [ts[k]] := List.take_succ_eq_append_getElem hk
  by_cases e : j = i
  ·subst e
   rw [List.getElem_set_self]
   simp only [seenL, List.getElem_map, List.getElem_range, htk, List.any_append, List.any_cons, List.any_nil, hj, beq_self_eq_true, Bool.or_true, Bool.true_or]
  ·rw [List.getElem_set_ne e]
   have : ((j : Int) == (i : Int)) = false := by simp; omega
   simp only [seenL, List.getElem_map, List.getElem_range, htk, List.any_append, List.any_cons, List.any_nil, hj, this, Bool.or_false]
theorem seenL_get {s : Int} (hs : 1 ≤ s) {m N : Nat} {ts : List (List Int)} (hts : ∀ t ∈ ts, t.length = m ∧ ∀ a ∈ t, 0 ≤ a ∧ a ≤ s - 1) {t : List Int} (ht : t.length = m) (hti : ∀ a ∈ t, 0 ≤ a ∧ a ≤ s - 1) {j : Nat} (hj : idxL s 0 t = (j : Int)) (h : j < (seenL s N ts).length) : (seenL s N ts)[j] = tb (t ∈ ts) := by
 rw [Bool.eq_iff_iff, tb_iff]
 simp only [seenL, List.getElem_map, List.getElem_range, List.any_eq_true, beq_iff_eq]
 constructor
 ·rintro ⟨x, hx, he⟩
  obtain ⟨x1, x2⟩ := hts x hx
  have := idxL_inj hs m x1 ht x2 hti (by rw [he, hj])
  rwa [← this]
 ·intro hm
  exact ⟨t, hm, hj⟩
end Go.Proofs.YtnhdohednekhjaaGreatDoor
namespace Go.Proofs.YtnhdohednekhjaaGreatDoor
open Go.RowKit Go.Sort
end Go.Proofs.YtnhdohednekhjaaGreatDoor
namespace Go.Proofs.YtnhdohednekhjaaGreatDoor
open Go.RowKit Go.Sort
/-- the slices that stand in a row read as the first tuples -/
def picked (w : World) (vs : List Value) (ts : List (List Int)) : Prop := vs.length ≤ ts.length ∧ ∀ i (h : i < vs.length) (h' : i < ts.length), intsT.Rd w [vs[i]] ts[i]
theorem picked.below {w w' : World} {vs : List Value} {ts : List (List Int)} (h : picked w vs ts) (hb : Below w.heap.size w w') : picked w' vs ts := ⟨h.1, fun i h1 h2 => (h.2 i h1 h2).below hb⟩
end Go.Proofs.YtnhdohednekhjaaGreatDoor
namespace Go.Proofs.YtnhdohednekhjaaGreatDoor
open Go.RowKit Go.Sort
abbrev Tpl := Int × List (Int × List (List Int))
/-- the truth values of a template's relations -/
def insF (t : Tpl) : List (List Bool) := t.2.map fun r => seenL t.1 (t.1 ^ r.1.toNat).toNat r.2
end Go.Proofs.YtnhdohednekhjaaGreatDoor
namespace Go.Proofs.YtnhdohednekhjaaGreatDoor
open Go.RowKit
/-- only blocks of which O holds are written, and new ones -/
structure TchP (O : Nat → Prop) (w w' : World) : Prop where
 os : w'.os = w.os
 tape : w'.tape = w.tape
 output : w'.output = w.output
 size : w.heap.size ≤ w'.heap.size
 block : ∀ k, k < w.heap.size → ¬ O k → w'.heap[k]? = w.heap[k]?
section
variable {O O' : Nat → Prop} {w w' w'' : World}
theorem TchP.refl (O : Nat → Prop) (w : World) : TchP O w w := ⟨rfl, rfl, rfl, Nat.le_refl _, fun _ _ _ => rfl⟩
theorem TchP.of_below (h : Below w.heap.size w w') (O : Nat → Prop) : TchP O w w' := ⟨h.os, h.tape, h.output, h.size, fun k hk _ => h.block k hk⟩
theorem TchP.then (h : TchP O w w') (h' : TchP O' w' w'') (hO : ∀ k, k < w.heap.size → O' k → O k) : TchP O w w'' :=
 ⟨h'.os.trans h.os, h'.tape.trans h.tape, h'.output.trans h.output, Nat.le_trans h.size h'.size, fun k hk hn => (h'.block k (Nat.lt_of_lt_of_le hk h.size) fun hm => hn (hO k hk hm)).trans (h.block k hk hn)⟩
theorem TchP.mono (h : TchP O w w') (hO : ∀ k, k < w.heap.size → O k → O' k) : TchP O' w w' := ⟨h.os, h.tape, h.output, h.size, fun k hk hn => h.block k hk fun hm => hn (hO k hk hm)⟩
theorem TchP.below {B : Nat} (h : TchP O w w') (hB : B ≤ w.heap.size) (hO : ∀ k, k < B → ¬ O k) : Below B w w' := ⟨h.os, h.tape, h.output, h.size, fun k hk => h.block k (Nat.lt_of_lt_of_le hk hB) (hO k hk)⟩
theorem TchP.cell (h : TchP O w w') {b i : Nat} (hb : b < w.heap.size) (hn : ¬ O b) : w'.cell? ⟨b, i, none⟩ = w.cell? ⟨b, i, none⟩ := World.cell?_of_block (a := ⟨b, i, none⟩) (h.block b hb hn)
theorem TchP.frozen (h : TchP O w w') {b i : Nat} (hb : b < w.heap.size) (hn : ¬ O b) : w'.frozen? ⟨b, i, none⟩ = w.frozen? ⟨b, i, none⟩ := World.frozen?_of_block (a := ⟨b, i, none⟩) (h.block b hb hn)
theorem TchP.set {b i : Nat} {v : Value} (hO : O b) : TchP O w (w.setCell ⟨b, i, none⟩ v) := ⟨rfl, rfl, rfl, by simp [World.setCell], fun k _ hn => Below.heap_setCell _ _ _ _ fun e => hn (by simp at e; rw [e]; exact hO)⟩
theorem TchP.grown {row : Option Nat} (h : w.grownBy w' row) (hO : ∀ k, row = some k → O k) : TchP O w w' := ⟨h.os, h.tape, h.output, h.size, fun k hk hn => h.block k hk fun e => hn (hO k e.symm)⟩
theorem Ty.RdP.tchP {α : Type} {E : Ty α} {ok : Nat → Prop} {cs : List Value} {x : α} (h : E.RdP ok w cs x) (ht : TchP O w w') (hO : ∀ k, k < w.heap.size → ok k → ¬ O k) : E.RdP ok w' cs x :=
 let ⟨fp, h, hf⟩ := h; ⟨fp, E.same h (fun k hk => ht.block k (E.lt h k hk) (hO k (E.lt h k hk) (hf k hk))), hf⟩
theorem pvR.tchP {ok : Nat → Prop} {z : (Int × List Int) × (Int × Value)} (h : pvR ok w z) (ht : TchP O w w') (hO : ∀ k, k < w.heap.size → ok k → ¬ O k) : pvR ok w' z := ⟨h.1, h.2.1, h.2.2.tchP ht hO⟩
end
/-- a datum that lies in blocks of which O holds -/
def Ty.on {α : Type} (E : Ty α) (O : Nat → Prop) : Ty α where
 sz := E.sz
 rd := fun w cs x fp => E.rd w cs x fp ∧ ∀ k ∈ fp, O k
 len := fun h => E.len h.1
 same := fun h hs => ⟨E.same h.1 hs, h.2⟩
 lt := fun h => E.lt h.1
 one := fun h => E.one h.1
section
variable {α : Type} {E : Ty α} {O O' : Nat → Prop} {e base top : Nat} {w w' : World} {v : Value} {ys : List α}
theorem on_same (h : Bl (E.on O) e base top w v ys) (hv : ∀ g, v.ownBlock = some g → O g) (hs : ∀ k, k < w.heap.size → O k → w'.heap[k]? = w.heap[k]?) : Bl (E.on O) e base top w' v ys := by
 obtain ⟨L, fps, h1, h2, h3, h4, h5, h6⟩ := h
 have hS : Same (flat fps ys.length) w w' := fun k hk => by
  obtain ⟨i, hi, hk⟩ := List.mem_flatMap.1 hk
  obtain ⟨cs, h7, _⟩ := h2 i (by simpa using hi)
  exact hs k (E.lt h7.1 k hk) (h7.2 k hk)
 refine ⟨L, fps, ⟨h1.1, ?_⟩, fun i hi => ?_, h3, h4, h5, h6.same hS⟩
 ·rcases h1.2 with h | ⟨g, cap, cur, rfl, hg, hh, r⟩
  ·exact .inl h
  ·exact .inr ⟨g, cap, cur, rfl, hg, by rw [hs g (lt_of_block hh) (hv g rfl)]; exact hh, r⟩
 ·obtain ⟨cs, h7, h8⟩ := h2 i hi
  exact ⟨cs, (E.on O).same h7 (fun k hk => hS k (List.mem_flatMap.2 ⟨i, by simpa using hi, hk⟩)), h8⟩
/-- a row of numbers: all that it hangs on is its own block -/
theorem bl_int_same {top' : Nat} {ys : List Int} (h : Bl Ty.int e base top w v ys) (hs : ∀ b, v.ownBlock = some b → w'.heap[b]? = w.heap[b]?) (ht : top ≤ top') : Bl Ty.int e base top' w' v ys := by
 obtain ⟨L, fps, h1, h2, h3, h4, h5, h6⟩ := h
 have hnil : ∀ b, b ∉ flat fps ys.length := by
  intro b hb
  obtain ⟨i, hi, hb⟩ := List.mem_flatMap.1 hb
  obtain ⟨cs, ⟨_, _, hf⟩, _⟩ := h2 i (by simpa using hi)
  rw [hf] at hb
  cases hb
 refine ⟨L, fps, ⟨h1.1, ?_⟩, fun i hi => ?_, h3, fun b hb => absurd hb (hnil b), fun g hg => Nat.lt_of_lt_of_le (h5 g hg) ht, fun b hb => absurd hb (hnil b)⟩
 ·rcases h1.2 with h | ⟨g, cap, cur, rfl, hg, hh, r⟩
  ·exact .inl h
  ·exact .inr ⟨g, cap, cur, rfl, hg, by rw [hs g rfl]; exact hh, r⟩
 ·obtain ⟨cs, h7, h8⟩ := h2 i hi
  exact ⟨cs, h7, h8⟩
/-- a row of values as they are -/
theorem bl_val_same {top' : Nat} {ys : List Value} (h : Bl Ty.val e base top w v ys) (hs : ∀ b, v.ownBlock = some b → w'.heap[b]? = w.heap[b]?) (ht : top ≤ top') : Bl Ty.val e base top' w' v ys := by
 obtain ⟨L, fps, h1, h2, h3, h4, h5, h6⟩ := h
 have hnil : ∀ b, b ∉ flat fps ys.length := by
  intro b hb
  obtain ⟨i, hi, hb⟩ := List.mem_flatMap.1 hb
  obtain ⟨cs, ⟨_, _, hf⟩, _⟩ := h2 i (by simpa using hi)
  rw [hf] at hb
  cases hb
 refine ⟨L, fps, ⟨h1.1, ?_⟩, fun i hi => ?_, h3, fun b hb => absurd hb (hnil b), fun g hg => Nat.lt_of_lt_of_le (h5 g hg) ht, fun b hb => absurd hb (hnil b)⟩
 ·rcases h1.2 with h | ⟨g, cap, cur, rfl, hg, hh, r⟩
  ·exact .inl h
  ·exact .inr ⟨g, cap, cur, rfl, hg, by rw [hs g rfl]; exact hh, r⟩
 ·obtain ⟨cs, h7, h8⟩ := h2 i hi
  exact ⟨cs, h7, h8⟩
end
abbrev boolsT : Ty (List Bool) := Ty.slice Ty.bool
/-- a row of values as they are, each of which reads as a datum of one cell -/
theorem rows_ofP {α : Type} {E : Ty α} {ok : Nat → Prop} {w : World} {v : Value} {vs : List Value} {ts : List α} (hE : E.sz = 1) (h : (Ty.slice Ty.val).RdP ok w [v] vs) (hl : vs.length = ts.length) (hr : ∀ i (h : i < vs.length) (h' : i < ts.length), E.RdP ok w [vs[i]] ts[i]) : (Ty.slice E).RdP ok w [v] ts := by
 obtain ⟨ad, cap, hv, h1, h2, h3⟩ := slice_exP h
 obtain rfl : v = _ := by simpa using hv
 refine slice_mkP hl h1 h2 fun h0 => ?_
 obtain ⟨b, o, rfl, hb, hok, he⟩ := h3 h0
 refine ⟨b, o, rfl, hb, hok, fun i hi => ?_⟩
 obtain ⟨cs, ⟨fp, ⟨rfl, _, _⟩, hf⟩, h6⟩ := he i (by omega)
 refine ⟨_, hr i (by omega) hi, fun j hj => ?_⟩
 have h7 := h6 j hj
 rw [hE]
 exact h7
theorem bl_val_rdP {e base top : Nat} {w : World} {v : Value} {vs : List Value} {ok : Nat → Prop} (h : Bl Ty.val e base top w v vs) (hl : vs.length ≤ capMax) (hv : ∀ g, v.ownBlock = some g → ok g) : (Ty.slice Ty.val).RdP ok w [v] vs := by
 obtain ⟨fp, h1, -, -, -⟩ := h.fr hl
 refine ⟨fp, h1, fun k hk => ?_⟩
 obtain ⟨ad, cap, hv', -, -, h3⟩ := h1
 obtain rfl : v = _ := by simpa using hv'
 rcases h3 with ⟨_, rfl⟩ | ⟨_, b, o, fps, rfl, _, rfl, h4⟩
 ·cases hk
 ·rcases List.mem_cons.1 hk with rfl | hk
  ·exact hv _ rfl
  ·obtain ⟨i, hi, hk⟩ := List.mem_flatMap.1 hk
   obtain ⟨cs, ⟨_, _, hf⟩, _⟩ := h4 i (by simpa using hi)
   rw [hf] at hk
   cases hk
/-- a pointer to a box whose third cell is a row of truth values -/
def Ty.setp : Ty (List Bool) where
 sz := 1
 rd := fun w cs L fp => ∃ bx v fp', cs = [.pointer (some ⟨bx, 0, none⟩)] ∧ bx < w.heap.size ∧ w.cell? ⟨bx, 2, none⟩ = some v ∧ boolsT.rd w [v] L fp' ∧ fp = bx :: fp'
 len := by rintro _ _ _ _ ⟨_, _, _, rfl, _⟩; rfl
 same := by
  rintro w w' _ L _ ⟨bx, v, fp', rfl, h1, h2, h3, rfl⟩ hs
  have hb := hs bx (List.mem_cons_self ..)
  refine ⟨bx, v, fp', rfl, ?_, (World.cell?_of_block (a := ⟨bx, 2, none⟩) hb).trans h2, boolsT.same h3 (fun k hk => hs k (List.mem_cons_of_mem _ hk)), rfl⟩
  rcases Nat.lt_or_ge bx w'.heap.size with h' | h'
  ·exact h'
  ·rw [Array.getElem?_eq_none h', Array.getElem?_eq_getElem h1] at hb
   cases hb
 lt := by
  rintro w _ L _ ⟨bx, v, fp', rfl, h1, h2, h3, rfl⟩ k hk
  rcases List.mem_cons.1 hk with rfl | hk
  ·exact h1
  ·exact boolsT.lt h3 k hk
 one := by rintro _ _ _ _ ⟨_, _, _, rfl, _⟩ u hu; simp at hu; subst hu; rfl
end Go.Proofs.YtnhdohednekhjaaGreatDoor
namespace Go.Proofs.YtnhdohednekhjaaGreatDoor
open Go.RowKit Go.Sort
/-- what a finder only reads: at block bs -/
def Fd (ok : Nat → Prop) (w : World) (bs : Nat) (t : Tpl) (ar : Int) (due : List (List (Int × List Int))) (fx : List Int) : Prop :=
 bs < w.heap.size ∧ ∃ v3 v4 v5, w.cell? ⟨bs, 0, none⟩ = some (.int .i64 t.1) ∧ w.cell? ⟨bs, 2, none⟩ = some (.int .i64 ar) ∧ w.cell? ⟨bs, 3, none⟩ = some v3 ∧ w.cell? ⟨bs, 4, none⟩ = some v4 ∧ w.cell? ⟨bs, 5, none⟩ = some v5 ∧
  duesT.RdP ok w [v3] due ∧ (Ty.slice boolsT).RdP ok w [v4] (insF t) ∧ intsT.RdP ok w [v5] fx
section
variable {ok ok' : Nat → Prop} {w w' : World} {bs : Nat} {t : Tpl} {ar : Int} {due : List (List (Int × List Int))} {fx : List Int}
theorem Fd.below (h : Fd ok w bs t ar due fx) (hb : Below w.heap.size w w') : Fd ok w' bs t ar due fx := by
 obtain ⟨h1, v3, v4, v5, c0, c2, c3, c4, c5, h3, h4, h5⟩ := h
 exact ⟨Nat.lt_of_lt_of_le h1 hb.size, v3, v4, v5, (hb.cell (p := ⟨bs, 0, none⟩) h1).trans c0, (hb.cell (p := ⟨bs, 2, none⟩) h1).trans c2, (hb.cell (p := ⟨bs, 3, none⟩) h1).trans c3, (hb.cell (p := ⟨bs, 4, none⟩) h1).trans c4, (hb.cell (p := ⟨bs, 5, none⟩) h1).trans c5, h3.below hb, h4.below hb, h5.below hb⟩
/-- its own last two cells and other blocks may be written -/
theorem Fd.tchP {O : Nat → Prop} (h : Fd ok w bs t ar due fx) (ht : TchP O w w') (hO : ∀ k, k < w.heap.size → ok k → ¬ O k) (hb : ¬ O bs) : Fd ok w' bs t ar due fx := by
 obtain ⟨h1, v3, v4, v5, c0, c2, c3, c4, c5, h3, h4, h5⟩ := h
 exact ⟨Nat.lt_of_lt_of_le h1 ht.size, v3, v4, v5, (ht.cell h1 hb).trans c0, (ht.cell h1 hb).trans c2, (ht.cell h1 hb).trans c3, (ht.cell h1 hb).trans c4, (ht.cell h1 hb).trans c5, h3.tchP ht hO, h4.tchP ht hO, h5.tchP ht hO⟩
theorem Fd.set {i : Nat} {u : Value} (h : Fd ok w bs t ar due fx) (hi : 6 ≤ i) (hO : ¬ ok bs) : Fd ok (w.setCell ⟨bs, i, none⟩ u) bs t ar due fx := by
 obtain ⟨h1, v3, v4, v5, c0, c2, c3, c4, c5, h3, h4, h5⟩ := h
 have hs : TchP (fun k => k = bs) w (w.setCell ⟨bs, i, none⟩ u) := TchP.set rfl
 have hk : ∀ k, k < w.heap.size → ok k → ¬ (k = bs) := fun k _ hk e => hO (e ▸ hk)
 have hc : ∀ j, j < 6 → (w.setCell ⟨bs, i, none⟩ u).cell? ⟨bs, j, none⟩ = w.cell? ⟨bs, j, none⟩ := fun j hj => World.cell?_setCell_other _ _ _ _ (by first | (simp; done) | (simp; omega))
 exact ⟨by simpa [World.setCell] using h1, v3, v4, v5, (hc 0 (by omega)).trans c0, (hc 2 (by omega)).trans c2, (hc 3 (by omega)).trans c3, (hc 4 (by omega)).trans c4, (hc 5 (by omega)).trans c5, h3.tchP hs hk, h4.tchP hs hk, h5.tchP hs hk⟩
theorem Fd.mono (h : Fd ok w bs t ar due fx) (hk : ∀ k, k < w.heap.size → ok k → ok' k) : Fd ok' w bs t ar due fx := by
 obtain ⟨h1, v3, v4, v5, c0, c2, c3, c4, c5, h3, h4, h5⟩ := h
 exact ⟨h1, v3, v4, v5, c0, c2, c3, c4, c5, h3.mono hk, h4.mono hk, h5.mono hk⟩
end
end Go.Proofs.YtnhdohednekhjaaGreatDoor
