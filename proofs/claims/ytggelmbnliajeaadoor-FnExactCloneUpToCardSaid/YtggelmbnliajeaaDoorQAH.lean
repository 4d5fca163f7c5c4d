/-
Contracts: the operations up to so many arguments that operations make, the program's.
The marks of the laws: mark writes numbers from k on into all memory of a datum, held finds them there.
-/
import Derived.Test.YtggelmbnliajeaaDoorQAE
import Derived.Test.YtggelmbnliajeaaDoorQAG
import Derived.Test.YtggelmbnliajeaaDoorQAD
import Derived.Test.YtggelmbnliajeaaDoorQAC
import Derived.Test.YtggelmbnliajeaaDoorQAB
namespace Go.Proofs.YtggelmbnliajeaaDoor
open Go.RowKit Go.Sort
theorem sorted_strict {L : List PV} (h : L.Pairwise leP) (hn : (L.map (·.2)).Nodup) : (L.map (·.2)).Pairwise ltL := by
 rw [List.pairwise_map]
 rw [List.Nodup, List.pairwise_map] at hn
 exact (List.pairwise_and_iff.2 ⟨h, hn⟩).imp fun ⟨h1, h2⟩ => h1.elim (fun e => absurd e h2) id
/-- the closure's list as a row that may be sorted -/
theorem AddI.sr {P : Program} {km em te B bs ba mb : Nat} {w : World} {v : Value} {vs : List Value} {A : List (List Int)} (h : AddI P km em te B bs ba mb w v vs A) {g cap : Nat} (hv : v = .slice (some ⟨g, 0, none⟩) A.length cap) : B ≤ g ∧ g < w.heap.size ∧ ∃ L : List PV, L.map (·.2) = A ∧ SR w g 0 L := by
 subst hv
 obtain ⟨o1, -, -⟩ := bl_val_own h.row
 have hl := h.len
 refine ⟨h.row.own rfl, h.row.own_lt rfl, vs.zip A, ?_, ?_⟩
 ·rw [List.map_snd_zip (by omega)]
 ·refine ⟨h.row.own_lt rfl, fun i => World.ownsRow.frozenAt (by rw [hl] at o1; exact o1) i, fun i hi => ?_⟩
  have hi1 : i < vs.length := by rw [List.length_zip] at hi; omega
  have hi2 : i < A.length := by omega
  rw [List.getElem_zip]
  refine ⟨?_, (h.rd i hi1 hi2).mono fun k _ hk e => hk.2.2.2 (by rw [e]; rfl)⟩
  rw [Nat.zero_add]
  rw [hl] at o1
  rw [World.ownsRow.cellAt o1 i (by omega), List.getElem?_eq_getElem hi1]
theorem CloneUpTo1_any (w : World) {v u : Value} {xs ys : List Int} (h : intsT.Rd w [v] xs) (h' : intsT.Rd w [u] ys) :
  Calls Tryd.prog 23 #[v, u] w fun e w' => e = .returned (.int .i64 (cmpL xs ys)) ∧ w = w' := by
 have H := Lib.hid h
 have H' := Lib.hid h'
 clear h h'
 go_enter Tryd.func23, Tryd.ntmps23
 go_wp2_with fail
 refine (Compare_any w H.out H'.out).mono ?_
 rintro e _ ⟨rfl, rfl⟩
 go_wp2_with fail
 go_ret
 exact ⟨rfl, rfl⟩
theorem fieldOp1 (w : World) (n : Int) (ad : Option Addr) (m c : Nat) : (Instr.field 39 (.agg #[.int .i64 n, .slice ad m c]) 1).run Tryd.prog w = .ok (.slice ad m c) w := by kernel_rfl
set_option maxHeartbeats 6400000 in
set_option maxRecDepth 100000 in
theorem CloneUpTo_any (w : World) {vo : Value} {ops : List (Int × List Int)} (hops : opsT.Rd w [vo] ops) {s ar : Int} :
  Calls Tryd.prog 7 #[.int .i64 s, .int .i64 ar, vo] w (RetSC opsT w (cuV s ar ops) (cuC s ar ops)) := by
 have H := Lib.hid hops
 obtain ⟨oa, oc, rfl⟩ := rd_slice hops
 clear hops
 go_enter Tryd.func7, Tryd.ntmps7
 go_wp2_with fail
 refine (areOpsN_any w H.out s).mono ?_
 rintro e w1 ⟨rfl, hb1⟩
 cases h1 : opsB s ops
 ·have HC := Lib.hid (cuC_1 (ar := ar) h1)
  have HV : Hid (cuV s ar ops = []) := cuV_no (by rw [HC.out]; decide)
  go_wp2_with fail
  go_ret2
  exact ⟨_, by rw [HC.out]; rfl, by rw [HV.out]; exact fr_nil, hb1⟩
 have HOK := Lib.hid (opsB_yes h1)
 by_cases h2 : 64 < ops.length
 ·have hd : decide ((64 : Int) < (ops.length : Int)) = true := by simp; omega
  have hd' : decide (64 < ops.length) = true := by simp; omega
  have HC := Lib.hid (cuC_2 (ar := ar) h1 hd')
  have HV : Hid (cuV s ar ops = []) := cuV_no (by rw [HC.out]; decide)
  clear h2
  go_wp2_with fail
  go_ret2
  exact ⟨_, by rw [HC.out]; rfl, by rw [HV.out]; exact fr_nil, hb1⟩
 have hd : decide ((64 : Int) < (ops.length : Int)) = false := by simp; omega
 have hd' : decide (64 < ops.length) = false := by simp; omega
 have HD := Lib.hid hd'
 have H1 := Lib.hid h1
 have hs4 : 1 ≤ s ∧ s ≤ 4 := HOK.out.1
 clear h2 h1
 go_wp2_with fail
 refine (isOpArity_any ar w1).mono ?_
 rintro e _ ⟨rfl, rfl⟩
 cases ha : inB ar 1 3
 ·have HC := Lib.hid (cuC_3 (ar := ar) H1.out HD.out ha)
  have HV : Hid (cuV s ar ops = []) := cuV_no (by rw [HC.out]; decide)
  go_wp2_with fail
  go_ret2
  exact ⟨_, by rw [HC.out]; rfl, by rw [HV.out]; exact fr_nil, hb1⟩
 have HA := Lib.hid ha
 obtain ⟨an, han⟩ : ∃ an : Nat, ar = (an : Int) := ⟨ar.toNat, by have := inB_true.1 ha; omega⟩
 subst han
 have han4 : 1 ≤ an ∧ an ≤ 3 := by have := inB_true.1 ha; omega
 obtain ⟨N, hN⟩ : ∃ N : Nat, s ^ an = (N : Int) := ⟨(s ^ an).toNat, by have := pow_nn (s := s) (by omega) an; omega⟩
 have hN64 : N ≤ 64 := by
  have h1 := pow_mono' (s := s) (c := 4) (by omega) (by omega) an
  rcases (show an = 1 ∨ an = 2 ∨ an = 3 by omega) with e | e | e <;> subst e <;> simp at h1 <;> omega
 have HN := Lib.hid hN
 have HNT : Hid (cuT s an = projs s an N ∧ (s ^ an).toNat = N) := by
  unfold Hid cuT
  rw [hN, Int.toNat_natCast]
  exact ⟨rfl, rfl⟩
 clear hN ha
 have hfld := fieldOp1
 go_wp2_with fail
 generalize hW : World.alloc w1 _ = W
 have hbW : Below w1.heap.size w1 W := hW ▸ bA
 have hsW : w1.heap.size < W.heap.size := by rw [← hW]; simp
 have HB0 : Hid (Bl intsT 32 w1.heap.size W.heap.size W (.slice (some ⟨w1.heap.size, 0, none⟩) 0 0) []) := by
  unfold Hid
  rw [← hW]
  simpa using Bl.lit0 (E := intsT) (e := 32) (base := w1.heap.size) (w := w1) (Nat.le_refl _)
 clear hW
 go_loopw [30, 8] (fun i q wr => ∃ p : Nat, p ≤ an ∧ i = .int .i64 p ∧ Bl intsT 32 w1.heap.size wr.heap.size wr q ((projs s an N).take p) ∧ Below w1.heap.size w1 wr) (fun i _ _ => an - (intOf i).toNat)
 case atStart => exact ⟨0, Nat.zero_le _, rfl, by rw [List.take_zero]; exact HB0.out, hbW⟩
 case round =>
  obtain ⟨p, hp, rfl, hBl, hbel⟩ := hrel
  obtain ⟨wv, rfl⟩ : ∃ wv : World, wv = wr := ⟨_, rfl⟩
  have HB := Lib.hid hBl
  have hze := hbel.size
  clear hBl HB0
  by_cases hpl : p < an
  ·have HTK : Hid ((projs s an N).take p ++ [projT s an N p] = (projs s an N).take (p + 1)) := by
    have h1 : p < (projs s an N).length := by rw [projs_len]; exact hpl
    have := take_snoc h1
    rw [show (projs s an N)[p] = projT s an N p by simp [projs]] at this
    exact this
   have hkl : ((projs s an N).take p).length ≤ 1000 := by rw [List.length_take, projs_len]; omega
   go_wp2_with fail
   refine (projection_any wv hs4 han4 HN.out hpl).mono ?_
   rintro e w3 ⟨cs3, rfl, hf3, hb3⟩
   obtain ⟨a3, c3, rfl⟩ := fr_pair hf3
   have HF3 : Hid (intsT.Fr wv.heap.size w3 [.slice a3 (projT s an N p).length c3] (projT s an N p)) := by
    obtain ⟨fp, ⟨cs', he, -, h3⟩, q1, q2, q3⟩ := hf3
    simp only [List.cons.injEq, true_and] at he
    rw [← he] at h3
    exact ⟨fp, h3, q1, q2, q3⟩
   have hz3 := hb3.size
   have hB3 := bthen hbel hb3
   clear hf3
   generalize projT s an N p = tp at HF3 HTK ⊢
   dsimp only
   go_wp2_with (at_builtin; go_loud (refine wpList_push (E := intsT) _ rfl _ _ 44 32 rfl elInt64SS rfl (HB.out.below (hb3.alloc hz3 _) (Nat.le_refl _)) rfl news1 (HF3.out.below bA) (by omega) (by decide) hze (by simp; omega) ?_; intro v4 w4 hB4 hg4 hown4))
   have hb4 : Below w1.heap.size w1 w4 := (hB3.alloc hB3.size _).grown hg4 (by simp; omega) (fun q hq => HB.out.own hq)
   rw [HTK.out] at hB4
   have HB4 := Lib.hid hB4
   clear hB4 hg4 hown4
   refine ⟨⟨p + 1, by omega, by go_num, HB4.out, hb4⟩, by simp [intOf]; omega⟩
  ·obtain rfl : p = an := by omega
   have hfv := HB.out.fr (by rw [List.length_take, projs_len]; unfold capMax; omega)
   rw [List.take_of_length_le (by rw [projs_len]; exact Nat.le_refl _)] at hfv
   obtain ⟨a3, c3, hv3⟩ := fr_slice hfv
   subst hv3
   have HT3 := Lib.hid hfv.rd
   have hB3 := bthen hb1 hbel
   have HCLO : Hid (Calls Tryd.prog 21 #[.int .i64 s, .slice oa ops.length oc, .slice a3 (projs s p N).length c3, .int .i64 ((64 : Nat) : Int)] wv (CloA Tryd.prog 9 4 32 s ops N (projs s p N) 64 wv)) := closure_any wv (H.out.below hB3) HOK.out.1 HOK.out.2 HT3.out (by omega) (projs_in (by omega)) (by rw [projs_len]; omega) (by omega)
   rw [projs_len] at HCLO ⊢
   clear hfv HB
   go_wp2_with fail
   refine HCLO.out.mono ?_
   rintro e w5 ⟨v5, vs5, A5, bs, ba, mb, rfl, hI5, hcl5, hall5, hb5, hA5⟩
   have HI5 := Lib.hid hI5
   have HCL5 := Lib.hid hcl5
   have HAL5 := Lib.hid hall5
   obtain ⟨ad5, cp5, hv5, hsh5⟩ := hI5.shape
   subst hv5
   have HSH5 := Lib.hid hsh5
   have hB5 := bthen hB3 hb5
   clear hI5 hcl5 hall5 HCLO hsh5
   by_cases h64 : A5.length ≤ 64
   rotate_left
   ·have hd5 : decide (A5.length ≤ 64) = false := by simp; omega
    have HBIG : Hid (cloBig s ops (s ^ ((p : Int)).toNat).toNat (cuT s ((p : Int)).toNat)) := by
     unfold Hid
     rw [Int.toNat_natCast, HNT.out.1, HNT.out.2]
     exact ⟨A5, HCL5.out.nd, HCL5.out.clo, by omega⟩
    have HC := Lib.hid (cuC_4 (ar := (p : Int)) H1.out HD.out HA.out HBIG.out)
    have HV : Hid (cuV s (p : Int) ops = []) := cuV_no (by rw [HC.out]; decide)
    go_wp2_with fail
    go_ret2
    exact ⟨_, by rw [HC.out]; rfl, by rw [HV.out]; exact fr_nil, hB5⟩
   have hd5 : decide (A5.length ≤ 64) = true := by simp; omega
   have HMM : Hid (∀ l, l ∈ A5 ↔ Clo s ops N (projs s p N) l) := HAL5.out h64
   have h0A : 0 < A5.length := by
    have : projT s p N 0 ∈ A5 := (HMM.out _).2 (.base (List.mem_map.2 ⟨0, by simp; omega, rfl⟩))
    exact List.length_pos_of_mem this
   obtain ⟨g5, rfl, hcp5⟩ := HSH5.out h0A
   obtain ⟨hg5, hgl5, L5, hL5, hS5⟩ := HI5.out.sr rfl
   have HL5 := Lib.hid hL5
   have HS5 := Lib.hid hS5
   have HLl5 : Hid (L5.length = A5.length) := by unfold Hid; rw [← hL5, List.length_map]
   clear hL5 hS5 HI5
   go_wp2_with fail
   refine (sortAll_any w5 HLl5.out HS5.out (by omega) 23 (enters Tryd.func23 (by kernel_rfl) rfl) (fun W v u xs ys h1 h2 => CloneUpTo1_any W h1 h2)).mono ?_
   rintro e w6 ⟨rfl, L6, hp6, hle6, hS6, hT6⟩
   have HS6 := Lib.hid hS6
   have HLl6 : Hid (L6.length = A5.length) := hp6.length_eq.trans HLl5.out
   have HIS : Hid (cloIs s ops N (projs s p N) (L6.map (·.2))) := by
    have hpm : (L6.map (·.2)).Perm A5 := by rw [← HL5.out]; exact hp6.map _
    exact ⟨sorted_strict hle6 (hpm.nodup_iff.2 HCL5.out.nd), fun l => hpm.mem_iff.trans (HMM.out l)⟩
   have hb6 : Below wv.heap.size w5 w6 := hT6.below hb5.size (fun k hk e => by omega)
   have hB6 : Below w.heap.size w w6 := hB5.trans (hb6.mono (by have := hB3.size; omega))
   clear hp6 hle6 hS6 hT6
   go_wp2_with fail
   generalize hW7 : World.alloc w6 _ = w7
   have hb7 : Below w6.heap.size w6 w7 := hW7 ▸ bA
   have hs7 : w6.heap.size < w7.heap.size := by rw [← hW7]; simp
   have HB7 : Hid (Bl opT 39 w6.heap.size w7.heap.size w7 (.slice (some ⟨w6.heap.size, 0, none⟩) 0 0) []) := by
    unfold Hid
    rw [← hW7]
    simpa using Bl.lit0 (E := opT) (e := 39) (base := w6.heap.size) (w := w6) (Nat.le_refl _)
   clear hW7
   go_loopw [56, 12] (fun i q wr => ∃ k : Nat, k ≤ A5.length ∧ i = .int .i64 k ∧ Bl opT 39 w6.heap.size wr.heap.size wr q ((L6.take k).map fun x => ((p : Int), x.2)) ∧ Below w6.heap.size w6 wr) (fun i _ _ => A5.length - (intOf i).toNat)
   case atStart => exact ⟨0, Nat.zero_le _, rfl, by rw [List.take_zero]; exact HB7.out, hb7⟩
   case round =>
    obtain ⟨k, hk, rfl, hBl, hbel7⟩ := hrel
    obtain ⟨wq, rfl⟩ : ∃ wq : World, wq = wr := ⟨_, rfl⟩
    have HBq := Lib.hid hBl
    have hzq := hbel7.size
    clear hBl HB7
    by_cases hkl : k < A5.length
    ·have hk6 : k < L6.length := by rw [HLl6.out]; exact hkl
     obtain ⟨e0', hr0⟩ := HS6.out.2.2 k hk6
     have e0 : wq.cell? ⟨g5, k, none⟩ = some (L6[k]).1 := (cellB hbel7 HS6.out.1).trans (by rw [← e0', Nat.zero_add])
     have HR0 := Lib.hid (hr0.rd.below hbel7)
     have htk : tupP s N (L6[k]).2 := clo_in HOK.out.2 (projs_in (by omega)) ((HIS.out.2 _).1 (List.mem_map.2 ⟨L6[k], List.getElem_mem hk6, rfl⟩))
     have htl := htk.1
     have HTK : Hid ((L6.take k).map (fun x => ((p : Int), x.2)) ++ [((p : Int), (L6[k]).2)] = (L6.take (k + 1)).map fun x => ((p : Int), x.2)) := by
      unfold Hid
      rw [← take_snoc hk6, List.map_append]
      rfl
     have hkl2 : ((L6.take k).map fun x => ((p : Int), x.2)).length ≤ 1000 := by rw [List.length_map, List.length_take]; omega
     generalize (L6[k]).2 = tk at HR0 HTK htl
     generalize (L6[k]).1 = yk at e0 HR0
     have HTL : Hid (tk.length = N) := htl
     obtain ⟨ya, yc, rfl⟩ := rd_slice HR0.out
     clear e0' hr0 htk htl
     go_wp2_with fail
     refine (Clone_any wq HR0.out (by rw [HTL.out]; omega)).mono ?_
     rintro e w8 ⟨u8, rfl, hf8, hb8⟩
     obtain ⟨a8, c8, rfl⟩ := fr_slice hf8
     have HF8 : Hid (opT.Fr wq.heap.size w8 [.int .i64 (p : Int), .slice a8 tk.length c8] ((p : Int), tk)) := fr_cons (I64.small (by omega) (by omega)) hf8
     have hz8 := hb8.size
     have hB8 := bthen hbel7 hb8
     clear hf8
     go_wp2_with (at_builtin; go_loud (refine wpList_push (E := opT) _ rfl _ _ 24 39 rfl elOpS rfl (HBq.out.below (hb8.alloc hz8 _) (Nat.le_refl _)) rfl news2 (HF8.out.below bA) (by omega) (by decide) hzq (by simp; omega) ?_; intro v9 w9 hB9 hg9 hown9))
     have hb9 : Below w6.heap.size w6 w9 := (hB8.alloc hB8.size _).grown hg9 (by simp; omega) (fun q hq => HBq.out.own hq)
     rw [HTK.out] at hB9
     have HB9 := Lib.hid hB9
     clear hB9 hg9 hown9
     refine ⟨⟨k + 1, by omega, by go_num, HB9.out, hb9⟩, by simp [intOf]; omega⟩
    ·obtain rfl : k = A5.length := by omega
     have HVV : Hid (cuV s (p : Int) ops = (L6.map (·.2)).map fun t => ((p : Int), t)) := cuV_ok (cuC_5 H1.out HD.out HA.out (by rw [Int.toNat_natCast, HNT.out.1, HNT.out.2]; exact big_no HMM.out h64)) (by rw [Int.toNat_natCast, HNT.out.1, HNT.out.2]; exact HIS.out)
     have HC : Hid (cuC s (p : Int) ops = 0) := cuC_5 H1.out HD.out HA.out (by rw [Int.toNat_natCast, HNT.out.1, HNT.out.2]; exact big_no HMM.out h64)
     have hfq := HBq.out.fr (by rw [List.length_map, List.length_take]; unfold capMax; omega)
     rw [List.take_of_length_le (Nat.le_of_eq HLl6.out), show (L6.map fun x => ((p : Int), x.2)) = cuV s (p : Int) ops by rw [HVV.out, List.map_map]; rfl] at hfq
     have HFQ := Lib.hid (hfq.mono (show w.heap.size ≤ w6.heap.size from hB6.size))
     have hBq := bthen hB6 hbel7
     clear hfq HBq
     go_wp2_with fail
     go_ret2
     exact ⟨_, by rw [HC.out]; rfl, HFQ.out, hBq⟩
end Go.Proofs.YtggelmbnliajeaaDoor
namespace Go.Proofs.YtggelmbnliajeaaDoor
open Go.RowKit Go.Sort

set_option maxHeartbeats 800000 in
theorem markInt64S_any (w : World) {v : Value} {xs : List Int} {fp : List Nat} (h : intsT.rd w [v] xs fp) (hn : fp.Nodup) (hu : Unf w fp) (k : Int) (h0 : 0 ≤ k) (h1 : k + cntI xs ≤ 4611686018427387904) :
  Calls Tryd.prog 27 #[v, .int .i64 k] w fun e w' => e = .returned (.int .i64 (k + cntI xs)) ∧ TchF fp w w' ∧ intsT.rd w' [v] (mkI k xs) fp ∧ Unf w' fp := by
 obtain ⟨ad, cap, rfl⟩ := rd_slice ⟨fp, h⟩
 unfold cntI at h1
 go_enter Tryd.func27, Tryd.ntmps27
 go_wp2_with fail
 go_loopw [1, 5] (fun l i wr => ∃ j : Nat, j ≤ xs.length ∧ i = .int .i64 j ∧ l = .int .i64 (k + j) ∧ TchF fp w wr ∧ intsT.rd wr [.slice ad xs.length cap] (mkAt (fun k _ => k) (fun _ => 1) k xs j) fp ∧ Unf wr fp) (fun _ i _ => xs.length - (intOf i).toNat)
 case atStart => exact ⟨0, Nat.zero_le _, rfl, by simp, TchF.refl _ _, by rw [mkAt_zero]; exact h, hu⟩
 case round =>
  obtain ⟨j, hj, rfl, rfl, ht, hr, hU⟩ := hrel
  by_cases hjl : j < xs.length
  ·obtain ⟨b, o, cap', hv, hb, hc, hf, hw⟩ := ints_mark hr hn hU (i := j) (by rw [mkAt_len]; exact hjl)
   simp only [mkAt_len, Value.slice.injEq, true_and] at hv
   obtain ⟨rfl, rfl⟩ := hv
   have H := Lib.hid (hw (k + j) ⟨by omega, by omega⟩)
   have e := mkAt_set (f := fun k _ => k) (c := fun _ => 1) (k := k) hjl
   rw [sumL_one, take_len hj] at e
   have HR := Lib.hid hr
   have HU := Lib.hid hU
   have HE := Lib.hid e
   clear hr hU hw h hu e
   go_wp2_with fail
   go_roundw
   case rel => exact ⟨j + 1, by omega, by go_num, by go_num, ht.trans H.out.2.2, by rw [← HE.out]; exact H.out.1, H.out.2.1⟩
   case measure => simp [intOf]; omega
  ·obtain rfl : j = xs.length := by omega
   rw [mkAt_full] at hr
   have HR := Lib.hid hr
   have HU := Lib.hid hU
   clear hr hU h hu
   go_wp2_with fail
   go_ret
   exact ⟨rfl, ht, HR.out, HU.out⟩
set_option maxHeartbeats 800000 in
theorem heldInt64S_any (w : World) {v : Value} {xs : List Int} (k : Int) (h : intsT.Rd w [v] (mkI k xs)) (h0 : 0 ≤ k) (h1 : k + cntI xs ≤ 4611686018427387904) :
  Calls Tryd.prog 28 #[v, .int .i64 k] w fun e w' => e = .returned (.int .i64 (k + cntI xs)) ∧ Below w.heap.size w w' := by
 obtain ⟨ad, cap, hv, -, -, hcell⟩ := ints_ex h
 have hlen : (mkI k xs).length = xs.length := mkL_len
 rw [hlen] at hv
 obtain rfl : v = _ := by simpa using hv
 unfold cntI at h1
 clear h hv
 go_enter Tryd.func28, Tryd.ntmps28
 go_wp2_with fail
 go_loopw [1, 5] (fun l i wr => ∃ j : Nat, j ≤ xs.length ∧ i = .int .i64 j ∧ l = .int .i64 (k + j) ∧ Below w.heap.size w wr) (fun _ i _ => xs.length - (intOf i).toNat)
 case atStart => exact ⟨0, Nat.zero_le _, rfl, by simp, Below.refl _ _⟩
 case round =>
  obtain ⟨j, hj, rfl, rfl, hbel⟩ := hrel
  by_cases hjl : j < xs.length
  ·obtain ⟨b, o, rfl, hb, hce⟩ := hcell (by omega)
   obtain ⟨-, hc0⟩ := hce j (by omega)
   have e : (mkI k xs)[j]'(by omega) = k + j := by
    have := mkL_get (f := fun (k : Int) (_ : Int) => k) (c := fun _ => 1) (k := k) hjl (by rw [mkL_len]; exact hjl)
    rw [sumL_one, take_len hj] at this
    exact this
   rw [e] at hc0
   have d0 : wr.cell? ⟨b, o + j, none⟩ = some (.int .i64 (k + j)) := (hbel.cell hb).trans hc0
   clear hcell hce hc0 e hlen
   go_wp2_with fail
   go_roundw
   case rel => exact ⟨j + 1, by omega, by go_num, by go_num, hbel⟩
   case measure => simp [intOf]; omega
  ·obtain rfl : j = xs.length := by omega
   clear hcell
   go_wp2_with fail
   go_ret
   exact ⟨rfl, hbel⟩
set_option maxHeartbeats 800000 in
theorem markOpS_any (w : World) {v : Value} {xs : List (Int × List Int)} {fp : List Nat} (h : opsT.rd w [v] xs fp) (hn : fp.Nodup) (hu : Unf w fp) (k : Int) (h0 : 0 ≤ k) (h1 : k + cntOps xs ≤ 4611686018427387904) :
  Calls Tryd.prog 9 #[v, .int .i64 k] w fun e w' => e = .returned (.int .i64 (k + cntOps xs)) ∧ TchF fp w w' ∧ opsT.rd w' [v] (mkOps k xs) fp ∧ Unf w' fp := by
 obtain ⟨_, _, _, _, hL, _⟩ := Ty.slice_ex ⟨fp, h⟩
 obtain ⟨ad, cap, rfl⟩ := rd_slice ⟨fp, h⟩
 have HS : Hid (cntOps xs = sumL cntOp1 xs) := rfl
 rw [HS.out] at h1
 go_enter Tryd.func9, Tryd.ntmps9
 go_wp2_with fail
 go_loopw [1, 5] (fun l i wr => ∃ j : Nat, j ≤ xs.length ∧ i = .int .i64 j ∧ l = .int .i64 (k + sumL cntOp1 (xs.take j)) ∧ TchF fp w wr ∧ opsT.rd wr [.slice ad xs.length cap] (mkAt mkOp1 cntOp1 k xs j) fp ∧ Unf wr fp) (fun _ i _ => xs.length - (intOf i).toNat)
 case atStart => exact ⟨0, Nat.zero_le _, rfl, by simp [sumL], TchF.refl _ _, by rw [mkAt_zero]; exact h, hu⟩
 case round =>
  obtain ⟨j, hj, rfl, rfl, ht, hr, hU⟩ := hrel
  have hs0 := sumL_nonneg cntOp1_nn (xs.take j)
  by_cases hjl : j < xs.length
  ·obtain ⟨b, o, cap', u, f, hv, hb, hc, hc1, hfz, hw⟩ := pairs_mark hr hn hU (i := j) (by rw [mkAt_len]; exact hjl)
   simp only [mkAt_len, Value.slice.injEq, true_and] at hv
   obtain ⟨rfl, rfl⟩ := hv
   have hs1 := sumL_succ cntOp1 hjl
   have hs2 := sumL_take_le cntOp1_nn xs (j + 1)
   have hi0 := cntI_nn xs[j].2
   have hi1 : cntOp1 xs[j] = 1 + cntI xs[j].2 := rfl
   obtain ⟨w1, hw1, c1, hd, hfn, hfu, -, hw'⟩ := hw (k + sumL cntOp1 (xs.take j)) ⟨by omega, by omega⟩
   rw [mkAt_get hjl] at hd
   have HE := Lib.hid (mkAt_set (f := mkOp1) (c := cntOp1) (k := k) hjl)
   have HD := Lib.hid hd
   have HW := Lib.hid hw'
   have HFN := Lib.hid hfn
   have HFU := Lib.hid hfu
   clear hr hU hw hw' h hu hd hfn hfu
   go_wp2_with fail
   rw [← hw1]
   go_wp2_with fail
   refine (markInt64S_any _ HD.out HFN.out HFU.out _ (by omega) (by omega)).mono ?_
   rintro e w2 ⟨rfl, g1, g2, g3⟩
   obtain ⟨q1, q2, q3⟩ := HW.out _ _ g1 g2 g3
   have he : (mkAt mkOp1 cntOp1 k xs j).set j (k + sumL cntOp1 (xs.take j), mkI (k + sumL cntOp1 (xs.take j) + 1) xs[j].2) = mkAt mkOp1 cntOp1 k xs (j + 1) := HE.out
   rw [he] at q1
   have HQ := Lib.hid q1
   have HQ2 := Lib.hid q2
   clear q1 q2 g1 g2 g3 hc hc1 c1 hfz he
   go_wp2_with fail
   go_roundw
   case rel => exact ⟨j + 1, by omega, by go_num, by rw [hs1, hi1]; go_num, ht.trans q3, HQ.out, HQ2.out⟩
   case measure => simp [intOf]; omega
  ·obtain rfl : j = xs.length := by omega
   rw [mkAt_full] at hr
   rw [List.take_length]
   have HR := Lib.hid hr
   have HU := Lib.hid hU
   clear hr hU h hu
   go_wp2_with fail
   go_ret
   exact ⟨by rw [HS.out]; rfl, ht, HR.out, HU.out⟩
set_option maxHeartbeats 800000 in
theorem heldOpS_any (w : World) {v : Value} {xs : List (Int × List Int)} (k : Int) (h : opsT.Rd w [v] (mkOps k xs)) (h0 : 0 ≤ k) (h1 : k + cntOps xs ≤ 4611686018427387904) :
  Calls Tryd.prog 10 #[v, .int .i64 k] w fun e w' => e = .returned (.int .i64 (k + cntOps xs)) ∧ Below w.heap.size w w' := by
 obtain ⟨ad, cap, hv, -, hL, hcell⟩ := pairs_ex h
 have hlen : (mkOps k xs).length = xs.length := mkL_len
 rw [hlen] at hv hL
 obtain rfl : v = _ := by simpa using hv
 have HS : Hid (cntOps xs = sumL cntOp1 xs) := rfl
 rw [HS.out] at h1
 clear h hv
 go_enter Tryd.func10, Tryd.ntmps10
 go_wp2_with fail
 go_loopw [1, 5] (fun l i wr => ∃ j : Nat, j ≤ xs.length ∧ i = .int .i64 j ∧ l = .int .i64 (k + sumL cntOp1 (xs.take j)) ∧ Below w.heap.size w wr) (fun _ i _ => xs.length - (intOf i).toNat)
 case atStart => exact ⟨0, Nat.zero_le _, rfl, by simp [sumL], Below.refl _ _⟩
 case round =>
  obtain ⟨j, hj, rfl, rfl, hbel⟩ := hrel
  have hs0 := sumL_nonneg cntOp1_nn (xs.take j)
  by_cases hjl : j < xs.length
  ·obtain ⟨b, o, rfl, hb, hce⟩ := hcell (by omega)
   obtain ⟨u, hd, -, hc0, hc1⟩ := hce j (by omega)
   have e : (mkOps k xs)[j]'(by omega) = mkOp1 (k + sumL cntOp1 (xs.take j)) xs[j] := mkL_get hjl (by rw [mkL_len]; exact hjl)
   rw [e] at hd hc0
   have d0 : wr.cell? ⟨b, o + j * 2, none⟩ = some (.int .i64 (k + sumL cntOp1 (xs.take j))) := (hbel.cell hb).trans hc0
   have d1 : wr.cell? ⟨b, o + j * 2 + 1, none⟩ = some u := (hbel.cell hb).trans hc1
   have hd' : _ := hd.below hbel
   have HD := Lib.hid hd'
   have hs1 := sumL_succ cntOp1 hjl
   have hs2 := sumL_take_le cntOp1_nn xs (j + 1)
   have hi0 := cntI_nn xs[j].2
   have hi1 : cntOp1 xs[j] = 1 + cntI xs[j].2 := rfl
   clear hcell hce hc0 hc1 e hlen hd hd'
   go_wp2_with fail
   refine (heldInt64S_any _ _ HD.out (by omega) (by omega)).mono ?_
   rintro e w1 ⟨rfl, hb1⟩
   have hp : 0 ≤ k + sumL cntOp1 (xs.take j) + 1 + cntI xs[j].2 := by omega
   go_wp2_with fail
   go_roundw
   case rel => exact ⟨j + 1, by omega, by go_num, by rw [hs1, hi1]; go_num, bthen hbel hb1⟩
   case measure => simp [intOf]; omega
  ·obtain rfl : j = xs.length := by omega
   rw [List.take_length]
   clear hcell
   go_wp2_with fail
   go_ret
   exact ⟨by rw [HS.out]; rfl, hbel⟩
theorem markOpS_fx (w : World) {v : Value} {xs : List (Int × List Int)} {lo hi : Nat} (h : opsT.Fx lo hi w [v] xs) (k : Int) (h0 : 0 ≤ k) (h1 : k + cntOps xs ≤ 4611686018427387904) :
  Calls Tryd.prog 9 #[v, .int .i64 k] w fun e w' => e = .returned (.int .i64 (k + cntOps xs)) ∧ Tch lo hi w w' ∧ opsT.Fx lo hi w' [v] (mkOps k xs) := by
 obtain ⟨fp, g1, g2, g3, g4⟩ := h
 exact (markOpS_any w g1 g2 g4 k h0 h1).mono fun e w' ⟨he, ht, hr, hu⟩ => ⟨he, ht.tch g3, fp, hr, g2, g3, hu⟩
end Go.Proofs.YtggelmbnliajeaaDoor
