/-
Contracts: the closure of tuples under operations, checked, the program's.
Contracts: the closure of tuples under operations, checked, the reference's.
The marks of the laws: mark writes numbers from k on into all memory of a datum, held finds them there.
ClosureOf: its bounds, as the law asks them.
-/
import Derived.Test.YtggelmbnliajeaaGreatDoorQAE
import Derived.Test.YtggelmbnliajeaaGreatDoorQAG
import Derived.Test.YtggelmbnliajeaaGreatDoorQAB
import Derived.Test.YtggelmbnliajeaaGreatDoorQAC
namespace Go.Proofs.YtggelmbnliajeaaGreatDoor
open Go.RowKit Go.Sort
theorem tupsB_eq {s ar : Int} {ts : List (List Int)} (ha : inB ar 1 4 = true) : anyB (fun l => !tb (rowOk s ar l)) ts = !(tupsB s ar ts) := by
 cases h : tupsB s ar ts
 ·cases h2 : anyB (fun l => !tb (rowOk s ar l)) ts
  ·unfold anyB at h2
   rw [List.any_eq_false] at h2
   have : tupsB s ar ts = true := tb_true ⟨inB_true.1 ha, fun l hl => by have := h2 l hl; simpa [tb_iff] using this⟩
   rw [h] at this
   cases this
  ·rfl
 ·have h1 := tb_iff.1 h
  unfold anyB
  rw [List.any_eq_false.2]
  ·rfl
  intro l hl
  simp [tb_true (h1.2 l hl)]
theorem tupsB_no {s ar : Int} {ts : List (List Int)} (ha : inB ar 1 4 = false) : tupsB s ar ts = false := tb_false fun hh => by
 have := inB_true.2 hh.1
 rw [ha] at this
 cases this
theorem relOk_pw {s : Int} {an : Nat} {M : List (List Int)} (hs : sizeOk s) (han : 1 ≤ an ∧ an ≤ 4) (hP : M.Pairwise ltL) (hM : ∀ l ∈ M, tupP s an l) : relOk s ((an : Int), M) := by
 refine ⟨hs, ⟨?_, ?_⟩, fun i hi => ⟨⟨?_, ?_⟩, fun h0 => ?_⟩⟩
 ·show (1 : Int) ≤ an; omega
 ·show (an : Int) ≤ 4; omega
 ·have h1 := hM _ (List.getElem_mem (l := M) hi)
  show ((M[i].length : Nat) : Int) = (an : Int)
  rw [h1.1]
 ·exact (hM _ (List.getElem_mem (l := M) hi)).2
 ·have hi' : i < M.length := hi
  exact List.pairwise_iff_getElem.1 hP (i - 1) i (by omega) hi' (by omega)
theorem nodup_le {α : Type} [DecidableEq α] : ∀ {l m : List α}, l.Nodup → (∀ a ∈ l, a ∈ m) → l.length ≤ m.length
 | [], m, _, _ => Nat.zero_le _
 | a :: l, m, h, hs => by
  have h1 := List.nodup_cons.1 h
  have h2 : l.length ≤ (m.erase a).length := nodup_le h1.2 fun b hb => by
   have hne : b ≠ a := fun e => h1.1 (e ▸ hb)
   exact (List.mem_erase_of_ne hne).2 (hs b (List.mem_cons_of_mem _ hb))
  have h3 := List.length_erase_of_mem (hs a (List.mem_cons_self ..))
  have h4 : 0 < m.length := List.length_pos_of_mem (hs a (List.mem_cons_self ..))
  simp only [List.length_cons]
  omega
theorem tups_le {s : Int} {an N : Nat} {A : List (List Int)} (hs : 1 ≤ s) (hN : s ^ an = (N : Int)) (hn : A.Nodup) (hA : ∀ l ∈ A, tupP s an l) : A.length ≤ N := by
 have h1 := nodup_le (m := (List.range N).map fun i : Nat => digL s i an) hn fun l hl => by
  have ht := hA l hl
  have hb := idx_lt hs ht.1 ht.2
  have e := dig_of hs ht.1 ht.2
  rw [hN] at hb
  refine List.mem_map.2 ⟨(idxL s 0 l).toNat, by simp; omega, ?_⟩
  rw [show (((idxL s 0 l).toNat : Nat) : Int) = idxL s 0 l by omega]
  exact e
 simpa using h1
theorem clo_mono {s : Int} {ops : List (Int × List Int)} {ar : Nat} {T T' : List (List Int)} (h : ∀ l, l ∈ T → l ∈ T') {l : List Int} (hl : Clo s ops ar T l) : Clo s ops ar T' l := by
 induction hl with
 | base h1 => exact .base (h _ h1)
 | step hf hl _ ih => exact .step hf hl ih
theorem AddI.rows {P : Program} {km em te B bs ba mb : Nat} {w : World} {v : Value} {vs : List Value} {A : List (List Int)} (h : AddI P km em te B bs ba mb w v vs A) (hl : A.length ≤ 100000000) : rowsT.Rd w [v] A :=
 rows_of_vals (h.row.fr (by rw [h.len]; unfold capMax; omega)).rd h.len (fun i h1 h2 => (h.rd i h1 h2).rd)
theorem fieldRelC (w : World) (n : Int) (ad : Option Addr) (m c : Nat) : (Instr.field 27 (.agg #[.int .i64 n, .slice ad m c]) 1).run Tryz.prog w = .ok (.slice ad m c) w := by kernel_rfl
theorem ClosureOf1_any (w : World) {b1 b2 : Nat} {u : Value} {x : List Int} (h : intsT.Rd w [u] x) {s ar : Int} (hs : 1 ≤ s ∧ s ≤ 4) (t0 : w.cell? ⟨b1, 0, none⟩ = some (.int .i64 s)) (u0 : w.cell? ⟨b2, 0, none⟩ = some (.int .i64 ar)) :
  Calls Tryz.prog 46 #[u, .pointer (some ⟨b1, 0, none⟩), .pointer (some ⟨b2, 0, none⟩)] w fun e w' => e = .returned (.bool (!(tb (rowOk s ar x)))) ∧ Below w.heap.size w w' := by
 have HX := Lib.hid h
 obtain ⟨ad, cap, rfl⟩ := rd_slice h
 clear h
 go_enter Tryz.func46, Tryz.ntmps46
 go_wp2_with fail
 refine (areValues_any w HX.out s ar (by omega) (by omega)).mono ?_
 rintro e w1 ⟨rfl, hbb⟩
 go_wp2_with fail
 go_ret
 exact ⟨rfl, hbb⟩
set_option maxHeartbeats 6400000 in
set_option maxRecDepth 100000 in
theorem ClosureOf_any (w : World) {vo : Value} {ops : List (Int × List Int)} (hops : opsT.Rd w [vo] ops) {vt : Value} {ts : List (List Int)} (hts : rowsT.Rd w [vt] ts) (s ar : Int) (hb : tupsB s ar ts = true → ts.length ≤ 1000000) :
  Calls Tryz.prog 10 #[.int .i64 s, .int .i64 ar, vo, vt] w (RetAC relT w (coV s ar ops ts) (coC s ar ops ts)) := by
 have H := Lib.hid hops
 have HT := Lib.hid hts
 have HB := Lib.hid hb
 obtain ⟨oa, oc, rfl⟩ := rd_slice hops
 obtain ⟨ta, tc, rfl⟩ := rd_slice hts
 clear hops hts hb
 go_enter Tryz.func10, Tryz.ntmps10
 go_wp2_with fail
 generalize hW : World.alloc (World.alloc (World.alloc w _) _) _ = W
 have hbW : Below w.heap.size w W := hW ▸ bthen bAA bA
 have hsW : w.heap.size + 3 ≤ W.heap.size := by rw [← hW]; simp
 have t0 : W.cell? ⟨w.heap.size, 0, none⟩ = some (.int .i64 s) := by rw [← hW]; simp [go_sem]
 have u0 : W.cell? ⟨w.heap.size + 1, 0, none⟩ = some (.int .i64 ar) := by rw [← hW]; simp [go_sem]
 have r0 : W.cell? ⟨w.heap.size + 1 + 1, 0, none⟩ = some (.int .i64 0) := by rw [← hW]; simp [go_sem]
 have r1 : W.cell? ⟨w.heap.size + 1 + 1, 1, none⟩ = some (.slice none 0 0) := by rw [← hW]; simp [go_sem]
 have q0 : W.frozen? ⟨w.heap.size + 1 + 1, 0, none⟩ = false := by rw [← hW]; simp [go_sem]
 have q1 : W.frozen? ⟨w.heap.size + 1 + 1, 1, none⟩ = false := by rw [← hW]; simp [go_sem]
 clear hW
 refine (areOpsN_any W (H.out.below hbW) s).mono ?_
 rintro e w1 ⟨rfl, hb1⟩
 have hB1 := bthen hbW hb1
 have hz1 := hb1.size
 replace t0 := (cellB hb1 (by omega)).trans t0
 replace u0 := (cellB hb1 (by omega)).trans u0
 replace r0 := (cellB hb1 (by omega)).trans r0
 replace r1 := (cellB hb1 (by omega)).trans r1
 replace q0 := (frozenB hb1 (by omega)).trans q0
 replace q1 := (frozenB hb1 (by omega)).trans q1
 cases h1 : opsB s ops
 ·have HC := Lib.hid (coC_no1 (ar := ar) (ts := ts) h1)
  have HV : Hid (coV s ar ops ts = (0, [])) := coV_no (by rw [HC.out]; decide)
  have HZ0 := Lib.hid (fun (x y : Value) => res2_0 (x := x) (y := y) r0)
  have HZ1 := Lib.hid (fun (x y : Value) => res2_1 (x := x) (y := y) r1)
  go_wp2_with fail
  refine bodyPost_ret (v := .tuple #[.agg #[.int .i64 0, .slice none 0 0], .int .i64 1]) (by simp [results, Tryz.results10, go_sem, HZ0.out, HZ1.out]) rfl ⟨[.int .i64 0, .slice none 0 0], by rw [HC.out], ?_, res2_b hB1 (by omega)⟩
  rw [HV.out]
  exact fr_rel0
 have HOK := Lib.hid (opsB_yes h1)
 by_cases h2 : 64 < ops.length
 ·have hd : decide ((64 : Int) < (ops.length : Int)) = true := by simp; omega
  have hd' : decide (64 < ops.length) = true := by simp; omega
  have HC := Lib.hid (coC_no2 (ar := ar) (ts := ts) h1 hd')
  have HV : Hid (coV s ar ops ts = (0, [])) := coV_no (by rw [HC.out]; decide)
  have HZ0 := Lib.hid (fun (x y : Value) => res2_0 (x := x) (y := y) r0)
  have HZ1 := Lib.hid (fun (x y : Value) => res2_1 (x := x) (y := y) r1)
  clear h2
  go_wp2_with fail
  refine bodyPost_ret (v := .tuple #[.agg #[.int .i64 0, .slice none 0 0], .int .i64 3]) (by simp [results, Tryz.results10, go_sem, HZ0.out, HZ1.out]) rfl ⟨[.int .i64 0, .slice none 0 0], by rw [HC.out], ?_, res2_b hB1 (by omega)⟩
  rw [HV.out]
  exact fr_rel0
 have hd : decide ((64 : Int) < (ops.length : Int)) = false := by simp; omega
 have hd' : decide (64 < ops.length) = false := by simp; omega
 have HD := Lib.hid hd'
 have H1 := Lib.hid h1
 have hs4 : 1 ≤ s ∧ s ≤ 4 := HOK.out.1
 clear h2 h1
 go_wp2_with fail
 refine (isArity_any ar _).mono ?_
 rintro e _ ⟨rfl, rfl⟩
 cases ha : inB ar 1 4
 ·have HC := Lib.hid (coC_no3 (ar := ar) (ts := ts) H1.out HD.out (tupsB_no ha))
  have HV : Hid (coV s ar ops ts = (0, [])) := coV_no (by rw [HC.out]; decide)
  have HZ0 := Lib.hid (fun (x y : Value) => res2_0 (x := x) (y := y) r0)
  have HZ1 := Lib.hid (fun (x y : Value) => res2_1 (x := x) (y := y) r1)
  go_wp2_with fail
  refine bodyPost_ret (v := .tuple #[.agg #[.int .i64 0, .slice none 0 0], .int .i64 2]) (by simp [results, Tryz.results10, go_sem, HZ0.out, HZ1.out]) rfl ⟨[.int .i64 0, .slice none 0 0], by rw [HC.out], ?_, res2_b hB1 (by omega)⟩
  rw [HV.out]
  exact fr_rel0
 have HTB := Lib.hid (tupsB_eq (s := s) (ts := ts) ha)
 have ha4 := inB_true.1 ha
 have HPF : Hid (∀ W', Below w1.heap.size w1 W' → ∀ k (h : k < ts.length) (x : Value), intsT.Rd W' [x] ts[k] → Calls Tryz.prog 46 (#[x] ++ #[.pointer (some ⟨w.heap.size, 0, none⟩), .pointer (some ⟨w.heap.size + 1, 0, none⟩)]) W' fun e W'' => e = .returned (.bool ((fun l => !(tb (rowOk s ar l))) ts[k])) ∧ Below W'.heap.size W' W'') := by
  intro W' hW' k hk x hx
  have hz := hW'.size
  exact ClosureOf1_any W' hx (by omega) ((cellB hW' (by omega)).trans t0) ((cellB hW' (by omega)).trans u0)
 clear ha
 go_wp2_with fail
 refine (ContainsFuncInts_any _ (HT.out.below hB1) (fun l => !(tb (rowOk s ar l))) 46 _ (enters Tryz.func46 (by kernel_rfl) rfl) HPF.out).mono ?_
 rintro e w2 ⟨rfl, hb2⟩
 rw [HTB.out]
 have hB2 := bthen hB1 hb2
 have hz2 := hb2.size
 replace t0 := (cellB hb2 (by omega)).trans t0
 replace u0 := (cellB hb2 (by omega)).trans u0
 replace r0 := (cellB hb2 (by omega)).trans r0
 replace r1 := (cellB hb2 (by omega)).trans r1
 replace q0 := (frozenB hb2 (by omega)).trans q0
 replace q1 := (frozenB hb2 (by omega)).trans q1
 clear HPF HTB
 cases h3 : tupsB s ar ts
 ·have HC := Lib.hid (coC_no3 (ar := ar) (ts := ts) H1.out HD.out h3)
  have HV : Hid (coV s ar ops ts = (0, [])) := coV_no (by rw [HC.out]; decide)
  have HZ0 := Lib.hid (fun (x y : Value) => res2_0 (x := x) (y := y) r0)
  have HZ1 := Lib.hid (fun (x y : Value) => res2_1 (x := x) (y := y) r1)
  go_wp2_with fail
  refine bodyPost_ret (v := .tuple #[.agg #[.int .i64 0, .slice none 0 0], .int .i64 2]) (by simp [results, Tryz.results10, go_sem, HZ0.out, HZ1.out]) rfl ⟨[.int .i64 0, .slice none 0 0], by rw [HC.out], ?_, res2_b hB2 (by omega)⟩
  rw [HV.out]
  exact fr_rel0
 have HC := Lib.hid (coC_ok (ar := ar) (ts := ts) H1.out HD.out h3)
 have HV := Lib.hid (coV_ok HC.out)
 have HTS := Lib.hid (tb_iff.1 h3)
 have HTL := Lib.hid (HB.out h3)
 obtain ⟨an, han⟩ : ∃ an : Nat, ar = (an : Int) := ⟨ar.toNat, by omega⟩
 subst han
 have han4 : 1 ≤ an ∧ an ≤ 4 := by omega
 obtain ⟨N, hN⟩ : ∃ N : Nat, s ^ an = (N : Int) := ⟨(s ^ an).toNat, by have := pow_nn (s := s) (by omega) an; omega⟩
 have hN256 : N ≤ 256 := by
  have h1 : s ^ an ≤ 256 := by
   refine Int.le_trans (pow_mono' (by omega) (show s ≤ 4 by omega) an) ?_
   rcases (show an = 1 ∨ an = 2 ∨ an = 3 ∨ an = 4 by omega) with e | e | e | e <;> rw [e] <;> decide
  omega
 have HN := Lib.hid hN
 have HTP : Hid (∀ l ∈ ts, tupP s an l) := fun l hl => by
  obtain ⟨g1, g2⟩ := HTS.out.2 l hl
  exact ⟨by omega, g2⟩
 clear hN h3 HTS
 go_wp2_with fail
 refine (power_any w2 s (an : Int) (by omega) (by omega) (by omega)).mono ?_
 rintro e _ ⟨rfl, rfl⟩
 rw [Int.toNat_natCast, HN.out]
 go_wp2_with fail
 have hfld := fieldRelC
 refine wp_region_T (fun w' => w'.cell? ⟨w.heap.size, 0, none⟩ = some (.int .i64 s) ∧ w'.cell? ⟨w.heap.size + 1, 0, none⟩ = some (.int .i64 (an : Int))) [] (by kernel_rfl) ⟨t0, u0⟩ (fun hHeld => ?_)
 refine wpAnyT_take (i := 0) (v := ?_) rfl (by kernel_rfl) (fun _ _ _ h => h) (Or.inl ⟨by rfl, ?_⟩) (by assumption) ?_
 rotate_left
 ·(intro w hSw; (try dsimp only at hSw); go_simp <;> with_reducible rfl)
 go_simp
 refine wpAnyT_take (i := 1) (v := ?_) rfl (by kernel_rfl) (fun _ _ _ h => h) (Or.inl ⟨by rfl, ?_⟩) (by assumption) ?_
 rotate_left
 ·(intro w hSw; (try dsimp only at hSw); go_simp <;> with_reducible rfl)
 go_simp
 refine wpAnyT_take (i := 2) (v := ?_) rfl (by kernel_rfl) (fun _ _ _ h => h) (Or.inl ⟨by rfl, ?_⟩) (by assumption) ?_
 rotate_left
 ·(intro w hSw; (try dsimp only at hSw); go_simp <;> with_reducible rfl)
 go_simp
 refine wpAnyT_take (i := 3) (v := ?_) rfl (by kernel_rfl) (fun _ _ _ h => h) (Or.inl ⟨by rfl, ?_⟩) (by assumption) ?_
 rotate_left
 ·(intro w hSw; (try dsimp only at hSw); go_simp <;> with_reducible rfl)
 go_simp
 refine wpAnyT_take (i := 6) (v := ?_) rfl (by kernel_rfl) (fun _ _ _ h => h) (Or.inl ⟨by rfl, ?_⟩) (by assumption) ?_
 rotate_left
 ·(intro w hSw; (try dsimp only at hSw); go_simp <;> with_reducible rfl)
 go_simp
 refine wpAnyT_one (i := 4) rfl (by kernel_rfl) (fun K hK => ?_)
 go_simp
 have hb3 : Below w2.heap.size w2 w2.drew := bD
 have hB3 := bthen hB2 hb3
 refine (makeRelN_any w2.drew (HT.out.below hB3) HTL.out (fun y hy => by rw [(HTP.out y hy).1]; omega) (ar := (an : Int)) (I64.small (by omega) (by omega))).mono ?_
 rintro e w4 ⟨M, hMP, hMM, cs4, rfl, hf4, hb4⟩
 have HMP := Lib.hid hMP
 have HMM := Lib.hid hMM
 obtain ⟨a4, c4, rfl⟩ := fr_pair hf4
 have hB34 : Below w2.heap.size w2 w4 := bthen hb3 hb4
 have hB4 := bthen hB2 hB34
 have hz4 := hB34.size
 replace t0 := (cellB hB34 (by omega)).trans t0
 replace u0 := (cellB hB34 (by omega)).trans u0
 replace r0 := (cellB hB34 (by omega)).trans r0
 replace r1 := (cellB hB34 (by omega)).trans r1
 replace q0 := (frozenB hB34 (by omega)).trans q0
 replace q1 := (frozenB hB34 (by omega)).trans q1
 have HR4 : Hid (rowsT.Rd w4 [.slice a4 M.length c4] M) := by
  obtain ⟨fp, ⟨cs', he, -, h3⟩, -⟩ := hf4
  simp only [List.cons.injEq, true_and] at he
  rw [← he] at h3
  exact ⟨fp, h3⟩
 have HMT : Hid (∀ l ∈ M, tupP s an l) := fun l hl => HTP.out l ((HMM.out l).1 hl)
 have HML : Hid (M.length ≤ 256) := by
  have hrel := relOk_pw (M := M) HOK.out.1 han4 HMP.out HMT.out
  exact (rel_bd hrel).1
 clear hMP hMM hf4 hb4 hHeld
 dsimp only
 refine hK.out _ _ ⟨t0, u0⟩ (fun hHeld => ?_)
 clear hK K
 refine wpAnyT_take (i := 5) (v := ?_) rfl (by kernel_rfl) (fun _ _ _ h => h) (Or.inl ⟨by rfl, ?_⟩) (by assumption) ?_
 rotate_left
 ·(intro w hSw; (try dsimp only at hSw); go_simp <;> with_reducible rfl)
 go_simp
 refine wpAnyT_one (i := 7) rfl (by kernel_rfl) (fun K hK => ?_)
 go_simp
 have HCLO : Hid (Calls Tryz.prog 49 #[.int .i64 s, .slice oa ops.length oc, .slice a4 M.length c4, .int .i64 (N : Int)] w4 (CloA Tryz.prog 9 4 42 s ops an M N w4)) := closure_any w4 (H.out.below hB4) HOK.out.1 HOK.out.2 HR4.out (by omega) HMT.out (by have := HML.out; omega) (by omega)
 refine HCLO.out.mono ?_
 rintro e w5 ⟨v5, vs5, A5, bs, ba, mb, rfl, hI5, hcl5, hall5, hb5, hA5⟩
 have HI5 := Lib.hid hI5
 have HALL : Hid (A5.length ≤ N ∧ ∀ l, l ∈ A5 ↔ Clo s ops an ts l) := by
  have h1 := tups_le (by omega) HN.out hcl5.nd (fun l hl => clo_in HOK.out.2 HMT.out (hcl5.clo l hl))
  refine ⟨h1, fun l => (hall5 h1 l).trans ⟨clo_mono fun x hx => (HMM.out x).1 hx, clo_mono fun x hx => (HMM.out x).2 hx⟩⟩
 obtain ⟨ad5, cp5, hv5, -⟩ := hI5.shape
 subst hv5
 have hB45 : Below w2.heap.size w2 w5 := bthen hB34 hb5
 have hB5 := bthen hB2 hB45
 have hz5 := hb5.size
 replace t0 := (cellB hb5 (by omega)).trans t0
 replace u0 := (cellB hb5 (by omega)).trans u0
 replace r0 := (cellB hb5 (by omega)).trans r0
 replace r1 := (cellB hb5 (by omega)).trans r1
 replace q0 := (frozenB hb5 (by omega)).trans q0
 replace q1 := (frozenB hb5 (by omega)).trans q1
 have HR5 : Hid (rowsT.Rd w5 [.slice ad5 A5.length cp5] A5) := HI5.out.rows (by omega)
 clear hI5 hcl5 hall5 HCLO hHeld HI5 HR4
 dsimp only
 refine hK.out _ _ ⟨t0, u0⟩ (fun hHeld => ?_)
 clear hK K
 refine wpAnyT_take (i := 8) (v := ?_) rfl (by kernel_rfl) (fun _ _ _ h => h) (Or.inl ⟨by rfl, ?_⟩) (by assumption) ?_
 rotate_left
 ·(intro w hSw; (try dsimp only at hSw); go_simp <;> with_reducible rfl)
 go_simp
 refine wpAnyT_take (i := 9) (v := ?_) rfl (by kernel_rfl) (fun _ _ _ h => h) (Or.inl ⟨by rfl, ?_⟩) (by assumption) ?_
 rotate_left
 ·(intro w hSw; (try dsimp only at hSw); go_simp <;> with_reducible rfl)
 go_simp
 refine wpAnyT_take (i := 10) (v := ?_) rfl (by kernel_rfl) (fun _ _ _ h => h) (Or.inl ⟨by rfl, ?_⟩) (by assumption) ?_
 rotate_left
 ·(intro w hSw; (try dsimp only at hSw); go_simp <;> with_reducible rfl)
 go_simp
 refine wpAnyT_take (i := 11) (v := ?_) rfl (by kernel_rfl) (fun _ _ _ h => h) (Or.inl ⟨by rfl, ?_⟩) (by assumption) ?_
 rotate_left
 ·(intro w hSw; (try dsimp only at hSw); go_simp <;> with_reducible rfl)
 go_simp
 refine wpAnyT_take (i := 12) (v := ?_) rfl (by kernel_rfl) (fun _ _ _ h => h) (Or.inl ⟨by rfl, ?_⟩) (by assumption) ?_
 rotate_left
 ·(intro w hSw; (try dsimp only at hSw); go_simp <;> with_reducible rfl)
 go_simp
 refine wpAnyT_done (by kernel_rfl) ?_ _
 go_simp
 go_wp2_with fail
 refine (makeRelN_any w5 HR5.out (by omega) (fun y hy => by rw [(clo_in HOK.out.2 HTP.out ((HALL.out.2 y).1 hy)).1]; omega) (ar := (an : Int)) (I64.small (by omega) (by omega))).mono ?_
 rintro e w6 ⟨R, hRP, hRM, cs6, rfl, hf6, hb6⟩
 have HV6 : Hid (((an : Int), R) = coV s an ops ts) := by
  unfold Hid
  rw [HV.out, Int.toNat_natCast, cloL_eq HOK.out.1 han4 HOK.out.2 HTP.out hRP (fun l => (hRM l).trans (HALL.out.2 l))]
 obtain ⟨a6, c6, rfl⟩ := fr_pair hf6
 have HF6 := Lib.hid hf6
 have hB6 := bthen hB5 hb6
 have hz6 := hb6.size
 replace r0 := (cellB hb6 (by omega)).trans r0
 replace r1 := (cellB hb6 (by omega)).trans r1
 replace q0 := (frozenB hb6 (by omega)).trans q0
 replace q1 := (frozenB hb6 (by omega)).trans q1
 have HZ0 := Lib.hid (fun (x y : Value) => res2_0 (x := x) (y := y) r0)
 have HZ1 := Lib.hid (fun (x y : Value) => res2_1 (x := x) (y := y) r1)
 clear hRP hRM hf6 hb6 t0 u0 hHeld
 go_wp2_with fail
 refine bodyPost_ret (v := .tuple #[.agg #[.int .i64 (an : Int), .slice a6 R.length c6], .int .i64 0]) (by simp [results, Tryz.results10, go_sem, HZ0.out, HZ1.out]) rfl ⟨[.int .i64 (an : Int), .slice a6 R.length c6], by rw [HC.out], ?_, res2_b hB6 (by omega)⟩
 rw [← HV6.out]
 exact (fr_set2 HF6.out (by omega)).mono (by omega)
end Go.Proofs.YtggelmbnliajeaaGreatDoor
namespace Go.Proofs.YtggelmbnliajeaaGreatDoor
open Go.RowKit Go.Sort
theorem clo_empty {s : Int} {ops : List (Int × List Int)} {ar : Nat} {T : List (List Int)} (ho : ∀ f ∈ ops, opOk s f) (hT : ∀ l, l ∉ T) {l : List Int} (h : Clo s ops ar T l) : False := by
 induction h with
 | base h => exact hT _ h
 | @step f ts hf hl _ ih =>
  have := (ho _ hf).2.1.1
  cases ts with
  | nil => simp at hl; omega
  | cons a ts => exact ih a (List.mem_cons_self ..)
theorem co_yes {s ar : Int} {ops : List (Int × List Int)} {ts : List (List Int)} (h1 : opsB s ops = true) (h2 : decide (64 < ops.length) = false) : coC s ar ops ts = mrC s ar ts := by
 cases h : tupsB s ar ts
 ·rw [coC_no3 h1 h2 h, (mr_no h).2]
 ·rw [coC_ok h1 h2 h, (mr_yes h).2]
set_option maxHeartbeats 6400000 in
set_option maxRecDepth 100000 in
theorem specClosureOf_any (w : World) {vo : Value} {ops : List (Int × List Int)} (hops : opsT.Rd w [vo] ops) {vt : Value} {ts : List (List Int)} (hts : rowsT.Rd w [vt] ts) (s ar : Int) (hl : ts.length ≤ 2000000) :
  Calls Tryz.prog 7 #[.int .i64 s, .int .i64 ar, vo, vt] w (RetAC relT w (coV s ar ops ts) (coC s ar ops ts)) := by
 have H := Lib.hid hops
 have HT := Lib.hid hts
 obtain ⟨oa, oc, rfl⟩ := rd_slice hops
 obtain ⟨ta, tc, rfl⟩ := rd_slice hts
 clear hops hts
 go_enter Tryz.func7, Tryz.ntmps7
 go_wp2_with fail
 generalize hW : World.alloc w _ = W
 have hbW : Below w.heap.size w W := hW ▸ bA
 have hsW : w.heap.size + 1 ≤ W.heap.size := by rw [← hW]; simp
 have r0 : W.cell? ⟨w.heap.size, 0, none⟩ = some (.int .i64 0) := by rw [← hW]; simp [go_sem]
 have r1 : W.cell? ⟨w.heap.size, 1, none⟩ = some (.slice none 0 0) := by rw [← hW]; simp [go_sem]
 have q0 : W.frozen? ⟨w.heap.size, 0, none⟩ = false := by rw [← hW]; simp [go_sem]
 have q1 : W.frozen? ⟨w.heap.size, 1, none⟩ = false := by rw [← hW]; simp [go_sem]
 clear hW
 refine (l02All_any W (H.out.below hbW) s).mono ?_
 rintro e w1 ⟨rfl, hqq1⟩
 have hb1 := hqq1.below
 have hB1 := bthen hbW hb1
 have hz1 := hb1.size
 replace r0 := (cellB hb1 (by omega)).trans r0
 replace r1 := (cellB hb1 (by omega)).trans r1
 replace q0 := (frozenB hb1 (by omega)).trans q0
 replace q1 := (frozenB hb1 (by omega)).trans q1
 clear hqq1
 cases h1 : opsB s ops
 ·have HC := Lib.hid (coC_no1 (ar := ar) (ts := ts) h1)
  have HV : Hid (coV s ar ops ts = (0, [])) := coV_no (by rw [HC.out]; decide)
  have HZ0 := Lib.hid (fun (x y : Value) => res2_0 (x := x) (y := y) r0)
  have HZ1 := Lib.hid (fun (x y : Value) => res2_1 (x := x) (y := y) r1)
  go_wp2_with fail
  refine bodyPost_ret (v := .tuple #[.agg #[.int .i64 0, .slice none 0 0], .int .i64 1]) (by simp [results, Tryz.results7, go_sem, HZ0.out, HZ1.out]) rfl ⟨[.int .i64 0, .slice none 0 0], by rw [HC.out], ?_, res2_b hB1 (by omega)⟩
  rw [HV.out]
  exact fr_rel0
 have HOK := Lib.hid (opsB_yes h1)
 by_cases h2 : 64 < ops.length
 ·have hd : decide ((64 : Int) < (ops.length : Int)) = true := by simp; omega
  have hd' : decide (64 < ops.length) = true := by simp; omega
  have HC := Lib.hid (coC_no2 (ar := ar) (ts := ts) h1 hd')
  have HV : Hid (coV s ar ops ts = (0, [])) := coV_no (by rw [HC.out]; decide)
  have HZ0 := Lib.hid (fun (x y : Value) => res2_0 (x := x) (y := y) r0)
  have HZ1 := Lib.hid (fun (x y : Value) => res2_1 (x := x) (y := y) r1)
  clear h2
  go_wp2_with fail
  refine bodyPost_ret (v := .tuple #[.agg #[.int .i64 0, .slice none 0 0], .int .i64 3]) (by simp [results, Tryz.results7, go_sem, HZ0.out, HZ1.out]) rfl ⟨[.int .i64 0, .slice none 0 0], by rw [HC.out], ?_, res2_b hB1 (by omega)⟩
  rw [HV.out]
  exact fr_rel0
 have hd : decide ((64 : Int) < (ops.length : Int)) = false := by simp; omega
 have hd' : decide (64 < ops.length) = false := by simp; omega
 have HD := Lib.hid hd'
 have H1 := Lib.hid h1
 have hs4 : 1 ≤ s ∧ s ≤ 4 := HOK.out.1
 have HCC : Hid (coC s ar ops ts = mrC s ar ts) := co_yes h1 hd'
 clear h2 h1
 go_wp2_with fail
 refine (specMakeRel_any w1 (HT.out.below hB1) hl HOK.out.1 ar).mono ?_
 rintro e w2 ⟨cs2, rfl, hf2, hb2⟩
 have hB2 := bthen hB1 hb2
 have hz2 := hb2.size
 replace r0 := (cellB hb2 (by omega)).trans r0
 replace r1 := (cellB hb2 (by omega)).trans r1
 replace q0 := (frozenB hb2 (by omega)).trans q0
 replace q1 := (frozenB hb2 (by omega)).trans q1
 cases h3 : tupsB s ar ts
 ·have HM := Lib.hid (mr_no h3)
  have HC : Hid (coC s ar ops ts = 2) := HCC.out.trans HM.out.2
  have HV : Hid (coV s ar ops ts = (0, [])) := coV_no (by rw [HC.out]; decide)
  rw [HM.out.2]
  obtain ⟨a2, c2, rfl⟩ := fr_pair hf2
  have hw2 : w.heap.size < w2.heap.size := by omega
  have HZ0 := Lib.hid (fun (x y : Value) (q : Obj) => (cellB (bA (w := (w2.setCell ⟨w.heap.size, 0, none⟩ x).setCell ⟨w.heap.size, 1, none⟩ y) (o := q)) (show w.heap.size < _ by simpa [World.setCell] using hw2)).trans (res2_0 (x := x) (y := y) r0))
  have HZ1 := Lib.hid (fun (x y : Value) (q : Obj) => (cellB (bA (w := (w2.setCell ⟨w.heap.size, 0, none⟩ x).setCell ⟨w.heap.size, 1, none⟩ y) (o := q)) (show w.heap.size < _ by simpa [World.setCell] using hw2)).trans (res2_1 (x := x) (y := y) r1))
  have e0 : ∀ q, (w2.alloc q).cell? ⟨w.heap.size, 0, none⟩ = some (.int .i64 0) := fun q => (cellB bA (by omega)).trans r0
  have e1 : ∀ q, (w2.alloc q).cell? ⟨w.heap.size, 1, none⟩ = some (.slice none 0 0) := fun q => (cellB bA (by omega)).trans r1
  have e2 : ∀ q, (w2.alloc q).frozen? ⟨w.heap.size, 0, none⟩ = false := fun q => (frozenB bA (by omega)).trans q0
  have e3 : ∀ q, (w2.alloc q).frozen? ⟨w.heap.size, 1, none⟩ = false := fun q => (frozenB bA (by omega)).trans q1
  clear hf2
  go_wp2_with fail
  refine bodyPost_ret (v := .tuple #[.agg #[.int .i64 0, .slice none 0 0], .int .i64 2]) (by simp [results, Tryz.results7, go_sem, HZ0.out, HZ1.out]) rfl ⟨[.int .i64 0, .slice none 0 0], by rw [HC.out], ?_, (res2_b hB2 (by omega)).alloc (by simp [World.setCell]; omega) _⟩
  rw [HV.out]
  exact fr_rel0
 have HM := Lib.hid (mr_yes h3)
 have HC : Hid (coC s ar ops ts = 0) := HCC.out.trans HM.out.2
 have HV := Lib.hid (coV_ok HC.out)
 rw [HM.out.2]
 rw [HM.out.1] at hf2
 have HTS := Lib.hid (tb_iff.1 h3)
 obtain ⟨an, han⟩ : ∃ an : Nat, ar = (an : Int) := ⟨ar.toNat, by have := HTS.out.1; omega⟩
 subst han
 have han4 : 1 ≤ an ∧ an ≤ 4 := by have := HTS.out.1; omega
 obtain ⟨N, hN⟩ : ∃ N : Nat, s ^ an = (N : Int) := ⟨(s ^ an).toNat, by have := pow_nn (s := s) (by omega) an; omega⟩
 rw [Int.toNat_natCast, hN, Int.toNat_natCast] at hf2
 have HN := Lib.hid hN
 have HTP : Hid (∀ l ∈ ts, tupP s an l) := fun l hl => by
  obtain ⟨g1, g2⟩ := HTS.out.2 l hl
  exact ⟨by omega, g2⟩
 obtain ⟨R, hR⟩ : ∃ R, R = setR s an N ts := ⟨_, rfl⟩
 rw [← hR] at hf2
 have HRM : Hid (∀ l, l ∈ R ↔ l ∈ ts) := fun l => by rw [hR]; exact setR_mem (by omega) HN.out HTP.out
 have HRO : Hid (relOk s ((an : Int), R)) := by unfold Hid; rw [hR]; exact relL_ok HOK.out.1 han4 HN.out
 obtain ⟨a2, c2, rfl⟩ := fr_pair hf2
 have HF2 := Lib.hid hf2
 clear hN h3 HTS hf2 hR
 have hw2 : w.heap.size < w2.heap.size := by omega
 have e0 : ∀ q, (w2.alloc q).cell? ⟨w.heap.size, 0, none⟩ = some (.int .i64 0) := fun q => (cellB bA hw2).trans r0
 have e1 : ∀ q, (w2.alloc q).cell? ⟨w.heap.size, 1, none⟩ = some (.slice none 0 0) := fun q => (cellB bA hw2).trans r1
 have e2 : ∀ q, (w2.alloc q).frozen? ⟨w.heap.size, 0, none⟩ = false := fun q => (frozenB bA hw2).trans q0
 have e3 : ∀ q, (w2.alloc q).frozen? ⟨w.heap.size, 1, none⟩ = false := fun q => (frozenB bA hw2).trans q1
 by_cases hR0 : R.length = 0
 ·have HV0 : Hid ((((an : Nat) : Int), R) = coV s an ops ts) := by
   obtain rfl := List.eq_nil_of_length_eq_zero hR0
   unfold Hid
   rw [HV.out, Int.toNat_natCast, cloL_eq HOK.out.1 han4 HOK.out.2 HTP.out List.Pairwise.nil (fun l => ⟨fun h => (by cases h), fun h => (clo_empty HOK.out.2 (fun l hl => (by have := (HRM.out l).2 hl; cases this)) h).elim⟩)]
  have hd0 : ((R.length : Int) == 0) = true := by rw [hR0]; rfl
  have HZ0 := Lib.hid (fun (x y : Value) (q : Obj) => (cellB (bA (w := (w2.setCell ⟨w.heap.size, 0, none⟩ x).setCell ⟨w.heap.size, 1, none⟩ y) (o := q)) (show w.heap.size < _ by simpa [World.setCell] using hw2)).trans (res2_0 (x := x) (y := y) r0))
  have HZ1 := Lib.hid (fun (x y : Value) (q : Obj) => (cellB (bA (w := (w2.setCell ⟨w.heap.size, 0, none⟩ x).setCell ⟨w.heap.size, 1, none⟩ y) (o := q)) (show w.heap.size < _ by simpa [World.setCell] using hw2)).trans (res2_1 (x := x) (y := y) r1))
  clear hR0
  go_wp2_with fail
  refine bodyPost_ret (v := .tuple #[.agg #[.int .i64 (an : Int), .slice a2 R.length c2], .int .i64 0]) (by simp [results, Tryz.results7, go_sem, HZ0.out, HZ1.out]) rfl ⟨[.int .i64 (an : Int), .slice a2 R.length c2], by rw [HC.out], ?_, (res2_b hB2 (by omega)).alloc (by simp [World.setCell]; omega) _⟩
  rw [← HV0.out]
  exact ((fr_set2 HF2.out (by omega)).below bA).mono (by omega)
 have hn0 : ((R.length : Nat) : Int) ≠ 0 := by omega
 have hd0 : ((R.length : Int) == 0) = false := by simpa using hn0
 clear hn0
 clear hR0
 have hbx : relT.Pt (w2.alloc (.cells #[.int .i64 (an : Int), .slice a2 R.length c2] 27)) (.pointer (some ⟨w2.heap.size, 0, none⟩)) ((an : Int), R) := pt_box (T := 27) HF2.out.rd
 have HBX := Lib.hid hbx
 clear hbx
 go_wp2_with fail
 clear e0 e1 e2 e3
 generalize hWb : World.alloc w2 _ = wb at HBX ⊢
 have hbb : Below w2.heap.size w2 wb := hWb ▸ bA
 have hBb := bthen hB2 hbb
 have hzb := hbb.size
 replace r0 := (cellB hbb (by omega)).trans r0
 replace r1 := (cellB hbb (by omega)).trans r1
 replace q0 := (frozenB hbb (by omega)).trans q0
 replace q1 := (frozenB hbb (by omega)).trans q1
 clear hWb
 refine (l01SetOf3_any wb HBX.out HRO.out an N rfl HN.out).mono ?_
 rintro e w3 ⟨bx, g, rfl, hset, hgs, hb3⟩
 have HSET := Lib.hid hset
 have hB3 := bthen hBb hb3
 have hz3 := hb3.size
 have hwb : w.heap.size < wb.heap.size := by omega
 replace r0 := (cellB hb3 hwb).trans r0
 replace r1 := (cellB hb3 hwb).trans r1
 replace q0 := (frozenB hb3 hwb).trans q0
 replace q1 := (frozenB hb3 hwb).trans q1
 have HRT : Hid (∀ l ∈ R, tupP s an l) := fun l hl => HTP.out l ((HRM.out l).1 hl)
 have HOP : Hid (opsT.RdP (fun q => q ≠ g) w3 [.slice oa ops.length oc] ops) := by
  obtain ⟨fp, h1, h2⟩ := H.out.B
  exact ⟨fp, opsT.same h1 (fun k hk => hB3.block k (h2 k hk)), fun k hk e => by have := h2 k hk; omega⟩
 clear hset
 go_wp2_with fail
 refine (l02Closure_any w3 HSET.out HOK.out.1 han4 HN.out HRT.out HOP.out HOK.out.2).mono ?_
 rintro e w4 ⟨cs4, M, rfl, hf4, hrok, hmem, hT4⟩
 have hMp : M.Pairwise ltL := sortedL_pw (relOk_sorted hrok)
 have HV4 : Hid ((((an : Nat) : Int), M) = coV s an ops ts) := by
  unfold Hid
  rw [HV.out, Int.toNat_natCast, cloL_eq HOK.out.1 han4 HOK.out.2 HTP.out hMp (fun l => (hmem l).trans ⟨clo_mono fun x hx => (HRM.out x).1 hx, clo_mono fun x hx => (HRM.out x).2 hx⟩)]
 obtain ⟨a4, c4, rfl⟩ := fr_pair hf4
 have HF4 := Lib.hid hf4
 have hb4 : Below wb.heap.size w3 w4 := hT4.below hz3 (fun k hk e => by omega)
 have hB4 : Below w.heap.size w w4 := hB3.trans (hb4.mono (by omega))
 replace r0 := (cellB hb4 hwb).trans r0
 replace r1 := (cellB hb4 hwb).trans r1
 replace q0 := (frozenB hb4 hwb).trans q0
 replace q1 := (frozenB hb4 hwb).trans q1
 have HZ0 := Lib.hid (fun (x y : Value) => res2_0 (x := x) (y := y) r0)
 have HZ1 := Lib.hid (fun (x y : Value) => res2_1 (x := x) (y := y) r1)
 clear hf4 hrok hmem hT4
 go_wp2_with fail
 refine bodyPost_ret (v := .tuple #[.agg #[.int .i64 (an : Int), .slice a4 M.length c4], .int .i64 0]) (by simp [results, Tryz.results7, go_sem, HZ0.out, HZ1.out]) rfl ⟨[.int .i64 (an : Int), .slice a4 M.length c4], by rw [HC.out], ?_, res2_b hB4 (by omega)⟩
 rw [← HV4.out]
 exact (fr_set2 HF4.out (by omega)).mono (by omega)
end Go.Proofs.YtggelmbnliajeaaGreatDoor
namespace Go.Proofs.YtggelmbnliajeaaGreatDoor
open Go.RowKit Go.Sort

set_option maxHeartbeats 800000 in
theorem markInt64S_any (w : World) {v : Value} {xs : List Int} {fp : List Nat} (h : intsT.rd w [v] xs fp) (hn : fp.Nodup) (hu : Unf w fp) (k : Int) (h0 : 0 ≤ k) (h1 : k + cntI xs ≤ 4611686018427387904) :
  Calls Tryz.prog 53 #[v, .int .i64 k] w fun e w' => e = .returned (.int .i64 (k + cntI xs)) ∧ TchF fp w w' ∧ intsT.rd w' [v] (mkI k xs) fp ∧ Unf w' fp := by
 obtain ⟨ad, cap, rfl⟩ := rd_slice ⟨fp, h⟩
 unfold cntI at h1
 go_enter Tryz.func53, Tryz.ntmps53
 go_wp2_with fail
 go_loopw [1, 5] (fun l i wr => ∃ j : Nat, j ≤ xs.length ∧ i = .int .i64 j ∧ l = .int .i64 (k + j) ∧ TchF fp w wr ∧ intsT.rd wr [.slice ad xs.length cap] (mkAt (fun k _ => k) (fun _ => 1) k xs j) fp ∧ Unf wr fp) (fun _ i _ => xs.length - (intOf i).toNat)
 case atStart => exact ⟨0, Nat.zero_le _, rfl, by simp, TchF.refl _ _, by rw [mkAt_zero]; exact h, hu⟩
 case round =>
  obtain ⟨j, hj, rfl, rfl, ht, hr, hU⟩ := hrel
  by_cases hjl : j < xs.length
  ·obtain ⟨b, o, cap', hv, hb, hc, hf, hw⟩ := ints_mark hr hn hU (i := j) (by rw [mkAt_len]; exact hjl)
   simp only [mkAt_len, Value.slice.injEq, true_and] at hv
   obtain ⟨rfl, rfl⟩ := hv
   have H := Lib.hid (hw (k + j) ⟨by omega, by omega⟩)
   have e := mkAt_set (f := fun k _ => k) (c := fun _ => 1) (k := k) hjl
   rw [sumL_one, take_len hj] at e
   have HR := Lib.hid hr
   have HU := Lib.hid hU
   have HE := Lib.hid e
   clear hr hU hw h hu e
   go_wp2_with fail
   go_roundw
   case rel => exact ⟨j + 1, by omega, by go_num, by go_num, ht.trans H.out.2.2, by rw [← HE.out]; exact H.out.1, H.out.2.1⟩
   case measure => simp [intOf]; omega
  ·obtain rfl : j = xs.length := by omega
   rw [mkAt_full] at hr
   have HR := Lib.hid hr
   have HU := Lib.hid hU
   clear hr hU h hu
   go_wp2_with fail
   go_ret
   exact ⟨rfl, ht, HR.out, HU.out⟩
set_option maxHeartbeats 800000 in
theorem heldInt64S_any (w : World) {v : Value} {xs : List Int} (k : Int) (h : intsT.Rd w [v] (mkI k xs)) (h0 : 0 ≤ k) (h1 : k + cntI xs ≤ 4611686018427387904) :
  Calls Tryz.prog 113 #[v, .int .i64 k] w fun e w' => e = .returned (.int .i64 (k + cntI xs)) ∧ Below w.heap.size w w' := by
 obtain ⟨ad, cap, hv, -, -, hcell⟩ := ints_ex h
 have hlen : (mkI k xs).length = xs.length := mkL_len
 rw [hlen] at hv
 obtain rfl : v = _ := by simpa using hv
 unfold cntI at h1
 clear h hv
 go_enter Tryz.func113, Tryz.ntmps113
 go_wp2_with fail
 go_loopw [1, 5] (fun l i wr => ∃ j : Nat, j ≤ xs.length ∧ i = .int .i64 j ∧ l = .int .i64 (k + j) ∧ Below w.heap.size w wr) (fun _ i _ => xs.length - (intOf i).toNat)
 case atStart => exact ⟨0, Nat.zero_le _, rfl, by simp, Below.refl _ _⟩
 case round =>
  obtain ⟨j, hj, rfl, rfl, hbel⟩ := hrel
  by_cases hjl : j < xs.length
  ·obtain ⟨b, o, rfl, hb, hce⟩ := hcell (by omega)
   obtain ⟨-, hc0⟩ := hce j (by omega)
   have e : (mkI k xs)[j]'(by omega) = k + j := by
    have := mkL_get (f := fun (k : Int) (_ : Int) => k) (c := fun _ => 1) (k := k) hjl (by rw [mkL_len]; exact hjl)
    rw [sumL_one, take_len hj] at this
    exact this
   rw [e] at hc0
   have d0 : wr.cell? ⟨b, o + j, none⟩ = some (.int .i64 (k + j)) := (hbel.cell hb).trans hc0
   clear hcell hce hc0 e hlen
   go_wp2_with fail
   go_roundw
   case rel => exact ⟨j + 1, by omega, by go_num, by go_num, hbel⟩
   case measure => simp [intOf]; omega
  ·obtain rfl : j = xs.length := by omega
   clear hcell
   go_wp2_with fail
   go_ret
   exact ⟨rfl, hbel⟩
set_option maxHeartbeats 800000 in
theorem markInt64SS_any (w : World) {v : Value} {xs : List (List Int)} {fp : List Nat} (h : rowsT.rd w [v] xs fp) (hn : fp.Nodup) (hu : Unf w fp) (k : Int) (h0 : 0 ≤ k) (h1 : k + cntRows xs ≤ 4611686018427387904) :
  Calls Tryz.prog 15 #[v, .int .i64 k] w fun e w' => e = .returned (.int .i64 (k + cntRows xs)) ∧ TchF fp w w' ∧ rowsT.rd w' [v] (mkRows k xs) fp ∧ Unf w' fp := by
 obtain ⟨_, _, _, _, hL, _⟩ := Ty.slice_ex ⟨fp, h⟩
 obtain ⟨ad, cap, rfl⟩ := rd_slice ⟨fp, h⟩
 have HS : Hid (cntRows xs = sumL cntI xs) := rfl
 rw [HS.out] at h1
 go_enter Tryz.func15, Tryz.ntmps15
 go_wp2_with fail
 go_loopw [1, 5] (fun l i wr => ∃ j : Nat, j ≤ xs.length ∧ i = .int .i64 j ∧ l = .int .i64 (k + sumL cntI (xs.take j)) ∧ TchF fp w wr ∧ rowsT.rd wr [.slice ad xs.length cap] (mkAt mkI cntI k xs j) fp ∧ Unf wr fp) (fun _ i _ => xs.length - (intOf i).toNat)
 case atStart => exact ⟨0, Nat.zero_le _, rfl, by simp [sumL], TchF.refl _ _, by rw [mkAt_zero]; exact h, hu⟩
 case round =>
  obtain ⟨j, hj, rfl, rfl, ht, hr, hU⟩ := hrel
  have hs0 := sumL_nonneg cntI_nn (xs.take j)
  by_cases hjl : j < xs.length
  ·obtain ⟨b, o, cap', u, f, hv, hb, hc, hd, hfn, hfu, hw⟩ := rows_mark hr hn hU (i := j) (by rw [mkAt_len]; exact hjl)
   simp only [mkAt_len, Value.slice.injEq, true_and] at hv
   obtain ⟨rfl, rfl⟩ := hv
   rw [mkAt_get hjl] at hd
   have hs1 := sumL_succ cntI hjl
   have hs2 := sumL_take_le cntI_nn xs (j + 1)
   have HE := Lib.hid (mkAt_set (f := mkI) (c := cntI) (k := k) hjl)
   have HD := Lib.hid hd
   have HW := Lib.hid hw
   have HFN := Lib.hid hfn
   have HFU := Lib.hid hfu
   clear hr hU hw h hu hd hfn hfu
   go_wp2_with fail
   refine (markInt64S_any _ HD.out HFN.out HFU.out _ (by omega) (by omega)).mono ?_
   rintro e w1 ⟨rfl, g1, g2, g3⟩
   obtain ⟨q1, q2, q3⟩ := HW.out _ _ g1 g2 g3
   rw [HE.out] at q1
   have HQ := Lib.hid q1
   have HQ2 := Lib.hid q2
   clear q1 q2 g1 g2 g3 hc
   go_wp2_with fail
   go_roundw
   case rel => exact ⟨j + 1, by omega, by go_num, by rw [hs1]; go_num, ht.trans q3, HQ.out, HQ2.out⟩
   case measure => simp [intOf]; omega
  ·obtain rfl : j = xs.length := by omega
   rw [mkAt_full] at hr
   rw [List.take_length]
   have HR := Lib.hid hr
   have HU := Lib.hid hU
   clear hr hU h hu
   go_wp2_with fail
   go_ret
   exact ⟨by rw [HS.out]; rfl, ht, HR.out, HU.out⟩
set_option maxHeartbeats 800000 in
theorem heldInt64SS_any (w : World) {v : Value} {xs : List (List Int)} (k : Int) (h : rowsT.Rd w [v] (mkRows k xs)) (h0 : 0 ≤ k) (h1 : k + cntRows xs ≤ 4611686018427387904) :
  Calls Tryz.prog 54 #[v, .int .i64 k] w fun e w' => e = .returned (.int .i64 (k + cntRows xs)) ∧ Below w.heap.size w w' := by
 obtain ⟨ad, cap, hv, -, hL, hcell⟩ := slices_ex h
 have hlen : (mkRows k xs).length = xs.length := mkL_len
 rw [hlen] at hv hL
 obtain rfl : v = _ := by simpa using hv
 have HS : Hid (cntRows xs = sumL cntI xs) := rfl
 rw [HS.out] at h1
 clear h hv
 go_enter Tryz.func54, Tryz.ntmps54
 go_wp2_with fail
 go_loopw [1, 5] (fun l i wr => ∃ j : Nat, j ≤ xs.length ∧ i = .int .i64 j ∧ l = .int .i64 (k + sumL cntI (xs.take j)) ∧ Below w.heap.size w wr) (fun _ i _ => xs.length - (intOf i).toNat)
 case atStart => exact ⟨0, Nat.zero_le _, rfl, by simp [sumL], Below.refl _ _⟩
 case round =>
  obtain ⟨j, hj, rfl, rfl, hbel⟩ := hrel
  have hs0 := sumL_nonneg cntI_nn (xs.take j)
  by_cases hjl : j < xs.length
  ·obtain ⟨b, o, rfl, hb, hce⟩ := hcell (by omega)
   obtain ⟨u, hd, hc0⟩ := hce j (by omega)
   have e : (mkRows k xs)[j]'(by omega) = mkI (k + sumL cntI (xs.take j)) xs[j] := mkL_get hjl (by rw [mkL_len]; exact hjl)
   rw [e] at hd
   have d0 : wr.cell? ⟨b, o + j, none⟩ = some u := (hbel.cell hb).trans hc0
   have HD := Lib.hid (hd.below hbel)
   have hs1 := sumL_succ cntI hjl
   have hs2 := sumL_take_le cntI_nn xs (j + 1)
   clear hcell hce hc0 e hlen hd
   go_wp2_with fail
   refine (heldInt64S_any _ _ HD.out (by omega) (by omega)).mono ?_
   rintro e w1 ⟨rfl, hb1⟩
   have hp : 0 ≤ k + sumL cntI (xs.take j) + cntI xs[j] := by have := cntI_nn xs[j]; omega
   go_wp2_with fail
   go_roundw
   case rel => exact ⟨j + 1, by omega, by go_num, by rw [hs1]; go_num, bthen hbel hb1⟩
   case measure => simp [intOf]; omega
  ·obtain rfl : j = xs.length := by omega
   rw [List.take_length]
   clear hcell
   go_wp2_with fail
   go_ret
   exact ⟨by rw [HS.out]; rfl, hbel⟩
set_option maxHeartbeats 800000 in
theorem markOpS_any (w : World) {v : Value} {xs : List (Int × List Int)} {fp : List Nat} (h : opsT.rd w [v] xs fp) (hn : fp.Nodup) (hu : Unf w fp) (k : Int) (h0 : 0 ≤ k) (h1 : k + cntOps xs ≤ 4611686018427387904) :
  Calls Tryz.prog 14 #[v, .int .i64 k] w fun e w' => e = .returned (.int .i64 (k + cntOps xs)) ∧ TchF fp w w' ∧ opsT.rd w' [v] (mkOps k xs) fp ∧ Unf w' fp := by
 obtain ⟨_, _, _, _, hL, _⟩ := Ty.slice_ex ⟨fp, h⟩
 obtain ⟨ad, cap, rfl⟩ := rd_slice ⟨fp, h⟩
 have HS : Hid (cntOps xs = sumL cntOp1 xs) := rfl
 rw [HS.out] at h1
 go_enter Tryz.func14, Tryz.ntmps14
 go_wp2_with fail
 go_loopw [1, 5] (fun l i wr => ∃ j : Nat, j ≤ xs.length ∧ i = .int .i64 j ∧ l = .int .i64 (k + sumL cntOp1 (xs.take j)) ∧ TchF fp w wr ∧ opsT.rd wr [.slice ad xs.length cap] (mkAt mkOp1 cntOp1 k xs j) fp ∧ Unf wr fp) (fun _ i _ => xs.length - (intOf i).toNat)
 case atStart => exact ⟨0, Nat.zero_le _, rfl, by simp [sumL], TchF.refl _ _, by rw [mkAt_zero]; exact h, hu⟩
 case round =>
  obtain ⟨j, hj, rfl, rfl, ht, hr, hU⟩ := hrel
  have hs0 := sumL_nonneg cntOp1_nn (xs.take j)
  by_cases hjl : j < xs.length
  ·obtain ⟨b, o, cap', u, f, hv, hb, hc, hc1, hfz, hw⟩ := pairs_mark hr hn hU (i := j) (by rw [mkAt_len]; exact hjl)
   simp only [mkAt_len, Value.slice.injEq, true_and] at hv
   obtain ⟨rfl, rfl⟩ := hv
   have hs1 := sumL_succ cntOp1 hjl
   have hs2 := sumL_take_le cntOp1_nn xs (j + 1)
   have hi0 := cntI_nn xs[j].2
   have hi1 : cntOp1 xs[j] = 1 + cntI xs[j].2 := rfl
   obtain ⟨w1, hw1, c1, hd, hfn, hfu, -, hw'⟩ := hw (k + sumL cntOp1 (xs.take j)) ⟨by omega, by omega⟩
   rw [mkAt_get hjl] at hd
   have HE := Lib.hid (mkAt_set (f := mkOp1) (c := cntOp1) (k := k) hjl)
   have HD := Lib.hid hd
   have HW := Lib.hid hw'
   have HFN := Lib.hid hfn
   have HFU := Lib.hid hfu
   clear hr hU hw hw' h hu hd hfn hfu
   go_wp2_with fail
   rw [← hw1]
   go_wp2_with fail
   refine (markInt64S_any _ HD.out HFN.out HFU.out _ (by omega) (by omega)).mono ?_
   rintro e w2 ⟨rfl, g1, g2, g3⟩
   obtain ⟨q1, q2, q3⟩ := HW.out _ _ g1 g2 g3
   have he : (mkAt mkOp1 cntOp1 k xs j).set j (k + sumL cntOp1 (xs.take j), mkI (k + sumL cntOp1 (xs.take j) + 1) xs[j].2) = mkAt mkOp1 cntOp1 k xs (j + 1) := HE.out
   rw [he] at q1
   have HQ := Lib.hid q1
   have HQ2 := Lib.hid q2
   clear q1 q2 g1 g2 g3 hc hc1 c1 hfz he
   go_wp2_with fail
   go_roundw
   case rel => exact ⟨j + 1, by omega, by go_num, by rw [hs1, hi1]; go_num, ht.trans q3, HQ.out, HQ2.out⟩
   case measure => simp [intOf]; omega
  ·obtain rfl : j = xs.length := by omega
   rw [mkAt_full] at hr
   rw [List.take_length]
   have HR := Lib.hid hr
   have HU := Lib.hid hU
   clear hr hU h hu
   go_wp2_with fail
   go_ret
   exact ⟨by rw [HS.out]; rfl, ht, HR.out, HU.out⟩
set_option maxHeartbeats 800000 in
theorem markRel_any (w : World) {cs : Array Value} {xs : Int × List (List Int)} {fp : List Nat} (h : relT.rd w cs.toList xs fp) (hn : fp.Nodup) (hu : Unf w fp) (k : Int) (h0 : 0 ≤ k) (h1 : k + cntRel xs ≤ 4611686018427387904) :
  Calls Tryz.prog 16 #[.agg cs, .int .i64 k] w fun e w' => e = .returned (.int .i64 (k + cntRel xs)) ∧ TchF fp w w' ∧ relT.rd w' cs.toList (mkRel k xs) fp ∧ Unf w' fp := by
 obtain ⟨u, hv, hd, hcl⟩ := rd_pair h
 obtain rfl := agg_of hv
 clear hv
 go_enter Tryz.func16, Tryz.ntmps16
 go_wp2_with fail
 refine (markInt64SS_any _ ((Ty.slice _).same hd (Same.below bA ((Ty.slice _).lt hd))) hn (hu.same (Same.below bA ((Ty.slice _).lt hd))) _ h0 h1).mono ?_
 rintro e w1 ⟨rfl, g1, g2, g3⟩
 go_wp2_with fail
 go_ret
 exact ⟨rfl, (Below.tchF bA fp).trans g1, hcl _ _ g2, g3⟩
set_option maxHeartbeats 800000 in
theorem heldRel_any (w : World) {cs : Array Value} {xs : Int × List (List Int)} (k : Int) (h : relT.Rd w cs.toList (mkRel k xs)) (h0 : 0 ≤ k) (h1 : k + cntRel xs ≤ 4611686018427387904) :
  Calls Tryz.prog 17 #[.agg cs, .int .i64 k] w fun e w' => e = .returned (.int .i64 (k + cntRel xs)) ∧ Below w.heap.size w w' := by
 obtain ⟨u, hv, -, hd⟩ := pair_ex h
 obtain rfl := agg_of hv
 clear hv h
 go_enter Tryz.func17, Tryz.ntmps17
 go_wp2_with fail
 refine (heldInt64SS_any _ _ (hd.below bA) h0 h1).mono ?_
 rintro e w1 ⟨rfl, hb1⟩
 have hp : 0 ≤ k + cntRel xs := by have := cntRows_nn xs.2; unfold cntRel; omega
 unfold cntRel at hp
 go_wp2_with fail
 go_ret
 exact ⟨rfl, (by repeat (first | exact Below.refl _ _ | exact bA | assumption | refine Below.setCell ?_ (by first | omega | (simp; try omega)) _ | refine Below.alloc ?_ (by first | omega | (simp; try omega)) _ | refine Below.drew ?_ | refine bDN ?_ | refine bthen ?_ (by assumption)))⟩
theorem markInt64SS_fx (w : World) {v : Value} {xs : List (List Int)} {lo hi : Nat} (h : rowsT.Fx lo hi w [v] xs) (k : Int) (h0 : 0 ≤ k) (h1 : k + cntRows xs ≤ 4611686018427387904) :
  Calls Tryz.prog 15 #[v, .int .i64 k] w fun e w' => e = .returned (.int .i64 (k + cntRows xs)) ∧ Tch lo hi w w' ∧ rowsT.Fx lo hi w' [v] (mkRows k xs) := by
 obtain ⟨fp, g1, g2, g3, g4⟩ := h
 exact (markInt64SS_any w g1 g2 g4 k h0 h1).mono fun e w' ⟨he, ht, hr, hu⟩ => ⟨he, ht.tch g3, fp, hr, g2, g3, hu⟩
theorem markOpS_fx (w : World) {v : Value} {xs : List (Int × List Int)} {lo hi : Nat} (h : opsT.Fx lo hi w [v] xs) (k : Int) (h0 : 0 ≤ k) (h1 : k + cntOps xs ≤ 4611686018427387904) :
  Calls Tryz.prog 14 #[v, .int .i64 k] w fun e w' => e = .returned (.int .i64 (k + cntOps xs)) ∧ Tch lo hi w w' ∧ opsT.Fx lo hi w' [v] (mkOps k xs) := by
 obtain ⟨fp, g1, g2, g3, g4⟩ := h
 exact (markOpS_any w g1 g2 g4 k h0 h1).mono fun e w' ⟨he, ht, hr, hu⟩ => ⟨he, ht.tch g3, fp, hr, g2, g3, hu⟩
theorem markRel_fx (w : World) {cs : Array Value} {xs : Int × List (List Int)} {lo hi : Nat} (h : relT.Fx lo hi w cs.toList xs) (k : Int) (h0 : 0 ≤ k) (h1 : k + cntRel xs ≤ 4611686018427387904) :
  Calls Tryz.prog 16 #[.agg cs, .int .i64 k] w fun e w' => e = .returned (.int .i64 (k + cntRel xs)) ∧ Tch lo hi w w' ∧ relT.Fx lo hi w' cs.toList (mkRel k xs) := by
 obtain ⟨fp, g1, g2, g3, g4⟩ := h
 exact (markRel_any w g1 g2 g4 k h0 h1).mono fun e w' ⟨he, ht, hr, hu⟩ => ⟨he, ht.tch g3, fp, hr, g2, g3, hu⟩
end Go.Proofs.YtggelmbnliajeaaGreatDoor
namespace Go.Proofs.YtggelmbnliajeaaGreatDoor
open Go.RowKit Go.Sort
theorem rows_two : ∀ {ts : List (List Int)}, (∀ l ∈ ts, 1 ≤ l.length) → (ts.length : Int) ≤ sumL szInts ts
 | [], _ => by simp [sumL]
 | x :: r, h => by
  have h1 := h x (List.mem_cons_self ..)
  have h2 := rows_two fun l hl => h l (List.mem_cons_of_mem _ hl)
  simp only [sumL, List.length_cons, szInts]
  omega
theorem rows_lim {s ar : Int} {ts : List (List Int)} (h : szRows ts ≤ 1048576) (ht : tupsB s ar ts = true) : ts.length ≤ 1000000 := by
 have h1 := tb_iff.1 ht
 have h2 := rows_two (ts := ts) fun l hl => by have := (h1.2 l hl).1; have := h1.1; omega
 unfold szRows szSl at h
 omega
theorem sumI_nn : ∀ {ts : List (List Int)}, 0 ≤ sumL szInts ts
 | [] => by simp [sumL]
 | x :: r => by
  have h2 := sumI_nn (ts := r)
  simp only [sumL, szInts]
  omega
theorem rows_len {ts : List (List Int)} (h : szRows ts ≤ 1048576) : ts.length ≤ 2000000 := by
 have h1 := sumI_nn (ts := ts)
 unfold szRows szSl at h
 omega
theorem co_cnt {s ar : Int} {ops : List (Int × List Int)} {ts : List (List Int)} : cntRel (coV s ar ops ts) ≤ 1000000 := by
 by_cases h : coC s ar ops ts = 0
 ·have h1 : opsB s ops = true := by
   cases h1 : opsB s ops
   ·rw [coC_no1 h1] at h; omega
   ·rfl
  have h2 : decide (64 < ops.length) = false := by
   cases h2 : decide (64 < ops.length)
   ·rfl
   ·rw [coC_no2 h1 h2] at h; omega
  have h3 : tupsB s ar ts = true := by
   cases h3 : tupsB s ar ts
   ·rw [coC_no3 h1 h2 h3] at h; omega
   ·rfl
  have ha := (tb_iff.1 h3).1
  have hs := (opsB_yes h1).1
  rw [coV_ok h]
  obtain ⟨an, rfl⟩ : ∃ an : Nat, ar = (an : Int) := ⟨ar.toNat, by omega⟩
  rw [Int.toNat_natCast]
  have hs1 := hs.1
  have hN : s ^ an = ((s ^ an).toNat : Int) := by have := pow_nn (s := s) (by omega) an; omega
  have hr : relOk s ((an : Int), cloL s an ops ts) := relL_ok (p := fun l => tb (Clo s ops an ts l)) hs (by omega) hN
  obtain ⟨b1, b2⟩ := rel_bd hr
  have b1' : (cloL s an ops ts).length ≤ 256 := b1
  have h4 := sumL_bd (f := cntI) (c := 4) (xs := cloL s an ops ts) (fun y hy => by have := b2 y hy; unfold cntI; omega)
  show cntRows (cloL s an ops ts) ≤ 1000000
  unfold cntRows
  omega
 ·rw [coV_no h]; decide
theorem ClosureOf_at (w : World) {vo : Value} {ops : List (Int × List Int)} (hops : opsT.Rd w [vo] ops) {vt : Value} {ts : List (List Int)} (hts : rowsT.Rd w [vt] ts) {s ar : Int} (h : szRows ts ≤ 1048576) :
  Calls Tryz.prog 10 #[.int .i64 s, .int .i64 ar, vo, vt] w (RetAC relT w (coV s ar ops ts) (coC s ar ops ts)) := ClosureOf_any w hops hts s ar (rows_lim h)
theorem specClosureOf_at (w : World) {vo : Value} {ops : List (Int × List Int)} (hops : opsT.Rd w [vo] ops) {vt : Value} {ts : List (List Int)} (hts : rowsT.Rd w [vt] ts) {s ar : Int} (h : szRows ts ≤ 1048576) :
  Calls Tryz.prog 7 #[.int .i64 s, .int .i64 ar, vo, vt] w (RetAC relT w (coV s ar ops ts) (coC s ar ops ts)) := specClosureOf_any w hops hts s ar (rows_len h)
end Go.Proofs.YtggelmbnliajeaaGreatDoor
