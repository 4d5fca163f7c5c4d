/-
Contracts: the formula of the hull, the program's.
Contracts: the formula of the hull, the reference's.
-/
import Derived.Test.YtajmjfbejfiipaaGreatQBF
import Derived.Test.YtajmjfbejfiipaaGreatQAH
import Derived.Test.YtajmjfbejfiipaaGreatQBA
import Derived.Test.YtajmjfbejfiipaaGreatQBB
import Derived.Test.YtajmjfbejfiipaaGreatQBG
namespace Go.Proofs.YtajmjfbejfiipaaGreat
open Go.RowKit Go.Sort
theorem elAtm : ElT Tryz.prog 45 69 2 32 := .mk (z := .agg #[.int .i64 0, .slice none 0 0]) Tryz.underlying45 (by kernel_rfl) rfl (by decide)
theorem tch_app {b i : Nat} {v : Value} {wv wq w5 : World} (h : TchP (fun q => q = b) wv wq) (hb : Below wv.heap.size wq w5) : TchP (fun q => q = b) wv (w5.setCell ⟨b, i, none⟩ v) :=
 ⟨hb.os.trans h.os, hb.tape.trans h.tape, hb.output.trans h.output, by rw [size_set]; exact Nat.le_trans h.size hb.size, fun k hk hn => (Below.heap_setCell _ _ _ _ (fun e => hn (by simp at e; exact e))).trans ((hb.block k hk).trans (h.block k hk hn))⟩
theorem ind1_any (w : World) {b : Nat} {u u' : Value} {x y : List Int} (h : intsT.Rd w [u] x) (h' : intsT.Rd w [u'] y) (c : w.cell? ⟨b, 0, none⟩ = some u') :
  Calls Tryz.prog 66 #[u, .pointer (some ⟨b, 0, none⟩)] w fun e w' => e = .returned (.bool (eqB x y)) ∧ Below w.heap.size w w' := by
 go_enter Tryz.func66, Tryz.ntmps66
 go_wp2_with fail
 refine (Equal_quiet _ h h').mono ?_
 rintro e w1 ⟨rfl, n, rfl⟩
 go_wp2_with fail
 go_ret
 exact ⟨rfl, (Quiet.drewN w n).below⟩
theorem ind2_any (w : World) {b : Nat} {u ux : Value} {x y : AtomL} {n : Int} (h : opT.Rd w [.int .i64 n, u] x) (h' : opT.Rd w [.int .i64 y.1, ux] y) (c0 : w.cell? ⟨b, 0, none⟩ = some (.int .i64 n)) (c1 : w.cell? ⟨b, 1, none⟩ = some u) (hb : b < w.heap.size) :
  Calls Tryz.prog 70 #[.agg #[.int .i64 y.1, ux], .pointer (some ⟨b, 0, none⟩)] w fun e w' => e = .returned (.bool (eqB x y)) ∧ Below w.heap.size w w' := by
 have HX := Lib.hid h
 have HY := Lib.hid h'
 have e0 : ∀ o, (w.alloc o).cell? ⟨b, 0, none⟩ = some (.int .i64 n) := fun o => (cellB bA hb).trans c0
 have e1 : ∀ o, (w.alloc o).cell? ⟨b, 1, none⟩ = some u := fun o => (cellB bA hb).trans c1
 clear h h'
 go_enter Tryz.func70, Tryz.ntmps70
 go_wp2_with fail
 refine (sameAtom_any _ (cs := #[.int .i64 n, u]) (cs' := #[.int .i64 y.1, ux]) (HX.out.below bA) (HY.out.below bA)).mono ?_
 rintro e w1 ⟨rfl, hb1⟩
 go_wp2_with fail
 go_ret
 exact ⟨rfl, bthen bA hb1⟩
set_option maxHeartbeats 12800000 in
set_option maxRecDepth 100000 in
theorem IndicatorFormula_any (w : World) {cs : Array Value} {v : Value} {t : Tpl} {u : List (List Int)} (h : tplT.Rd w cs.toList t) (hu : rowsT.Rd w [v] u) :
  Calls Tryz.prog 16 #[.agg cs, v] w (RetAC frmT w (inV t u) (inC t u)) := by
 have HP := Lib.hid h
 have HU := Lib.hid hu
 obtain ⟨v1, hv1, -, hrls⟩ := pair_ex h
 obtain rfl := agg_of hv1
 obtain ⟨ra, rc, hvr, -, -, hrce⟩ := pairs_ex hrls
 obtain rfl : v1 = _ := by simpa using hvr
 have HRC := Lib.hid hrce
 obtain ⟨la, lc, rfl⟩ := rd_slice hu
 clear h hu hv1 hrls hvr hrce
 go_enter Tryz.func16, Tryz.ntmps16
 go_wp2_with fail
 generalize hW : World.alloc (World.alloc w _) _ = W
 have hbW : Below w.heap.size w W := hW ▸ bAA
 have hsW : w.heap.size + 2 ≤ W.heap.size := by rw [← hW]; simp
 have t0 : W.cell? ⟨w.heap.size, 0, none⟩ = some (.int .i64 t.1) := by rw [← hW]; simp [go_sem]
 have t1 : W.cell? ⟨w.heap.size, 1, none⟩ = some (.slice ra t.2.length rc) := by rw [← hW]; simp [go_sem]
 have r0 : W.cell? ⟨w.heap.size + 1, 0, none⟩ = some (.int .i64 0) := by rw [← hW]; simp [go_sem]
 have r1 : W.cell? ⟨w.heap.size + 1, 1, none⟩ = some (.int .i64 0) := by rw [← hW]; simp [go_sem]
 have r2 : W.cell? ⟨w.heap.size + 1, 2, none⟩ = some (.slice none 0 0) := by rw [← hW]; simp [go_sem]
 have q0 : W.frozen? ⟨w.heap.size + 1, 0, none⟩ = false := by rw [← hW]; simp [go_sem]
 have q1 : W.frozen? ⟨w.heap.size + 1, 1, none⟩ = false := by rw [← hW]; simp [go_sem]
 have q2 : W.frozen? ⟨w.heap.size + 1, 2, none⟩ = false := by rw [← hW]; simp [go_sem]
 clear hW
 refine (hullFault_any _ (HP.out.below hbW) (HU.out.below hbW)).mono ?_
 rintro e w2 ⟨rfl, hb2⟩
 have hB2 := bthen hbW hb2
 have hz2 := hb2.size
 replace t0 := (cellB hb2 (by omega)).trans t0
 replace t1 := (cellB hb2 (by omega)).trans t1
 replace r0 := (cellB hb2 (by omega)).trans r0
 replace r1 := (cellB hb2 (by omega)).trans r1
 replace r2 := (cellB hb2 (by omega)).trans r2
 replace q0 := (frozenB hb2 (by omega)).trans q0
 replace q1 := (frozenB hb2 (by omega)).trans q1
 replace q2 := (frozenB hb2 (by omega)).trans q2
 have hl2 : w.heap.size + 2 ≤ w2.heap.size := by omega
 cases ha : (huC t u != 0)
 rotate_left
 ·have HR := Lib.hid (in_no (t := t) (u := u) (by simpa using ha))
  obtain ⟨g0, g1, g2⟩ := set3_cells (x := .int .i64 0) (y := .int .i64 0) (z := .slice none 0 0) r0 r1 r2
  generalize huC t u = C at *
  go_wp2_with fail
  refine bodyPost_ret (v := .tuple #[.agg #[.int .i64 0, .int .i64 0, .slice none 0 0], .int .i64 C]) (by simp [results, Tryz.results16, go_sem, g0, g1, g2]) rfl ⟨[.int .i64 0, .int .i64 0, .slice none 0 0], by rw [HR.out.1], by rw [HR.out.2]; exact fr_frm0, set3_below hB2 (by omega)⟩
 have hc : huC t u = 0 := by simpa using ha
 have HC := Lib.hid hc
 obtain ⟨hT, hul, hm, hml, hmi⟩ := hu_ok hc
 have HT := Lib.hid hT
 have HML := Lib.hid hml
 have HMI := Lib.hid hmi
 have hs4 := hT.1
 unfold sizeOk at hs4
 have hl6 := hT.2.1
 have HNN := Lib.hid (tabL_of (ar := (u.length : Int)) hT)
 have hNb := tabN_bd (tabN_of hT.1 (ar := ((u.length : Int)).toNat) (by omega) (tabL_of hT))
 have HIN := Lib.hid (cols_in hml hmi)
 have h0 : 0 < u.length := by omega
 rw [hc]
 clear ha hc hT hml hmi
 go_wp2_with fail
 refine (columns_any w2 (HU.out.below hB2) h0 (by omega) HML.out (by omega)).mono ?_
 rintro e w3 ⟨lv, rfl, hlf, hb3⟩
 obtain ⟨la3, lc3, rfl⟩ := fr_slice hlf
 rw [colsL_len] at hlf
 have HLF := Lib.hid (rdP_lt (fr_rdP hlf))
 have hB3 := bthen hB2 hb3
 have hz3 := hb3.size
 replace t0 := (cellB hb3 (by omega)).trans t0
 replace t1 := (cellB hb3 (by omega)).trans t1
 replace r0 := (cellB hb3 (by omega)).trans r0
 replace r1 := (cellB hb3 (by omega)).trans r1
 replace r2 := (cellB hb3 (by omega)).trans r2
 replace q0 := (frozenB hb3 (by omega)).trans q0
 replace q1 := (frozenB hb3 (by omega)).trans q1
 replace q2 := (frozenB hb3 (by omega)).trans q2
 rw [colsL_len]
 clear hlf
 have t0' : ∀ q q', ((w3.alloc q).alloc q').cell? ⟨w.heap.size, 0, none⟩ = some (.int .i64 t.1) := fun q q' => (cellB (bthen (bA (w := w3)) bA) (show w.heap.size < w3.heap.size by omega)).trans t0
 go_wp2_with fail
 clear t0'
 generalize hW4 : World.alloc (World.alloc w3 _) _ = w4
 have hb4 : Below w3.heap.size w3 w4 := hW4 ▸ bAA
 have hB4 := bthen hB3 hb4
 obtain ⟨fb, hfb⟩ : ∃ fb, w3.heap.size = fb := ⟨_, rfl⟩
 have hz4 : fb + 2 ≤ w4.heap.size := by rw [← hW4, ← hfb]; simp
 have f0 : w4.cell? ⟨fb, 0, none⟩ = some (.int .i64 (huM u : Int)) := by rw [← hW4, ← hfb]; simp [go_sem]
 have f1 : w4.cell? ⟨fb, 1, none⟩ = some (.int .i64 (huM u : Int)) := by rw [← hW4, ← hfb]; simp [go_sem]
 have f2 : w4.cell? ⟨fb, 2, none⟩ = some (.slice none 0 0) := by rw [← hW4, ← hfb]; simp [go_sem]
 have m1 : w4.frozen? ⟨fb, 1, none⟩ = false := by rw [← hW4, ← hfb]; simp [go_sem]
 have m2 : w4.frozen? ⟨fb, 2, none⟩ = false := by rw [← hW4, ← hfb]; simp [go_sem]
 have HB0 : Hid (Bl Ty.int 2 (fb + 1) w4.heap.size w4 (.slice (some ⟨fb + 1, 0, none⟩) 0 0) []) := by
  have h := Bl.lit0 (E := Ty.int) (e := 2) (base := fb + 1) (w := w3.alloc (.cells #[.int .i64 (huM u : Int), .int .i64 (huM u : Int), .slice none 0 0] 47)) (by simp; omega)
  rw [hW4] at h
  have e1 : (w3.alloc (.cells #[.int .i64 (huM u : Int), .int .i64 (huM u : Int), .slice none 0 0] 47)).heap.size = fb + 1 := by simp [hfb]
  rw [e1] at h
  exact h.mono (by omega)
 have HL4 := Lib.hid ((HLF.out.below hb4).mono (ok' := fun k => w2.heap.size ≤ k ∧ k < fb) (fun k _ hk => by have := hk.2; exact ⟨hk.1, by omega⟩))
 replace t0 := (cellB hb4 (by omega)).trans t0
 replace t1 := (cellB hb4 (by omega)).trans t1
 replace r0 := (cellB hb4 (by omega)).trans r0
 replace r1 := (cellB hb4 (by omega)).trans r1
 replace r2 := (cellB hb4 (by omega)).trans r2
 replace q0 := (frozenB hb4 (by omega)).trans q0
 replace q1 := (frozenB hb4 (by omega)).trans q1
 replace q2 := (frozenB hb4 (by omega)).trans q2
 have hwf : w.heap.size + 2 ≤ fb := by omega
 have hw2f : w2.heap.size ≤ fb := by omega
 clear hW4 HLF hb4
 rw [hfb]
 clear hfb hz3 hsW hz2
 refine (power_any w4 t.1 (u.length : Int) (by omega) (by omega) (by omega)).mono ?_
 rintro e _ ⟨rfl, rfl⟩
 rw [HNN.out]
 obtain ⟨N, hNe⟩ : ∃ N, tabL t (u.length : Int) = N := ⟨_, rfl⟩
 rw [hNe] at hNb HNN ⊢
 have HNE := Lib.hid hNe
 rw [Int.toNat_natCast] at HNN
 clear hNe
 have hcn : ((colsL u (huM u)).length : Int) = (huM u : Int) := by rw [colsL_len]
 go_wp2_with fail
 go_loopw [48, 10] (fun i vv wr => ∃ k : Nat, k ≤ N ∧ i = .int .i64 k ∧ Bl Ty.int 2 (fb + 1) wr.heap.size wr vv (vrS t.1 u.length (colsL u (huM u)) k).1 ∧ wr.cell? ⟨fb, 0, none⟩ = some (.int .i64 (huM u : Int)) ∧ wr.cell? ⟨fb, 1, none⟩ = some (.int .i64 (vrS t.1 u.length (colsL u (huM u)) k).2) ∧ wr.cell? ⟨fb, 2, none⟩ = some (.slice none 0 0) ∧ wr.frozen? ⟨fb, 1, none⟩ = false ∧ wr.frozen? ⟨fb, 2, none⟩ = false ∧ TchP (fun q => fb ≤ q) w4 wr) (fun i _ _ => N - (intOf i).toNat)
 case atStart => exact ⟨0, Nat.zero_le _, rfl, HB0.out, f0, by rw [f1]; exact congrArg _ (congrArg _ hcn.symm), f2, m1, m2, TchP.refl _ _⟩
 case round =>
  obtain ⟨k, hk, rfl, hBv, f0, f1, f2, m1, m2, htc⟩ := hrel
  have HBv := Lib.hid hBv
  have HTC := Lib.hid htc
  have hzr := htc.size
  have hBr : Below w.heap.size w wr := hB4.trans (htc.below (by omega) (fun q hq e => by omega))
  have s0 := (htc.cell (i := 0) (show w.heap.size < w4.heap.size by omega) (by omega)).trans t0
  have HLV := Lib.hid (HL4.out.tchP htc (fun q _ h e => by omega))
  have hvl := vrS_len (s := t.1) (ar := u.length) (cols := colsL u (huM u)) (k := k)
  have hvn := vrS_next (s := t.1) (ar := u.length) (cols := colsL u (huM u)) (k := k)
  rw [hcn] at hvn
  obtain ⟨av, nv, cv, rfl⟩ := ex_slice (hBv.fr (by unfold capMax; omega))
  obtain ⟨wv, rfl⟩ : ∃ wv : World, wv = wr := ⟨_, rfl⟩
  clear hBv htc
  have hvq := varQ_bd (s := t.1) (ar := u.length) (cols := colsL u (huM u)) (k := k)
  rw [hcn] at hvq
  obtain ⟨L, nx, hvr⟩ : ∃ L nx, vrS t.1 u.length (colsL u (huM u)) k = (L, nx) := ⟨_, _, rfl⟩
  obtain ⟨Q, hQ⟩ : ∃ Q, varQ t.1 u.length (colsL u (huM u)) k = Q := ⟨_, rfl⟩
  have HQF : Hid (firstI (fun l => eqB l (digL t.1 (k : Int) u.length)) (colsL u (huM u)) = Q) := hQ
  have HVN : Hid (decide (Q < 0) = true → vrS t.1 u.length (colsL u (huM u)) (k + 1) = (L ++ [nx], nx + 1)) := fun h => by
   have := vrS_new (s := t.1) (ar := u.length) (cols := colsL u (huM u)) (k := k) (by rw [hQ]; exact h)
   rw [hvr] at this
   exact this
  have HVO : Hid (decide (Q < 0) = false → vrS t.1 u.length (colsL u (huM u)) (k + 1) = (L ++ [Q], nx)) := fun h => by
   have := vrS_old (s := t.1) (ar := u.length) (cols := colsL u (huM u)) (k := k) (by rw [hQ]; exact h)
   rw [hvr, hQ] at this
   exact this
  have hcl : (colsL u (huM u)).length = huM u := colsL_len
  rw [hQ] at hvq
  rw [hvr] at f1 hvl hvn
  unfold Hid at HBv
  rw [hvr] at HBv
  have HBv := Lib.hid HBv
  have HVR := Lib.hid hvr
  dsimp only at f1 hvl hvn
  clear hvr hQ
  by_cases hkl : k < N
  ·go_wp2_with fail
   refine (listOf_any wv t.1 (k : Int) u.length (by omega) (by omega) (by omega) (by omega) (by omega)).mono ?_
   rintro e w5 ⟨dv, rfl, hdf, hb5⟩
   obtain ⟨ad, nd, cd, rfl⟩ := ex_slice hdf
   have HD := Lib.hid hdf.rd
   have hz5 := hb5.size
   replace f0 := (cellB hb5 (by omega)).trans f0
   replace f1 := (cellB hb5 (by omega)).trans f1
   replace f2 := (cellB hb5 (by omega)).trans f2
   replace s0 := (cellB hb5 (by omega)).trans s0
   replace m1 := (frozenB hb5 (by omega)).trans m1
   replace m2 := (frozenB hb5 (by omega)).trans m2
   clear hdf
   go_wp2_with fail
   generalize hW6 : World.alloc w5 _ = w6
   have hb6 : Below w5.heap.size w5 w6 := hW6 ▸ bA
   have d6 : w6.cell? ⟨w5.heap.size, 0, none⟩ = some (.slice ad nd cd) := by rw [← hW6]; simp [go_sem]
   have hb56 := bthen hb5 hb6
   have hz6 : w5.heap.size + 1 ≤ w6.heap.size := by rw [← hW6]; simp
   replace f0 := (cellB hb6 (by omega)).trans f0
   replace f1 := (cellB hb6 (by omega)).trans f1
   replace f2 := (cellB hb6 (by omega)).trans f2
   replace s0 := (cellB hb6 (by omega)).trans s0
   replace m1 := (frozenB hb6 (by omega)).trans m1
   replace m2 := (frozenB hb6 (by omega)).trans m2
   have HD6 := Lib.hid (HD.out.below hb6)
   clear hW6
   have HPF : Hid (∀ W', Below w6.heap.size w6 W' → ∀ q (h : q < (colsL u (huM u)).length) (x : Value), intsT.Rd W' [x] (colsL u (huM u))[q] → Calls Tryz.prog 66 (#[x] ++ #[.pointer (some ⟨w5.heap.size, 0, none⟩)]) W' fun e W'' => e = .returned (.bool ((fun l => eqB l (digL t.1 k u.length)) (colsL u (huM u))[q])) ∧ Below W'.heap.size W' W'') := by
    intro W' hW' q hq x hx
    exact ind1_any W' hx (HD6.out.below hW') ((cellB hW' (by omega)).trans d6)
   refine (IndexFuncInts_any w6 (HLV.out.rd.below hb56) (fun l => eqB l (digL t.1 k u.length)) 66 _ (enters Tryz.func66 (by kernel_rfl) rfl) HPF.out).mono ?_
   rintro e w7 ⟨rfl, hb7⟩
   have hb57 := bthen hb56 hb7
   have hz7 := hb57.size
   replace f0 := (cellB hb7 (by omega)).trans f0
   replace f1 := (cellB hb7 (by omega)).trans f1
   replace f2 := (cellB hb7 (by omega)).trans f2
   replace s0 := (cellB hb7 (by omega)).trans s0
   replace m1 := (frozenB hb7 (by omega)).trans m1
   replace m2 := (frozenB hb7 (by omega)).trans m2
   rw [HQF.out]
   clear HPF d6 HQF
   cases hq : decide (Q < 0)
   ·have HS := Lib.hid (HVO.out hq)
    have hIq : I64 Q := I64.small (by omega) (by omega)
    go_wp2_with (refine wpList_push (E := Ty.int) _ rfl _ _ 38 2 rfl elInt rfl (HBv.out.below (hb57.alloc hb57.size _) (Nat.le_refl _)) rfl news1 (fr_int hIq) (by omega) (by decide) (by omega) (by first | (simp; done) | (simp; omega)) ?_; intro v8 w8 hB8 hg8 _)
    have hb8 : Below (fb + 1) w7 w8 := ((Below.refl _ w7).alloc (by omega) _).grown hg8 (by first | (simp; done) | (simp; omega)) (fun q hq => HBv.out.own hq)
    have ht8 : TchP (fun q => fb ≤ q) wv w8 := (TchP.of_below hb57 (fun q => fb ≤ q)).then ((TchP.of_below bA (fun q => fb ≤ q)).then (TchP.grown hg8 (O := fun q => fb ≤ q) (fun q hq => by have := HBv.out.own hq; omega)) (fun q _ h => h)) (fun q _ h => h)
    replace f0 := (cellB hb8 (by omega)).trans f0
    replace f1 := (cellB hb8 (by omega)).trans f1
    replace f2 := (cellB hb8 (by omega)).trans f2
    replace m1 := (frozenB hb8 (by omega)).trans m1
    replace m2 := (frozenB hb8 (by omega)).trans m2
    have HB8 := Lib.hid hB8
    clear hB8 hg8
    go_wp2_with fail
    go_roundw
    case rel => exact ⟨k + 1, by omega, by go_num, by rw [HS.out]; exact HB8.out, f0, by rw [HS.out]; exact f1, f2, m1, m2, HTC.out.then ht8 (fun q _ h => h)⟩
    case measure => simp [intOf]; omega
   ·have HS := Lib.hid (HVN.out hq)
    have hInx : I64 nx := I64.small (by omega) (by omega)
    have hwr : IntKind.i64.wrap (nx + 1) = nx + 1 := wrap_small (by omega) (by omega)
    go_upto_region 16 with fail
    generalize hW8 : World.setCell w7 _ _ = w8
    have ht78 : TchP (fun q => fb ≤ q) w7 w8 := hW8 ▸ TchP.set (Nat.le_refl _)
    have hz8 : w7.heap.size ≤ w8.heap.size := by rw [← hW8, size_set]; exact Nat.le_refl _
    have p1 : w8.cell? ⟨fb, 1, none⟩ = some (.int .i64 (nx + 1)) := by rw [← hW8]; exact World.cell?_setCell_same _ _ _ f1
    have p0 : w8.cell? ⟨fb, 0, none⟩ = some (.int .i64 (huM u : Int)) := by rw [← hW8]; exact (World.cell?_setCell_other _ _ _ _ (by simp)).trans f0
    have p2 : w8.cell? ⟨fb, 2, none⟩ = some (.slice none 0 0) := by rw [← hW8]; exact (World.cell?_setCell_other _ _ _ _ (by simp)).trans f2
    have n1 : w8.frozen? ⟨fb, 1, none⟩ = false := by rw [← hW8]; exact (World.frozen?_setCell _ _ _ _).trans m1
    have n2 : w8.frozen? ⟨fb, 2, none⟩ = false := by rw [← hW8]; exact (World.frozen?_setCell _ _ _ _).trans m2
    have HBv8 : Hid (Bl Ty.int 2 (fb + 1) wv.heap.size w8 (.slice av nv cv) L) := (HBv.out.below hb57 (Nat.le_refl _)).sameB (fun q h1 h2 => by rw [← hW8]; exact Below.heap_setCell _ _ _ _ (by simp; omega))
    clear hW8 f0 f1 f2 m1 m2 HBv
    go_wp2_with (at_builtin; go_loud (refine wpList_push (E := Ty.int) _ rfl _ _ 38 2 rfl elInt rfl (HBv8.out.below ((bA (w := w8)).mono (by omega)) (Nat.le_refl _)) rfl news1 (fr_int hInx) (by omega) (by decide) (by omega) (by first | (simp; done) | (simp; omega)) ?_; intro v9 w9 hB9 hg9 _))
    have hb9 : Below (fb + 1) w8 w9 := ((Below.refl _ w8).alloc (by omega) _).grown hg9 (by first | (simp; done) | (simp; omega)) (fun q hq => HBv8.out.own hq)
    have ht9 : TchP (fun q => fb ≤ q) wv w9 := (TchP.of_below hb57 (fun q => fb ≤ q)).then (ht78.then ((TchP.of_below bA (fun q => fb ≤ q)).then (TchP.grown hg9 (O := fun q => fb ≤ q) (fun q hq => by have := HBv8.out.own hq; omega)) (fun q _ h => h)) (fun q _ h => h)) (fun q _ h => h)
    replace p0 := (cellB hb9 (by omega)).trans p0
    replace p1 := (cellB hb9 (by omega)).trans p1
    replace p2 := (cellB hb9 (by omega)).trans p2
    replace n1 := (frozenB hb9 (by omega)).trans n1
    replace n2 := (frozenB hb9 (by omega)).trans n2
    have HB9 := Lib.hid hB9
    clear hB9 hg9
    go_wp2_with fail
    go_roundw
    case rel => exact ⟨k + 1, by omega, by go_num, by rw [HS.out]; exact HB9.out, p0, by rw [HS.out]; exact p1, p2, n1, n2, HTC.out.then ht9 (fun q _ h => h)⟩
    case measure => simp [intOf]; omega
  ·obtain rfl : N = k := by omega
   have HIV : Hid (ivS t u = (L, nx)) := by unfold Hid ivS; rw [HNE.out]; exact HVR.out
   have hLN : L.length = N := hvl
   have HVRd : Hid (intsT.RdP (fun q => fb + 1 ≤ q ∧ q < wv.heap.size) wv [.slice av nv cv] L) := (rdP_lt (fr_rdP (HBv.out.fr (by show L.length ≤ capMax; unfold capMax; omega)))).mono (fun q _ h => h)
   have HT1 : Hid (wv.cell? ⟨w.heap.size, 1, none⟩ = some (.slice ra t.2.length rc)) := (HTC.out.cell (i := 1) (show w.heap.size < w4.heap.size by omega) (by omega)).trans t1
   have HR0 : Hid (wv.cell? ⟨w.heap.size + 1, 0, none⟩ = some (.int .i64 0)) := (HTC.out.cell (i := 0) (show w.heap.size + 1 < w4.heap.size by omega) (by omega)).trans r0
   have HR1 : Hid (wv.cell? ⟨w.heap.size + 1, 1, none⟩ = some (.int .i64 0)) := (HTC.out.cell (i := 1) (show w.heap.size + 1 < w4.heap.size by omega) (by omega)).trans r1
   have HR2 : Hid (wv.cell? ⟨w.heap.size + 1, 2, none⟩ = some (.slice none 0 0)) := (HTC.out.cell (i := 2) (show w.heap.size + 1 < w4.heap.size by omega) (by omega)).trans r2
   have HQ0 : Hid (wv.frozen? ⟨w.heap.size + 1, 0, none⟩ = false) := (HTC.out.frozen (i := 0) (show w.heap.size + 1 < w4.heap.size by omega) (by omega)).trans q0
   have HQ1 : Hid (wv.frozen? ⟨w.heap.size + 1, 1, none⟩ = false) := (HTC.out.frozen (i := 1) (show w.heap.size + 1 < w4.heap.size by omega) (by omega)).trans q1
   have HQ2 : Hid (wv.frozen? ⟨w.heap.size + 1, 2, none⟩ = false) := (HTC.out.frozen (i := 2) (show w.heap.size + 1 < w4.heap.size by omega) (by omega)).trans q2
   have HS0 := Lib.hid s0
   have hfv : fb < wv.heap.size := by omega
   have hLb : ∀ q, q < N → ∃ a, L[q]? = some a ∧ 0 ≤ a ∧ a ≤ 68 := fun q hq => by
    have h1 : q < L.length := by omega
    refine ⟨L[q], List.getElem?_eq_getElem h1, ?_⟩
    have h2 := vrS_bd (s := t.1) (ar := u.length) (cols := colsL u (huM u)) (k := N) L[q] (by rw [HVR.out]; exact List.getElem_mem h1)
    rw [hcn] at h2
    omega
   have HLb := Lib.hid hLb
   have HNw := Lib.hid hNb
   have HNN' := HNN
   clear hLb HBv HL4 HVN HVO HQF hvq hcl s0 HTC t0 t1 r0 r1 r2 q0 q1 q2 HB0 hkl hk
   go_wp2_with fail
   go_loopw [74] (fun i wr => ∃ (p : Nat) (va : Value), p ≤ huM u ∧ i = .int .i64 p ∧ Bl opT 69 wv.heap.size wr.heap.size wr va (eqA t.1 (colsL u (huM u)) L p) ∧ wr.cell? ⟨fb, 0, none⟩ = some (.int .i64 (huM u : Int)) ∧ wr.cell? ⟨fb, 1, none⟩ = some (.int .i64 nx) ∧ wr.cell? ⟨fb, 2, none⟩ = some va ∧ wr.frozen? ⟨fb, 2, none⟩ = false ∧ TchP (fun q => q = fb) wv wr) (fun i _ => huM u - (intOf i).toNat)
   case atStart => exact ⟨0, .slice none 0 0, Nat.zero_le _, rfl, Bl.nil, f0, f1, f2, m2, TchP.refl _ _⟩
   case round =>
    clear f0 f1 f2 m1 m2
    obtain ⟨p, va, hp, rfl, hBa, f0, f1, f2, m2, htc⟩ := hrel
    have HBa := Lib.hid hBa
    have HTD := Lib.hid htc
    have hzr := htc.size
    have s0 := (htc.cell (i := 0) (show w.heap.size < wv.heap.size by omega) (by omega)).trans HS0.out
    have HLr := Lib.hid (HLV.out.tchP htc (fun q _ h e => by omega))
    have HVr := Lib.hid (HVRd.out.tchP htc (fun q _ h e => by omega))
    have hal := eqA_len (s := t.1) (cols := colsL u (huM u)) (vars := L) (p := p)
    obtain ⟨ga, gn, gc, rfl⟩ := ex_slice (hBa.fr (by unfold capMax; omega))
    obtain ⟨wq, rfl⟩ : ∃ wq : World, wq = wr := ⟨_, rfl⟩
    clear hBa htc
    by_cases hpl : p < huM u
    ·have hpl' : p < (colsL u (huM u)).length := by rw [colsL_len]; exact hpl
     obtain ⟨_, _, hvL, -, -, hcL⟩ := slices_ex HLr.out.rd
     simp only [List.cons.injEq, Value.slice.injEq, and_true] at hvL
     obtain ⟨rfl, -, rfl⟩ := hvL
     obtain ⟨lb, lo, rfl, hlb, hcl⟩ := hcL (by omega)
     obtain ⟨lv, hlv, hcv⟩ := hcl p hpl'
     obtain ⟨lva, lvc, rfl⟩ := rd_slice hlv
     have hin := HIN.out _ (List.getElem_mem hpl')
     have hb := idx_lt (s := t.1) (by omega) (xs := (colsL u (huM u))[p]) (m := u.length) (by have := hin.1; omega) hin.2
     rw [HNN.out] at hb
     have HLV2 := Lib.hid hlv
     have HI2 := Lib.hid hin.2
     have hl5 : ((colsL u (huM u))[p]).length ≤ 5 := by have := hin.1; omega
     obtain ⟨q, hq⟩ : ∃ q : Nat, idxL t.1 0 (colsL u (huM u))[p] = q := ⟨(idxL t.1 0 (colsL u (huM u))[p]).toNat, by omega⟩
     have hqN : q < N := by omega
     obtain ⟨a, hLa, ha0, ha1⟩ := HLb.out q hqN
     obtain ⟨_, _, hvV, -, -, hcV⟩ := ints_ex HVr.out.rd
     simp only [List.cons.injEq, Value.slice.injEq, and_true] at hvV
     obtain ⟨rfl, hnv, rfl⟩ := hvV
     obtain ⟨vb, vo, rfl, hvb, hce⟩ := hcV (by omega)
     have hqL : q < L.length := Nat.lt_of_lt_of_eq hqN hLN.symm
     obtain ⟨-, hcq⟩ := hce q hqL
     have hLq : L[q] = a := by
      rw [List.getElem?_eq_getElem hqL] at hLa
      exact Option.some.inj hLa
     rw [hLq] at hcq
     have hgd : L.getD (idxL t.1 0 (colsL u (huM u))[p]).toNat 0 = a := by rw [hq, Int.toNat_natCast, List.getD_eq_getElem?_getD, hLa]; rfl
     have HYES := Lib.hid (eqA_yes (s := t.1) (vars := L) hpl' hgd)
     have HNO := Lib.hid (eqA_no (s := t.1) (vars := L) hpl' hgd)
     have HQ := Lib.hid hq
     have hqn : q < nv := by omega
     have HNV := Lib.hid hnv
     clear hnv
     clear hcL hcl hlv hin hb hLa hcV hce hLq hgd hq hqL
     cases hne : (a != (p : Int))
     ·have HS := Lib.hid (HNO.out hne)
      go_wp2_with (go_at_call 68; refine (indexOf_any _ t.1 HLV2.out (by omega) (by omega) hl5 HI2.out).mono ?_; rintro e w' ⟨rfl, rfl⟩; rw [HQ.out])
      go_roundw
      case rel => exact ⟨p + 1, _, by omega, by go_num, by rw [HS.out]; exact HBa.out, f0, f1, f2, m2, HTD.out⟩
      case measure => simp [intOf]; omega
     ·have HS := Lib.hid (HYES.out hne)
      have hI1 : I64 (-1) := I64.small (by omega) (by omega)
      have hIa : I64 a := I64.small (by omega) (by omega)
      have hIp : I64 (p : Int) := I64.small (by omega) (by omega)
      go_wp2_with (first | (go_at_call 68; refine (indexOf_any _ t.1 HLV2.out (by omega) (by omega) hl5 HI2.out).mono ?_; rintro e w' ⟨rfl, rfl⟩; rw [HQ.out]) | (at_builtin; go_loud (refine wpList_push (E := opT) _ rfl _ _ 45 69 rfl elAtm rfl (HBa.out.below (bAA (w := wq)) (Nat.le_refl _)) rfl (news2' (by simp)) (fr_cons hI1 ((fr_ints2 (base := wq.heap.size) hIa hIp rfl (Nat.le_refl _)).below bA)) (by omega) (by decide) (by omega) (by first | (simp; done) | (simp; omega)) ?_; intro v5 w5 hB5 hg5 _; obtain ⟨va5, vn5, vc5, rfl⟩ := ex_slice (hB5.fr (by rw [List.length_append]; unfold capMax; simp; omega)); refine Hid.out ?_)))
      refine Lib.hid ?_
      have hb5 : RowKit.Below wv.heap.size wq w5 := (((Below.refl _ wq).alloc (by omega) _).alloc (by simp; omega) _).grown hg5 (by simp; omega) (fun q hq => HBa.out.own hq)
      have hz5 := hb5.size
      replace f0 := (cellB hb5 (by omega)).trans f0
      replace f1 := (cellB hb5 (by omega)).trans f1
      replace f2 := (cellB hb5 (by omega)).trans f2
      replace m2 := (frozenB hb5 (by omega)).trans m2
      have hB5' : Bl opT 69 wv.heap.size w5.heap.size w5 (.slice va5 vn5 vc5) (eqA t.1 (colsL u (huM u)) L p ++ [(-1, [a, (p : Int)])]) := hB5
      rw [← HS.out] at hB5'
      have HB5 := Lib.hid hB5'
      clear hB5 hB5' hg5
      go_wp2_with fail
      go_roundw
      case rel => exact ⟨p + 1, _, by omega, by go_num, by rw [size_set]; exact HB5.out.sameB (fun q h1 h2 => Below.heap_setCell _ _ _ _ (by simp; omega)), (World.cell?_setCell_other _ _ _ _ (by simp)).trans f0, (World.cell?_setCell_other _ _ _ _ (by simp)).trans f1, World.cell?_setCell_same _ _ _ f2, (World.frozen?_setCell _ _ _ _).trans m2, tch_app HTD.out hb5⟩
      case measure => simp [intOf]; omega
    ·obtain rfl : p = huM u := by omega
     have HEE : Hid (eqA t.1 (colsL u (huM u)) L (huM u) = ivE t u) := by unfold Hid ivE; rw [HIV.out]
     have hBq : Below w.heap.size w wq := hBr.trans (HTD.out.below (by omega) (fun q hq e => by omega))
     cases h8 : decide ((8 : Int) < nx)
     rotate_left
     ·have HR := Lib.hid (in_vars HC.out (by rw [HIV.out]; exact h8))
      have r0 := (HTD.out.cell (i := 0) (show w.heap.size + 1 < wv.heap.size by omega) (by omega)).trans HR0.out
      have r1 := (HTD.out.cell (i := 1) (show w.heap.size + 1 < wv.heap.size by omega) (by omega)).trans HR1.out
      have r2 := (HTD.out.cell (i := 2) (show w.heap.size + 1 < wv.heap.size by omega) (by omega)).trans HR2.out
      have q0 := (HTD.out.frozen (i := 0) (show w.heap.size + 1 < wv.heap.size by omega) (by omega)).trans HQ0.out
      have q1 := (HTD.out.frozen (i := 1) (show w.heap.size + 1 < wv.heap.size by omega) (by omega)).trans HQ1.out
      have q2 := (HTD.out.frozen (i := 2) (show w.heap.size + 1 < wv.heap.size by omega) (by omega)).trans HQ2.out
      obtain ⟨g0, g1, g2⟩ := set3_cells (x := .int .i64 0) (y := .int .i64 0) (z := .slice none 0 0) r0 r1 r2
      go_wp2_with fail
      refine bodyPost_ret (v := .tuple #[.agg #[.int .i64 0, .int .i64 0, .slice none 0 0], .int .i64 3]) (by simp [results, Tryz.results16, go_sem, g0, g1, g2]) rfl ⟨[.int .i64 0, .int .i64 0, .slice none 0 0], by rw [HR.out.1], by rw [HR.out.2]; exact fr_frm0, set3_below hBq (by omega)⟩
     unfold Hid at HBa
     rw [HEE.out] at HBa hal
     have HBa := Lib.hid HBa
     have H8 := Lib.hid h8
     have s1 := (HTD.out.cell (i := 1) (show w.heap.size < wv.heap.size by omega) (by omega)).trans HT1.out
     have hn8 : nx ≤ 8 := by simpa using h8
     go_wp2_with fail
     go_loopw [106] (fun i wr => ∃ (k : Nat) (va : Value) (l : List AtomL), k ≤ t.2.length ∧ i = .int .i64 k ∧ inT t u.length L (ivE t u) k = some l ∧ Bl opT 69 wv.heap.size wr.heap.size wr va l ∧ wr.cell? ⟨fb, 0, none⟩ = some (.int .i64 (huM u : Int)) ∧ wr.cell? ⟨fb, 1, none⟩ = some (.int .i64 nx) ∧ wr.cell? ⟨fb, 2, none⟩ = some va ∧ wr.frozen? ⟨fb, 2, none⟩ = false ∧ l.length ≤ 16 ∧ TchP (fun q => q = fb) wv wr) (fun i _ => t.2.length - (intOf i).toNat)
     case atStart => exact ⟨0, _, _, Nat.zero_le _, rfl, rfl, HBa.out, f0, f1, f2, m2, by omega, HTD.out⟩
     case round =>
      clear f0 f1 f2 m2 HBa s0 s1
      obtain ⟨k, va, l, hk, rfl, hin, hBa, f0, f1, f2, m2, hll, htc⟩ := hrel
      have HTE := Lib.hid htc
      have HB := Lib.hid hBa
      have hzr3 := htc.size
      have hB3q : Below w.heap.size w wr := hBr.trans (htc.below (by omega) (fun q hq e => by omega))
      have s0 := (htc.cell (i := 0) (show w.heap.size < wv.heap.size by omega) (by omega)).trans HS0.out
      have s1 := (htc.cell (i := 1) (show w.heap.size < wv.heap.size by omega) (by omega)).trans HT1.out
      have HI := Lib.hid hin
      obtain ⟨ga, gn, gc, rfl⟩ := ex_slice (hBa.fr (by unfold capMax; omega))
      obtain ⟨wk, rfl⟩ : ∃ wk : World, wk = wr := ⟨_, rfl⟩
      clear hBa htc hin
      by_cases hkl : k < t.2.length
      ·obtain ⟨rb, ro, rfl, hrb, hre⟩ := HRC.out (by omega)
       obtain ⟨vR, hvR, hIR, hc0, hc1⟩ := hre k hkl
       have hRok := HT.out.2.2 _ (List.getElem_mem hkl)
       have hbd := rel_bd hRok
       have hst := inT_step HI.out hkl
       have c0 := (cellB hB3q hrb).trans hc0
       have c1 := (cellB hB3q hrb).trans hc1
       obtain ⟨ta, tc, hvT, htl, htl2, hce⟩ := slices_ex hvR
       obtain rfl : vR = _ := by simpa using hvT
       have HCE := Lib.hid hce
       have HRO := Lib.hid hRok
       have HST := Lib.hid hst
       have hR14 := hRok.2.1
       unfold sizeOk at hR14
       have HTL : Hid (∀ y ∈ (t.2[k]).2, (y.length : Int) = (t.2[k]).1 ∧ ∀ a ∈ y, 0 ≤ a ∧ a ≤ t.1 - 1) := fun y hy => by
        obtain ⟨q, hq, rfl⟩ := List.mem_iff_getElem.1 hy
        exact (HRO.out.2.2 q hq).1
       have hbd1 := hbd.1
       clear hre hvR hc0 hc1 hvT hce hRok hbd hst
       generalize t.2[k] = R at *
       obtain ⟨P, hP⟩ : ∃ P : Nat, powN R.2.length u.length = P := ⟨_, rfl⟩
       have hPc : ((R.2.length : Int)) ^ u.length = (P : Int) := by rw [← hP, powN_cast]
       have HPC := Lib.hid hPc
       have HPP := Lib.hid hP
       have hPb : P ≤ 100000000 := by
        have h1 : R.2.length ^ u.length ≤ 256 ^ u.length := Nat.pow_le_pow_left hbd1 _
        have h2 : 256 ^ u.length ≤ 256 ^ 3 := Nat.pow_le_pow_right (by decide) hul.2
        have h3 : R.2.length ^ u.length = P := hP
        omega
       have hP0 : P ≠ 0 → 1 ≤ R.2.length := fun h => by
        rcases Nat.eq_zero_or_pos R.2.length with h1 | h1
        ·exact absurd (by rw [← hP]; unfold powN; rw [h1]; exact Nat.zero_pow hul.1) h
        ·exact h1
       have HP0 := Lib.hid hP0
       clear hP hPc hP0
       go_wp2_with fail
       generalize hWB : World.alloc wk _ = wB
       have hbB : Below wk.heap.size wk wB := hWB ▸ bA
       have hzB : wk.heap.size + 1 ≤ wB.heap.size := by rw [← hWB]; simp
       have z0 : wB.cell? ⟨wk.heap.size, 0, none⟩ = some (.int .i64 R.1) := by rw [← hWB]; simp [go_sem]
       have z1 : wB.cell? ⟨wk.heap.size, 1, none⟩ = some (.slice ta R.2.length tc) := by rw [← hWB]; simp [go_sem]
       have HBB : Hid (Bl opT 69 wv.heap.size wB.heap.size wB (.slice ga gn gc) l) := (HB.out.below hbB (Nat.le_refl _)).mono (by omega)
       have hown : (Value.slice ga gn gc).ownBlock ≠ some wk.heap.size := HB.out.own_ne (Nat.le_refl _)
       replace f0 := (cellB hbB (by omega)).trans f0
       replace f1 := (cellB hbB (by omega)).trans f1
       replace f2 := (cellB hbB (by omega)).trans f2
       replace s0 := (cellB hbB (by omega)).trans s0
       replace m2 := (frozenB hbB (by omega)).trans m2
       have HTB := Lib.hid (HTE.out.then (TchP.of_below hbB (fun q => q = fb)) (fun q _ h => h))
       clear hWB HB s1 c0 c1
       refine (power_any wB (R.2.length : Int) (u.length : Int) (by omega) (by omega) (by omega)).mono ?_
       rintro e _ ⟨rfl, rfl⟩
       rw [Int.toNat_natCast, HPC.out]
       go_wp2_with fail
       go_loopw [117] (fun i wr => ∃ (c : Nat) (va : Value) (l' : List AtomL), c ≤ P ∧ i = .int .i64 c ∧ inI t.1 u.length L k R l c = some l' ∧ Bl opT 69 wv.heap.size wr.heap.size wr va l' ∧ va.ownBlock ≠ some wk.heap.size ∧ wr.cell? ⟨fb, 0, none⟩ = some (.int .i64 (huM u : Int)) ∧ wr.cell? ⟨fb, 1, none⟩ = some (.int .i64 nx) ∧ wr.cell? ⟨fb, 2, none⟩ = some va ∧ wr.frozen? ⟨fb, 2, none⟩ = false ∧ l'.length ≤ 16 ∧ wr.cell? ⟨wk.heap.size, 0, none⟩ = some (.int .i64 R.1) ∧ wr.cell? ⟨wk.heap.size, 1, none⟩ = some (.slice ta R.2.length tc) ∧ TchP (fun q => q = fb) wv wr) (fun i _ => P - (intOf i).toNat)
       case atStart => exact ⟨0, _, l, Nat.zero_le _, rfl, rfl, HBB.out, hown, f0, f1, f2, m2, hll, z0, z1, HTB.out⟩
       case round =>
        clear f0 f1 f2 m2 HBB hown z0 z1 s0
        obtain ⟨c, va, l', hc, rfl, hin, hBa, hown, f0, f1, f2, m2, hll', z0, z1, htc⟩ := hrel
        have HTF := Lib.hid htc
        have HB := Lib.hid hBa
        have hzr4 := htc.size
        have hBc : Below w.heap.size w wr := hBr.trans (htc.below (by omega) (fun q hq e => by omega))
        have s0 := (htc.cell (i := 0) (show w.heap.size < wv.heap.size by omega) (by omega)).trans HS0.out
        have hkb : wk.heap.size < wr.heap.size := cell_lt z0
        have HI' := Lib.hid hin
        obtain ⟨ga', gn', gc', rfl⟩ := ex_slice (hBa.fr (by unfold capMax; omega))
        obtain ⟨wc, rfl⟩ : ∃ wc : World, wc = wr := ⟨_, rfl⟩
        clear hBa htc hin
        by_cases hcl : c < P
        ·have h1R := HP0.out (by omega)
         go_wp2_with fail
         generalize hWA : World.alloc wc _ = wA
         have hbA : Below wc.heap.size wc wA := hWA ▸ bA
         have hzA : wc.heap.size + 1 ≤ wA.heap.size := by rw [← hWA]; simp
         have a0 : wA.cell? ⟨wc.heap.size, 0, none⟩ = some (.int .i64 (k : Int)) := by rw [← hWA]; simp [go_sem]
         have a1 : wA.cell? ⟨wc.heap.size, 1, none⟩ = some (.slice none 0 0) := by rw [← hWA]; simp [go_sem]
         have n1 : wA.frozen? ⟨wc.heap.size, 1, none⟩ = false := by rw [← hWA]; simp [go_sem]
         replace f0 := (cellB hbA (by omega)).trans f0
         replace f1 := (cellB hbA (by omega)).trans f1
         replace f2 := (cellB hbA (by omega)).trans f2
         replace z0 := (cellB hbA (by omega)).trans z0
         replace z1 := (cellB hbA (by omega)).trans z1
         replace s0 := (cellB hbA (by omega)).trans s0
         replace m2 := (frozenB hbA (by omega)).trans m2
         clear hWA
         refine (listOf_any wA (R.2.length : Int) (c : Int) u.length (by omega) (by omega) (by omega) (by omega) (by omega)).mono ?_
         rintro e wl ⟨dv, rfl, hdf, hbl⟩
         obtain ⟨ad, ac, rfl⟩ := fr_slice hdf
         rw [digL_len] at hdf ⊢
         have HD := Lib.hid (rdP_lt (fr_rdP hdf))
         have hzl := hbl.size
         replace f0 := (cellB hbl (by omega)).trans f0
         replace f1 := (cellB hbl (by omega)).trans f1
         replace f2 := (cellB hbl (by omega)).trans f2
         replace z0 := (cellB hbl (by omega)).trans z0
         replace z1 := (cellB hbl (by omega)).trans z1
         replace s0 := (cellB hbl (by omega)).trans s0
         replace a0 := (cellB hbl (by omega)).trans a0
         replace a1 := (cellB hbl (by omega)).trans a1
         replace m2 := (frozenB hbl (by omega)).trans m2
         replace n1 := (frozenB hbl (by omega)).trans n1
         have hbAl := bthen hbA hbl
         have hBl := bthen hBc hbAl
         have HTU := Lib.hid (picks_tups (ar := u.length) (i := (c : Int)) HRO.out (by omega))
         have hcb : wc.heap.size < wl.heap.size := by omega
         clear hdf
         go_wp2_with fail
         go_loopw [128] (fun i wr => ∃ (p : Nat) (x : Value), p ≤ R.1.toNat ∧ i = .int .i64 p ∧ Bl Ty.int 2 wl.heap.size wr.heap.size wr x ((atL L (cellsL t.1 u.length R c)).take p) ∧ wr.cell? ⟨wc.heap.size, 0, none⟩ = some (.int .i64 (k : Int)) ∧ wr.cell? ⟨wc.heap.size, 1, none⟩ = some x ∧ wr.frozen? ⟨wc.heap.size, 1, none⟩ = false ∧ TchP (fun q => q = wc.heap.size) wl wr) (fun i _ => R.1.toNat - (intOf i).toNat)
         case atStart => exact ⟨0, _, Nat.zero_le _, rfl, by simpa using Bl.nil, a0, a1, n1, TchP.refl _ _⟩
         case round =>
          clear a0 a1 n1
          obtain ⟨p, x, hp, rfl, hBx, a0, a1, n1, htp⟩ := hrel
          have HBX := Lib.hid hBx
          have HTP := Lib.hid htp
          have hzp := htp.size
          have hBp : Below w.heap.size w wr := hBl.trans (htp.below (by omega) (fun q hq e => by omega))
          replace z1 := (htp.cell (i := 1) (show wk.heap.size < wl.heap.size by omega) (by omega)).trans z1
          replace s0 := (htp.cell (i := 0) (show w.heap.size < wl.heap.size by omega) (by omega)).trans s0
          have hxl : ((atL L (cellsL t.1 u.length R c)).take p).length ≤ 4 := by rw [List.length_take, atL_len, cells_len]; omega
          obtain ⟨xa, xn, xc, rfl⟩ := ex_slice (hBx.fr (by unfold capMax; omega))
          obtain ⟨wp, rfl⟩ : ∃ wp : World, wp = wr := ⟨_, rfl⟩
          clear hBx htp
          by_cases hpl : p < R.1.toNat
          ·have hpI : (p : Int) < R.1 := by omega
           go_wp2_with fail
           go_loopw [24, 133] (fun a i wr => ∃ q : Nat, q ≤ u.length ∧ i = .int .i64 q ∧ a = .int .i64 (idxL t.1 0 ((colL (picks R.2 u.length (c : Int)) p).take q)) ∧ Quiet wp wr) (fun _ i _ => u.length - (intOf i).toNat)
           case atStart => exact ⟨0, Nat.zero_le _, rfl, by rw [List.take_zero]; rfl, Quiet.refl _⟩
           case round =>
            obtain ⟨q, hq, rfl, rfl, hqw⟩ := hrel
            obtain ⟨nq, rfl⟩ := hqw
            by_cases hql : q < u.length
            ·have hqd : q < (digL (R.2.length : Int) (c : Int) u.length).length := by rw [digL_len]; exact hql
             have HDp := (HD.out.tchP HTP.out (fun q' _ h e => by omega)).rd
             obtain ⟨_, _, hdv, -, -, hdc⟩ := ints_ex HDp
             simp only [List.cons.injEq, Value.slice.injEq, and_true] at hdv
             obtain ⟨rfl, -, rfl⟩ := hdv
             obtain ⟨db, dq, rfl, hdb, hdcc⟩ := hdc (by omega)
             obtain ⟨-, e7⟩ := hdcc q hqd
             obtain ⟨dn, hdn⟩ : ∃ dn : Nat, (digL (R.2.length : Int) (c : Int) u.length)[q] = (dn : Int) := ⟨((digL (R.2.length : Int) (c : Int) u.length)[q]).toNat, by have := dig_mem (n := (R.2.length : Int)) (by omega) (List.getElem_mem hqd); omega⟩
             have hdn2 := dig_mem (n := (R.2.length : Int)) (by omega) (List.getElem_mem hqd)
             rw [hdn] at e7 hdn2
             have hdnl : dn < R.2.length := by omega
             obtain ⟨tb, tq, rfl, htb, hce⟩ := HCE.out (by omega)
             obtain ⟨ud, hud, hcd⟩ := hce dn hdnl
             have hdr := HTL.out _ (List.getElem_mem hdnl)
             have hpd : p < (R.2[dn]).length := by have := hdr.1; omega
             obtain ⟨da, dc, hde, -, -, hdc2⟩ := ints_ex hud
             obtain rfl : ud = _ := by simpa using hde
             obtain ⟨b9, o9, rfl, hb9, hc9⟩ := hdc2 (by omega)
             obtain ⟨hI9, e9⟩ := hc9 p hpd
             have f8 := (cellB hBp htb).trans hcd
             have f9 := (cellB hBp hb9).trans e9
             have hqc : q < (colL (picks R.2 u.length (c : Int)) p).length := by rw [colL_len, picks_len]; exact hql
             have hcin := colL_in HTU.out hpl
             have hst6 := idxL_take (s := t.1) hqc
             rw [col_at rfl hqd hdn hdnl hpd hqc] at hst6
             have hx1 := idx_bd (s := t.1) (by omega) hcin (q + 1) (by omega)
             have hx0 := idx_bd (s := t.1) (by omega) hcin q (by omega)
             have hpw : t.1 ^ (q + 1) ≤ 64 := by
              have h1 := pow_mono' (s := t.1) (c := 4) (by omega) (by omega) (q + 1)
              rcases (show q = 0 ∨ q = 1 ∨ q = 2 by omega) with e | e | e <;> subst e <;> simp at h1 ⊢ <;> omega
             have hzr9 := hdr.2 _ (List.getElem_mem hpd)
             rw [hst6] at hx1
             have HSN := Lib.hid hst6
             generalize (R.2[dn])[p] = z at *
             generalize idxL t.1 0 ((colL (picks R.2 u.length (c : Int)) p).take q) = A at *
             have hw1 : IntKind.i64.wrap (A * t.1) = A * t.1 := wrap_small (by omega) (by omega)
             have hw2 : IntKind.i64.wrap (A * t.1 + z) = A * t.1 + z := wrap_small (by omega) (by omega)
             clear HDp hdc hdcc hdn hce hud hcd hdr hdc2 hc9 e9 hcin hst6 hx1 hx0 hpw hqc hqd hdn2
             have hk7 := ((Quiet.drewN wp nq).below.cell hdb).trans e7
             go_wp2_with fail
             go_quiet (fail)
             go_wp2_with fail
             go_roundw
             case rel => exact ⟨q + 1, by omega, by go_num, by rw [HSN.out], (by first | exact Quiet.refl _ | exact Quiet.drewN _ _ | exact (Quiet.drewN _ _).then (Quiet.drewN _ _) | exact ((Quiet.drewN _ _).then (Quiet.drewN _ _)).then (Quiet.drewN _ _))⟩
             case measure => simp [intOf]; omega
            ·obtain rfl : q = u.length := by omega
             have hcin := colL_in HTU.out hpl
             have hcl2 : (colL (picks R.2 u.length (c : Int)) p).length = u.length := by rw [colL_len, picks_len]
             have hix := idx_lt (s := t.1) (by omega) hcl2 hcin
             rw [HNN.out] at hix
             have htk : (colL (picks R.2 u.length (c : Int)) p).take u.length = colL (picks R.2 u.length (c : Int)) p := List.take_of_length_le (by omega)
             rw [htk]
             obtain ⟨j, hj⟩ : ∃ j : Nat, idxL t.1 0 (colL (picks R.2 u.length (c : Int)) p) = j := ⟨(idxL t.1 0 (colL (picks R.2 u.length (c : Int)) p)).toNat, by omega⟩
             have hjN : j < N := by omega
             have hjL : j < L.length := Nat.lt_of_lt_of_eq hjN hLN.symm
             obtain ⟨a, hLa, ha0, ha1⟩ := HLb.out j hjN
             have hLj : L[j] = a := by
              rw [List.getElem?_eq_getElem hjL] at hLa
              exact Option.some.inj hLa
             have hpc : p < (atL L (cellsL t.1 u.length R c)).length := by rw [atL_len, cells_len]; exact hpl
             have HSN : Hid ((atL L (cellsL t.1 u.length R c)).take p ++ [a] = (atL L (cellsL t.1 u.length R c)).take (p + 1)) := by
              unfold Hid
              rw [List.take_succ_eq_append_getElem hpc]
              congr 2
              have h1 : (atL L (cellsL t.1 u.length R c))[p] = L.getD (idxL t.1 0 (colL (picks R.2 u.length (c : Int)) p)).toNat 0 := by simp [atL, cellsL]
              rw [h1, hj, Int.toNat_natCast, List.getD_eq_getElem?_getD, hLa]
              rfl
             have HVp := ((HVRd.out.tchP HTF.out (fun q' _ h e => by omega)).below hbAl).tchP HTP.out (fun q' _ h e => by omega)
             obtain ⟨_, _, hvV, -, -, hcV⟩ := ints_ex HVp.rd
             simp only [List.cons.injEq, Value.slice.injEq, and_true] at hvV
             obtain ⟨rfl, hnv, rfl⟩ := hvV
             obtain ⟨vb, vo, rfl, hvb, hce⟩ := hcV (by omega)
             obtain ⟨-, hcj⟩ := hce j hjL
             rw [hLj] at hcj
             have hjn : j < nv := by omega
             have hIa : I64 a := I64.small (by omega) (by omega)
             rw [hj]
             have hcb2 : wc.heap.size < wp.heap.size := by omega
             clear hcin hcl2 hix htk hj hLa hLj hpc hcV hce hnv hjL HVp
             go_wp2_with fail
             refine wp_region_T (fun w' => w'.cell? ⟨wc.heap.size, 1, none⟩ = some (.slice xa xn xc) ∧ w'.cell? ⟨vb, vo + j, none⟩ = some (.int .i64 a)) [7] (by kernel_rfl) ⟨a1, hcj⟩ (fun hHeld => ?_)
             refine wpAnyT_take (i := 0) (v := ?_) rfl (by kernel_rfl) (fun _ _ _ h => h) (Or.inl ⟨by rfl, ?_⟩) (by assumption) ?_
             rotate_left
             ·(intro w hSw; (try dsimp only at hSw); go_simp <;> with_reducible rfl)
             go_simp
             refine wpAnyT_take (i := 1) (v := ?_) rfl (by kernel_rfl) (fun _ _ _ h => h) (Or.inl ⟨by rfl, ?_⟩) (by assumption) ?_
             rotate_left
             ·(intro w hSw; (try dsimp only at hSw); go_simp <;> with_reducible rfl)
             go_simp
             refine wpAnyT_take (i := 2) (v := ?_) rfl (by kernel_rfl) (fun _ _ _ h => h) (Or.inl ⟨by rfl, ?_⟩) (by assumption) ?_
             rotate_left
             ·(intro w hSw; (try dsimp only at hSw); go_simp <;> with_reducible rfl)
             go_simp
             refine wpAnyT_take (i := 3) (v := ?_) rfl (by kernel_rfl) (fun _ _ _ h => h) (Or.inl ⟨by rfl, ?_⟩) (by assumption) ?_
             rotate_left
             ·(intro w hSw; (try dsimp only at hSw); go_simp <;> with_reducible rfl)
             go_simp
             refine wpAnyT_take (i := 4) (v := ?_) rfl (by kernel_rfl) (fun _ _ _ h => h) (Or.inl ⟨by rfl, ?_⟩) (by assumption) ?_
             rotate_left
             ·(intro w hSw; (try dsimp only at hSw); go_simp <;> with_reducible rfl)
             go_simp
             refine wpAnyT_take (i := 5) (v := ?_) rfl (by kernel_rfl) (fun _ _ _ h => h) (Or.inl ⟨by rfl, ?_⟩) (by assumption) ?_
             rotate_left
             ·(intro w hSw; (try dsimp only at hSw); go_simp <;> with_reducible rfl)
             go_simp
             refine wpAnyT_one (i := 6) rfl (by kernel_rfl) (fun K hK => ?_)
             go_simp
             refine hK.out _ _ ⟨by go_keep, by go_keep⟩ (fun hHeld => ?_)
             clear hK K
             refine wpAnyT_last (i := 7) rfl (by kernel_rfl) (by kernel_rfl) (fun K hK => ?_)
             have hbX : ∀ ob : Obj, Below wp.heap.size wp ((wp.drewN nq).drew.alloc ob) := fun ob => (Quiet.drewN wp nq).below.drew.alloc (by simp) ob
             refine step_push (E := Ty.int) _ rfl _ _ 38 2 rfl elInt rfl (HBX.out.below (hbX _) (Nat.le_refl _)) rfl news1 (fr_int hIa) (by omega) (by decide) (by omega) (by first | (simp; done) | (simp; omega)) ?_
             intro v5 w5 hB5 hg5 hown5
             obtain ⟨va5, vn5, vc5, rfl⟩ := ex_slice (hB5.fr (by rw [List.length_append]; unfold capMax; simp; omega))
             have hb5 : RowKit.Below wl.heap.size wp w5 := ((hbX _).mono (by omega)).grown hg5 (by first | (simp; done) | (simp; omega)) (fun q hq => HBX.out.own hq)
             have hz5 := hb5.size
             have hz5' : wp.heap.size ≤ w5.heap.size := hz5
             rw [HSN.out] at hB5
             have HB5 := Lib.hid hB5
             replace a0 := (cellB hb5 hcb).trans a0
             replace a1 := (cellB hb5 hcb).trans a1
             replace n1 := (frozenB hb5 hcb).trans n1
             clear hB5 hg5 hown5 hz5
             refine hK.out _ _ ?_
             clear hK K
             refine wpAnyT_any (i := 8) (v := ?_) rfl (by kernel_rfl) (fun _ _ _ h => h) (Or.inl ⟨by rfl, ?_⟩) (by first | exact fun _ => by assumption | (intro hp; exact absurd hp (by rw [show pastB _ _ = true by kernel_rfl]; simp))) ?_
             rotate_left
             ·(intro w hSw; (try dsimp only at hSw); go_simp <;> with_reducible rfl)
             try simp only [Act.put]
             refine wpAnyT_last (i := 9) rfl (by kernel_rfl) (by kernel_rfl) (fun K hK => ?_)
             go_simp
             refine hK.out _ _ ?_
             clear hK K
             refine wpAnyT_done (by kernel_rfl) ?_ _
             go_simp
             go_wp2_with fail
             go_roundw
             case rel => exact ⟨p + 1, _, by omega, by go_num, by rw [size_set]; exact HB5.out.sameB (fun q h1 h2 => Below.heap_setCell _ _ _ _ (by simp; omega)), (World.cell?_setCell_other _ _ _ _ (by simp)).trans a0, World.cell?_setCell_same _ _ _ a1, (World.frozen?_setCell _ _ _ _).trans n1, tch_app HTP.out hb5⟩
             case measure => simp [intOf]; omega
          ·obtain rfl : p = R.1.toNat := by omega
           have hnp : ¬ ((R.1.toNat : Int) < R.1) := by omega
           obtain ⟨a, ha⟩ : ∃ a : AtomL, a = ((k : Int), atL L (cellsL t.1 u.length R c)) := ⟨_, rfl⟩
           have HA := Lib.hid ha
           have HSTP := Lib.hid (inI_step HI'.out)
           have hcel : (cellsL t.1 u.length R c).length = R.1.toNat := cells_len
           have hxe : (atL L (cellsL t.1 u.length R c)).take R.1.toNat = atL L (cellsL t.1 u.length R c) := List.take_of_length_le (by rw [atL_len, hcel]; exact Nat.le_refl _)
           unfold Hid at HBX HSTP
           rw [hxe] at HBX hxl
           rw [show ((k : Int), atL L (cellsL t.1 u.length R c)) = a from ha.symm] at HSTP
           have ha1 : a.1 = (k : Int) := by rw [ha]
           have ha2 : a.2 = atL L (cellsL t.1 u.length R c) := by rw [ha]
           rw [← ha2] at HBX hxl
           have HBX := Lib.hid HBX
           have HSTP := Lib.hid HSTP
           have hAfr : intsT.Fr wl.heap.size wp [.slice xa xn xc] a.2 := HBX.out.fr (by unfold capMax; omega)
           have HAF := Lib.hid hAfr
           have hI1 : I64 (k : Int) := I64.small (by omega) (by omega)
           have hard : opT.Rd wp [.int .i64 (k : Int), .slice xa xn xc] a := by
            have h1 : opT.Rd wp [.int .i64 (k : Int), .slice xa xn xc] ((k : Int), a.2) := pair_mk hI1 hAfr.rd
            rw [show ((k : Int), a.2) = a from by rw [← ha1]] at h1
            exact h1
           have HAR := Lib.hid hard
           have HLR := Lib.hid (((rdP_lt (fr_rdP (HB.out.fr (by unfold capMax; omega)))).below hbAl).tchP HTP.out (fun q' _ h e => by omega)).rd
           replace f0 := (HTP.out.cell (i := 0) (show fb < wl.heap.size by omega) (by omega)).trans f0
           replace f1 := (HTP.out.cell (i := 1) (show fb < wl.heap.size by omega) (by omega)).trans f1
           replace f2 := (HTP.out.cell (i := 2) (show fb < wl.heap.size by omega) (by omega)).trans f2
           replace m2 := (HTP.out.frozen (i := 2) (show fb < wl.heap.size by omega) (by omega)).trans m2
           replace z0 := (HTP.out.cell (i := 0) (show wk.heap.size < wl.heap.size by omega) (by omega)).trans z0
           have HB2 : Hid (Bl opT 69 wv.heap.size wc.heap.size wp (.slice ga' gn' gc') l') := (HB.out.below hbAl (Nat.le_refl _)).sameB (fun q h1 h2 => HTP.out.block q (by omega) (by omega))
           have hcp : wc.heap.size < wp.heap.size := by omega
           have HPF : Hid (∀ W', Below wp.heap.size wp W' → ∀ q (h : q < l'.length) (cs : Array Value), opT.Rd W' cs.toList l'[q] → Calls Tryz.prog 70 (#[.agg cs] ++ #[.pointer (some ⟨wc.heap.size, 0, none⟩)]) W' fun e W'' => e = .returned (.bool ((fun b => eqB a b) l'[q])) ∧ Below W'.heap.size W' W'') := by
            intro W' hW' q hq cs hcs
            obtain ⟨yv, hyv, -, -⟩ := pair_ex hcs
            obtain rfl := agg_of hyv
            exact ind2_any W' (HAR.out.below hW') hcs ((cellB hW' hcp).trans a0) ((cellB hW' hcp).trans a1) (by have := hW'.size; omega)
           clear ha hxe hcel ha1 ha2 hAfr hard HB
           go_wp2_with fail
           refine (ContainsFuncAtom_any wp HLR.out (fun b => eqB a b) 70 _ (enters Tryz.func70 (by kernel_rfl) rfl) HPF.out).mono ?_
           rintro e w7 ⟨rfl, hb7⟩
           have hz7 := hb7.size
           replace f0 := (cellB hb7 (by omega)).trans f0
           replace f1 := (cellB hb7 (by omega)).trans f1
           replace f2 := (cellB hb7 (by omega)).trans f2
           replace z0 := (cellB hb7 (by omega)).trans z0
           replace z1 := (cellB hb7 (by omega)).trans z1
           replace s0 := (cellB hb7 (by omega)).trans s0
           replace a0 := (cellB hb7 (by omega)).trans a0
           replace a1 := (cellB hb7 (by omega)).trans a1
           replace m2 := (frozenB hb7 (by omega)).trans m2
           have HB7 := Lib.hid (HB2.out.below hb7 (by omega))
           have hB7 : Below w.heap.size w w7 := bthen hBp hb7
           have HAF7 := Lib.hid (HAF.out.below hb7)
           have htv : TchP (fun q => q = fb) wv w7 := ⟨hb7.os.trans (HTP.out.os.trans (hbAl.os.trans HTF.out.os)), hb7.tape.trans (HTP.out.tape.trans (hbAl.tape.trans HTF.out.tape)), hb7.output.trans (HTP.out.output.trans (hbAl.output.trans HTF.out.output)), by omega, fun q hq hn => ((hb7.block q (by omega)).trans (HTP.out.block q (by omega) (by omega))).trans ((hbAl.block q (by omega)).trans (HTF.out.block q hq hn))⟩
           have HT7 := Lib.hid htv
           clear HPF HB2 HAF HAR HLR htv HBX
           cases hany : anyB (fun b => eqB a b) l'
           rotate_left
           ·have HS7 : Hid (inI t.1 u.length L k R l (c + 1) = some l') := by rw [HSTP.out]; exact addA_old hany
            go_wp2_with fail
            go_roundw
            case rel => exact ⟨c + 1, _, _, by omega, by go_num, HS7.out, HB7.out.mono (by omega), hown, f0, f1, f2, m2, hll', z0, z1, HT7.out⟩
            case measure => simp [intOf]; omega
           ·have hfr1 : (Ty.cons intsT).Fr wl.heap.size w7 [.int .i64 (k : Int), .slice xa xn xc] ((k : Int), a.2) := fr_cons hI1 HAF7.out
            have HY : Hid (opT.Fr wc.heap.size w7 [.int .i64 (k : Int), .slice xa xn xc] a) := by
             have h1 := hfr1.mono (base' := wc.heap.size) (by omega)
             rw [show ((k : Int), a.2) = a from by rw [HA.out]] at h1
             exact h1
            clear hfr1
            have hkb7 : wk.heap.size < w7.heap.size := by omega
            go_wp2_with (at_builtin; go_loud (refine wpList_push (E := opT) _ rfl _ _ 45 69 rfl elAtm rfl (HB7.out.below (bA.mono (by omega)) (Nat.le_refl _)) rfl (news2' (by simp)) (HY.out.below bA) (by omega) (by decide) (by omega) (by first | (simp; done) | (simp; omega)) ?_; intro v9 w9 hB9 hg9 ho9; refine Hid.out ?_))
            refine Lib.hid ?_
            obtain ⟨ad9, n9, cap9, hv9, hn9⟩ : ∃ ad n cap, v9 = .slice ad n cap ∧ n = l'.length + 1 := by
             obtain ⟨a', c', h⟩ := fr_slice (hB9.fr (by rw [List.length_append]; unfold capMax; simp; omega))
             exact ⟨a', _, c', h, by simp⟩
            subst hv9
            have HN9 := Lib.hid hn9
            have hb9 : RowKit.Below wv.heap.size w7 w9 := ((Below.refl _ w7).alloc (by omega) _).grown hg9 (by simp; omega) (fun q hq => HB7.out.own hq)
            have hz9 := hb9.size
            have own9 := own_kept ho9 hown (by first | (simp; done) | (simp; omega))
            have e0 := (grown_cell (b := wk.heap.size) (i := 0) hg9 (by simp; omega) hown).trans ((cellB bA hkb7).trans z0)
            have e1 := (grown_cell (b := wk.heap.size) (i := 1) hg9 (by simp; omega) hown).trans ((cellB bA hkb7).trans z1)
            replace f0 := (cellB hb9 (by omega)).trans f0
            replace f1 := (cellB hb9 (by omega)).trans f1
            replace f2 := (cellB hb9 (by omega)).trans f2
            replace s0 := (cellB hb9 (by omega)).trans s0
            replace m2 := (frozenB hb9 (by omega)).trans m2
            have HB9 := Lib.hid hB9
            clear hB9 hg9 ho9 hn9 z0 z1 a0 a1
            go_upto_region 49 with fail
            generalize hW10 : World.setCell w9 _ _ = w10
            have x0 : w10.cell? ⟨fb, 0, none⟩ = some (.int .i64 (huM u : Int)) := by rw [← hW10]; exact (World.cell?_setCell_other _ _ _ _ (by simp)).trans f0
            have x1 : w10.cell? ⟨fb, 1, none⟩ = some (.int .i64 nx) := by rw [← hW10]; exact (World.cell?_setCell_other _ _ _ _ (by simp)).trans f1
            have x2 : w10.cell? ⟨fb, 2, none⟩ = some (.slice ad9 n9 cap9) := by rw [← hW10]; exact World.cell?_setCell_same _ _ _ f2
            have x3 : w10.frozen? ⟨fb, 2, none⟩ = false := by rw [← hW10]; exact (World.frozen?_setCell _ _ _ _).trans m2
            have z0 : w10.cell? ⟨wk.heap.size, 0, none⟩ = some (.int .i64 R.1) := by rw [← hW10]; exact (World.cell?_setCell_other _ _ _ _ (by first | (simp; done) | (simp; omega))).trans e0
            have z1 : w10.cell? ⟨wk.heap.size, 1, none⟩ = some (.slice ta R.2.length tc) := by rw [← hW10]; exact (World.cell?_setCell_other _ _ _ _ (by first | (simp; done) | (simp; omega))).trans e1
            have s2 : w10.cell? ⟨w.heap.size, 0, none⟩ = some (.int .i64 t.1) := by rw [← hW10]; exact (World.cell?_setCell_other _ _ _ _ (by first | (simp; done) | (simp; omega))).trans s0
            have HT10 : Hid (TchP (fun q => q = fb) wv w10) := by rw [← hW10]; exact tch_app HT7.out hb9
            have HB10 : Hid (Bl opT 69 wv.heap.size w10.heap.size w10 (.slice ad9 n9 cap9) (l' ++ [a])) := by
             rw [← hW10]
             unfold Hid
             rw [size_set]
             exact HB9.out.sameB (fun q h1 h2 => Below.heap_setCell _ _ _ _ (by simp; omega))
            have hB10 : Below w.heap.size w w10 := hBr.trans (HT10.out.below (by omega) (fun q hq e => by omega))
            clear hW10 f0 f1 f2 m2 e0 e1 s0 HB9 hb9 HB7
            cases h16 : decide ((16 : Int) < (n9 : Int))
            ·have h16' : n9 ≤ 16 := by have := of_decide_eq_false h16; omega
             have HS7 : Hid (inI t.1 u.length L k R l (c + 1) = some (l' ++ [a])) := by rw [HSTP.out]; exact addA_new hany (by have := HN9.out; omega)
             go_wp2_with fail
             go_roundw
             case rel => exact ⟨c + 1, _, _, by omega, by go_num, HS7.out, HB10.out, own9, x0, x1, x2, x3, by rw [List.length_append]; have := HN9.out; simp; omega, z0, z1, HT10.out⟩
             case measure => simp [intOf]; omega
            ·have h16' : 16 < n9 := by have := of_decide_eq_true h16; omega
             have hno : inI t.1 u.length L k R l (c + 1) = none := by rw [HSTP.out]; exact addA_no hany (by have := HN9.out; omega)
             have hno2 : inT t u.length L (ivE t u) (k + 1) = none := by rw [HST.out, HPP.out]; exact inI_none hno (by omega)
             have hno3 : ivT t u = none := by unfold ivT; rw [HIV.out]; exact inT_none hno2 (by omega)
             have HR := Lib.hid (in_lim HC.out (by rw [HIV.out]; exact H8.out) hno3)
             have r0 := (HT10.out.cell (i := 0) (show w.heap.size + 1 < wv.heap.size by omega) (by omega)).trans HR0.out
             have r1 := (HT10.out.cell (i := 1) (show w.heap.size + 1 < wv.heap.size by omega) (by omega)).trans HR1.out
             have r2 := (HT10.out.cell (i := 2) (show w.heap.size + 1 < wv.heap.size by omega) (by omega)).trans HR2.out
             have q0 := (HT10.out.frozen (i := 0) (show w.heap.size + 1 < wv.heap.size by omega) (by omega)).trans HQ0.out
             have q1 := (HT10.out.frozen (i := 1) (show w.heap.size + 1 < wv.heap.size by omega) (by omega)).trans HQ1.out
             have q2 := (HT10.out.frozen (i := 2) (show w.heap.size + 1 < wv.heap.size by omega) (by omega)).trans HQ2.out
             obtain ⟨g0, g1, g2⟩ := set3_cells (x := .int .i64 0) (y := .int .i64 0) (z := .slice none 0 0) r0 r1 r2
             clear hno hno2 hno3 hany
             go_wp2_with fail
             refine bodyPost_ret (v := .tuple #[.agg #[.int .i64 0, .int .i64 0, .slice none 0 0], .int .i64 3]) (by simp [results, Tryz.results16, go_sem, g0, g1, g2]) rfl ⟨[.int .i64 0, .int .i64 0, .slice none 0 0], by rw [HR.out.1], by rw [HR.out.2]; exact fr_frm0, set3_below hB10 (by omega)⟩
        ·obtain rfl : c = P := by omega
         have hIK : inT t u.length L (ivE t u) (k + 1) = some l' := by rw [HST.out, HPP.out]; exact HI'.out
         have HIK := Lib.hid hIK
         clear hIK
         go_wp2_with fail
         go_roundw
         case rel => exact ⟨k + 1, _, _, by omega, by go_num, HIK.out, HB.out, f0, f1, f2, m2, hll', HTF.out⟩
         case measure => simp [intOf]; omega
      ·obtain rfl : k = t.2.length := by omega
       have HIT : Hid (ivT t u = some l) := by unfold Hid ivT; rw [HIV.out]; exact HI.out
       have HOK := Lib.hid (in_ok HC.out (by rw [HIV.out]; exact H8.out) HIT.out)
       have HLM := Lib.hid (lim_yes (f := ((huM u : Int), nx, l)) ⟨hn8, hll⟩)
       have r0 := (HTE.out.cell (i := 0) (show w.heap.size + 1 < wv.heap.size by omega) (by omega)).trans HR0.out
       have r1 := (HTE.out.cell (i := 1) (show w.heap.size + 1 < wv.heap.size by omega) (by omega)).trans HR1.out
       have r2 := (HTE.out.cell (i := 2) (show w.heap.size + 1 < wv.heap.size by omega) (by omega)).trans HR2.out
       have q0 := (HTE.out.frozen (i := 0) (show w.heap.size + 1 < wv.heap.size by omega) (by omega)).trans HQ0.out
       have q1 := (HTE.out.frozen (i := 1) (show w.heap.size + 1 < wv.heap.size by omega) (by omega)).trans HQ1.out
       have q2 := (HTE.out.frozen (i := 2) (show w.heap.size + 1 < wv.heap.size by omega) (by omega)).trans HQ2.out
       have HFR : Hid (frmT.Fr fb wk [.int .i64 (huM u : Int), .int .i64 nx, .slice ga gn gc] ((huM u : Int), nx, l)) := fr_cons (I64.small (by omega) (by omega)) (fr_cons (I64.small (by omega) (by omega)) ((HB.out.fr (by unfold capMax; omega)).mono (by omega)))
       have hBk : Below w.heap.size w wk := hB3q
       clear s0 s1 HB
       go_wp2_with fail
       refine (limited_any _ (cs := #[.int .i64 (huM u : Int), .int .i64 nx, .slice ga gn gc]) HFR.out (by omega)).mono ?_
       rintro e w9 ⟨cs9, rfl, hf9, hb9⟩
       rw [HLM.out.1] at hf9
       rw [HLM.out.2]
       obtain ⟨ad9, cap9, rfl⟩ := fr_trip hf9
       have HF9 := Lib.hid hf9
       have hz9 := hb9.size
       replace r0 := (cellB hb9 (by omega)).trans r0
       replace r1 := (cellB hb9 (by omega)).trans r1
       replace r2 := (cellB hb9 (by omega)).trans r2
       replace q0 := (frozenB hb9 (by omega)).trans q0
       replace q1 := (frozenB hb9 (by omega)).trans q1
       replace q2 := (frozenB hb9 (by omega)).trans q2
       clear hf9 f0 f1 f2 m2
       obtain ⟨g0, g1, g2⟩ := set3_cells (x := .int .i64 (huM u : Int)) (y := .int .i64 nx) (z := .slice ad9 l.length cap9) r0 r1 r2
       have hl9 : w.heap.size + 2 < w9.heap.size := by omega
       go_wp2_with fail
       refine bodyPost_ret (v := .tuple #[.agg #[.int .i64 (huM u : Int), .int .i64 nx, .slice ad9 l.length cap9], .int .i64 0]) (by simp [results, Tryz.results16, go_sem, g0, g1, g2]) rfl ⟨[.int .i64 (huM u : Int), .int .i64 nx, .slice ad9 l.length cap9], by rw [HOK.out.1], ?_, ?_⟩
       ·rw [HOK.out.2, HIV.out]
        exact (HF9.out.set3 (by omega)).mono (by omega)
       ·exact set3_below (bthen hBk hb9) (by omega)
end Go.Proofs.YtajmjfbejfiipaaGreat
namespace Go.Proofs.YtajmjfbejfiipaaGreat
open Go.RowKit Go.Sort
theorem eqA_lt {s : Int} {cols : List (List Int)} {vars : List Int} {p : Nat} (hp : p < cols.length) {v : Int} (hv : vars.getD (idxL s 0 cols[p]).toNat 0 = v) (hle : v ≤ p) : eqA s cols vars (p + 1) = match decide (v < (p : Int)) with
 | true => eqA s cols vars p ++ [(-1, [v, (p : Int)])]
 | false => eqA s cols vars p := by
 cases h : decide (v < (p : Int))
 ·have : v = (p : Int) := by have := of_decide_eq_false h; omega
  exact eqA_no hp hv (by simp [this])
 ·have h1 := of_decide_eq_true h
  exact eqA_yes hp hv (by simp; omega)
set_option maxHeartbeats 12800000 in
set_option maxRecDepth 100000 in
theorem specIndicatorFormula_any (w : World) {cs : Array Value} {v : Value} {t : Tpl} {u : List (List Int)} (h : tplT.Rd w cs.toList t) (hu : rowsT.Rd w [v] u) :
  Calls Tryz.prog 17 #[.agg cs, v] w (RetAC frmT w (inV t u) (inC t u)) := by
 have HP0 := Lib.hid h
 have HU := Lib.hid hu
 obtain ⟨v1, hv1, -, hrls⟩ := pair_ex h
 obtain rfl := agg_of hv1
 obtain ⟨ra, rc, hvr, -, -, -⟩ := pairs_ex hrls
 obtain rfl : v1 = _ := by simpa using hvr
 obtain ⟨la, lc, rfl⟩ := rd_slice hu
 clear h hu hv1 hrls hvr
 go_enter Tryz.func17, Tryz.ntmps17
 go_wp2_with fail
 generalize hW : World.alloc (World.alloc w _) _ = W
 have hbW : Below w.heap.size w W := hW ▸ bAA
 have hsW : w.heap.size + 2 ≤ W.heap.size := by rw [← hW]; simp
 have t0 : W.cell? ⟨w.heap.size, 0, none⟩ = some (.int .i64 t.1) := by rw [← hW]; simp [go_sem]
 have t1 : W.cell? ⟨w.heap.size, 1, none⟩ = some (.slice ra t.2.length rc) := by rw [← hW]; simp [go_sem]
 have r0 : W.cell? ⟨w.heap.size + 1, 0, none⟩ = some (.int .i64 0) := by rw [← hW]; simp [go_sem]
 have r1 : W.cell? ⟨w.heap.size + 1, 1, none⟩ = some (.int .i64 0) := by rw [← hW]; simp [go_sem]
 have r2 : W.cell? ⟨w.heap.size + 1, 2, none⟩ = some (.slice none 0 0) := by rw [← hW]; simp [go_sem]
 have q0 : W.frozen? ⟨w.heap.size + 1, 0, none⟩ = false := by rw [← hW]; simp [go_sem]
 have q1 : W.frozen? ⟨w.heap.size + 1, 1, none⟩ = false := by rw [← hW]; simp [go_sem]
 have q2 : W.frozen? ⟨w.heap.size + 1, 2, none⟩ = false := by rw [← hW]; simp [go_sem]
 have HPT : Hid (tplT.Pt W (.pointer (some ⟨w.heap.size, 0, none⟩)) t) := ⟨_, 0, _, rfl, by omega, HP0.out.below hbW, fun j hj => by
  have hj2 : j < 2 := hj
  match j, hj2 with
  | 0, _ => exact t0
  | 1, _ => exact t1⟩
 clear hW HP0
 refine (l04Tuples_any _ HPT.out (HU.out.below hbW)).mono ?_
 rintro e w2 ⟨rfl, hq2⟩
 have hb2 := hq2.below
 have hB2 := bthen hbW hb2
 have hz2 := hb2.size
 replace t0 := (cellB hb2 (by omega)).trans t0
 replace t1 := (cellB hb2 (by omega)).trans t1
 replace r0 := (cellB hb2 (by omega)).trans r0
 replace r1 := (cellB hb2 (by omega)).trans r1
 replace r2 := (cellB hb2 (by omega)).trans r2
 replace q0 := (frozenB hb2 (by omega)).trans q0
 replace q1 := (frozenB hb2 (by omega)).trans q1
 replace q2 := (frozenB hb2 (by omega)).trans q2
 have hl2 : w.heap.size + 2 ≤ w2.heap.size := by omega
 have HPT2 := Lib.hid (HPT.out.below hb2)
 clear HPT hq2
 cases ha : (huC t u != 0)
 rotate_left
 ·have HR := Lib.hid (in_no (t := t) (u := u) (by simpa using ha))
  obtain ⟨g0, g1, g2⟩ := set3_cells (x := .int .i64 0) (y := .int .i64 0) (z := .slice none 0 0) r0 r1 r2
  generalize huC t u = C at *
  go_wp2_with fail
  refine bodyPost_ret (v := .tuple #[.agg #[.int .i64 0, .int .i64 0, .slice none 0 0], .int .i64 C]) (by simp [results, Tryz.results17, go_sem, g0, g1, g2]) rfl ⟨[.int .i64 0, .int .i64 0, .slice none 0 0], by rw [HR.out.1], by rw [HR.out.2]; exact fr_frm0, set3_below hB2 (by omega)⟩
 have hc : huC t u = 0 := by simpa using ha
 have HC := Lib.hid hc
 obtain ⟨hT, hul, hm, hml, hmi⟩ := hu_ok hc
 have HT := Lib.hid hT
 have HML := Lib.hid hml
 have HMI := Lib.hid hmi
 have hs4 := hT.1
 unfold sizeOk at hs4
 have hl6 := hT.2.1
 have hnn := tabL_of (ar := (u.length : Int)) hT
 rw [Int.toNat_natCast] at hnn
 obtain ⟨N, hNe⟩ : ∃ N, tabL t (u.length : Int) = N := ⟨_, rfl⟩
 rw [hNe] at hnn
 have HNN := Lib.hid hnn
 have HNE := Lib.hid hNe
 have hNb := tabN_bd (tabN_of hT.1 (ar := u.length) (by omega) hnn)
 have HIN := Lib.hid (cols_in hml hmi)
 have h0 : 0 < u.length := by omega
 rw [hc]
 clear ha hc hT hml hmi hnn hNe
 go_wp2_with fail
 refine (l04Var_any w2 (HU.out.below hB2) hs4 hul HML.out (by omega) HMI.out HNN.out).mono ?_
 rintro e w3 ⟨vv, rfl, hvf, hb3⟩
 obtain ⟨L, nx, hvr⟩ : ∃ L nx, vrS t.1 u.length (colsL u (huM u)) N = (L, nx) := ⟨_, _, rfl⟩
 rw [hvr] at hvf ⊢
 dsimp only at hvf ⊢
 have HIV : Hid (ivS t u = (L, nx)) := by unfold Hid ivS; rw [HNE.out]; exact hvr
 have hlen := vrS_len (s := t.1) (ar := u.length) (cols := colsL u (huM u)) (k := N)
 have hnx := vrS_next (s := t.1) (ar := u.length) (cols := colsL u (huM u)) (k := N)
 have hcl : (colsL u (huM u)).length = huM u := colsL_len
 rw [hvr] at hlen hnx
 dsimp only at hlen hnx
 rw [hcl] at hnx
 have HLb : Hid (∀ q, q < N → ∃ a, L[q]? = some a ∧ 0 ≤ a ∧ a ≤ 68) := fun q hq => by
  have h1 : q < L.length := by omega
  refine ⟨L[q], List.getElem?_eq_getElem h1, ?_⟩
  have h2 := vrS_bd (s := t.1) (ar := u.length) (cols := colsL u (huM u)) (k := N) L[q] (by rw [hvr]; exact List.getElem_mem h1)
  rw [hcl] at h2
  omega
 have HLE : Hid (∀ p (h : p < (colsL u (huM u)).length), 0 ≤ L.getD (idxL t.1 0 (colsL u (huM u))[p]).toNat 0 ∧ L.getD (idxL t.1 0 (colsL u (huM u))[p]).toNat 0 ≤ p) := fun p hp => by
  have := var_le (s := t.1) (ar := u.length) (cols := colsL u (huM u)) (by omega) HNN.out (fun l hl => by have := (HIN.out l hl).1; omega) (fun l hl => (HIN.out l hl).2) hp
  rw [hvr] at this
  exact this
 obtain ⟨av, cv, rfl⟩ := fr_slice hvf
 rw [hlen] at hvf ⊢
 have HLN := Lib.hid hlen
 have HVF := Lib.hid hvf.rd
 have hB3 := bthen hB2 hb3
 have hz3 := hb3.size
 replace t0 := (cellB hb3 (by omega)).trans t0
 replace t1 := (cellB hb3 (by omega)).trans t1
 replace r0 := (cellB hb3 (by omega)).trans r0
 replace r1 := (cellB hb3 (by omega)).trans r1
 replace r2 := (cellB hb3 (by omega)).trans r2
 replace q0 := (frozenB hb3 (by omega)).trans q0
 replace q1 := (frozenB hb3 (by omega)).trans q1
 replace q2 := (frozenB hb3 (by omega)).trans q2
 have HPT3 := Lib.hid (HPT2.out.below hb3)
 clear hvf hlen HPT2 hvr
 cases h8 : decide ((8 : Int) < nx)
 rotate_left
 ·have HR := Lib.hid (in_vars HC.out (by rw [HIV.out]; exact h8))
  obtain ⟨g0, g1, g2⟩ := set3_cells (x := .int .i64 0) (y := .int .i64 0) (z := .slice none 0 0) r0 r1 r2
  go_wp2_with fail
  refine bodyPost_ret (v := .tuple #[.agg #[.int .i64 0, .int .i64 0, .slice none 0 0], .int .i64 3]) (by simp [results, Tryz.results17, go_sem, g0, g1, g2]) rfl ⟨[.int .i64 0, .int .i64 0, .slice none 0 0], by rw [HR.out.1], by rw [HR.out.2]; exact fr_frm0, set3_below hB3 (by omega)⟩
 have H8 := Lib.hid h8
 have hn8 : nx ≤ 8 := by have := of_decide_eq_false h8; omega
 go_wp2_with fail
 refine (l04Lists_any w3 (HU.out.below hB3) h0 (by omega) HML.out (by omega)).mono ?_
 rintro e w4 ⟨lv, rfl, hlf, hb4⟩
 obtain ⟨la4, lc4, rfl⟩ := fr_slice hlf
 rw [hcl] at hlf ⊢
 have HLF := Lib.hid hlf.rd
 have hB4 := bthen hB3 hb4
 have hz4 := hb4.size
 replace t0 := (cellB hb4 (by omega)).trans t0
 replace t1 := (cellB hb4 (by omega)).trans t1
 replace r0 := (cellB hb4 (by omega)).trans r0
 replace r1 := (cellB hb4 (by omega)).trans r1
 replace r2 := (cellB hb4 (by omega)).trans r2
 replace q0 := (frozenB hb4 (by omega)).trans q0
 replace q1 := (frozenB hb4 (by omega)).trans q1
 replace q2 := (frozenB hb4 (by omega)).trans q2
 have HPT4 := Lib.hid (HPT3.out.below hb4)
 have HV4 := Lib.hid (HVF.out.below hb4)
 clear hlf HPT3 HVF h8
 go_wp2_with fail
 generalize hW5 : World.alloc w4 _ = w5
 have hb5 : Below w4.heap.size w4 w5 := hW5 ▸ bA
 have hB5 := bthen hB4 hb5
 obtain ⟨fb, hfb⟩ : ∃ fb, w4.heap.size = fb := ⟨_, rfl⟩
 have hz5 : fb + 1 ≤ w5.heap.size := by rw [← hW5, ← hfb]; simp
 have HZ5 : Hid (w5.heap.size = fb + 1) := by unfold Hid; rw [← hW5, ← hfb]; simp
 have f0 : w5.cell? ⟨fb, 0, none⟩ = some (.int .i64 (huM u : Int)) := by rw [← hW5, ← hfb]; simp [go_sem]
 have f1 : w5.cell? ⟨fb, 1, none⟩ = some (.int .i64 nx) := by rw [← hW5, ← hfb]; simp [go_sem]
 have f2 : w5.cell? ⟨fb, 2, none⟩ = some (.slice none 0 0) := by rw [← hW5, ← hfb]; simp [go_sem]
 have m2 : w5.frozen? ⟨fb, 2, none⟩ = false := by rw [← hW5, ← hfb]; simp [go_sem]
 have hwf : w.heap.size + 2 ≤ fb := by omega
 have HL5 := Lib.hid (rdP_lt (rd_rdP HLF.out))
 have HV5 := Lib.hid (rdP_lt (rd_rdP HV4.out))
 replace t0 := (cellB hb5 (by omega)).trans t0
 replace t1 := (cellB hb5 (by omega)).trans t1
 replace r0 := (cellB hb5 (by omega)).trans r0
 replace r1 := (cellB hb5 (by omega)).trans r1
 replace r2 := (cellB hb5 (by omega)).trans r2
 replace q0 := (frozenB hb5 (by omega)).trans q0
 replace q1 := (frozenB hb5 (by omega)).trans q1
 replace q2 := (frozenB hb5 (by omega)).trans q2
 have H45 := Lib.hid hb5
 rw [hfb] at HL5 HV5 H45 ⊢
 have HL6 := Lib.hid (HL5.out.below (by rw [hfb]; exact H45.out))
 have HV6 := Lib.hid (HV5.out.below (by rw [hfb]; exact H45.out))
 have HTT := Lib.hid (And.intro t0 t1)
 have HRR := Lib.hid (And.intro r0 (And.intro r1 r2))
 have HQQ := Lib.hid (And.intro q0 (And.intro q1 q2))
 have HFB := Lib.hid hfb
 clear hW5 HL5 HV5 HLF hz2 hsW hb5 t0 t1 r0 r1 r2 q0 q1 q2 hz3 hz4 hfb
 go_wp2_with fail
 go_loopw [11] (fun i wr => ∃ (p : Nat) (va : Value), p ≤ huM u ∧ i = .int .i64 p ∧ Bl opT 69 (fb + 1) wr.heap.size wr va (eqA t.1 (colsL u (huM u)) L p) ∧ wr.cell? ⟨fb, 0, none⟩ = some (.int .i64 (huM u : Int)) ∧ wr.cell? ⟨fb, 1, none⟩ = some (.int .i64 nx) ∧ wr.cell? ⟨fb, 2, none⟩ = some va ∧ wr.frozen? ⟨fb, 2, none⟩ = false ∧ TchP (fun q => q = fb) w5 wr) (fun i _ => huM u - (intOf i).toNat)
 case atStart => exact ⟨0, .slice none 0 0, Nat.zero_le _, rfl, Bl.nil, f0, f1, f2, m2, TchP.refl _ _⟩
 case round =>
  clear f0 f1 f2 m2
  obtain ⟨p, va, hp, rfl, hBa, f0, f1, f2, m2, htc⟩ := hrel
  have HBa := Lib.hid hBa
  have HTD := Lib.hid htc
  have hzr := htc.size
  have s0 := (htc.cell (i := 0) (show w.heap.size < w5.heap.size by omega) (by omega)).trans HTT.out.1
  have HLr := Lib.hid (HL6.out.tchP htc (fun q _ h e => by have := h.2; omega)).rd
  have HVr := Lib.hid (HV6.out.tchP htc (fun q _ h e => by have := h.2; omega)).rd
  have hal := eqA_len (s := t.1) (cols := colsL u (huM u)) (vars := L) (p := p)
  have hBq : Below w.heap.size w wr := hB5.trans (htc.below (by omega) (fun q hq e => by omega))
  obtain ⟨ga, gn, gc, rfl⟩ := ex_slice (hBa.fr (by unfold capMax; omega))
  obtain ⟨wq, rfl⟩ : ∃ wq : World, wq = wr := ⟨_, rfl⟩
  clear hBa htc
  by_cases hpl : p < huM u
  ·have hpl' : p < (colsL u (huM u)).length := by rw [colsL_len]; exact hpl
   obtain ⟨_, _, hvL, -, -, hcL⟩ := slices_ex HLr.out
   simp only [List.cons.injEq, Value.slice.injEq, and_true] at hvL
   obtain ⟨rfl, -, rfl⟩ := hvL
   obtain ⟨lb, lo, rfl, hlb, hce⟩ := hcL (by omega)
   obtain ⟨lx, hlx, hcv⟩ := hce p hpl'
   obtain ⟨lxa, lxc, rfl⟩ := rd_slice hlx
   have hin := HIN.out _ (List.getElem_mem hpl')
   have hb := idx_lt (s := t.1) (by omega) (xs := (colsL u (huM u))[p]) (m := u.length) (by have := hin.1; omega) hin.2
   rw [HNN.out] at hb
   have HLX := Lib.hid hlx
   have HI2 := Lib.hid hin.2
   have hl5 : ((colsL u (huM u))[p]).length ≤ 5 := by have := hin.1; omega
   obtain ⟨q, hq⟩ : ∃ q : Nat, idxL t.1 0 (colsL u (huM u))[p] = q := ⟨(idxL t.1 0 (colsL u (huM u))[p]).toNat, by omega⟩
   have hqN : q < N := by omega
   have hqL : q < L.length := Nat.lt_of_lt_of_eq hqN HLN.out.symm
   obtain ⟨a, hLa, ha0, ha1⟩ := HLb.out q hqN
   obtain ⟨_, _, hvV, -, -, hcV⟩ := ints_ex HVr.out
   simp only [List.cons.injEq, Value.slice.injEq, and_true] at hvV
   obtain ⟨rfl, -, rfl⟩ := hvV
   obtain ⟨vb, vo, rfl, hvb, hce2⟩ := hcV (by omega)
   obtain ⟨-, hcq⟩ := hce2 q hqL
   have hLq : L[q] = a := by
    rw [List.getElem?_eq_getElem hqL] at hLa
    exact Option.some.inj hLa
   rw [hLq] at hcq
   have hgd : L.getD (idxL t.1 0 (colsL u (huM u))[p]).toNat 0 = a := by rw [hq, Int.toNat_natCast, List.getD_eq_getElem?_getD, hLa]; rfl
   have hle := (HLE.out p hpl').2
   rw [hgd] at hle
   have HEQ := Lib.hid (eqA_lt (s := t.1) (vars := L) hpl' hgd hle)
   have cC : ∀ n, Calls Tryz.prog 75 #[.int .i64 t.1, .slice lxa ((colsL u (huM u))[p]).length lxc] (wq.drewN n) fun e w'' => e = .returned (.int .i64 (q : Int)) ∧ ∃ m, w'' = wq.drewN m := fun n => by
    have := pure_drawn (l01Code_any (wq.drewN n) t.1 (HLX.out.below (Quiet.drewN wq n).below) (by omega) (by omega) hl5 HI2.out)
    rw [hq] at this
    exact this
   clear hcL hce hlx hin hb hLa hcV hce2 hLq hgd hq hle hqL
   cases hne : decide (a < (p : Int))
   ·have HS : Hid (eqA t.1 (colsL u (huM u)) L (p + 1) = eqA t.1 (colsL u (huM u)) L p) := HEQ.out.trans (by rw [hne])
    have HB2 : ∀ n, Hid (Bl opT 69 (fb + 1) (wq.drewN n).heap.size (wq.drewN n) (.slice ga gn gc) (eqA t.1 (colsL u (huM u)) L p)) := fun n => (HBa.out.below (Quiet.drewN wq n).below (Nat.le_refl _)).mono (by simp)
    go_wp2_with fail
    go_quiet (exact cC _)
    go_wp2_with fail
    go_roundw
    case rel => exact ⟨p + 1, _, by omega, by go_num, by rw [HS.out]; exact (HB2 _).out, f0, f1, f2, m2, HTD.out.then (TchP.of_below (Quiet.drewN wq _).below _) (fun q _ h => h)⟩
    case measure => simp [intOf]; omega
   ·have HS : Hid (eqA t.1 (colsL u (huM u)) L (p + 1) = eqA t.1 (colsL u (huM u)) L p ++ [(-1, [a, (p : Int)])]) := HEQ.out.trans (by rw [hne])
    have hI1 : I64 (-1) := I64.small (by omega) (by omega)
    have hIa : I64 a := I64.small (by omega) (by omega)
    have hIp : I64 (p : Int) := I64.small (by omega) (by omega)
    go_wp2_with fail
    go_quiet (exact cC _)
    generalize hWz : wq.drewN nq = wz
    have hqz : Below wq.heap.size wq wz := hWz ▸ (Quiet.drewN wq nq).below
    have hzz := hqz.size
    have HBz := Lib.hid ((HBa.out.below hqz (Nat.le_refl _)).mono hzz)
    replace f0 := (cellB hqz (by omega)).trans f0
    replace f1 := (cellB hqz (by omega)).trans f1
    replace f2 := (cellB hqz (by omega)).trans f2
    replace m2 := (frozenB hqz (by omega)).trans m2
    have HTZ := Lib.hid (HTD.out.then (TchP.of_below hqz (fun q => q = fb)) (fun q _ h => h))
    clear hWz HBa HTD s0 cC
    go_wp2_with (at_builtin; go_loud (refine wpList_push (E := opT) _ rfl _ _ 45 69 rfl elAtm' rfl (HBz.out.below (bAA (w := wz)) (Nat.le_refl _)) rfl (news2' (by simp)) (fr_cons hI1 ((fr_ints2 (base := wz.heap.size) hIa hIp rfl (Nat.le_refl _)).below bA)) (by omega) (by decide) (by omega) (by first | (simp; done) | (simp; omega)) ?_; intro v5 w6 hB6 hg6 _; obtain ⟨va5, vn5, vc5, rfl⟩ := ex_slice (hB6.fr (by rw [List.length_append]; unfold capMax; simp; omega)); refine Hid.out ?_))
    refine Lib.hid ?_
    have hb6 : RowKit.Below (fb + 1) wz w6 := (((Below.refl _ wz).alloc (by omega) _).alloc (by simp; omega) _).grown hg6 (by simp; omega) (fun q hq => HBz.out.own hq)
    have hz6 := hb6.size
    replace f0 := (cellB hb6 (by omega)).trans f0
    replace f1 := (cellB hb6 (by omega)).trans f1
    replace f2 := (cellB hb6 (by omega)).trans f2
    replace m2 := (frozenB hb6 (by omega)).trans m2
    have hB6' : Bl opT 69 (fb + 1) w6.heap.size w6 (.slice va5 vn5 vc5) (eqA t.1 (colsL u (huM u)) L p ++ [(-1, [a, (p : Int)])]) := hB6
    rw [← HS.out] at hB6'
    have HB6 := Lib.hid hB6'
    clear hB6 hB6' hg6
    go_wp2_with fail
    go_roundw
    case rel => exact ⟨p + 1, _, by omega, by go_num, by rw [size_set]; exact HB6.out.sameB (fun q h1 h2 => Below.heap_setCell _ _ _ _ (by simp; omega)), (World.cell?_setCell_other _ _ _ _ (by simp)).trans f0, (World.cell?_setCell_other _ _ _ _ (by simp)).trans f1, World.cell?_setCell_same _ _ _ f2, (World.frozen?_setCell _ _ _ _).trans m2, tch_app' HTZ.out (hb6.mono (Nat.le_of_eq HZ5.out))⟩
    case measure => simp [intOf]; omega
  ·obtain rfl : p = huM u := by omega
   have HEE : Hid (eqA t.1 (colsL u (huM u)) L (huM u) = ivE t u) := by unfold Hid ivE; rw [HIV.out]
   unfold Hid at HBa
   rw [HEE.out] at HBa hal
   have HBa := Lib.hid HBa
   clear s0
   go_wp2_with fail
   go_loopw [13] (fun i wr => ∃ (k : Nat) (va : Value) (l : List AtomL), k ≤ t.2.length ∧ i = .int .i64 k ∧ inT t u.length L (ivE t u) k = some l ∧ Bl opT 69 (fb + 1) wr.heap.size wr va l ∧ wr.cell? ⟨fb, 0, none⟩ = some (.int .i64 (huM u : Int)) ∧ wr.cell? ⟨fb, 1, none⟩ = some (.int .i64 nx) ∧ wr.cell? ⟨fb, 2, none⟩ = some va ∧ wr.frozen? ⟨fb, 2, none⟩ = false ∧ l.length ≤ 16 ∧ TchP (fun q => q = fb) w5 wr) (fun i _ => t.2.length - (intOf i).toNat)
   case atStart => exact ⟨0, _, _, Nat.zero_le _, rfl, rfl, HBa.out, f0, f1, f2, m2, by omega, HTD.out⟩
   case round =>
    clear f0 f1 f2 m2 HBa
    obtain ⟨k, va, l, hk, rfl, hin, hBa, f0, f1, f2, m2, hll, htc⟩ := hrel
    have HTE := Lib.hid htc
    have HB := Lib.hid hBa
    have hzr3 := htc.size
    have hB3q : Below w.heap.size w wr := hB5.trans (htc.below (by omega) (fun q hq e => by omega))
    have s1 := (htc.cell (i := 1) (show w.heap.size < w5.heap.size by omega) (by omega)).trans HTT.out.2
    have HI := Lib.hid hin
    obtain ⟨ga, gn, gc, rfl⟩ := ex_slice (hBa.fr (by unfold capMax; omega))
    obtain ⟨wk, rfl⟩ : ∃ wk : World, wk = wr := ⟨_, rfl⟩
    have H4k : Hid (Below w4.heap.size w4 wk) := by
     unfold Hid
     have h1 : Below fb w4 w5 := H45.out
     have h2 : Below fb w5 wk := htc.below (by omega) (fun q hq e => by omega)
     have h3 := h1.trans h2
     rw [← HFB.out] at h3
     exact h3
    clear hBa htc hin
    by_cases hkl : k < t.2.length
    ·have hst := inT_step HI.out hkl
     have HST := Lib.hid hst
     have hkI : (k : Int) < (t.2.length : Int) := by omega
     clear hst
     go_wp2_with fail
     refine (l04Atoms_any wk (w0 := w4) (base := fb + 1) HPT4.out HV4.out H4k.out (by rw [HFB.out]; omega) (by omega) HT.out hkl (by omega) HNN.out HLN.out HLb.out HB.out hll).mono ?_
     rintro e w7 ⟨hb7, v7, hcase⟩
     have hz7 := hb7.size
     replace f0 := (cellB hb7 (by omega)).trans f0
     replace f1 := (cellB hb7 (by omega)).trans f1
     replace f2 := (cellB hb7 (by omega)).trans f2
     replace m2 := (frozenB hb7 (by omega)).trans m2
     have HT7 : Hid (TchP (fun q => q = fb) w5 w7) := ⟨hb7.os.trans HTE.out.os, hb7.tape.trans HTE.out.tape, hb7.output.trans HTE.out.output, by have := HTE.out.size; omega, fun q hq hn => (hb7.block q (by have := HZ5.out; omega)).trans (HTE.out.block q hq hn)⟩
     clear HB s1 H4k
     rcases hcase with ⟨hno, rfl⟩ | ⟨l7, hyes, rfl, hB7⟩
     ·have hno2 : inT t u.length L (ivE t u) (k + 1) = none := by rw [HST.out]; exact hno
      have hno3 : ivT t u = none := by unfold ivT; rw [HIV.out]; exact inT_none hno2 (by omega)
      have HR := Lib.hid (in_lim HC.out (by rw [HIV.out]; exact H8.out) hno3)
      have hB7' : Below w.heap.size w w7 := hB3q.trans (hb7.mono (by omega))
      have r0 := (HT7.out.cell (i := 0) (show w.heap.size + 1 < w5.heap.size by omega) (by omega)).trans HRR.out.1
      have r1 := (HT7.out.cell (i := 1) (show w.heap.size + 1 < w5.heap.size by omega) (by omega)).trans HRR.out.2.1
      have r2 := (HT7.out.cell (i := 2) (show w.heap.size + 1 < w5.heap.size by omega) (by omega)).trans HRR.out.2.2
      have q0 := (HT7.out.frozen (i := 0) (show w.heap.size + 1 < w5.heap.size by omega) (by omega)).trans HQQ.out.1
      have q1 := (HT7.out.frozen (i := 1) (show w.heap.size + 1 < w5.heap.size by omega) (by omega)).trans HQQ.out.2.1
      have q2 := (HT7.out.frozen (i := 2) (show w.heap.size + 1 < w5.heap.size by omega) (by omega)).trans HQQ.out.2.2
      obtain ⟨g0, g1, g2⟩ := set3_cells (x := .int .i64 0) (y := .int .i64 0) (z := .slice none 0 0) r0 r1 r2
      clear hno hno2 hno3
      go_wp2_with fail
      refine bodyPost_ret (v := .tuple #[.agg #[.int .i64 0, .int .i64 0, .slice none 0 0], .int .i64 3]) (by simp [results, Tryz.results17, go_sem, g0, g1, g2]) rfl ⟨[.int .i64 0, .int .i64 0, .slice none 0 0], by rw [HR.out.1], by rw [HR.out.2]; exact fr_frm0, set3_below hB7' (by omega)⟩
     ·have HIK : Hid (inT t u.length L (ivE t u) (k + 1) = some l7) := by unfold Hid; rw [HST.out]; exact hyes
      have hl7 := inI_len hyes hll
      have HB7 := Lib.hid hB7
      obtain ⟨xa, xn, xc, rfl⟩ := ex_slice (hB7.fr (by unfold capMax; omega))
      clear hyes hB7
      go_wp2_with fail
      go_roundw
      case rel => exact ⟨k + 1, _, l7, by omega, by go_num, HIK.out, by rw [size_set]; exact HB7.out.sameB (fun q h1 h2 => Below.heap_setCell _ _ _ _ (by simp; omega)), (World.cell?_setCell_other _ _ _ _ (by simp)).trans f0, (World.cell?_setCell_other _ _ _ _ (by simp)).trans f1, World.cell?_setCell_same _ _ _ f2, (World.frozen?_setCell _ _ _ _).trans m2, hl7, HT7.out.then (TchP.set (O := fun q => q = fb) rfl) (fun q _ h => h)⟩
      case measure => simp [intOf]; omega
    ·obtain rfl : k = t.2.length := by omega
     have HIT : Hid (ivT t u = some l) := by unfold Hid ivT; rw [HIV.out]; exact HI.out
     have HOK := Lib.hid (in_ok HC.out (by rw [HIV.out]; exact H8.out) HIT.out)
     have r0 := (HTE.out.cell (i := 0) (show w.heap.size + 1 < w5.heap.size by omega) (by omega)).trans HRR.out.1
     have r1 := (HTE.out.cell (i := 1) (show w.heap.size + 1 < w5.heap.size by omega) (by omega)).trans HRR.out.2.1
     have r2 := (HTE.out.cell (i := 2) (show w.heap.size + 1 < w5.heap.size by omega) (by omega)).trans HRR.out.2.2
     have q0 := (HTE.out.frozen (i := 0) (show w.heap.size + 1 < w5.heap.size by omega) (by omega)).trans HQQ.out.1
     have q1 := (HTE.out.frozen (i := 1) (show w.heap.size + 1 < w5.heap.size by omega) (by omega)).trans HQQ.out.2.1
     have q2 := (HTE.out.frozen (i := 2) (show w.heap.size + 1 < w5.heap.size by omega) (by omega)).trans HQQ.out.2.2
     have HF9 : Hid (frmT.Fr (fb + 1) wk [.int .i64 (huM u : Int), .int .i64 nx, .slice ga gn gc] ((huM u : Int), nx, l)) := fr_cons (I64.small (by omega) (by omega)) (fr_cons (I64.small (by omega) (by omega)) (HB.out.fr (by unfold capMax; omega)))
     obtain ⟨g0, g1, g2⟩ := set3_cells (x := .int .i64 (huM u : Int)) (y := .int .i64 nx) (z := .slice ga gn gc) r0 r1 r2
     go_wp2_with fail
     refine bodyPost_ret (v := .tuple #[.agg #[.int .i64 (huM u : Int), .int .i64 nx, .slice ga gn gc], .int .i64 0]) (by simp [results, Tryz.results17, go_sem, g0, g1, g2]) rfl ⟨[.int .i64 (huM u : Int), .int .i64 nx, .slice ga gn gc], by rw [HOK.out.1], ?_, ?_⟩
     ·rw [HOK.out.2, HIV.out]
      exact (HF9.out.set3 (by omega)).mono (by omega)
     ·exact set3_below hB3q (by omega)
end Go.Proofs.YtajmjfbejfiipaaGreat
