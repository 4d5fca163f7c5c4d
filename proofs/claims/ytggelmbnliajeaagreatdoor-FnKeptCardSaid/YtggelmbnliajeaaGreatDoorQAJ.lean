/-
Contracts: the first tuples of which an operation makes one outside, the program's.
Contracts: the first tuples of which an operation makes one outside, the reference's.
Contracts: the tuples of which an operation makes one outside a relation, both sides.
Contracts: the conjunction of two formulas, the reference's.
Contracts: a relation of a formula replaced by a formula: plain parts; the program's.
Contracts: numbers, operations and kept templates drawn from bytes.
Contracts: a relation drawn, numbers compared, operations compared, the full relation; whether an operation keeps all.
Plain: closures and what keeps them; what composes of operations that keep a relation keeps it.
A list of operations of one number of arguments in new memory: its row, its tables' blocks; an append of a row of structs of two cells. No program is named here.
-/
import Derived.Test.YtggelmbnliajeaaGreatDoorQAD
import Derived.Test.YtggelmbnliajeaaGreatDoorQAE
import Derived.Test.YtggelmbnliajeaaGreatDoorQAB
import Derived.Test.YtggelmbnliajeaaGreatDoorQAF
import Derived.Test.YtggelmbnliajeaaGreatDoorQAA
import Derived.Test.YtggelmbnliajeaaGreatDoorQAI
import Derived.Test.YtggelmbnliajeaaGreatDoorQAH
namespace Go.Proofs.YtggelmbnliajeaaGreatDoor
open Go.RowKit Go.Sort
/-- all before this list of tuples are kept, and it is not -/
def brkAt (s : Int) (f : Int × List Int) (r : Int × List (List Int)) (k : Nat) : Prop := keptTo s f r k ∧ makes s f r k ∉ r.2 ∧ (k : Int) < (r.2.length : Int) ^ f.1.toNat
theorem brkAt.not {s : Int} {f : Int × List Int} {r : Int × List (List Int)} {k : Nat} (h : brkAt s f r k) : ¬ keepsP s f r := fun hh => h.2.1 (hh k h.2.2)
theorem brkAt.one {s : Int} {f : Int × List Int} {r : Int × List (List Int)} {k k' : Nat} (h : brkAt s f r k) (h' : brkAt s f r k') : k = k' := by
 rcases Nat.lt_trichotomy k k' with e | e | e
 ·exact absurd (h'.1 k e) h.2.1
 ·exact e
 ·exact absurd (h.1 k' e) h'.2.1
/-- what broken hands back -/
def Brk2 (w : World) (s : Int) (f : Int × List Int) (r : Int × List (List Int)) (e : Ending) (w' : World) : Prop :=
 (keepsP s f r ∧ ∃ a, e = .returned (.tuple #[a, .slice none 0 0])) ∨
 ∃ (ar k : Nat) (lv : Value) (g m : Nat), f.1 = (ar : Int) ∧ brkAt s f r k ∧ e = .returned (.tuple #[lv, .slice (some ⟨g, 0, none⟩) m m]) ∧ rowsT.Rd w' [lv] (picks r.2 ar k) ∧ intsT.Fr w.heap.size w' [.slice (some ⟨g, 0, none⟩) m m] (makes s f r k)
set_option maxHeartbeats 3200000 in
set_option maxRecDepth 100000 in
theorem broken2_any (w : World) {cs cs' : Array Value} {f : Int × List Int} {r : Int × List (List Int)} (hf : opT.Rd w cs.toList f) (hr : relT.Rd w cs'.toList r) {s : Int} (h1 : relOk s r) (h2 : opOk s f) :
  Calls Tryz.prog 62 #[.int .i64 s, .agg cs, .agg cs'] w fun e w' => Brk2 w s f r e w' ∧ Below w.heap.size w w' := by
 have hf' := hf
 obtain ⟨u, hv, -, hfx⟩ := pair_ex hf
 obtain rfl := agg_of hv
 obtain ⟨fad, fcap, rfl⟩ := rd_slice hfx
 obtain ⟨u', hv', -, hx⟩ := pair_ex hr
 obtain rfl := agg_of hv'
 obtain ⟨rad, rcap, rfl⟩ := rd_slice hx
 obtain ⟨_, _, e1, -, -, hcell⟩ := slices_ex hx
 simp only [List.cons.injEq, Value.slice.injEq, and_true, true_and] at e1
 obtain ⟨rfl, rfl⟩ := e1
 have hs := h1.1
 have ha := h2.2.1
 have hm := h1.2.1
 unfold sizeOk at hs hm
 obtain ⟨hln, hN256⟩ := rel_len_le h1
 obtain ⟨ar, har⟩ : ∃ ar : Nat, f.1 = ar := ⟨f.1.toNat, by omega⟩
 obtain ⟨N, hN⟩ : ∃ N : Nat, s ^ r.1.toNat = N := ⟨(s ^ r.1.toNat).toNat, by have := pow_nn (s := s) (by omega) r.1.toNat; omega⟩
 obtain ⟨M, hM⟩ : ∃ M : Nat, (r.2.length : Int) ^ f.1.toNat = M := ⟨((r.2.length : Int) ^ f.1.toNat).toNat, by have := pow_nn (s := (r.2.length : Int)) (by omega) f.1.toNat; omega⟩
 rw [har] at hf'
 have HF0 := Lib.hid hf'
 have hMle : (M : Int) ≤ 1000000000000000 := by rw [← hM]; exact pow_le (by omega) (by omega) (by omega)
 have har3 : 1 ≤ ar ∧ ar ≤ 3 := by omega
 have hln2 : r.2.length ≤ 256 := by omega
 have hN2 : N ≤ 256 := by omega
 have hl0 : M ≠ 0 → 0 < r.2.length := fun h => by
  rcases Nat.eq_zero_or_pos r.2.length with h0 | h0
  ·rw [h0, show f.1.toNat = (f.1.toNat - 1) + 1 by omega, Int.pow_succ] at hM
   simp at hM
   omega
  ·exact h0
 have HM : Hid ((r.2.length : Int) ^ ((ar : Int)).toNat = M) := by unfold Hid; rw [← har]; exact hM
 have HM2 := Lib.hid hM
 have HN := Lib.hid hN
 have HR := Lib.hid h1
 have HF := Lib.hid h2
 have HAR := Lib.hid har
 have HC := Lib.hid hcell
 have q0 : 1 ≤ s ∧ s ≤ 4 := hs
 have q1 : r.1.toNat ≤ 4 := by omega
 have q2 : 0 ≤ r.1 ∧ r.1 ≤ 5 := by omega
 clear hf hf' hr hfx hx hcell h1 h2 hln hN256 hN hM hv hv' hs ha hm
 go_enter Tryz.func62, Tryz.ntmps62
 rw [HAR.out]
 go_wp2_with fail
 refine (power_any _ s r.1 (by omega) (by omega) (by omega)).mono ?_
 rintro e _ ⟨rfl, rfl⟩
 rw [HN.out]
 cases hfull : ((r.2.length : Int) == (N : Int))
 rotate_left
 ·have HK : Hid (tb (keepsP s f r) = true) := tb_true (keeps_full HR.out HF.out (by rw [HN.out]; simpa using hfull))
  go_wp2_with fail
  go_ret2
  exact ⟨.inl ⟨tb_iff.1 HK.out, _, rfl⟩, (by repeat (first | exact Below.refl _ _ | exact bA | assumption | refine Below.setCell ?_ (by first | omega | (simp; try omega)) _ | refine Below.alloc ?_ (by first | omega | (simp; try omega)) _ | refine Below.drew ?_ | refine bDN ?_ | refine bthen ?_ (by assumption)))⟩
 ·go_wp2_with fail
  refine (power_any _ s r.1 (by omega) (by omega) (by omega)).mono ?_
  rintro e _ ⟨rfl, rfl⟩
  rw [HN.out]
  generalize hW : (w.alloc _).alloc _ = W
  have hbW : Below w.heap.size w W := hW ▸ bAA
  have hsW : w.heap.size + 2 ≤ W.heap.size := by rw [← hW]; simp
  have X0 : W.cell? ⟨w.heap.size, 0, none⟩ = some (.int .i64 (ar : Int)) := by rw [← hW]; simp
  have X1 : W.cell? ⟨w.heap.size, 1, none⟩ = some (.slice fad f.2.length fcap) := by rw [← hW]; simp
  have Y0 : W.cell? ⟨w.heap.size + 1, 0, none⟩ = some (.int .i64 r.1) := by rw [← hW]; simp
  have Y1 : W.cell? ⟨w.heap.size + 1, 1, none⟩ = some (.slice rad r.2.length rcap) := by rw [← hW]; simp
  clear hW
  go_wp2_with (refine wpList_mkB _ rfl _ _ 120 4 rfl Tryz.underlying120 infoBool w.heap.size N rfl rfl (by omega) (by decide) (by omega) ?_; intro w1 hA hg1 hs1; have hbg := below_of_grown hg1; have y1 := (hbg.cell (p := ⟨w.heap.size + 1, 1, none⟩) hsW).trans Y1)
  have hb1 : Below w.heap.size w w1 := hbW.trans (hbg.mono (by omega))
  have x0 := (hbg.cell (p := ⟨w.heap.size, 0, none⟩) (by simp; omega)).trans X0
  have x1 := (hbg.cell (p := ⟨w.heap.size, 1, none⟩) (by simp; omega)).trans X1
  have y0 := (hbg.cell (p := ⟨w.heap.size + 1, 0, none⟩) hsW).trans Y0
  have HA := Lib.hid hA
  clear hg1 hA X0 X1 Y0 Y1
  go_loopw [34] (fun i wr => ∃ k : Nat, k ≤ r.2.length ∧ i = .int .i64 k ∧ BR 4 w.heap.size wr W.heap.size N N (seenL s N (r.2.take k)) ∧ Below W.heap.size w1 wr) (fun i _ => r.2.length - (intOf i).toNat)
  case atStart => exact ⟨0, Nat.zero_le _, rfl, by rw [List.take_zero, seenL_nil]; exact HA.out, Below.refl _ _⟩
  case round =>
   obtain ⟨k, hk, rfl, hBR, hbel⟩ := hrel
   have HB := Lib.hid hBR
   clear hBR HA
   have hbw : Below w.heap.size w wr := hb1.trans (hbel.mono (by omega))
   have hzr := hbel.size
   by_cases hkl : k < r.2.length
   ·obtain ⟨a, q, rfl, haa, hce⟩ := HC.out (by omega)
    obtain ⟨u, hu, hcu⟩ := hce k hkl
    obtain ⟨ua, un, uc, rfl⟩ := rd_sl hu
    have d2 := (hbw.cell haa).trans hcu
    obtain ⟨t1, t2⟩ := (HR.out.2.2 k hkl).1
    have htl : (r.2[k]).length = r.1.toNat := by omega
    obtain ⟨i0, i1⟩ := idx_lt (s := s) (by omega) htl t2
    rw [HN.out] at i1
    obtain ⟨j, hj⟩ : ∃ j : Nat, idxL s 0 r.2[k] = j := ⟨(idxL s 0 r.2[k]).toNat, by omega⟩
    have hjN : j < N := by omega
    have e0 := HB.out.cell (j := j) (by rw [seenL_len]; exact hjN)
    have e1 := HB.out.free j
    have HST := Lib.hid (seenL_set hkl hj hjN)
    have HBS := Lib.hid (HB.out.set j true)
    have HU := Lib.hid (hu.below hbw)
    have HT2 := Lib.hid t2
    have HJ := Lib.hid hj
    have hlen5 : (r.2[k]).length ≤ 5 := by omega
    clear hce hu hcu t1 t2 htl hj i0 i1
    go_wp2_with fail
    refine (indexOf_any _ s HU.out q0.1 (by omega) hlen5 HT2.out).mono ?_
    rintro e _ ⟨rfl, rfl⟩
    rw [HJ.out]
    go_wp2_with fail
    go_roundw
    case rel => exact ⟨k + 1, by omega, by go_num, by rw [← HST.out]; exact HBS.out, hbel.setCell (Nat.le_refl _) _⟩
    case measure => simp [intOf]; omega
   ·obtain rfl : k = r.2.length := by omega
    rw [List.take_length] at HB
    obtain ⟨w2, rfl⟩ : ∃ w2 : World, w2 = wr := ⟨_, rfl⟩
    have z0 := (hbel.cell (p := ⟨w.heap.size, 0, none⟩) (by simp; omega)).trans x0
    have z1 := (hbel.cell (p := ⟨w.heap.size, 1, none⟩) (by simp; omega)).trans x1
    have z2 := (hbel.cell (p := ⟨w.heap.size + 1, 1, none⟩) hsW).trans y1
    have hz2 : W.heap.size + 1 ≤ w2.heap.size := HB.out.lt
    clear x0 x1 y0 y1 hbel hb1 hbW
    go_wp2_with fail
    refine (power_any _ (r.2.length : Int) (ar : Int) (by omega) (by omega) (by omega)).mono ?_
    rintro e _ ⟨rfl, rfl⟩
    rw [HM.out]
    go_wp2_with fail
    go_loopw [48] (fun i wr => ∃ k : Nat, k ≤ M ∧ i = .int .i64 k ∧ keptTo s f r k ∧ Below w2.heap.size w2 wr) (fun i _ => M - (intOf i).toNat)
    case atStart => exact ⟨0, Nat.zero_le _, rfl, keptTo_zero, Below.refl _ _⟩
    case round =>
     obtain ⟨k, hk, rfl, hkt, hbel⟩ := hrel
     have HKT := Lib.hid hkt
     have hz3 := hbel.size
     have d0 := (hbel.cell (p := ⟨w.heap.size, 0, none⟩) (by simp; omega)).trans z0
     clear hkt
     by_cases hkl : k < M
     ·have h0 : 0 < r.2.length := hl0 (by omega)
      obtain ⟨w3, rfl⟩ : ∃ w3 : World, w3 = wr := ⟨_, rfl⟩
      have hl3 : w.heap.size < w3.heap.size := by omega
      go_wp2_with fail
      refine (listOf_any _ (r.2.length : Int) (k : Int) ar (by omega) (by omega) (by omega) (by omega) (by omega)).mono ?_
      rintro e w4 ⟨u, rfl, hfr, hb4⟩
      obtain ⟨dad, dcap, hdv, -, -, hdc⟩ := ints_ex hfr.rd
      obtain rfl : u = _ := by simpa using hdv
      obtain ⟨db, dof, rfl, hdb, hdce⟩ := hdc (by rw [digL_len]; omega)
      rw [digL_len]
      have hdbl := fr_block hfr (by rw [digL_len]; omega)
      have hdbl2 : w3.heap.size < db := by have := hdbl; simp at this; omega
      have HDC := Lib.hid hdce
      have hb34 : Below w3.heap.size w3 w4 := bthen bA hb4
      have hbw4 : Below w.heap.size w w4 := bthen hbw (bthen hbel hb34)
      have hz4 : w3.heap.size + 1 ≤ w4.heap.size := by have := hb4.size; simp at this; omega
      have hBl0 : Bl Ty.val 42 w3.heap.size w4.heap.size w4 (.slice (some ⟨w3.heap.size, 0, none⟩) 0 0) [] := ((Bl.lit0 (E := Ty.val) (e := 42) (w := w3) (Nat.le_refl _)).below (B := w3.heap.size + 1) (by simpa using hb4) (Nat.le_refl _)).mono hz4
      have HBL0 := Lib.hid hBl0
      clear hdv hdc hdce hfr d0 hBl0 hdbl
      go_wp2_with fail
      go_loopw [58, 13] (fun i q wr => ∃ (j : Nat) (vs : List Value), j ≤ ar ∧ i = .int .i64 j ∧ vs.length = j ∧ picked w vs (picks r.2 ar k) ∧ Bl Ty.val 42 w3.heap.size wr.heap.size wr q vs ∧ Below w3.heap.size w3 wr ∧ (q.ownBlock ≠ some db ∧ wr.heap[db]? = w4.heap[db]? ∧ w4.heap.size ≤ wr.heap.size)) (fun i _ _ => ar - (intOf i).toNat)
      case atStart => exact ⟨0, [], Nat.zero_le _, rfl, rfl, picked_nil, HBL0.out, hb34, by simp [Value.ownBlock]; omega, rfl, Nat.le_refl _⟩
      case round =>
       obtain ⟨j, vs, hj, rfl, hvl, hpk, hBl, hb5, hdg⟩ := hrel
       have HB2 := Lib.hid hBl
       have HVL := Lib.hid hvl
       have HPK := Lib.hid hpk
       have HDG := Lib.hid hdg
       have hb25 : Below w2.heap.size w2 wr := bthen hbel hb5
       have hbw5 : Below w.heap.size w wr := bthen hbw hb25
       have hz5 := hb5.size
       have hl5 : w.heap.size < wr.heap.size := by omega
       clear hBl hvl hpk hdg
       by_cases hjl : j < ar
       ·have hjd : j < (digL (r.2.length : Int) k ar).length := by rw [digL_len]; exact hjl
        have hdm := dig_mem (n := (r.2.length : Int)) (i := (k : Int)) (ar := ar) (by omega) (List.getElem_mem hjd)
        obtain ⟨dn, hdn⟩ : ∃ dn : Nat, (digL (r.2.length : Int) k ar)[j] = (dn : Int) := ⟨((digL (r.2.length : Int) k ar)[j]).toNat, by omega⟩
        have hdl : dn < r.2.length := by omega
        have e0 := (World.cell?_of_block (a := ⟨db, dof + j, none⟩) HDG.out.2.1).trans (HDC.out j hjd).2
        rw [hdn] at e0
        obtain ⟨tb0, to0, rfl, htb, hte⟩ := HC.out h0
        obtain ⟨u, hu, hcu⟩ := hte dn hdl
        obtain ⟨ua, un, uc, rfl⟩ := rd_sl hu
        have e1 := (hb25.cell (p := ⟨w.heap.size + 1, 1, none⟩) (by simp; omega)).trans z2
        have e2 := (hbw5.cell htb).trans hcu
        have HPN : Hid (picked w (vs ++ [.slice ua un uc]) (picks r.2 ar k)) := by
         have hl : j < (picks r.2 ar k).length := by rw [picks_len]; exact hjl
         have hg := picks_get hjd hdn hdl hl
         have hv := HVL.out
         subst hv
         exact picked_snoc HPK.out hl (by rw [hg]; exact hu)
        have hvj : vs.length ≤ 1000000000 := by rw [HVL.out]; omega
        clear hdm hdn hte hu hcu
        go_wp2_with (refine wpList_push (E := Ty.val) _ rfl _ _ 23 42 rfl elInt64SS rfl (HB2.out.below bA (Nat.le_refl _)) rfl news1 (fr_val rfl) hvj (by decide) hz5 (by simp) ?_; intro v1 w6 hB6 hg6 ho6)
        have hbel6 : Below w3.heap.size w3 w6 := (hb5.alloc hb5.size _).grown hg6 (by simp; omega) (fun k hk => HB2.out.own hk)
        have HB6 := Lib.hid hB6
        have HDN : Hid (v1.ownBlock ≠ some db ∧ w6.heap[db]? = w4.heap[db]? ∧ w4.heap.size ≤ w6.heap.size) := by
         obtain ⟨n1, n2, n3⟩ := HDG.out
         have hz6 := hg6.size
         simp only [World.size_alloc] at hz6
         refine ⟨?_, ?_, by omega⟩
         ·rcases ho6 with e | e <;> rw [e]
          ·exact n1
          ·intro h; simp at h; omega
         ·rw [hg6.block db (by simp; omega) (fun h => n1 h.symm), ← n2]
          exact (bA (w := wr)).block db (by omega)
        clear hB6 ho6 hg6
        go_wp2_with fail
        go_roundw
        case rel => exact ⟨j + 1, _, by omega, by go_num, by rw [List.length_append, HVL.out]; rfl, HPN.out, HB6.out, hbel6, HDN.out⟩
        case measure => simp [intOf]; omega
       ·obtain rfl : j = ar := by omega
        obtain ⟨wl, rfl⟩ : ∃ wl : World, wl = wr := ⟨_, rfl⟩
        have hfv := HB2.out.fr (by rw [HVL.out]; unfold capMax; omega)
        have HLR := Lib.hid (rows_of_vals hfv.rd (by rw [HVL.out, picks_len]) (fun i h h' => (HPK.out.2 i h h').below hbw5))
        obtain ⟨la, ln, lc, hq⟩ := ex_slice hfv
        subst hq
        have HTO := Lib.hid (picks_ok HR.out HF.out h0 (k : Int))
        rw [show f.1.toNat = j by rw [HAR.out]; omega] at HTO
        have a0 := (hb25.cell (p := ⟨w.heap.size, 0, none⟩) (by simp; omega)).trans z0
        have a1 := (hb25.cell (p := ⟨w.heap.size, 1, none⟩) (by simp; omega)).trans z1
        obtain ⟨rm, hrm⟩ : ∃ rm, r.1.toNat = rm := ⟨_, rfl⟩
        have HRM := Lib.hid hrm
        rw [hrm] at q1 HTO
        clear hfv hrm
        go_wp2_with fail
        refine (made_any _ (HF0.out.below hbw5) HLR.out HF.out HTO.out (by omega)).mono ?_
        rintro e w6 ⟨g, rfl, hft, hb6⟩
        have hbw6 : Below w.heap.size w w6 := bthen hbw5 hb6
        have HTR := Lib.hid hft.rd
        have HMK : Hid (madeL s f.2 (picks r.2 j k) rm = makes s f r k) := by unfold Hid; rw [makes, ← HRM.out, show f.1.toNat = j by rw [HAR.out]; omega]
        rw [HMK.out] at HTR
        have hft2 := hft
        rw [HMK.out] at hft2
        have HFO := Lib.hid (hft2.mono (show w.heap.size ≤ wl.heap.size from hbw5.size))
        have HLO := Lib.hid (HLR.out.below hb6)
        clear hft2
        obtain ⟨g1, g2⟩ := makes_in HR.out HF.out h0 (k : Int)
        obtain ⟨i0, i1⟩ := idx_lt (s := s) q0.1 g1 g2
        rw [HN.out] at i1
        obtain ⟨jj, hjj⟩ : ∃ jj : Nat, idxL s 0 (makes s f r k) = jj := ⟨(idxL s 0 (makes s f r k)).toNat, by omega⟩
        have hjN : jj < N := by omega
        have hb26 : Below w2.heap.size w2 w6 := bthen hb25 hb6
        have HB6 := HB.out.below hb26 (by omega)
        have t0 := HB6.cell (j := jj) (by rw [seenL_len]; exact hjN)
        have HG := Lib.hid (seenL_get (s := s) (N := N) (ts := r.2) q0.1 (m := r.1.toNat) (fun t ht => by obtain ⟨i, hi, rfl⟩ := List.mem_iff_getElem.1 ht; obtain ⟨a1, a2⟩ := (HR.out.2.2 i hi).1; exact ⟨by omega, a2⟩) g1 g2 hjj (by rw [seenL_len]; exact hjN))
        rw [HG.out] at t0
        have HJJ := Lib.hid hjj
        have HG1 : Hid ((makes s f r k).length ≤ 5) := by unfold Hid; rw [g1, HRM.out]; omega
        have HG2 := Lib.hid g2
        clear HB6 HG hft i0 i1 g1 g2 hjj
        cases hin : tb (makes s f r k ∈ r.2)
        ·have HBK : Hid (brkAt s f r k) := ⟨HKT.out, (fun hh => by rw [tb_true hh] at hin; cases hin), (by rw [HM2.out]; omega)⟩
         rw [hin] at t0
         clear hin
         go_wp2_with fail
         refine (indexOf_any _ s HTR.out q0.1 (by omega) HG1.out HG2.out).mono ?_
         rintro e _ ⟨rfl, rfl⟩
         rw [HJJ.out]
         go_wp2_with fail
         go_ret2
         exact ⟨.inr ⟨_, k, _, g, _, HAR.out, HBK.out, rfl, HLO.out, HFO.out⟩, hbw6⟩
        ·have HKN := Lib.hid (keptTo_succ HKT.out (tb_iff.1 hin))
         rw [hin] at t0
         clear hin
         go_wp2_with fail
         refine (indexOf_any _ s HTR.out q0.1 (by omega) HG1.out HG2.out).mono ?_
         rintro e _ ⟨rfl, rfl⟩
         rw [HJJ.out]
         go_wp2_with fail
         go_roundw
         case rel => exact ⟨k + 1, by omega, by go_num, HKN.out, hb26⟩
         case measure => simp [intOf]; omega
     ·obtain rfl : k = M := by omega
      have HE : Hid (tb (keepsP s f r) = true) := tb_true (keepsP_of HM2.out HKT.out)
      go_wp2_with fail
      go_ret2
      exact ⟨.inl ⟨tb_iff.1 HE.out, _, rfl⟩, bthen hbw hbel⟩
end Go.Proofs.YtggelmbnliajeaaGreatDoor
namespace Go.Proofs.YtggelmbnliajeaaGreatDoor
open Go.RowKit Go.Sort
/-- what l02Breaks hands back -/
def BrkS (s : Int) (f : Int × List Int) (r : Int × List (List Int)) (e : Ending) (w' : World) : Prop :=
 (keepsP s f r ∧ ∃ a b, e = .returned (.tuple #[a, b, .bool false])) ∨
 ∃ (k : Nat) (lv tv : Value), brkAt s f r k ∧ e = .returned (.tuple #[lv, tv, .bool true]) ∧ intsT.Rd w' [tv] (makes s f r k)
set_option maxHeartbeats 3200000 in
set_option maxRecDepth 100000 in
theorem l02Breaks2_any (w : World) {fv rv : Value} {f : Int × List Int} {r : Int × List (List Int)} (hf : opT.Pt w fv f) (hr : relT.Pt w rv r) {s : Int} (h1 : relOk s r) (h2 : opOk s f) :
  Calls Tryz.prog 65 #[.int .i64 s, fv, rv] w fun e w' => BrkS s f r e w' ∧ Below w.heap.size w w' := by
 have hf0 := hf
 have hr0 := hr
 obtain ⟨fb, fo, fad, fcap, rfl, hfb, -, fc0, -, -⟩ := pt_pair hf
 obtain ⟨rb, ro, rad, rcap, rfl, hrb, -, -, rc1, hx⟩ := pt_pair hr
 obtain ⟨_, _, e1, -, -, hcell⟩ := slices_ex hx
 simp only [List.cons.injEq, Value.slice.injEq, and_true, true_and] at e1
 obtain ⟨rfl, rfl⟩ := e1
 have hs := h1.1
 have ha := h2.2.1
 have hm := h1.2.1
 unfold sizeOk at hs hm
 obtain ⟨hln, hN256⟩ := rel_len_le h1
 obtain ⟨ar, har⟩ : ∃ ar : Nat, f.1 = ar := ⟨f.1.toNat, by omega⟩
 obtain ⟨N, hN⟩ : ∃ N : Nat, s ^ r.1.toNat = N := ⟨(s ^ r.1.toNat).toNat, by have := pow_nn (s := s) (by omega) r.1.toNat; omega⟩
 obtain ⟨M, hM⟩ : ∃ M : Nat, (r.2.length : Int) ^ f.1.toNat = M := ⟨((r.2.length : Int) ^ f.1.toNat).toNat, by have := pow_nn (s := (r.2.length : Int)) (by omega) f.1.toNat; omega⟩
 have hMle : (M : Int) ≤ 1000000000000000 := by rw [← hM]; exact pow_le (by omega) (by omega) (by omega)
 have har3 : 1 ≤ ar ∧ ar ≤ 3 := by omega
 have hln2 : r.2.length ≤ 256 := by omega
 have hl0 : M ≠ 0 → 0 < r.2.length := fun h => by
  rcases Nat.eq_zero_or_pos r.2.length with h0 | h0
  ·rw [h0, show f.1.toNat = (f.1.toNat - 1) + 1 by omega, Int.pow_succ] at hM
   simp at hM
   omega
  ·exact h0
 rw [har] at fc0
 have HM : Hid ((r.2.length : Int) ^ ((ar : Int)).toNat = M) := by unfold Hid; rw [← har]; exact hM
 have HM2 := Lib.hid hM
 have HN := Lib.hid hN
 have HR := Lib.hid h1
 have HF := Lib.hid h2
 have HAR := Lib.hid har
 have HC := Lib.hid hcell
 have HF0 := Lib.hid hf0
 have HR0 := Lib.hid hr0
 have q0 : 1 ≤ s ∧ s ≤ 4 := hs
 have q1 : r.1.toNat ≤ 4 := by omega
 clear hf hr hf0 hr0 hx hcell h1 h2 hln hN256 hN hM har hs ha hm
 go_enter Tryz.func65, Tryz.ntmps65
 go_wp2_with fail
 refine (l01SetOf_any _ HR0.out HR.out N HN.out).mono ?_
 rintro e w1 ⟨bx, g, rfl, hset, hgl, hb1⟩
 have HS := Lib.hid hset
 have gc0 := (hb1.cell hfb).trans fc0
 clear hset
 go_wp2_with fail
 refine (l01Power_any _ (r.2.length : Int) (ar : Int) (by omega) (by omega) (by omega)).mono ?_
 rintro e _ ⟨rfl, rfl⟩
 rw [HM.out]
 clear gc0
 go_wp2_with fail
 go_loopw [12] (fun i wr => ∃ k : Nat, k ≤ M ∧ i = .int .i64 k ∧ keptTo s f r k ∧ SetAt 4 w.heap.size wr bx g N (seenL s N r.2) ∧ Below w.heap.size w wr) (fun i _ => M - (intOf i).toNat)
 case atStart => exact ⟨0, Nat.zero_le _, rfl, keptTo_zero, HS.out, hb1⟩
 case round =>
  obtain ⟨k, hk, rfl, hkt, hset, hbel⟩ := hrel
  have HKT := Lib.hid hkt
  have HSK := Lib.hid hset
  clear hkt hset HS
  by_cases hkl : k < M
  ·have h0 : 0 < r.2.length := hl0 (by omega)
   have d0 := (hbel.cell hfb).trans fc0
   go_wp2_with fail
   refine (l01Digits_any _ (r.2.length : Int) (k : Int) ar (by omega) (by omega) (by omega) (by omega) (by omega)).mono ?_
   rintro e w2 ⟨u, rfl, hfr, hb2⟩
   obtain ⟨dad, dcap, hdv, -, -, hdc⟩ := ints_ex hfr.rd
   obtain rfl : u = _ := by simpa using hdv
   obtain ⟨db, dof, rfl, hdb, hdce⟩ := hdc (by rw [digL_len]; omega)
   rw [digL_len]
   have HDC := Lib.hid hdce
   have hbw2 : Below w.heap.size w w2 := bthen hbel hb2
   have hz2 := hb2.size
   have hz0 := hbel.size
   clear hdv hdc hdce hfr d0
   go_wp2_with fail
   obtain ⟨wo, rfl⟩ : ∃ wo : World, wo = wr := ⟨_, rfl⟩
   go_loopw [15, 14] (fun i q wr => ∃ (j : Nat) (vs : List Value), j ≤ ar ∧ i = .int .i64 j ∧ vs.length = j ∧ picked w vs (picks r.2 ar k) ∧ Bl Ty.val 42 w2.heap.size wr.heap.size wr q vs ∧ Below w2.heap.size w2 wr) (fun i _ _ => ar - (intOf i).toNat)
   case atStart => exact ⟨0, [], Nat.zero_le _, rfl, rfl, picked_nil, by simpa using Bl.lit0 (E := Ty.val) (e := 42) (w := w2) (Nat.le_refl _), bA⟩
   case round =>
    obtain ⟨j, vs, hj, rfl, hvl, hpk, hBl, hb3⟩ := hrel
    have HB := Lib.hid hBl
    have HVL := Lib.hid hvl
    have HPK := Lib.hid hpk
    have hbw3 : Below w.heap.size w wr := bthen hbw2 hb3
    have hz3 := hb3.size
    clear hBl hvl hpk
    by_cases hjl : j < ar
    ·have hjd : j < (digL (r.2.length : Int) k ar).length := by rw [digL_len]; exact hjl
     have hdm := dig_mem (n := (r.2.length : Int)) (i := (k : Int)) (ar := ar) (by omega) (List.getElem_mem hjd)
     obtain ⟨dn, hdn⟩ : ∃ dn : Nat, (digL (r.2.length : Int) k ar)[j] = (dn : Int) := ⟨((digL (r.2.length : Int) k ar)[j]).toNat, by omega⟩
     have hdl : dn < r.2.length := by omega
     have hDC0 := (HDC.out j hjd).2
     rw [hdn] at hDC0
     have e0 := (hb3.cell hdb).trans hDC0
     obtain ⟨tb0, to0, rfl, htb, hte⟩ := HC.out h0
     obtain ⟨u, hu, hcu⟩ := hte dn hdl
     obtain ⟨ua, un, uc, rfl⟩ := rd_sl hu
     have e1 := (hbw3.cell hrb).trans rc1
     have e2 := (hbw3.cell htb).trans hcu
     have HPN : Hid (picked w (vs ++ [.slice ua un uc]) (picks r.2 ar k)) := by
      have hl : j < (picks r.2 ar k).length := by rw [picks_len]; exact hjl
      have hg := picks_get hjd hdn hdl hl
      have hv := HVL.out
      subst hv
      exact picked_snoc HPK.out hl (by rw [hg]; exact hu)
     have hvj : vs.length ≤ 1000000000 := by rw [HVL.out]; omega
     have HE0 := Lib.hid ((hDC0 : w2.cell? ⟨db, dof + j, none⟩ = some (.int .i64 (dn : Int))))
     have HE1 := Lib.hid ((hbw2.cell hrb).trans rc1)
     have HE2 := Lib.hid ((hbw2.cell htb).trans hcu)
     have l1 : rb < w2.heap.size := Nat.lt_of_lt_of_le hrb (by omega)
     have l2 : tb0 < w2.heap.size := Nat.lt_of_lt_of_le htb (by omega)
     clear hdm hdn hte hu hcu rc1 hDC0
     go_wp2_with fail
     go_region_held_law (fun w' => w'.cell? ⟨rb, ro + 1, none⟩ = some (.slice (some ⟨tb0, to0, none⟩) r.2.length rcap) ∧ w'.cell? ⟨db, dof + j, none⟩ = some (.int .i64 (dn : Int)) ∧ w'.cell? ⟨tb0, to0 + dn, none⟩ = some (.slice ua un uc)) (first | exact ⟨e1, e0, e2⟩ | exact ⟨m1, m0, m2⟩ | go_keep)
      (first
       | (refine step_push (E := Ty.val) _ rfl _ _ 23 42 rfl elInt64SS rfl (HB.out.below (bD.alloc (by simp) _) (Nat.le_refl _)) rfl news1 (fr_val rfl) hvj (by decide) hz3 (by simp) ?_; intro v1 wz hB1 hg1 _; have hbz : Below w2.heap.size w2 wz := (hb3.trans (((bD (w := wr)).alloc (by simp) _).mono hz3)).grown hg1 (by simp; omega) (fun q hq => HB.out.own hq); have m0 := (hbz.cell hdb).trans HE0.out; have m1 := (hbz.cell l1).trans HE1.out; have m2 := (hbz.cell l2).trans HE2.out; have HB1 := Lib.hid hB1; clear hB1))
     all_goals
      go_simp
      go_wp2_with fail
      go_roundw
      case rel => exact ⟨j + 1, _, by omega, by go_num, by rw [List.length_append, HVL.out]; rfl, HPN.out, HB1.out, hbz⟩
      case measure => simp [intOf]; omega
    ·obtain rfl : j = ar := by omega
     obtain ⟨wl, rfl⟩ : ∃ wl : World, wl = wr := ⟨_, rfl⟩
     have hfv := HB.out.fr (by rw [HVL.out]; unfold capMax; omega)
     obtain ⟨lad, lcap, hqv, -, -, hlc⟩ := Ty.slice_ex hfv.rd
     simp only [List.cons.injEq, and_true] at hqv
     subst hqv
     obtain ⟨lb, lo, rfl, hlb, hlce⟩ := hlc (by rw [HVL.out]; omega)
     have HLR := Lib.hid (rows_of_vals hfv.rd (by rw [HVL.out, picks_len]) (fun i h h' => (HPK.out.2 i h h').below hbw3))
     have HLC := Lib.hid hlce
     rw [HVL.out] at HLR
     rw [HVL.out]
     clear hfv hlc hlce
     have HTO := Lib.hid (picks_ok HR.out HF.out h0 (k : Int))
     rw [show f.1.toNat = j by rw [HAR.out]; omega] at HTO
     go_wp2_with fail
     refine (l02Make_any _ (HF0.out.below hbw3) HLR.out HF.out HTO.out (by omega)).mono ?_
     rintro e w4 ⟨t, rfl, hft, hb4⟩
     obtain ⟨ta, tn, tc, rfl⟩ := rd_sl hft.rd
     have hbw4 : Below w.heap.size w w4 := bthen hbw3 hb4
     have HTR := Lib.hid hft.rd
     have HMK : Hid (madeL s f.2 (picks r.2 j k) r.1.toNat = makes s f r k) := by unfold Hid; rw [makes, show f.1.toNat = j by rw [HAR.out]; omega]
     rw [HMK.out] at HTR
     obtain ⟨g1, g2⟩ := makes_in HR.out HF.out h0 (k : Int)
     obtain ⟨i0, i1⟩ := idx_lt (s := s) q0.1 g1 g2
     rw [HN.out] at i1
     obtain ⟨jj, hjj⟩ : ∃ jj : Nat, idxL s 0 (makes s f r k) = jj := ⟨(idxL s 0 (makes s f r k)).toNat, by omega⟩
     have hjN : jj < N := by omega
     have hset4 := HSK.out.below (hb2.trans ((hb3.mono hz2).trans (hb4.mono (by omega)))) (Nat.le_refl _)
     obtain ⟨-, -, -, s4, s5⟩ := hset4
     have t0 := s5.cell (j := jj) (by rw [seenL_len]; exact hjN)
     have HG := Lib.hid (seenL_get (s := s) (N := N) (ts := r.2) q0.1 (m := r.1.toNat) (fun t ht => by obtain ⟨i, hi, rfl⟩ := List.mem_iff_getElem.1 ht; obtain ⟨a1, a2⟩ := (HR.out.2.2 i hi).1; exact ⟨by omega, a2⟩) g1 g2 hjj (by rw [seenL_len]; exact hjN))
     rw [HG.out] at t0
     have cC : ∀ n, Calls Tryz.prog 97 #[.int .i64 s, .slice ta tn tc] (w4.drewN n) fun e w'' => e = .returned (.int .i64 jj) ∧ ∃ m, w'' = w4.drewN m := fun n => by
      have := pure_drawn (l01Code_any (w4.drewN n) s (HTR.out.below (Quiet.drewN w4 n).below) q0.1 (by omega) (by rw [g1]; omega) g2)
      rw [hjj] at this
      exact this
     clear s5 HG hft i0 i1 g1 g2 hjj
     cases hin : tb (makes s f r k ∈ r.2)
     ·have HBK : Hid (brkAt s f r k) := ⟨HKT.out, (fun hh => by rw [tb_true hh] at hin; cases hin), (by rw [HM2.out]; omega)⟩
      rw [hin] at t0
      go_wp2_with fail
      go_quiet (exact cC _)
      clear cC
      generalize hW5 : w4.drewN _ = w5
      have hb5 : Below w4.heap.size w4 w5 := hW5 ▸ (Quiet.drewN w4 _).below
      have hbw5 : Below w.heap.size w w5 := bthen hbw4 hb5
      have hz5 := hbw5.size
      clear hW5
      go_wp2_with fail
      go_loopw [18, 17] (fun i q wr => ∃ (i' : Nat) (ys : List (List Int)), i' ≤ j ∧ i = .int .i64 i' ∧ ys.length = i' ∧ Bl intsT 42 w5.heap.size wr.heap.size wr q ys ∧ Below w5.heap.size w5 wr) (fun i _ _ => j - (intOf i).toNat)
      case atStart => exact ⟨0, [], Nat.zero_le _, rfl, rfl, by simpa using Bl.lit0 (E := intsT) (e := 42) (w := w5) (Nat.le_refl _), bA⟩
      case round =>
       obtain ⟨i', ys, hi', rfl, hyl, hBl, hb6⟩ := hrel
       have HBy := Lib.hid hBl
       have HYL := Lib.hid hyl
       clear hBl hyl
       have hbw6 : Below wl.heap.size wl wr := bthen (bthen hb4 hb5) hb6
       have hz6 := hb6.size
       by_cases hil : i' < j
       ·have hv1 : i' < vs.length := by rw [HVL.out]; exact hil
        have hp1 : i' < (picks r.2 j k).length := by rw [picks_len]; exact hil
        have hrd := HPK.out.2 i' hv1 hp1
        obtain ⟨cs1, ⟨fp1, rfl, -, -⟩, hc1⟩ := HLC.out i' hv1
        have hc1' : wl.cell? ⟨lb, lo + i', none⟩ = some vs[i'] := by simpa [Ty.val] using hc1 0 (by simp)
        obtain ⟨xa, xn, xc, hxv⟩ := rd_sl hrd
        rw [hxv] at hrd hc1'
        have HRD := Lib.hid hrd
        have e0 := (hbw6.cell hlb).trans hc1'
        have hlen1 : ((picks r.2 j k)[i']).length ≤ 1000000 := by
         have := (HTO.out.2 _ (List.getElem_mem hp1)).1
         omega
        have hyj : ys.length ≤ 1000000000 := by rw [HYL.out]; omega
        have hbo : Below w.heap.size w wr := bthen hbw5 hb6
        clear hc1 hc1' hxv hrd
        go_wp2_with fail
        refine (l00Own_any _ (HRD.out.below hbo) hlen1).mono ?_
        rintro e w7 ⟨u7, rfl, hB7, hb7⟩
        have hf7 := hB7.fr (by unfold capMax; omega)
        obtain ⟨ya, yn, yc, rfl⟩ := ex_slice hf7
        have HF7 := Lib.hid hf7
        have hz7 := hb7.size
        clear hB7 hf7
        go_wp2_with (refine wpList_push (E := intsT) _ rfl _ _ 23 42 rfl elInt64SS rfl (HBy.out.below (hb7.alloc hb7.size _) (Nat.le_refl _)) rfl news1 (HF7.out.below bA) hyj (by decide) hb6.size (by simp; omega) ?_; intro v8 w8 hB8 hg8 _)
        have hbel8 : Below w5.heap.size w5 w8 := ((hb6.trans (hb7.mono hb6.size)).alloc (by omega) _).grown hg8 (by simp; omega) (fun k hk => HBy.out.own hk)
        have HB8 := Lib.hid hB8
        clear hB8
        go_wp2_with fail
        go_roundw
        case rel => exact ⟨i' + 1, _, by omega, by go_num, by rw [List.length_append, HYL.out]; rfl, HB8.out, hbel8⟩
        case measure => simp [intOf]; omega
       ·have hbo : Below w.heap.size w wr := bthen hbw5 hb6
        go_wp2_with fail
        go_ret3
        exact ⟨.inr ⟨k, _, _, HBK.out, rfl, HTR.out.below (bthen hb5 hb6)⟩, hbo⟩
     ·have HKN := Lib.hid (keptTo_succ HKT.out (tb_iff.1 hin))
      rw [hin] at t0
      go_wp2_with fail
      go_quiet (exact cC _)
      clear cC
      go_wp2_with fail
      go_roundw
      case rel => exact ⟨k + 1, by omega, by go_num, HKN.out, HSK.out.below (hb2.trans ((hb3.mono hz2).trans ((hb4.mono (by omega)).trans ((Quiet.drewN w4 _).below.mono (by have := hb4.size; omega))))) (Nat.le_refl _), bthen hbw4 (Quiet.drewN w4 _).below⟩
      case measure => simp [intOf]; omega
  ·obtain rfl : k = M := by omega
   have hz0 := hbel.size
   have HE : Hid (keepsP s f r) := keepsP_of HM2.out HKT.out
   go_wp2_with fail
   go_ret3
   exact ⟨.inl ⟨HE.out, _, _, rfl⟩, (by repeat (first | exact Below.refl _ _ | exact bA | assumption | refine Below.setCell ?_ (by first | omega | (simp; try omega)) _ | refine Below.alloc ?_ (by first | omega | (simp; try omega)) _ | refine Below.drew ?_ | refine bDN ?_ | refine bthen ?_ (by assumption)))⟩
end Go.Proofs.YtggelmbnliajeaaGreatDoor
namespace Go.Proofs.YtggelmbnliajeaaGreatDoor
open Go.RowKit Go.Sort
/-- what BreakingTuples hands back, the program's -/
def BtR (s : Int) (f : Int × List Int) (r : Int × List (List Int)) (e : Ending) (w' : World) : Prop :=
 (keepsP s f r ∧ e = .returned (.tuple #[.slice none 0 0, .slice none 0 0, .int .i64 6])) ∨
 ∃ (ar k : Nat) (la ma : Option Addr) (lc mc : Nat), f.1 = (ar : Int) ∧ brkAt s f r k ∧ e = .returned (.tuple #[.slice la (picks r.2 ar k).length lc, .slice ma (makes s f r k).length mc, .int .i64 0]) ∧ rowsT.Rd w' [.slice la (picks r.2 ar k).length lc] (picks r.2 ar k) ∧ intsT.Rd w' [.slice ma (makes s f r k).length mc] (makes s f r k)
/-- the reference's -/
def BtS (s : Int) (f : Int × List Int) (r : Int × List (List Int)) (e : Ending) (w' : World) : Prop :=
 (keepsP s f r ∧ ∃ b : Nat, e = .returned (.tuple #[.slice (some ⟨b, 0, none⟩) 0 0, .slice (some ⟨b + 1, 0, none⟩) 0 0, .int .i64 6])) ∨
 ∃ (k : Nat) (lv : Value) (ma : Option Addr) (mc : Nat), brkAt s f r k ∧ e = .returned (.tuple #[lv, .slice ma (makes s f r k).length mc, .int .i64 0]) ∧ intsT.Rd w' [.slice ma (makes s f r k).length mc] (makes s f r k)
theorem picks_in {s : Int} {r : Int × List (List Int)} {ar k : Nat} (hr : relOk s r) : ∀ y ∈ picks r.2 ar k, y.length ≤ 1000000 := fun y hy => by
 obtain ⟨z, hz, rfl⟩ := List.mem_map.1 hy
 rw [List.getD_eq_getElem?_getD]
 by_cases h : z.toNat < r.2.length
 ·rw [List.getElem?_eq_getElem h]
  have := (hr.2.2 _ h).1.1
  have := hr.2.1.2
  simp only [Option.getD_some]
  omega
 ·rw [List.getElem?_eq_none (by omega)]
  simp
set_option maxHeartbeats 1600000 in
theorem BreakingTuples_any (w : World) {cs cs' : Array Value} {f : Int × List Int} {r : Int × List (List Int)} (hf : opT.Rd w cs.toList f) (h : relT.Rd w cs'.toList r) {s : Int} (hr : relOk s r) (ho : opOk s f) :
  Calls Tryz.prog 23 #[.int .i64 s, .agg cs, .agg cs'] w fun e w' => BtR s f r e w' ∧ Below w.heap.size w w' := by
 have hvo : tb (opOk s f) = true := tb_true ho
 have hvr : tb (relOk s r) = true := tb_true hr
 obtain ⟨u2, hv2, hI, hx⟩ := pair_ex hf
 obtain rfl := agg_of hv2
 obtain ⟨u3, hv3, hI3, hx3⟩ := pair_ex h
 obtain rfl := agg_of hv3
 have hf3 : f.1 ≤ 3 := ho.2.1.2
 have HF := Lib.hid hf
 have H := Lib.hid h
 have HR := Lib.hid hr
 have HO := Lib.hid ho
 have hnil := fun w o m => Lib.run_eql_slice_nil (P := Tryz.prog) w 42 2 o m m 0 0 Tryz.underlying42
 clear h hx hv2 hf hr ho hv3 hx3
 go_enter Tryz.func23, Tryz.ntmps23
 go_wp2_with fail
 generalize hW : World.alloc (World.alloc w _) _ = W
 have hbW : Below w.heap.size w W := hW ▸ bthen bA bA
 have hsW : w.heap.size + 2 ≤ W.heap.size := by rw [← hW]; simp
 have f0 : W.cell? ⟨w.heap.size, 0, none⟩ = some (.int .i64 f.1) := by rw [← hW]; simp [go_sem]
 have f1 : W.cell? ⟨w.heap.size, 1, none⟩ = some u2 := by rw [← hW]; simp [go_sem]
 have g0 : W.cell? ⟨w.heap.size + 1, 0, none⟩ = some (.int .i64 r.1) := by rw [← hW]; simp [go_sem]
 have g1 : W.cell? ⟨w.heap.size + 1, 1, none⟩ = some u3 := by rw [← hW]; simp [go_sem]
 clear hW
 refine (ValidOp_any W (f := f) (HF.out.below hbW) s).mono ?_
 rintro e w1 ⟨rfl, hb1⟩
 rw [hvo]
 have hz1 := hb1.size
 have hbw1 := bthen hbW hb1
 replace f0 := (cellB hb1 (by omega)).trans f0
 replace f1 := (cellB hb1 (by omega)).trans f1
 replace g0 := (cellB hb1 (by omega)).trans g0
 replace g1 := (cellB hb1 (by omega)).trans g1
 clear hvo
 go_wp2_with fail
 refine (ValidRel_any w1 (r := r) (H.out.below hbw1) s).mono ?_
 rintro e w2 ⟨rfl, hb2⟩
 rw [hvr]
 have hz2 := hb2.size
 have hbw2 := bthen hbw1 hb2
 replace f0 := (cellB hb2 (by omega)).trans f0
 replace f1 := (cellB hb2 (by omega)).trans f1
 replace g0 := (cellB hb2 (by omega)).trans g0
 replace g1 := (cellB hb2 (by omega)).trans g1
 clear hvr
 go_wp2_with fail
 refine (broken2_any w2 (f := f) (r := r) (HF.out.below hbw2) (H.out.below hbw2) HR.out HO.out).mono ?_
 rintro e w3 ⟨hres, hb3⟩
 have hbw3 := bthen hbw2 hb3
 rcases hres with ⟨hk, a, rfl⟩ | ⟨ar, k, lv, g, m, har, hbk, rfl, hl, hm⟩
 ·have HK := Lib.hid hk
  clear hk
  go_wp2_with fail
  go_ret3
  exact ⟨.inl ⟨HK.out, rfl⟩, hbw3⟩
 ·obtain ⟨la, lc, rfl⟩ := rd_slice hl
  obtain ⟨ma, mc, hmv⟩ := rd_slice hm.rd
  simp only [Value.slice.injEq] at hmv
  obtain ⟨hm1, hm2, -⟩ := hmv
  have HM2 := Lib.hid hm2
  clear hm1 hm2
  have HBK := Lib.hid hbk
  have HL := Lib.hid hl
  have HM := Lib.hid hm.rd
  have HAR := Lib.hid har
  have har3 : ar ≤ 3 := by omega
  clear hbk hl hm har
  go_wp2_with fail
  refine (ownLists_any w3 HL.out (by rw [picks_len]; omega) (picks_in HR.out)).mono ?_
  rintro e w4 ⟨u, rfl, hfr, hb4⟩
  obtain ⟨ua, uc, rfl⟩ := fr_slice hfr
  have HU := Lib.hid hfr.rd
  have hbw4 := bthen hbw3 hb4
  clear hfr
  go_wp2_with fail
  go_ret3
  have hme := HM.out.below hb4
  have hm2 := HM2.out
  subst hm2
  exact ⟨.inr ⟨ar, k, ua, _, uc, _, HAR.out, HBK.out, rfl, HU.out, hme⟩, hbw4⟩
set_option maxHeartbeats 1600000 in
theorem l02Both_any (w : World) {fv rv : Value} {f : Int × List Int} {r : Int × List (List Int)} (hf : opT.Pt w fv f) (h : relT.Pt w rv r) {s : Int} (hr : relOk s r) (ho : opOk s f) :
  Calls Tryz.prog 64 #[.int .i64 s, fv, rv] w fun e w' => e = .returned (.int .i64 0) ∧ Below w.heap.size w w' := by
 have hvo : tb (opOk s f) = true := tb_true ho
 have hvr : tb (relOk s r) = true := tb_true hr
 obtain ⟨fb, fo, -, -, rfl, -⟩ := pt_pair hf
 obtain ⟨rb, ro, -, -, rfl, -⟩ := pt_pair h
 have HF := Lib.hid hf
 have H := Lib.hid h
 clear hf h hr ho
 go_enter Tryz.func64, Tryz.ntmps64
 go_wp2_with fail
 refine (l02Ok_quiet w HF.out s).mono ?_
 rintro e w1 ⟨rfl, hq1⟩
 rw [hvo]
 have hb1 := hq1.below
 clear hvo hq1
 go_wp2_with fail
 refine (l01Ok_quiet w1 (H.out.below hb1) s).mono ?_
 rintro e w2 ⟨rfl, hq2⟩
 rw [hvr]
 have hb2 := bthen hb1 hq2.below
 clear hvr hq2
 go_wp2_with fail
 go_ret
 exact ⟨rfl, hb2⟩
set_option maxHeartbeats 1600000 in
theorem specBreakingTuples_any (w : World) {cs cs' : Array Value} {f : Int × List Int} {r : Int × List (List Int)} (hf : opT.Rd w cs.toList f) (h : relT.Rd w cs'.toList r) {s : Int} (hr : relOk s r) (ho : opOk s f) :
  Calls Tryz.prog 24 #[.int .i64 s, .agg cs, .agg cs'] w fun e w' => BtS s f r e w' ∧ Below w.heap.size w w' := by
 have p0 : opT.Pt ((w.alloc (.cells cs 44)).alloc (.cells cs' 27)) (.pointer (some ⟨w.heap.size, 0, none⟩)) f := (pt_box hf).below bA
 have p1 : relT.Pt ((w.alloc (.cells cs 44)).alloc (.cells cs' 27)) (.pointer (some ⟨w.heap.size + 1, 0, none⟩)) r := by
  simpa using pt_box (T := 27) (h.below (bA (o := .cells cs 44)))
 obtain ⟨u2, hv2, hI, -⟩ := pair_ex hf
 obtain rfl := agg_of hv2
 obtain ⟨u3, hv3, hI3, -⟩ := pair_ex h
 obtain rfl := agg_of hv3
 have HR := Lib.hid hr
 have HO := Lib.hid ho
 clear h hv2 hf hr ho hv3
 go_enter Tryz.func24, Tryz.ntmps24
 go_wp2_with fail
 generalize hW : World.alloc (World.alloc w _) _ = W at p0 p1 ⊢
 have hbW : Below w.heap.size w W := hW ▸ bthen bA bA
 have P0 := Lib.hid p0
 have P1 := Lib.hid p1
 clear hW p0 p1
 refine (l02Both_any W P0.out P1.out HR.out HO.out).mono ?_
 rintro e w1 ⟨rfl, hb1⟩
 have hbw1 := bthen hbW hb1
 go_wp2_with fail
 refine (l02Breaks2_any w1 (P0.out.below hb1) (P1.out.below hb1) HR.out HO.out).mono ?_
 rintro e w2 ⟨hres, hb2⟩
 have hbw2 := bthen hbw1 hb2
 rcases hres with ⟨hk, a, b, rfl⟩ | ⟨k, lv, tv, hbk, rfl, ht⟩
 ·have HK := Lib.hid hk
  clear hk
  go_wp2_with fail
  go_ret3
  exact ⟨.inl ⟨HK.out, _, rfl⟩, (hbw2.alloc hbw2.size _).alloc (by have := hbw2.size; simp; omega) _⟩
 ·obtain ⟨ta, tc, rfl⟩ := rd_slice ht
  have HBK := Lib.hid hbk
  have HT := Lib.hid ht
  clear hbk ht
  go_wp2_with fail
  go_ret3
  exact ⟨.inr ⟨k, lv, ta, tc, HBK.out, rfl, HT.out⟩, hbw2⟩
end Go.Proofs.YtggelmbnliajeaaGreatDoor
namespace Go.Proofs.YtggelmbnliajeaaGreatDoor
open Go.RowKit Go.Sort
end Go.Proofs.YtggelmbnliajeaaGreatDoor
namespace Go.Proofs.YtggelmbnliajeaaGreatDoor
open Go.RowKit Go.Sort
section
variable (t : Int × List (Int × List (List Int))) (f : Int × Int × List (Int × List Int)) (rel : Int) (g : Int × Int × List (Int × List Int))
end
section
variable {t : Int × List (Int × List (List Int))} {f : Int × Int × List (Int × List Int)} {rel : Int} {g : Int × Int × List (Int × List Int)}
end
end Go.Proofs.YtggelmbnliajeaaGreatDoor
namespace Go.Proofs.YtggelmbnliajeaaGreatDoor
open Go.RowKit Go.Sort
theorem clo_keeps {s : Int} {ops : List (Int × List Int)} {ar : Nat} {T M : List (List Int)} (h : ∀ l, l ∈ M ↔ Clo s ops ar T l) {f : Int × List Int} (hf : f ∈ ops) (ho : opOk s f) : keepsP s f ((ar : Int), M) :=
 (keeps_iff ho.2.1.1).2 fun _ hl hts => (h _).2 (.step hf hl fun l hm => (h l).1 (hts l hm))
theorem rel_tup {s : Int} {r : Int × List (List Int)} {ar : Nat} (h : relOk s r) (hr : r.1 = ar) : ∀ l ∈ r.2, tupP s ar l := fun l hl => by
 obtain ⟨i, hi, rfl⟩ := List.mem_iff_getElem.1 hl
 obtain ⟨h1, h2⟩ := (h.2.2 i hi).1
 exact ⟨by omega, h2⟩
theorem P6Pick_any (w : World) {v : Value} {code : List Int} (h : bytesT.Rd w [v] code) {n : Int} (hn : 1 ≤ n ∧ n ≤ 200) :
  Calls Tryz.prog 19 #[v, .int .i64 n] w fun e w' => ∃ x, e = .returned (.int .i64 x) ∧ 0 ≤ x ∧ x ≤ n - 1 ∧ Below w.heap.size w w' := by
 obtain ⟨ad, cap, rfl⟩ := rd_slice h
 have H := Lib.hid h
 clear h
 go_enter Tryz.func19, Tryz.ntmps19
 go_wp2_with fail
 refine (l00From_any w H.out).mono ?_
 rintro e w1 ⟨rfl, hs1, hb1⟩
 have HS := Lib.hid hs1
 clear hs1
 go_wp2_with fail
 refine (pick_any w1 HS.out (by omega) (by omega) hn).mono ?_
 rintro e w2 ⟨x, rfl, hx0, hx1, hs2, ht2⟩
 have hb2 : Below w.heap.size w1 w2 := ht2.below hb1.size (fun k hk e => by omega)
 clear hs2 ht2
 go_wp2_with fail
 go_ret
 exact ⟨x, rfl, hx0, hx1, hb1.trans hb2⟩
set_option maxHeartbeats 1600000 in
set_option maxRecDepth 100000 in
theorem P6Op_any (w : World) {v : Value} {code : List Int} (h : bytesT.Rd w [v] code) {s : Int} {ar : Nat} (hs : 1 ≤ s ∧ s ≤ 4) (har : 1 ≤ ar ∧ ar ≤ 2) :
  Calls Tryz.prog 20 #[v, .int .i64 s, .int .i64 (ar : Int)] w fun e w' => ∃ (cs : List Value) (f : Int × List Int), e = .returned (.agg cs.toArray) ∧ opT.Fr w.heap.size w' cs f ∧ opOk s f ∧ f.1 = ar ∧ Below w.heap.size w w' := by
 obtain ⟨ad, cap, rfl⟩ := rd_slice h
 have H := Lib.hid h
 clear h
 go_enter Tryz.func20, Tryz.ntmps20
 go_wp2_with fail
 generalize hW : World.alloc w _ = W
 have hbW : Below w.heap.size w W := hW ▸ bA
 have hsW : w.heap.size + 1 ≤ W.heap.size := by rw [← hW]; simp
 have r0 : W.cell? ⟨w.heap.size, 0, none⟩ = some (.int .i64 0) := by rw [← hW]; simp [go_sem]
 have r1 : W.cell? ⟨w.heap.size, 1, none⟩ = some (.slice none 0 0) := by rw [← hW]; simp [go_sem]
 have q0 : W.frozen? ⟨w.heap.size, 0, none⟩ = false := by rw [← hW]; simp [go_sem]
 have q1 : W.frozen? ⟨w.heap.size, 1, none⟩ = false := by rw [← hW]; simp [go_sem]
 clear hW
 refine (l00From_any W (H.out.below hbW)).mono ?_
 rintro e w1 ⟨rfl, hs1, hb1⟩
 have HS := Lib.hid hs1
 have hz1 := hs1.lt
 replace r0 := (cellB hb1 (by omega)).trans r0
 replace r1 := (cellB hb1 (by omega)).trans r1
 replace q0 := (frozenB hb1 (by omega)).trans q0
 replace q1 := (frozenB hb1 (by omega)).trans q1
 clear hs1
 go_wp2_with fail
 refine (l02Drawn_any w1 HS.out (by omega) (by omega) hs har).mono ?_
 rintro e w2 ⟨cs, f, rfl, hf, hok, hfa, hs2, ht2⟩
 obtain ⟨fa, fc, rfl⟩ := fr_pair hf
 have hb2 : Below W.heap.size w1 w2 := ht2.below (by omega) (fun k hk e => by omega)
 have HF := Lib.hid hf
 have HOK := Lib.hid hok
 have HFA := Lib.hid hfa
 have hz2 := ht2.size
 replace r0 := (cellB hb2 (show w.heap.size < W.heap.size by omega)).trans r0
 replace r1 := (cellB hb2 (show w.heap.size < W.heap.size by omega)).trans r1
 replace q0 := (frozenB hb2 (show w.heap.size < W.heap.size by omega)).trans q0
 replace q1 := (frozenB hb2 (show w.heap.size < W.heap.size by omega)).trans q1
 have hbw2 : Below w.heap.size w w2 := (bthen hbW hb1).trans (hb2.mono (by omega))
 clear hf hok hfa hs2 ht2
 go_wp2_with fail
 obtain ⟨g0, g1⟩ := set2_cells (x := .int .i64 f.1) (y := .slice fa f.2.length fc) r0 r1
 refine bodyPost_ret (v := .agg #[.int .i64 f.1, .slice fa f.2.length fc]) (by simp [results, Tryz.results20, go_sem, g0, g1]) rfl ⟨[.int .i64 f.1, .slice fa f.2.length fc], f, rfl, ?_, HOK.out, HFA.out, ?_⟩
 ·exact (fr_set2 HF.out (by omega)).mono (by omega)
 ·exact (hbw2.setCell (by simp) _).setCell (by simp) _
end Go.Proofs.YtggelmbnliajeaaGreatDoor
namespace Go.Proofs.YtggelmbnliajeaaGreatDoor
open Go.RowKit Go.Sort
set_option maxHeartbeats 1600000 in
set_option maxRecDepth 100000 in
theorem P6Rel_any (w : World) {v : Value} {code : List Int} (h : bytesT.Rd w [v] code) {s : Int} {ar : Nat} (hs : 1 ≤ s ∧ s ≤ 4) (har : 1 ≤ ar ∧ ar ≤ 2) :
  Calls Tryz.prog 21 #[v, .int .i64 s, .int .i64 (ar : Int)] w fun e w' => ∃ (cs : List Value) (r : Int × List (List Int)), e = .returned (.agg cs.toArray) ∧ relT.Fr w.heap.size w' cs r ∧ relOk s r ∧ r.1 = ar ∧ Below w.heap.size w w' := by
 obtain ⟨ad, cap, rfl⟩ := rd_slice h
 have H := Lib.hid h
 clear h
 go_enter Tryz.func21, Tryz.ntmps21
 go_wp2_with fail
 generalize hW : World.alloc w _ = W
 have hbW : Below w.heap.size w W := hW ▸ bA
 have hsW : w.heap.size + 1 ≤ W.heap.size := by rw [← hW]; simp
 have r0 : W.cell? ⟨w.heap.size, 0, none⟩ = some (.int .i64 0) := by rw [← hW]; simp [go_sem]
 have r1 : W.cell? ⟨w.heap.size, 1, none⟩ = some (.slice none 0 0) := by rw [← hW]; simp [go_sem]
 have q0 : W.frozen? ⟨w.heap.size, 0, none⟩ = false := by rw [← hW]; simp [go_sem]
 have q1 : W.frozen? ⟨w.heap.size, 1, none⟩ = false := by rw [← hW]; simp [go_sem]
 clear hW
 refine (l00From_any W (H.out.below hbW)).mono ?_
 rintro e w1 ⟨rfl, hs1, hb1⟩
 have HS := Lib.hid hs1
 have hz1 := hs1.lt
 replace r0 := (cellB hb1 (by omega)).trans r0
 replace r1 := (cellB hb1 (by omega)).trans r1
 replace q0 := (frozenB hb1 (by omega)).trans q0
 replace q1 := (frozenB hb1 (by omega)).trans q1
 clear hs1
 go_wp2_with fail
 refine (l01Drawn_any w1 HS.out (by omega) (by omega) hs har).mono ?_
 rintro e w2 ⟨cs, f, rfl, hf, hok, hfa, hs2, ht2⟩
 obtain ⟨fa, fc, rfl⟩ := fr_pair hf
 have hb2 : Below W.heap.size w1 w2 := ht2.below (by omega) (fun k hk e => by omega)
 have HF := Lib.hid hf
 have HOK := Lib.hid hok
 have HFA := Lib.hid hfa
 have hz2 := ht2.size
 replace r0 := (cellB hb2 (show w.heap.size < W.heap.size by omega)).trans r0
 replace r1 := (cellB hb2 (show w.heap.size < W.heap.size by omega)).trans r1
 replace q0 := (frozenB hb2 (show w.heap.size < W.heap.size by omega)).trans q0
 replace q1 := (frozenB hb2 (show w.heap.size < W.heap.size by omega)).trans q1
 have hbw2 : Below w.heap.size w w2 := (bthen hbW hb1).trans (hb2.mono (by omega))
 clear hf hok hfa hs2 ht2
 go_wp2_with fail
 obtain ⟨g0, g1⟩ := set2_cells (x := .int .i64 f.1) (y := .slice fa f.2.length fc) r0 r1
 refine bodyPost_ret (v := .agg #[.int .i64 f.1, .slice fa f.2.length fc]) (by simp [results, Tryz.results21, go_sem, g0, g1]) rfl ⟨[.int .i64 f.1, .slice fa f.2.length fc], f, rfl, ?_, HOK.out, HFA.out, ?_⟩
 ·exact (fr_set2 HF.out (by omega)).mono (by omega)
 ·exact (hbw2.setCell (by simp) _).setCell (by simp) _
theorem SameNumbers_any (w : World) {v u : Value} {xs ys : List Int} (h : intsT.Rd w [v] xs) (h' : intsT.Rd w [u] ys) : Calls Tryz.prog 27 #[v, u] w fun e w' => e = .returned (.bool (eqB xs ys)) ∧ Below w.heap.size w w' := by
 have H := Lib.hid h
 have H' := Lib.hid h'
 obtain ⟨a, c, rfl⟩ := rd_slice h
 obtain ⟨a', c', rfl⟩ := rd_slice h'
 clear h h'
 go_enter Tryz.func27, Tryz.ntmps27
 go_wp2_with fail
 refine (l00Same_quiet w H.out H'.out).mono ?_
 rintro e w1 ⟨rfl, hq⟩
 have hb := hq.below
 clear hq
 go_wp2_with fail
 go_ret
 exact ⟨rfl, hb⟩
set_option maxHeartbeats 800000 in
theorem SameOps_quiet (w : World) {v v' : Value} {x y : List (Int × List Int)} (hx : opsT.Rd w [v] x) (hx' : opsT.Rd w [v'] y) :
  Calls Tryz.prog 34 #[v, v'] w fun e w' => e = .returned (.bool (eqB x y)) ∧ Quiet w w' := by
 obtain ⟨ad, cap, e1, hle, hle2, hcell⟩ := pairs_ex hx
 obtain ⟨ad', cap', e2, hle', hle2', hcell'⟩ := pairs_ex hx'
 obtain rfl : v = _ := by simpa using e1
 obtain rfl : v' = _ := by simpa using e2
 clear e1 e2
 cases hl : (((x.length : Nat) : Int) != (y.length : Nat))
 rotate_left
 ·go_enter Tryz.func34, Tryz.ntmps34
  go_wp2_with fail
  go_ret
  exact ⟨ret_bool (eqB_len (by simp at hl; omega)).symm, (by first | exact Quiet.refl _ | exact Quiet.drewN _ _ | exact (Quiet.drewN _ _).then (Quiet.drewN _ _) | exact ((Quiet.drewN _ _).then (Quiet.drewN _ _)).then (Quiet.drewN _ _))⟩
 have hl' : x.length = y.length := by simp at hl; omega
 have HL := Lib.hid hl'
 clear hl'
 go_enter Tryz.func34, Tryz.ntmps34
 go_wp2_with fail
 go_loopw [5] (fun i wr => ∃ k : Nat, k ≤ x.length ∧ i = .int .i64 k ∧ x.take k = y.take k ∧ Quiet w wr) (fun i _ => x.length - (intOf i).toNat)
 case atStart => exact ⟨0, Nat.zero_le _, rfl, rfl, (by first | exact Quiet.refl _ | exact Quiet.drewN _ _ | exact (Quiet.drewN _ _).then (Quiet.drewN _ _) | exact ((Quiet.drewN _ _).then (Quiet.drewN _ _)).then (Quiet.drewN _ _))⟩
 case round =>
  obtain ⟨k, hk, rfl, ht, hqw⟩ := hrel
  have HT := Lib.hid ht
  clear ht hl
  by_cases hkl : k < x.length
  ·have hkl' : k < y.length := by have := HL.out; omega
   obtain ⟨a, q, rfl, ha, -⟩ := hcell (by omega)
   obtain ⟨a', q', rfl, ha', -⟩ := hcell' (by omega)
   have p1 := (pt_elem hx hkl).below hqw.below
   have p2 := (pt_elem hx' hkl').below hqw.below
   have cQ : ∀ n, Calls Tryz.prog 88 #[.pointer (some ⟨a, q + k * 2, none⟩), .pointer (some ⟨a', q' + k * 2, none⟩)] (wr.drewN n) fun e w'' => e = .returned (.bool (eqB x[k] y[k])) ∧ ∃ m, w'' = wr.drewN m := fun n =>
    quiet_call (l02Same_quiet _ (p1.below (Quiet.drewN wr n).below) (p2.below (Quiet.drewN wr n).below))
   cases hq : eqB x[k] y[k]
   ·rw [hq] at cQ
    go_wp2_with fail
    go_quiet (exact cQ _)
    go_wp2_with fail
    go_ret
    exact ⟨ret_bool (eqB_get hkl hkl' (fun e => by rw [eqB_true e] at hq; cases hq)).symm, hqw.then (by first | exact Quiet.refl _ | exact Quiet.drewN _ _ | exact (Quiet.drewN _ _).then (Quiet.drewN _ _) | exact ((Quiet.drewN _ _).then (Quiet.drewN _ _)).then (Quiet.drewN _ _))⟩
   ·rw [hq] at cQ
    go_wp2_with fail
    go_quiet (exact cQ _)
    go_wp2_with fail
    go_roundw
    case rel => exact ⟨k + 1, by omega, by go_num, take_eq_succ hkl hkl' HT.out (eqB_iff.1 hq), hqw.then (by first | exact Quiet.refl _ | exact Quiet.drewN _ _ | exact (Quiet.drewN _ _).then (Quiet.drewN _ _) | exact ((Quiet.drewN _ _).then (Quiet.drewN _ _)).then (Quiet.drewN _ _))⟩
    case measure => simp [intOf]; omega
  ·obtain rfl : k = x.length := by omega
   go_wp2_with fail
   go_ret
   exact ⟨ret_bool (eqB_true (by have h1 := HT.out; have h2 := HL.out; rw [List.take_length, h2, List.take_length] at h1; exact h1)).symm, hqw⟩
/-- all tuples, in order -/
def allT (s : Int) (ar N : Nat) : List (List Int) := (List.range N).map fun i : Nat => digL s i ar
theorem allT_len {s : Int} {ar N : Nat} : (allT s ar N).length = N := by simp [allT]
theorem allT_self {s : Int} {ar N : Nat} : relL s ar (fun l => tb (l ∈ allT s ar N)) N = allT s ar N := List.filter_eq_self.2 fun _ hl => tb_true hl
theorem idx_dig {s : Int} {ar k : Nat} (hs : 1 ≤ s) (h : (k : Int) < s ^ ar) : idxL s 0 (digL s k ar) = (k : Int) := by
 have h1 := dig_idx (s := s) (idx := (k : Int)) (n := ar) hs (by omega) h ar (Nat.le_refl _)
 rw [List.take_of_length_le (by rw [digL_len]; exact Nat.le_refl _), Nat.sub_self] at h1
 simpa using h1
theorem allT_in {s : Int} {ar N : Nat} (hs : 1 ≤ s) : ∀ l ∈ allT s ar N, l.length = ar ∧ ∀ a ∈ l, 0 ≤ a ∧ a ≤ s - 1 := fun l hl => by
 obtain ⟨i, -, rfl⟩ := List.mem_map.1 hl
 exact ⟨digL_len, digL_in hs⟩
theorem allT_ok {s : Int} {ar N : Nat} (hs : sizeOk s) (har : 1 ≤ ar ∧ ar ≤ 4) (hN : s ^ ar = N) : relOk s ((ar : Int), allT s ar N) := by
 rw [← allT_self]
 exact relL_ok hs har hN
set_option maxHeartbeats 1600000 in
set_option maxRecDepth 100000 in
theorem l01Full_any (w : World) {s : Int} {ar N : Nat} (hs : 1 ≤ s ∧ s ≤ 4) (har : 1 ≤ ar ∧ ar ≤ 2) (hN : s ^ ar = (N : Int)) :
  Calls Tryz.prog 77 #[.int .i64 s, .int .i64 (ar : Int)] w (RetA relT w ((ar : Int), allT s ar N)) := by
 have hNb : N ≤ 16 := by
  have h1 := pow_mono' (s := s) (c := 4) (by omega) (by omega) ar
  rcases (show ar = 1 ∨ ar = 2 by omega) with e | e <;> subst e <;> simp at h1 <;> omega
 have HN := Lib.hid hN
 clear hN
 go_enter Tryz.func77, Tryz.ntmps77
 go_wp2_with fail
 generalize hW : World.alloc w _ = W
 have hbW : Below w.heap.size w W := hW ▸ bA
 have hsW : w.heap.size + 1 ≤ W.heap.size := by rw [← hW]; simp
 have r0 : W.cell? ⟨w.heap.size, 0, none⟩ = some (.int .i64 0) := by rw [← hW]; simp [go_sem]
 have r1 : W.cell? ⟨w.heap.size, 1, none⟩ = some (.slice none 0 0) := by rw [← hW]; simp [go_sem]
 have q0 : W.frozen? ⟨w.heap.size, 0, none⟩ = false := by rw [← hW]; simp [go_sem]
 have q1 : W.frozen? ⟨w.heap.size, 1, none⟩ = false := by rw [← hW]; simp [go_sem]
 clear hW
 refine (l01Empty3_any W s ar (by omega) (by omega) (by omega) N HN.out (by omega)).mono ?_
 rintro e w1 ⟨bx, g, rfl, hset, hb1⟩
 have HS1 := Lib.hid hset
 clear hset
 go_wp2_with fail
 go_loopw [6] (fun i wr => ∃ k : Nat, k ≤ N ∧ i = .int .i64 k ∧ Set3 wr W.heap.size bx g s ar N ((allT s ar N).take k) ∧ Below W.heap.size W wr) (fun i _ => N - (intOf i).toNat)
 case atStart => exact ⟨0, Nat.zero_le _, rfl, by rw [List.take_zero]; exact HS1.out, hb1⟩
 case round =>
  obtain ⟨k, hk, rfl, hset, hbel⟩ := hrel
  obtain ⟨wv, rfl⟩ : ∃ wv : World, wv = wr := ⟨_, rfl⟩
  obtain ⟨⟨s1, s2, s3, s4, s5⟩, s6, s7⟩ := id hset
  have HS := Lib.hid hset
  have hze := hbel.size
  clear hset HS1
  by_cases hkl : k < N
  ·have e0 := s5.cell (j := k) (by rw [seenL_len]; exact hkl)
   have e1 := s5.free k
   have hgs := s5.lt
   have hgl := s5.2.1
   have hka : k < (allT s ar N).length := by rw [allT_len]; exact hkl
   have hpk : (k : Int) < s ^ ar := by rw [HN.out]; omega
   have HST := Lib.hid (seenL_set (s := s) (N := N) hka (j := k) (by simp only [allT, List.getElem_map, List.getElem_range]; exact idx_dig hs.1 hpk) hkl)
   have HBS := Lib.hid (s5.set k true)
   have S6 := Lib.hid s6
   have S7 := Lib.hid s7
   clear s5 s6 s7 hka hpk
   go_wp2_with fail
   go_roundw
   case rel => exact ⟨k + 1, by omega, by go_num, ⟨⟨s1, by simpa [World.setCell] using s2, s3, (World.cell?_setCell_other _ _ _ _ (by first | (simp; done) | (simp; omega))).trans s4, by rw [← HST.out]; exact HBS.out⟩, (World.cell?_setCell_other _ _ _ _ (by first | (simp; done) | (simp; omega))).trans S6.out, (World.cell?_setCell_other _ _ _ _ (by first | (simp; done) | (simp; omega))).trans S7.out⟩, hbel.setCell (by first | (simp; done) | (simp; omega)) _⟩
   case measure => simp [intOf]; omega
  ·obtain rfl : k = N := by omega
   rw [List.take_of_length_le (by rw [allT_len]; exact Nat.le_refl _)] at HS
   clear s1 s2 s3 s5 s6 s7
   go_wp2_with fail
   refine (rel_any wv HS.out hs (by omega) HN.out (by omega) (allT_in hs.1)).mono ?_
   rintro e w2 ⟨cs, rfl, hf, hb2⟩
   rw [allT_self] at hf
   obtain ⟨fa, fc, rfl⟩ := fr_pair hf
   have HF := Lib.hid hf
   have hB2 := bthen hbel hb2
   replace r0 := (cellB hB2 (show w.heap.size < W.heap.size by omega)).trans r0
   replace r1 := (cellB hB2 (show w.heap.size < W.heap.size by omega)).trans r1
   replace q0 := (frozenB hB2 (show w.heap.size < W.heap.size by omega)).trans q0
   replace q1 := (frozenB hB2 (show w.heap.size < W.heap.size by omega)).trans q1
   have hbw2 : Below w.heap.size w w2 := bthen hbW hB2
   clear hf
   go_wp2_with fail
   obtain ⟨g0, g1⟩ := set2_cells (x := .int .i64 (ar : Int)) (y := .slice fa (allT s ar k).length fc) r0 r1
   refine bodyPost_ret (v := .agg #[.int .i64 (ar : Int), .slice fa (allT s ar k).length fc]) (by simp [results, Tryz.results77, go_sem, g0, g1]) rfl ⟨[.int .i64 (ar : Int), .slice fa (allT s ar k).length fc], rfl, ?_, ?_⟩
   ·exact (fr_set2 HF.out (by omega)).mono (by omega)
   ·exact (hbw2.setCell (by simp) _).setCell (by simp) _
set_option maxHeartbeats 1600000 in
set_option maxRecDepth 100000 in
theorem FullRel_any (w : World) {s : Int} {ar N : Nat} (hs : 1 ≤ s ∧ s ≤ 4) (har : 1 ≤ ar ∧ ar ≤ 2) (hN : s ^ ar = (N : Int)) :
  Calls Tryz.prog 31 #[.int .i64 s, .int .i64 (ar : Int)] w (RetAC relT w ((ar : Int), allT s ar N) 0) := by
 have h1 : inB s 1 4 = true := inB_true.2 hs
 have h2 : inB (ar : Int) 1 4 = true := inB_true.2 ⟨by omega, by omega⟩
 have HN := Lib.hid hN
 clear hN
 go_enter Tryz.func31, Tryz.ntmps31
 go_wp2_with fail
 generalize hW : World.alloc w _ = W
 have hbW : Below w.heap.size w W := hW ▸ bA
 have hsW : w.heap.size + 1 ≤ W.heap.size := by rw [← hW]; simp
 have r0 : W.cell? ⟨w.heap.size, 0, none⟩ = some (.int .i64 0) := by rw [← hW]; simp [go_sem]
 have r1 : W.cell? ⟨w.heap.size, 1, none⟩ = some (.slice none 0 0) := by rw [← hW]; simp [go_sem]
 have q0 : W.frozen? ⟨w.heap.size, 0, none⟩ = false := by rw [← hW]; simp [go_sem]
 have q1 : W.frozen? ⟨w.heap.size, 1, none⟩ = false := by rw [← hW]; simp [go_sem]
 clear hW
 refine (l01Size_any s W).mono ?_
 rintro e _ ⟨rfl, rfl⟩
 rw [h1]
 clear h1
 go_wp2_with fail
 refine (l01Arity_any (ar : Int) W).mono ?_
 rintro e _ ⟨rfl, rfl⟩
 rw [h2]
 clear h2
 go_wp2_with fail
 refine (l01Full_any W hs har HN.out).mono ?_
 rintro e w2 ⟨cs, rfl, hf, hb2⟩
 obtain ⟨fa, fc, rfl⟩ := fr_pair hf
 have HF := Lib.hid hf
 have hz2 := hb2.size
 replace r0 := (cellB hb2 (by omega)).trans r0
 replace r1 := (cellB hb2 (by omega)).trans r1
 replace q0 := (frozenB hb2 (by omega)).trans q0
 replace q1 := (frozenB hb2 (by omega)).trans q1
 have hbw2 : Below w.heap.size w w2 := bthen hbW hb2
 clear hf
 go_wp2_with fail
 obtain ⟨g0, g1⟩ := set2_cells (x := .int .i64 (ar : Int)) (y := .slice fa (allT s ar N).length fc) r0 r1
 refine bodyPost_ret (v := .tuple #[.agg #[.int .i64 (ar : Int), .slice fa (allT s ar N).length fc], .int .i64 0]) (by simp [results, Tryz.results31, go_sem, g0, g1]) rfl ⟨[.int .i64 (ar : Int), .slice fa (allT s ar N).length fc], rfl, ?_, ?_⟩
 ·exact (fr_set2 HF.out (by omega)).mono (by omega)
 ·exact (hbw2.setCell (by simp) _).setCell (by simp) _
set_option maxHeartbeats 1600000 in
theorem KeepsAll_any (w : World) {cs cs' : Array Value} {t : Int × List (Int × List (List Int))} {f : Int × List Int} (h : tplT.Rd w cs.toList t) (h' : opT.Rd w cs'.toList f) (hT : tplOk t) (hF : opOk t.1 f) :
  Calls Tryz.prog 29 #[.agg cs, .agg cs'] w fun e w' => e = .returned (.tuple #[.int .i64 (brokenI t f), .int .i64 0]) ∧ Below w.heap.size w w' := by
 have hvo : tb (opOk t.1 f) = true := tb_true hF
 have hvt : tb (tplOk t) = true := tb_true hT
 have HT0 := Lib.hid h
 have HF0 := Lib.hid h'
 have HT := Lib.hid hT
 have HF := Lib.hid hF
 obtain ⟨v1, hv, hI, -⟩ := pair_ex h
 obtain rfl := agg_of hv
 obtain ⟨v2, hv', hI', -⟩ := pair_ex h'
 obtain rfl := agg_of hv'
 clear h hv h' hv' hT hF
 go_enter Tryz.func29, Tryz.ntmps29
 go_wp2_with fail
 generalize hW : (w.alloc _).alloc _ = W
 have hbW : Below w.heap.size w W := hW ▸ bAA
 have hsW : w.heap.size + 2 ≤ W.heap.size := by rw [← hW]; simp
 have x0 : W.cell? ⟨w.heap.size, 0, none⟩ = some (.int .i64 t.1) := by rw [← hW]; simp
 have x1 : W.cell? ⟨w.heap.size, 1, none⟩ = some v1 := by rw [← hW]; simp
 have y0 : W.cell? ⟨w.heap.size + 1, 0, none⟩ = some (.int .i64 f.1) := by rw [← hW]; simp
 have y1 : W.cell? ⟨w.heap.size + 1, 1, none⟩ = some v2 := by rw [← hW]; simp
 clear hW
 refine (ValidTemplate_any _ (HT0.out.below hbW)).mono ?_
 rintro e w1 ⟨rfl, hb1⟩
 rw [hvt]
 have hB1 := bthen hbW hb1
 have hz1 := hb1.size
 replace x0 := (cellB hb1 (by omega)).trans x0
 replace x1 := (cellB hb1 (by omega)).trans x1
 replace y0 := (cellB hb1 (by omega)).trans y0
 replace y1 := (cellB hb1 (by omega)).trans y1
 clear hvt
 go_wp2_with fail
 refine (ValidOp_any _ (HF0.out.below hB1) t.1).mono ?_
 rintro e w2 ⟨rfl, hb2⟩
 rw [hvo]
 have hB2 := bthen hB1 hb2
 have hz2 := hb2.size
 replace x0 := (cellB hb2 (by omega)).trans x0
 replace x1 := (cellB hb2 (by omega)).trans x1
 replace y0 := (cellB hb2 (by omega)).trans y0
 replace y1 := (cellB hb2 (by omega)).trans y1
 clear hvo
 go_wp2_with fail
 refine (firstBroken_any _ (HT0.out.below hB2) (HF0.out.below hB2) HT.out HF.out).mono ?_
 rintro e w3 ⟨rfl, hb3⟩
 go_wp2_with fail
 go_ret2
 exact ⟨rfl, bthen hB2 hb3⟩
end Go.Proofs.YtggelmbnliajeaaGreatDoor
namespace Go.Proofs.YtggelmbnliajeaaGreatDoor
open Go.RowKit Go.Sort
section
variable {s : Int} {r D : Int × List (List Int)} {ops : List (Int × List Int)} {f g : Int × List Int} {ar : Nat}
theorem tupsB_of (hr : relOk s r) : tupsB s r.1 r.2 = true := tb_true ⟨hr.2.1, fun l hl => by
 obtain ⟨i, hi, rfl⟩ := List.mem_iff_getElem.1 hl
 exact (hr.2.2 i hi).1⟩
theorem co_zero (hr : relOk s r) (ho : ∀ g ∈ ops, opOk s g) (hl : ops.length ≤ 64) : coC s r.1 ops r.2 = 0 :=
 coC_ok (tb_true ⟨hr.1, ho⟩) (by simp; omega) (tupsB_of hr)
/-- what is known of the closure -/
theorem co_is (hr : relOk s r) (ho : ∀ g ∈ ops, opOk s g) (hl : ops.length ≤ 64) (har : r.1 = (ar : Int)) :
  relOk s (coV s r.1 ops r.2) ∧ (coV s r.1 ops r.2).1 = r.1 ∧ (∀ l, l ∈ (coV s r.1 ops r.2).2 ↔ Clo s ops ar r.2 l) ∧ (∀ f ∈ ops, keepsP s f (coV s r.1 ops r.2)) ∧ ∀ l ∈ r.2, l ∈ (coV s r.1 ops r.2).2 := by
 have hs := hr.1
 have hs1 := hs.1
 have ha : 1 ≤ ar ∧ ar ≤ 4 := by have := hr.2.1; unfold sizeOk at this; omega
 have hN : s ^ ar = ((s ^ ar).toNat : Int) := by have := pow_nn (s := s) (by omega) ar; omega
 have ht := rel_tup hr har
 rw [coV_ok (co_zero hr ho hl), har, Int.toNat_natCast]
 have hk := relL_ok (p := fun l => tb (Clo s ops ar r.2 l)) hs ha hN
 have hm : ∀ l, l ∈ cloL s ar ops r.2 ↔ Clo s ops ar r.2 l := fun a => by
  constructor
  ·intro h
   exact tb_iff.1 ((relL_iff hs1 hN (relL_tup hs1 h)).1 h)
  ·intro h
   exact (relL_iff hs1 hN (clo_in ho ht h)).2 (tb_true h)
 exact ⟨hk, rfl, hm, fun f hf => clo_keeps hm hf (ho f hf), fun l hl => (hm l).2 (.base hl)⟩
/-- closing a relation adds nothing just if the operation keeps it -/
theorem own_eq (hr : relOk s r) (hf : opOk s f) (har : r.1 = (ar : Int)) : eqB (coV s r.1 [f] r.2) r = tb (keepsP s f r) := by
 have ho : ∀ g ∈ [f], opOk s g := fun g hg => by rw [List.mem_singleton.1 hg]; exact hf
 obtain ⟨h1, h2, h3, h4, h5⟩ := co_is hr ho (by simp) har
 rw [Bool.eq_iff_iff, eqB_iff, tb_iff]
 constructor
 ·intro e
  have := h4 f (List.mem_singleton.2 rfl)
  rwa [e] at this
 ·intro hk
  obtain ⟨n, R⟩ := r
  obtain rfl : n = (ar : Int) := har
  have ha : 1 ≤ ar ∧ ar ≤ 4 := by have := hr.2.1; unfold sizeOk at this; omega
  rw [coV_ok (co_zero hr ho (by simp)), Int.toNat_natCast]
  congr 1
  refine (cloL_eq hr.1 ha ho (rel_tup hr rfl) (sortedL_pw (relOk_sorted hr)) fun l => clo_closed ho (fun l hl => hl) (fun l hl => .base hl) (fun g hg => ?_)).symm
  rw [List.mem_singleton.1 hg]
  exact hk
theorem brk_one (h : keepsP s f D) : brokenI (s, [D]) f = -1 := by
 refine firstI_none fun x hx => ?_
 rw [List.mem_singleton.1 hx]
 simp [tb_true h]
theorem brk_two (h : keepsP s f D) : brokenI (s, [D, r]) f = match tb (keepsP s f r) with | true => -1 | false => 1 := by
 cases hk : tb (keepsP s f r)
 ·refine firstI_at (k := 1) (by simp) (fun x hx => ?_) ?_
  ·rw [List.mem_singleton.1 (by simpa using hx : x ∈ [D])]
   simp [tb_true h]
  ·show (!tb (keepsP s f r)) = true
   rw [hk]; rfl
 ·refine firstI_none fun x hx => ?_
  rcases List.mem_cons.1 hx with rfl | hx
  ·simp [tb_true h]
  ·rw [List.mem_singleton.1 hx]
   show (!tb (keepsP s f r)) = false
   rw [hk]; rfl
theorem full_keeps {N : Nat} (hs : sizeOk s) (ha : 1 ≤ ar ∧ ar ≤ 4) (hN : s ^ ar = (N : Int)) (hf : opOk s f) : keepsP s f ((ar : Int), allT s ar N) :=
 keeps_full (allT_ok hs ha hN) hf (by show ((allT s ar N).length : Int) = s ^ ((ar : Int)).toNat; rw [allT_len, Int.toNat_natCast, hN])
/-- a composition of tables -/
theorem comp_made {N : Nat} {ts : List (List Int)} (hs : 1 ≤ s) (hN : s ^ ar = (N : Int)) : madeL s f.2 ts N = compT s ar N f.2 (ts.map fun t => ((ar : Int), t)) := by
 unfold madeL compT tabOf
 refine List.map_congr_left fun k hk => ?_
 have hk' : k < N := by simpa using hk
 rw [madeV_op]
 congr 1
 unfold colL
 rw [List.map_map]
 refine List.map_congr_left fun t _ => ?_
 show t.getD k 0 = opV s t (digL s k ar)
 unfold opV
 rw [idx_dig hs (by rw [hN]; omega), Int.toNat_natCast]
theorem tab_ok {N : Nat} {t : List Int} (hs : sizeOk s) (ha : 1 ≤ ar ∧ ar ≤ 3) (hN : s ^ ar = (N : Int)) (h : tupP s N t) : opOk s ((ar : Int), t) :=
 ⟨hs, ⟨by show (1 : Int) ≤ ar; omega, by show (ar : Int) ≤ 3; omega⟩, ⟨by show ((t.length : Nat) : Int) = s ^ ((ar : Int)).toNat; rw [h.1, Int.toNat_natCast, hN], h.2⟩⟩
theorem clone_keeps {N : Nat} (hD : relOk s D) (ho : ∀ g ∈ ops, opOk s g ∧ keepsP s g D) (ha : 1 ≤ ar ∧ ar ≤ 3) (hN : s ^ ar = (N : Int)) {t : List Int} (h : Clo s ops N (projs s ar N) t) : opOk s ((ar : Int), t) ∧ keepsP s ((ar : Int), t) D := by
 have hs := hD.1
 induction h with
 | base h =>
  refine ⟨tab_ok hs ha hN (projs_in hs.1 _ h), ?_⟩
  obtain ⟨p, hp, rfl⟩ := List.mem_map.1 h
  exact keeps_proj hD hN ha (by simpa using hp)
 | @step f ts hf hl h ih =>
  refine ⟨tab_ok hs ha hN (clo_in (fun f hf => (ho f hf).1) (projs_in hs.1) (.step hf hl h)), ?_⟩
  rw [comp_made (f := f) hs.1 hN]
  refine keeps_comp hD hN ha (by rw [List.length_map]; exact hl.symm) (ho f hf).2 fun g hg => ?_
  obtain ⟨t, ht, rfl⟩ := List.mem_map.1 hg
  exact ⟨rfl, ih t ht⟩
theorem cloM_in {N : Nat} {T : List (List Int)} {l : List Int} (h : l ∈ cloM s ops N T) : Clo s ops N T l := by
 unfold cloM at h
 by_cases hx : ∃ M, cloIs s ops N T M
 ·rw [dif_pos hx] at h
  exact ((Classical.choose_spec hx).2 l).1 h
 ·rw [dif_neg hx] at h
  cases h
theorem cu_keeps (hD : relOk s D) (ho : ∀ g ∈ ops, opOk s g ∧ keepsP s g D) (ha : 1 ≤ ar ∧ ar ≤ 3) : ∀ o ∈ cuV s (ar : Int) ops, opOk s o ∧ keepsP s o D := fun o h => by
 have hs1 := hD.1.1
 have hN : s ^ ar = ((s ^ ar).toNat : Int) := by have := pow_nn (s := s) (by omega) ar; omega
 unfold cuV at h
 cases hc : cuC s (ar : Int) ops == 0
 ·rw [hc] at h; cases h
 ·rw [hc] at h
  obtain ⟨t, ht, rfl⟩ := List.mem_map.1 h
  have := cloM_in ht
  unfold cuT at this
  rw [Int.toNat_natCast] at this
  exact clone_keeps hD ho ha hN this
end
end Go.Proofs.YtggelmbnliajeaaGreatDoor
namespace Go.Proofs.YtggelmbnliajeaaGreatDoor
open Go.RowKit Go.Sort
def cellsOf (ar : Int) (L : List PV) : List Value := L.flatMap fun p => [.int .i64 ar, p.1]
theorem cellsOf_len {ar : Int} : ∀ {L : List PV}, (cellsOf ar L).length = L.length * 2
 | [] => rfl
 | p :: L => by
  have := cellsOf_len (ar := ar) (L := L)
  unfold cellsOf at this ⊢
  rw [List.flatMap_cons, List.length_append, this]
  simp
  omega
theorem cellsOf_app {ar : Int} {L M : List PV} : cellsOf ar (L ++ M) = cellsOf ar L ++ cellsOf ar M := List.flatMap_append
theorem cellsOf_at {ar : Int} : ∀ {L : List PV} {i : Nat} (h : i < L.length), (cellsOf ar L)[i * 2]? = some (.int .i64 ar) ∧ (cellsOf ar L)[i * 2 + 1]? = some (L[i]).1
 | p :: L, 0, _ => ⟨rfl, rfl⟩
 | p :: L, i + 1, h => by
  have := cellsOf_at (ar := ar) (L := L) (i := i) (by simpa using h)
  have e : cellsOf ar (p :: L) = .int .i64 ar :: p.1 :: cellsOf ar L := rfl
  rw [e, show (i + 1) * 2 = i * 2 + 2 by omega]
  exact ⟨this.1, this.2⟩
theorem add_atO {g o j : Nat} : (⟨g, o, none⟩ : Addr).add j = ⟨g, o + j, none⟩ := by
 by_cases h : j = 0
 ·subst h; simp [Addr.add]
 ·simp [Addr.add, h]
theorem cellsOf_src {ar : Int} {w : World} {b o : Nat} {M : List PV} (h : ∀ i (h : i < M.length), w.cell? ⟨b, o + i * 2, none⟩ = some (.int .i64 ar) ∧ w.cell? ⟨b, o + i * 2 + 1, none⟩ = some (M[i]).1) : ∀ (j : Nat) (u : Value), (cellsOf ar M)[j]? = some u → w.cell? ((⟨b, o, none⟩ : Addr).add j) = some u := fun j u hj => by
 obtain ⟨hj', -⟩ := List.getElem?_eq_some_iff.1 hj
 rw [cellsOf_len] at hj'
 have hi : j / 2 < M.length := by omega
 obtain ⟨c0, c1⟩ := cellsOf_at (ar := ar) hi
 obtain ⟨d0, d1⟩ := h (j / 2) hi
 rw [add_atO]
 rcases (show j = j / 2 * 2 ∨ j = j / 2 * 2 + 1 by omega) with e | e
 ·rw [e] at hj ⊢
  rw [c0] at hj
  rw [← Option.some.inj hj]
  exact d0
 ·rw [e] at hj ⊢
  rw [c1] at hj
  rw [← Option.some.inj hj, ← Nat.add_assoc]
  exact d1
theorem cellsOf_one {ar : Int} {L : List PV} (h : ∀ p ∈ L, p.1.oneCell' = true) : ∀ u ∈ cellsOf ar L, u.oneCell' = true := fun u hu => by
 obtain ⟨p, hp, hu⟩ := List.mem_flatMap.1 hu
 rcases List.mem_cons.1 hu with rfl | hu
 ·rfl
 ·rw [List.mem_singleton.1 hu]; exact h p hp
theorem run_pushRow {P : Program} (w : World) (t ty e : TypeId) {bytes : Nat} (hT : ElT P t e 2 bytes) {base n : Nat} {v : Value} {xs : List Value} (hown : w.ownsRow base e 2 v n xs)
  {ad : Option Addr} {m c : Nat} {news : List Value} (hl : news.length = m * 2) (hsrc : 0 < m → ∃ a, ad = some a ∧ ∀ j u, news[j]? = some u → w.cell? (a.add j) = some u) (h1 : ∀ u ∈ news, u.oneCell' = true)
  (hlen : n + m ≤ 1000000) (hby : bytes ≤ 100000) (hb : base ≤ w.heap.size) :
  ∃ v' w', (Builtin.append_ #[t, t] ty #[v, .slice ad m c]).run P w = .ok v' w' ∧ w'.ownsRow base e 2 v' (n + m) (xs ++ news) ∧ w.grownBy w' v.ownBlock ∧ (v'.ownBlock = v.ownBlock ∨ v'.ownBlock = some w.heap.size) := by
 rcases Nat.eq_zero_or_pos m with h0 | h0
 ·subst h0
  obtain rfl := List.eq_nil_of_length_eq_zero (by omega : news.length = 0)
  exact ⟨v, w, run_append_zero w base t ty e hT v n xs hown ad c, by simpa using hown, ⟨rfl, rfl, rfl, Nat.le_refl _, fun _ _ _ => rfl⟩, .inl rfl⟩
 ·obtain ⟨a, rfl, hs⟩ := hsrc h0
  obtain ⟨i, z, ht, hi, hz, hsz, hbt', hzs, hp⟩ := id hT
  have hlen' : (n + m) * bytes ≤ 140737488355328 := Nat.le_trans (Nat.mul_le_mul hlen hby) (by decide)
  obtain ⟨v', w', hr, h2, h3, h4⟩ := run_append_own (P := P) w base t ty e i z 2 bytes ht hi hz hsz hbt' hzs hp v n xs hown a m c news hl hs h1 (by unfold maxLen; omega) hlen' hb
  exact ⟨v', w', hr, h2, h3, run_push_block w base t ty e hT v n xs hown a m c news hl hs h1 (by unfold maxLen; omega) hlen' h0 v' w' hr⟩
theorem wpList_pushRow {P : Program} (w : World) {ops : Array Oper} {rest : List Oper} {o : Oper} {a : Act} {Q : Exit → Act → World → Prop} (hgd : o.guard = none) (s x : Operand) (t e : TypeId) {bytes : Nat}
  (ho : o.op = .call { callee := .builtin .append, args := #[s, x], argTypes := #[t, t] }) (hT : ElT P t e 2 bytes)
  {base n : Nat} {v : Value} {xs : List Value} (hs : a.eval s = v) (hown : w.ownsRow base e 2 v n xs)
  {ad : Option Addr} {m c : Nat} {news : List Value} (hx : a.eval x = .slice ad m c) (hl : news.length = m * 2) (hsrc : 0 < m → ∃ a, ad = some a ∧ ∀ j u, news[j]? = some u → w.cell? (a.add j) = some u) (h1 : ∀ u ∈ news, u.oneCell' = true)
  (hlen : n + m ≤ 1000000) (hby : bytes ≤ 100000) (hb : base ≤ w.heap.size)
  (h : ∀ v' w', w'.ownsRow base e 2 v' (n + m) (xs ++ news) → w.grownBy w' v.ownBlock → (v'.ownBlock = v.ownBlock ∨ v'.ownBlock = some w.heap.size) → wpList P ops Q rest (a.put o.dst v') w') : wpList P ops Q (o :: rest) a w := by
 refine wpList_plain hgd fun K hK => ?_
 obtain ⟨v', w', hr, h2, h3, h4⟩ := run_pushRow (P := P) w t o.type e hT hown (ad := ad) (c := c) hl hsrc h1 hlen hby hb
 unfold Oper.wp execOp
 simp only [ho, resolve, invoke, builtin, Sem.run_bind, Sem.run_pure, Result.andThen_ok, List.map_toArray, List.map_cons, List.map_nil, hs, hx, hr]
 exact hK _ _ (h v' w' h2 h3 h4)
theorem step_pushRow {P : Program} {K : Act → World → Prop} {Ee : Prop} (w : World) {ops : Array Oper} {o : Oper} {a : Act} {Q : Exit → Act → World → Prop} (hgd : o.guard = none) (s x : Operand) (t e : TypeId) {bytes : Nat}
  (ho : o.op = .call { callee := .builtin .append, args := #[s, x], argTypes := #[t, t] }) (hT : ElT P t e 2 bytes)
  {base n : Nat} {v : Value} {xs : List Value} (hs : a.eval s = v) (hown : w.ownsRow base e 2 v n xs)
  {ad : Option Addr} {m c : Nat} {news : List Value} (hx : a.eval x = .slice ad m c) (hl : news.length = m * 2) (hsrc : 0 < m → ∃ a, ad = some a ∧ ∀ j u, news[j]? = some u → w.cell? (a.add j) = some u) (h1 : ∀ u ∈ news, u.oneCell' = true)
  (hlen : n + m ≤ 1000000) (hby : bytes ≤ 100000) (hb : base ≤ w.heap.size)
  (h : ∀ v' w', w'.ownsRow base e 2 v' (n + m) (xs ++ news) → w.grownBy w' v.ownBlock → (v'.ownBlock = v.ownBlock ∨ v'.ownBlock = some w.heap.size) → K (a.put o.dst v') w') : if Region.wanted o (yielded ops a.tmps) = true then Oper.wp P o a w K Q else Ee := by
 rw [if_pos (by simp [Region.wanted, hgd])]
 obtain ⟨v', w', hr, h2, h3, h4⟩ := run_pushRow (P := P) w t o.type e hT hown (ad := ad) (c := c) hl hsrc h1 hlen hby hb
 unfold Oper.wp execOp
 simp only [ho, resolve, invoke, builtin, Sem.run_bind, Sem.run_pure, Result.andThen_ok, List.map_toArray, List.map_cons, List.map_nil, hs, hx, hr]
 exact h v' w' h2 h3 h4
theorem own_shape {base e sz n : Nat} {w : World} {v : Value} {xs : List Value} (h : w.ownsRow base e sz v n xs) (h0 : 0 < n) : ∃ g cap, v = .slice (some ⟨g, 0, none⟩) n cap ∧ n ≤ cap ∧ base ≤ g ∧ g < w.heap.size := by
 rcases h.2 with ⟨rfl, h'⟩ | ⟨g, cap, cur, rfl, hg, hh, hc, _⟩
 ·omega
 ·exact ⟨g, cap, rfl, hc, hg, lt_of_block hh⟩
/-- a list of operations in new memory: the values of its tables, and what they read -/
structure OpL (base : Nat) (ar : Int) (w : World) (v : Value) (L : List PV) : Prop where
 row : ∃ b cap, v = .slice (some ⟨b, 0, none⟩) L.length cap ∧ L.length ≤ cap ∧ base ≤ b ∧ b < w.heap.size ∧ (∀ i, w.frozen? ⟨b, i, none⟩ = false) ∧ (∀ p ∈ L, b ∉ bkV p.1) ∧
  ∀ i (h : i < L.length), w.cell? ⟨b, i * 2, none⟩ = some (.int .i64 ar) ∧ w.cell? ⟨b, i * 2 + 1, none⟩ = some (L[i]).1
 tab : SRf base w L
 rd : ∀ p ∈ L, intsT.Rd w [p.1] p.2
section
variable {base : Nat} {ar : Int} {w w' : World} {v : Value} {L : List PV}
theorem SRf.below {w w' : World} (h : SRf base w L) (hb : Below w.heap.size w w') : SRf base w' L :=
 ⟨h.1, fun p hp k hk => ⟨(h.2 p hp k hk).1, Nat.lt_of_lt_of_le (h.2 p hp k hk).2.1 hb.size, fun o => (frozenB hb (h.2 p hp k hk).2.1).trans ((h.2 p hp k hk).2.2 o)⟩⟩
theorem OpL.below (h : OpL base ar w v L) (hb : Below w.heap.size w w') : OpL base ar w' v L := by
 obtain ⟨⟨b, cap, h1, h2, h3, h4, h5, h6, h7⟩, h8, h9⟩ := h
 exact ⟨⟨b, cap, h1, h2, h3, Nat.lt_of_lt_of_le h4 hb.size, fun i => (frozenB hb h4).trans (h5 i), h6, fun i hi => ⟨(cellB hb h4).trans (h7 i hi).1, (cellB hb h4).trans (h7 i hi).2⟩⟩, h8.below hb, fun p hp => (h9 p hp).below hb⟩
/-- the row that an append has made -/
theorem OpL.of_own {e b0 : Nat} (h : w.ownsRow b0 e 2 v L.length (cellsOf ar L)) (hv : ∃ b cap, v = .slice (some ⟨b, 0, none⟩) L.length cap) (hb : base ≤ b0) (hne : ∀ g, v.ownBlock = some g → ∀ p ∈ L, g ∉ bkV p.1) (ht : SRf base w L) (hr : ∀ p ∈ L, intsT.Rd w [p.1] p.2) : OpL base ar w v L := by
 obtain ⟨b, cap, rfl⟩ := hv
 have hlt := h.lt b rfl
 refine ⟨⟨b, cap, rfl, ?_, Nat.le_trans hb hlt.1, hlt.2, fun i => World.ownsRow.frozenAt h i, hne b rfl, fun i hi => ?_⟩, ht, hr⟩
 ·rcases h.2 with ⟨h', _⟩ | ⟨g', cap', cur, hg', _, _, hc, _⟩
  ·simp at h'
  ·simp only [Value.slice.injEq] at hg'
   omega
 ·obtain ⟨c0, c1⟩ := cellsOf_at (ar := ar) hi
  exact ⟨(World.ownsRow.cellAt h _ (by omega)).trans c0, (World.ownsRow.cellAt h _ (by omega)).trans c1⟩
theorem OpL.fr (h : OpL base ar w v L) (hI : I64 ar) (hl : L.length ≤ capMax) : opsT.Fr base w [v] (L.map fun p => (ar, p.2)) := by
 obtain ⟨⟨b, cap, rfl, h2, h3, h4, h5, h6, h7⟩, h8, h9⟩ := h
 have hlen : (L.map fun p : PV => (ar, p.2)).length = L.length := List.length_map ..
 rcases Nat.eq_zero_or_pos L.length with h0 | h0
 ·obtain rfl := List.eq_nil_of_length_eq_zero h0
  exact fr_nil
 refine ⟨b :: (List.range (L.map fun p : PV => (ar, p.2)).length).flatMap (fun i => bkV (L.getD i (undef, [])).1), ⟨some ⟨b, 0, none⟩, cap, by rw [hlen], by rw [hlen]; exact h2, by rw [hlen]; exact hl, .inr ⟨by rw [hlen]; exact h0, b, 0, _, rfl, h4, rfl, fun i hi => ?_⟩⟩, ?_, ?_, ?_⟩
 ·have hi' : i < L.length := by rw [hlen] at hi; exact hi
  obtain ⟨fp, g2⟩ := h9 _ (List.getElem_mem hi')
  obtain ⟨d0, d1⟩ := h7 i hi'
  refine ⟨[.int .i64 ar, (L[i]).1], ⟨[(L[i]).1], by rw [List.getElem_map], by rw [List.getElem_map]; exact hI, ?_⟩, fun j hj => ?_⟩
  ·rw [List.getElem_map]
   have e : (L.getD i (undef, [])).1 = (L[i]).1 := by simp [List.getD_eq_getElem?_getD, hi']
   rw [e, ← bkV_ints g2]
   exact g2
  ·rcases (show j = 0 ∨ j = 1 by simp at hj; omega) with rfl | rfl
   ·simpa [Ty.slice, Ty.cons] using d0
   ·simpa [Ty.slice, Ty.cons] using d1
 all_goals rw [hlen, flat_get]
 ·exact List.nodup_cons.2 ⟨fun hm => by
   obtain ⟨p, hp, hk⟩ := List.mem_flatMap.1 hm
   exact h6 p hp hk, h8.1⟩
 ·intro k hk
  rcases List.mem_cons.1 hk with rfl | hk
  ·exact h3
  ·obtain ⟨p, hp, hk⟩ := List.mem_flatMap.1 hk
   exact (h8.2 p hp k hk).1
 ·intro k hk i
  rcases List.mem_cons.1 hk with rfl | hk
  ·exact h5 i
  ·obtain ⟨p, hp, hk⟩ := List.mem_flatMap.1 hk
   exact (h8.2 p hp k hk).2.2 i
end
end Go.Proofs.YtggelmbnliajeaaGreatDoor
