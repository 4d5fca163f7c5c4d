/-
Contracts: whether an operation breaks a relation, the program's.
Contracts: whether an operation is a polymorphism, both sides.
Contracts: the relation of all tuples for which something is so.
Plain mathematics: lists of digits in order; the tuples of a relation made by number are in order.
Plain: the operations that a search lists are those that keep a template; how many are counted; projections and compositions keep what is kept. No program is named here.
Choices from bytes: what the source of choices is; its contracts say what a choice's bounds are, not which one it is.
Choices from bytes: a drawn relation, a drawn template.
Choices from bytes: a drawn template.
Choices from bytes: a drawn template of few tuples.
Choices from bytes: a drawn template by its bytes; a projection.
-/
import Derived.Test.YtggelmbnliajeaaGreatDoorQAC
import Derived.Test.YtggelmbnliajeaaGreatDoorQAA
import Derived.Test.YtggelmbnliajeaaGreatDoorQAB
import Derived.Deep.CutRange
namespace Go.Proofs.YtggelmbnliajeaaGreatDoor
open Go.RowKit Go.Sort
/-- what broken hands back: nil in the second place just if the relation is kept -/
def BrkR (b : Bool) (e : Ending) : Prop := ∃ a o m, e = .returned (.tuple #[a, .slice o m m]) ∧ (b = true → o = none ∧ m = 0) ∧ (b = false → ∃ g : Nat, o = some ⟨g, 0, none⟩)
theorem BrkR.yes {b : Bool} {a : Value} (h : b = true) : BrkR b (.returned (.tuple #[a, .slice none 0 0])) := ⟨a, none, 0, rfl, fun _ => ⟨rfl, rfl⟩, (fun h' => by rw [h] at h'; cases h')⟩
theorem BrkR.no {b : Bool} {a : Value} {g m : Nat} (h : b = false) : BrkR b (.returned (.tuple #[a, .slice (some ⟨g, 0, none⟩) m m])) := ⟨a, _, m, rfl, (fun h' => by rw [h] at h'; cases h'), fun _ => ⟨g, rfl⟩⟩
theorem fr_block {α : Type} {E : Ty α} {base : Nat} {w : World} {b o n cap : Nat} {xs : List α} (h : (Ty.slice E).Fr base w [.slice (some ⟨b, o, none⟩) n cap] xs) (h0 : 0 < xs.length) : base ≤ b := by
 obtain ⟨fp, ⟨ad, c, hv, -, -, h3⟩, -, h4, -⟩ := h
 rcases h3 with ⟨h3, _⟩ | ⟨_, b', o', fps, rfl, _, rfl, _⟩
 ·omega
 ·simp only [List.cons.injEq, Value.slice.injEq, Option.some.injEq, Addr.mk.injEq, and_true] at hv
  rw [hv.1.1]
  exact h4 b' (List.mem_cons_self ..)
set_option maxHeartbeats 3200000 in
set_option maxRecDepth 100000 in
theorem broken_any (w : World) {cs cs' : Array Value} {f : Int × List Int} {r : Int × List (List Int)} (hf : opT.Rd w cs.toList f) (hr : relT.Rd w cs'.toList r) {s : Int} (h1 : relOk s r) (h2 : opOk s f) :
  Calls Tryz.prog 62 #[.int .i64 s, .agg cs, .agg cs'] w fun e w' => BrkR (tb (keepsP s f r)) e ∧ Below w.heap.size w w' := by
 have hf' := hf
 obtain ⟨u, hv, -, hfx⟩ := pair_ex hf
 obtain rfl := agg_of hv
 obtain ⟨fad, fcap, rfl⟩ := rd_slice hfx
 obtain ⟨u', hv', -, hx⟩ := pair_ex hr
 obtain rfl := agg_of hv'
 obtain ⟨rad, rcap, rfl⟩ := rd_slice hx
 obtain ⟨_, _, e1, -, -, hcell⟩ := slices_ex hx
 simp only [List.cons.injEq, Value.slice.injEq, and_true, true_and] at e1
 obtain ⟨rfl, rfl⟩ := e1
 have hs := h1.1
 have ha := h2.2.1
 have hm := h1.2.1
 unfold sizeOk at hs hm
 obtain ⟨hln, hN256⟩ := rel_len_le h1
 obtain ⟨ar, har⟩ : ∃ ar : Nat, f.1 = ar := ⟨f.1.toNat, by omega⟩
 obtain ⟨N, hN⟩ : ∃ N : Nat, s ^ r.1.toNat = N := ⟨(s ^ r.1.toNat).toNat, by have := pow_nn (s := s) (by omega) r.1.toNat; omega⟩
 obtain ⟨M, hM⟩ : ∃ M : Nat, (r.2.length : Int) ^ f.1.toNat = M := ⟨((r.2.length : Int) ^ f.1.toNat).toNat, by have := pow_nn (s := (r.2.length : Int)) (by omega) f.1.toNat; omega⟩
 rw [har] at hf'
 have HF0 := Lib.hid hf'
 have hMle : (M : Int) ≤ 1000000000000000 := by rw [← hM]; exact pow_le (by omega) (by omega) (by omega)
 have har3 : 1 ≤ ar ∧ ar ≤ 3 := by omega
 have hln2 : r.2.length ≤ 256 := by omega
 have hN2 : N ≤ 256 := by omega
 have hl0 : M ≠ 0 → 0 < r.2.length := fun h => by
  rcases Nat.eq_zero_or_pos r.2.length with h0 | h0
  ·rw [h0, show f.1.toNat = (f.1.toNat - 1) + 1 by omega, Int.pow_succ] at hM
   simp at hM
   omega
  ·exact h0
 have HM : Hid ((r.2.length : Int) ^ ((ar : Int)).toNat = M) := by unfold Hid; rw [← har]; exact hM
 have HM2 := Lib.hid hM
 have HN := Lib.hid hN
 have HR := Lib.hid h1
 have HF := Lib.hid h2
 have HAR := Lib.hid har
 have HC := Lib.hid hcell
 have q0 : 1 ≤ s ∧ s ≤ 4 := hs
 have q1 : r.1.toNat ≤ 4 := by omega
 have q2 : 0 ≤ r.1 ∧ r.1 ≤ 5 := by omega
 clear hf hf' hr hfx hx hcell h1 h2 hln hN256 hN hM hv hv' hs ha hm
 go_enter Tryz.func62, Tryz.ntmps62
 rw [HAR.out]
 go_wp2_with fail
 refine (power_any _ s r.1 (by omega) (by omega) (by omega)).mono ?_
 rintro e _ ⟨rfl, rfl⟩
 rw [HN.out]
 cases hfull : ((r.2.length : Int) == (N : Int))
 rotate_left
 ·have HK : Hid (tb (keepsP s f r) = true) := tb_true (keeps_full HR.out HF.out (by rw [HN.out]; simpa using hfull))
  go_wp2_with fail
  go_ret2
  exact ⟨BrkR.yes HK.out, (by repeat (first | exact Below.refl _ _ | exact bA | assumption | refine Below.setCell ?_ (by first | omega | (simp; try omega)) _ | refine Below.alloc ?_ (by first | omega | (simp; try omega)) _ | refine Below.drew ?_ | refine bDN ?_ | refine bthen ?_ (by assumption)))⟩
 ·go_wp2_with fail
  refine (power_any _ s r.1 (by omega) (by omega) (by omega)).mono ?_
  rintro e _ ⟨rfl, rfl⟩
  rw [HN.out]
  generalize hW : (w.alloc _).alloc _ = W
  have hbW : Below w.heap.size w W := hW ▸ bAA
  have hsW : w.heap.size + 2 ≤ W.heap.size := by rw [← hW]; simp
  have X0 : W.cell? ⟨w.heap.size, 0, none⟩ = some (.int .i64 (ar : Int)) := by rw [← hW]; simp
  have X1 : W.cell? ⟨w.heap.size, 1, none⟩ = some (.slice fad f.2.length fcap) := by rw [← hW]; simp
  have Y0 : W.cell? ⟨w.heap.size + 1, 0, none⟩ = some (.int .i64 r.1) := by rw [← hW]; simp
  have Y1 : W.cell? ⟨w.heap.size + 1, 1, none⟩ = some (.slice rad r.2.length rcap) := by rw [← hW]; simp
  clear hW
  go_wp2_with (refine wpList_mkB _ rfl _ _ 120 4 rfl Tryz.underlying120 infoBool w.heap.size N rfl rfl (by omega) (by decide) (by omega) ?_; intro w1 hA hg1 hs1; have hbg := below_of_grown hg1; have y1 := (hbg.cell (p := ⟨w.heap.size + 1, 1, none⟩) hsW).trans Y1)
  have hb1 : Below w.heap.size w w1 := hbW.trans (hbg.mono (by omega))
  have x0 := (hbg.cell (p := ⟨w.heap.size, 0, none⟩) (by simp; omega)).trans X0
  have x1 := (hbg.cell (p := ⟨w.heap.size, 1, none⟩) (by simp; omega)).trans X1
  have y0 := (hbg.cell (p := ⟨w.heap.size + 1, 0, none⟩) hsW).trans Y0
  have HA := Lib.hid hA
  clear hg1 hA X0 X1 Y0 Y1
  go_loopw [34] (fun i wr => ∃ k : Nat, k ≤ r.2.length ∧ i = .int .i64 k ∧ BR 4 w.heap.size wr W.heap.size N N (seenL s N (r.2.take k)) ∧ Below W.heap.size w1 wr) (fun i _ => r.2.length - (intOf i).toNat)
  case atStart => exact ⟨0, Nat.zero_le _, rfl, by rw [List.take_zero, seenL_nil]; exact HA.out, Below.refl _ _⟩
  case round =>
   obtain ⟨k, hk, rfl, hBR, hbel⟩ := hrel
   have HB := Lib.hid hBR
   clear hBR HA
   have hbw : Below w.heap.size w wr := hb1.trans (hbel.mono (by omega))
   have hzr := hbel.size
   by_cases hkl : k < r.2.length
   ·obtain ⟨a, q, rfl, haa, hce⟩ := HC.out (by omega)
    obtain ⟨u, hu, hcu⟩ := hce k hkl
    obtain ⟨ua, un, uc, rfl⟩ := rd_sl hu
    have d2 := (hbw.cell haa).trans hcu
    obtain ⟨t1, t2⟩ := (HR.out.2.2 k hkl).1
    have htl : (r.2[k]).length = r.1.toNat := by omega
    obtain ⟨i0, i1⟩ := idx_lt (s := s) (by omega) htl t2
    rw [HN.out] at i1
    obtain ⟨j, hj⟩ : ∃ j : Nat, idxL s 0 r.2[k] = j := ⟨(idxL s 0 r.2[k]).toNat, by omega⟩
    have hjN : j < N := by omega
    have e0 := HB.out.cell (j := j) (by rw [seenL_len]; exact hjN)
    have e1 := HB.out.free j
    have HST := Lib.hid (seenL_set hkl hj hjN)
    have HBS := Lib.hid (HB.out.set j true)
    have HU := Lib.hid (hu.below hbw)
    have HT2 := Lib.hid t2
    have HJ := Lib.hid hj
    have hlen5 : (r.2[k]).length ≤ 5 := by omega
    clear hce hu hcu t1 t2 htl hj i0 i1
    go_wp2_with fail
    refine (indexOf_any _ s HU.out q0.1 (by omega) hlen5 HT2.out).mono ?_
    rintro e _ ⟨rfl, rfl⟩
    rw [HJ.out]
    go_wp2_with fail
    go_roundw
    case rel => exact ⟨k + 1, by omega, by go_num, by rw [← HST.out]; exact HBS.out, hbel.setCell (Nat.le_refl _) _⟩
    case measure => simp [intOf]; omega
   ·obtain rfl : k = r.2.length := by omega
    rw [List.take_length] at HB
    obtain ⟨w2, rfl⟩ : ∃ w2 : World, w2 = wr := ⟨_, rfl⟩
    have z0 := (hbel.cell (p := ⟨w.heap.size, 0, none⟩) (by simp; omega)).trans x0
    have z1 := (hbel.cell (p := ⟨w.heap.size, 1, none⟩) (by simp; omega)).trans x1
    have z2 := (hbel.cell (p := ⟨w.heap.size + 1, 1, none⟩) hsW).trans y1
    have hz2 : W.heap.size + 1 ≤ w2.heap.size := HB.out.lt
    clear x0 x1 y0 y1 hbel hb1 hbW
    go_wp2_with fail
    refine (power_any _ (r.2.length : Int) (ar : Int) (by omega) (by omega) (by omega)).mono ?_
    rintro e _ ⟨rfl, rfl⟩
    rw [HM.out]
    go_wp2_with fail
    go_loopw [48] (fun i wr => ∃ k : Nat, k ≤ M ∧ i = .int .i64 k ∧ keptTo s f r k ∧ Below w2.heap.size w2 wr) (fun i _ => M - (intOf i).toNat)
    case atStart => exact ⟨0, Nat.zero_le _, rfl, keptTo_zero, Below.refl _ _⟩
    case round =>
     obtain ⟨k, hk, rfl, hkt, hbel⟩ := hrel
     have HKT := Lib.hid hkt
     have hz3 := hbel.size
     have d0 := (hbel.cell (p := ⟨w.heap.size, 0, none⟩) (by simp; omega)).trans z0
     clear hkt
     by_cases hkl : k < M
     ·have h0 : 0 < r.2.length := hl0 (by omega)
      obtain ⟨w3, rfl⟩ : ∃ w3 : World, w3 = wr := ⟨_, rfl⟩
      have hl3 : w.heap.size < w3.heap.size := by omega
      go_wp2_with fail
      refine (listOf_any _ (r.2.length : Int) (k : Int) ar (by omega) (by omega) (by omega) (by omega) (by omega)).mono ?_
      rintro e w4 ⟨u, rfl, hfr, hb4⟩
      obtain ⟨dad, dcap, hdv, -, -, hdc⟩ := ints_ex hfr.rd
      obtain rfl : u = _ := by simpa using hdv
      obtain ⟨db, dof, rfl, hdb, hdce⟩ := hdc (by rw [digL_len]; omega)
      rw [digL_len]
      have hdbl := fr_block hfr (by rw [digL_len]; omega)
      have hdbl2 : w3.heap.size < db := by have := hdbl; simp at this; omega
      have HDC := Lib.hid hdce
      have hb34 : Below w3.heap.size w3 w4 := bthen bA hb4
      have hbw4 : Below w.heap.size w w4 := bthen hbw (bthen hbel hb34)
      have hz4 : w3.heap.size + 1 ≤ w4.heap.size := by have := hb4.size; simp at this; omega
      have hBl0 : Bl Ty.val 42 w3.heap.size w4.heap.size w4 (.slice (some ⟨w3.heap.size, 0, none⟩) 0 0) [] := ((Bl.lit0 (E := Ty.val) (e := 42) (w := w3) (Nat.le_refl _)).below (B := w3.heap.size + 1) (by simpa using hb4) (Nat.le_refl _)).mono hz4
      have HBL0 := Lib.hid hBl0
      clear hdv hdc hdce hfr d0 hBl0 hdbl
      go_wp2_with fail
      go_loopw [58, 13] (fun i q wr => ∃ (j : Nat) (vs : List Value), j ≤ ar ∧ i = .int .i64 j ∧ vs.length = j ∧ picked w vs (picks r.2 ar k) ∧ Bl Ty.val 42 w3.heap.size wr.heap.size wr q vs ∧ Below w3.heap.size w3 wr ∧ (q.ownBlock ≠ some db ∧ wr.heap[db]? = w4.heap[db]? ∧ w4.heap.size ≤ wr.heap.size)) (fun i _ _ => ar - (intOf i).toNat)
      case atStart => exact ⟨0, [], Nat.zero_le _, rfl, rfl, picked_nil, HBL0.out, hb34, by simp [Value.ownBlock]; omega, rfl, Nat.le_refl _⟩
      case round =>
       obtain ⟨j, vs, hj, rfl, hvl, hpk, hBl, hb5, hdg⟩ := hrel
       have HB2 := Lib.hid hBl
       have HVL := Lib.hid hvl
       have HPK := Lib.hid hpk
       have HDG := Lib.hid hdg
       have hb25 : Below w2.heap.size w2 wr := bthen hbel hb5
       have hbw5 : Below w.heap.size w wr := bthen hbw hb25
       have hz5 := hb5.size
       have hl5 : w.heap.size < wr.heap.size := by omega
       clear hBl hvl hpk hdg
       by_cases hjl : j < ar
       ·have hjd : j < (digL (r.2.length : Int) k ar).length := by rw [digL_len]; exact hjl
        have hdm := dig_mem (n := (r.2.length : Int)) (i := (k : Int)) (ar := ar) (by omega) (List.getElem_mem hjd)
        obtain ⟨dn, hdn⟩ : ∃ dn : Nat, (digL (r.2.length : Int) k ar)[j] = (dn : Int) := ⟨((digL (r.2.length : Int) k ar)[j]).toNat, by omega⟩
        have hdl : dn < r.2.length := by omega
        have e0 := (World.cell?_of_block (a := ⟨db, dof + j, none⟩) HDG.out.2.1).trans (HDC.out j hjd).2
        rw [hdn] at e0
        obtain ⟨tb0, to0, rfl, htb, hte⟩ := HC.out h0
        obtain ⟨u, hu, hcu⟩ := hte dn hdl
        obtain ⟨ua, un, uc, rfl⟩ := rd_sl hu
        have e1 := (hb25.cell (p := ⟨w.heap.size + 1, 1, none⟩) (by simp; omega)).trans z2
        have e2 := (hbw5.cell htb).trans hcu
        have HPN : Hid (picked w (vs ++ [.slice ua un uc]) (picks r.2 ar k)) := by
         have hl : j < (picks r.2 ar k).length := by rw [picks_len]; exact hjl
         have hg := picks_get hjd hdn hdl hl
         have hv := HVL.out
         subst hv
         exact picked_snoc HPK.out hl (by rw [hg]; exact hu)
        have hvj : vs.length ≤ 1000000000 := by rw [HVL.out]; omega
        clear hdm hdn hte hu hcu
        go_wp2_with (refine wpList_push (E := Ty.val) _ rfl _ _ 23 42 rfl elInt64SS rfl (HB2.out.below bA (Nat.le_refl _)) rfl news1 (fr_val rfl) hvj (by decide) hz5 (by simp) ?_; intro v1 w6 hB6 hg6 ho6)
        have hbel6 : Below w3.heap.size w3 w6 := (hb5.alloc hb5.size _).grown hg6 (by simp; omega) (fun k hk => HB2.out.own hk)
        have HB6 := Lib.hid hB6
        have HDN : Hid (v1.ownBlock ≠ some db ∧ w6.heap[db]? = w4.heap[db]? ∧ w4.heap.size ≤ w6.heap.size) := by
         obtain ⟨n1, n2, n3⟩ := HDG.out
         have hz6 := hg6.size
         simp only [World.size_alloc] at hz6
         refine ⟨?_, ?_, by omega⟩
         ·rcases ho6 with e | e <;> rw [e]
          ·exact n1
          ·intro h; simp at h; omega
         ·rw [hg6.block db (by simp; omega) (fun h => n1 h.symm), ← n2]
          exact (bA (w := wr)).block db (by omega)
        clear hB6 ho6 hg6
        go_wp2_with fail
        go_roundw
        case rel => exact ⟨j + 1, _, by omega, by go_num, by rw [List.length_append, HVL.out]; rfl, HPN.out, HB6.out, hbel6, HDN.out⟩
        case measure => simp [intOf]; omega
       ·obtain rfl : j = ar := by omega
        obtain ⟨wl, rfl⟩ : ∃ wl : World, wl = wr := ⟨_, rfl⟩
        have hfv := HB2.out.fr (by rw [HVL.out]; unfold capMax; omega)
        have HLR := Lib.hid (rows_of_vals hfv.rd (by rw [HVL.out, picks_len]) (fun i h h' => (HPK.out.2 i h h').below hbw5))
        obtain ⟨la, ln, lc, hq⟩ := ex_slice hfv
        subst hq
        have HTO := Lib.hid (picks_ok HR.out HF.out h0 (k : Int))
        rw [show f.1.toNat = j by rw [HAR.out]; omega] at HTO
        have a0 := (hb25.cell (p := ⟨w.heap.size, 0, none⟩) (by simp; omega)).trans z0
        have a1 := (hb25.cell (p := ⟨w.heap.size, 1, none⟩) (by simp; omega)).trans z1
        obtain ⟨rm, hrm⟩ : ∃ rm, r.1.toNat = rm := ⟨_, rfl⟩
        have HRM := Lib.hid hrm
        rw [hrm] at q1 HTO
        clear hfv hrm
        go_wp2_with fail
        refine (made_any _ (HF0.out.below hbw5) HLR.out HF.out HTO.out (by omega)).mono ?_
        rintro e w6 ⟨g, rfl, hft, hb6⟩
        have hbw6 : Below w.heap.size w w6 := bthen hbw5 hb6
        have HTR := Lib.hid hft.rd
        have HMK : Hid (madeL s f.2 (picks r.2 j k) rm = makes s f r k) := by unfold Hid; rw [makes, ← HRM.out, show f.1.toNat = j by rw [HAR.out]; omega]
        rw [HMK.out] at HTR
        obtain ⟨g1, g2⟩ := makes_in HR.out HF.out h0 (k : Int)
        obtain ⟨i0, i1⟩ := idx_lt (s := s) q0.1 g1 g2
        rw [HN.out] at i1
        obtain ⟨jj, hjj⟩ : ∃ jj : Nat, idxL s 0 (makes s f r k) = jj := ⟨(idxL s 0 (makes s f r k)).toNat, by omega⟩
        have hjN : jj < N := by omega
        have hb26 : Below w2.heap.size w2 w6 := bthen hb25 hb6
        have HB6 := HB.out.below hb26 (by omega)
        have t0 := HB6.cell (j := jj) (by rw [seenL_len]; exact hjN)
        have HG := Lib.hid (seenL_get (s := s) (N := N) (ts := r.2) q0.1 (m := r.1.toNat) (fun t ht => by obtain ⟨i, hi, rfl⟩ := List.mem_iff_getElem.1 ht; obtain ⟨a1, a2⟩ := (HR.out.2.2 i hi).1; exact ⟨by omega, a2⟩) g1 g2 hjj (by rw [seenL_len]; exact hjN))
        rw [HG.out] at t0
        have HJJ := Lib.hid hjj
        have HG1 : Hid ((makes s f r k).length ≤ 5) := by unfold Hid; rw [g1, HRM.out]; omega
        have HG2 := Lib.hid g2
        clear HB6 HG hft i0 i1 g1 g2 hjj
        cases hin : tb (makes s f r k ∈ r.2)
        ·have HE : Hid (tb (keepsP s f r) = false) := tb_false (keepsP_not HM2.out hkl (fun hh => by rw [tb_true hh] at hin; cases hin))
         rw [hin] at t0
         clear hin
         go_wp2_with fail
         refine (indexOf_any _ s HTR.out q0.1 (by omega) HG1.out HG2.out).mono ?_
         rintro e _ ⟨rfl, rfl⟩
         rw [HJJ.out]
         go_wp2_with fail
         go_ret2
         exact ⟨BrkR.no HE.out, hbw6⟩
        ·have HKN := Lib.hid (keptTo_succ HKT.out (tb_iff.1 hin))
         rw [hin] at t0
         clear hin
         go_wp2_with fail
         refine (indexOf_any _ s HTR.out q0.1 (by omega) HG1.out HG2.out).mono ?_
         rintro e _ ⟨rfl, rfl⟩
         rw [HJJ.out]
         go_wp2_with fail
         go_roundw
         case rel => exact ⟨k + 1, by omega, by go_num, HKN.out, hb26⟩
         case measure => simp [intOf]; omega
     ·obtain rfl : k = M := by omega
      have HE : Hid (tb (keepsP s f r) = true) := tb_true (keepsP_of HM2.out HKT.out)
      go_wp2_with fail
      go_ret2
      exact ⟨BrkR.yes HE.out, bthen hbw hbel⟩
set_option maxHeartbeats 800000 in
theorem keeps_any (w : World) {cs cs' : Array Value} {f : Int × List Int} {r : Int × List (List Int)} (hf : opT.Rd w cs.toList f) (hr : relT.Rd w cs'.toList r) {s : Int} (h1 : relOk s r) (h2 : opOk s f) :
  Calls Tryz.prog 61 #[.int .i64 s, .agg cs, .agg cs'] w fun e w' => e = .returned (.bool (tb (keepsP s f r))) ∧ Below w.heap.size w w' := by
 have HF0 := Lib.hid hf
 have HR0 := Lib.hid hr
 have HR := Lib.hid h1
 have HF := Lib.hid h2
 obtain ⟨u, hv, -, -⟩ := pair_ex hf
 obtain rfl := agg_of hv
 obtain ⟨u', hv', -, -⟩ := pair_ex hr
 obtain rfl := agg_of hv'
 have hnil := fun w o m => Lib.run_eql_slice_nil (P := Tryz.prog) w 42 2 o m m 0 0 Tryz.underlying42
 clear hf hr h1 h2 hv hv'
 go_enter Tryz.func61, Tryz.ntmps61
 go_wp2_with fail
 refine (broken_any _ (HF0.out.below (by repeat (first | exact Below.refl _ _ | exact bA | assumption | refine Below.setCell ?_ (by first | omega | (simp; try omega)) _ | refine Below.alloc ?_ (by first | omega | (simp; try omega)) _ | refine Below.drew ?_ | refine bDN ?_ | refine bthen ?_ (by assumption)))) (HR0.out.below (by repeat (first | exact Below.refl _ _ | exact bA | assumption | refine Below.setCell ?_ (by first | omega | (simp; try omega)) _ | refine Below.alloc ?_ (by first | omega | (simp; try omega)) _ | refine Below.drew ?_ | refine bDN ?_ | refine bthen ?_ (by assumption)))) HR.out HF.out).mono ?_
 rintro e w1 ⟨⟨a, o, m, rfl, hy, hn⟩, hb1⟩
 cases hk : tb (keepsP s f r)
 ·obtain ⟨g, rfl⟩ := hn hk
  clear hy hn
  go_wp2_with fail
  go_ret
  exact ⟨ret_bool hk.symm, bthen (by repeat (first | exact Below.refl _ _ | exact bA | assumption | refine Below.setCell ?_ (by first | omega | (simp; try omega)) _ | refine Below.alloc ?_ (by first | omega | (simp; try omega)) _ | refine Below.drew ?_ | refine bDN ?_ | refine bthen ?_ (by assumption))) hb1⟩
 ·obtain ⟨rfl, rfl⟩ := hy hk
  clear hy hn
  go_wp2_with fail
  go_ret
  exact ⟨ret_bool hk.symm, bthen (by repeat (first | exact Below.refl _ _ | exact bA | assumption | refine Below.setCell ?_ (by first | omega | (simp; try omega)) _ | refine Below.alloc ?_ (by first | omega | (simp; try omega)) _ | refine Below.drew ?_ | refine bDN ?_ | refine bthen ?_ (by assumption))) hb1⟩
end Go.Proofs.YtggelmbnliajeaaGreatDoor
namespace Go.Proofs.YtggelmbnliajeaaGreatDoor
open Go.RowKit Go.Sort
theorem firstBroken1_any (w : World) {cs : Array Value} {r : Int × List (List Int)} (h : relT.Rd w cs.toList r) {s : Int} {f : Int × List Int} (b1 b2 : Nat) (hb1 : b1 < w.heap.size) (hb2 : b2 < w.heap.size) (c0 : w.cell? ⟨b1, 0, none⟩ = some (.int .i64 s))
  {fa : Option Addr} {fn fc : Nat} (c1 : w.cell? ⟨b2, 0, none⟩ = some (.int .i64 f.1)) (c2 : w.cell? ⟨b2, 1, none⟩ = some (.slice fa fn fc)) (hf : opT.Rd w [.int .i64 f.1, .slice fa fn fc] f) (hr : relOk s r) (hF : opOk s f) :
  Calls Tryz.prog 126 #[.agg cs, .pointer (some ⟨b1, 0, none⟩), .pointer (some ⟨b2, 0, none⟩)] w fun e w' => e = .returned (.bool (!tb (keepsP s f r))) ∧ Below w.heap.size w w' := by
 have HX := Lib.hid h
 obtain ⟨v, hv, hI, -⟩ := pair_ex h
 obtain rfl := agg_of hv
 have HR := Lib.hid hr
 have HF := Lib.hid hF
 have HF0 := Lib.hid hf
 clear h hv hr hF hf
 go_enter Tryz.func126, Tryz.ntmps126
 go_wp2_with fail
 refine (keeps_any (cs := #[.int .i64 f.1, .slice fa fn fc]) _ (HF0.out.below bA) (HX.out.below bA) HR.out HF.out).mono ?_
 rintro e w1 ⟨rfl, hb⟩
 go_wp2_with fail
 go_ret
 exact ⟨rfl, (by repeat (first | exact Below.refl _ _ | exact bA | assumption | refine Below.setCell ?_ (by first | omega | (simp; try omega)) _ | refine Below.alloc ?_ (by first | omega | (simp; try omega)) _ | refine Below.drew ?_ | refine bDN ?_ | refine bthen ?_ (by assumption)))⟩
set_option maxHeartbeats 1600000 in
theorem firstBroken_any (w : World) {cs cs' : Array Value} {t : Int × List (Int × List (List Int))} {f : Int × List Int} (h : tplT.Rd w cs.toList t) (h' : opT.Rd w cs'.toList f) (hT : tplOk t) (hF : opOk t.1 f) :
  Calls Tryz.prog 72 #[.agg cs, .agg cs'] w fun e w' => e = .returned (.int .i64 (brokenI t f)) ∧ Below w.heap.size w w' := by
 have HF0 := Lib.hid h'
 obtain ⟨v1, hv, hI, hx⟩ := pair_ex h
 obtain rfl := agg_of hv
 obtain ⟨ad, cap, rfl⟩ := rd_slice hx
 obtain ⟨v2, hv', hI', hx'⟩ := pair_ex h'
 obtain rfl := agg_of hv'
 obtain ⟨fa, fn, fc, rfl⟩ := rd_sl hx'
 have HT := Lib.hid hT
 have HF := Lib.hid hF
 clear h hv h' hv' hT hF hx'
 go_enter Tryz.func72, Tryz.ntmps72
 go_wp2_with fail
 generalize hW : (w.alloc _).alloc _ = W
 have hbW : Below w.heap.size w W := hW ▸ bAA
 have hsW : w.heap.size + 2 ≤ W.heap.size := by rw [← hW]; simp
 have x0 : W.cell? ⟨w.heap.size, 0, none⟩ = some (.int .i64 t.1) := by rw [← hW]; simp
 have y0 : W.cell? ⟨w.heap.size + 1, 0, none⟩ = some (.int .i64 f.1) := by rw [← hW]; simp
 have y1 : W.cell? ⟨w.heap.size + 1, 1, none⟩ = some (.slice fa fn fc) := by rw [← hW]; simp
 have l0 : w.heap.size < W.heap.size := by omega
 have l1 : w.heap.size + 1 < W.heap.size := by omega
 clear hW
 refine (IndexFuncRel_any _ (hx.below hbW) (fun r => !tb (keepsP t.1 f r)) 126 #[.pointer (some ⟨w.heap.size, 0, none⟩), .pointer (some ⟨w.heap.size + 1, 0, none⟩)] (enters Tryz.func126 (by kernel_rfl) rfl) (fun W' hW k hk cs hcs => firstBroken1_any W' hcs _ _ (by have := hW.size; omega) (by have := hW.size; omega) ((hW.cell l0).trans x0) ((hW.cell l1).trans y0) ((hW.cell l1).trans y1) ((HF0.out.below hbW).below hW) (HT.out.2.2 _ (List.getElem_mem hk)) HF.out)).mono ?_
 rintro e w1 ⟨rfl, hb1⟩
 go_wp2_with fail
 go_ret
 exact ⟨rfl, bthen hbW hb1⟩
end Go.Proofs.YtggelmbnliajeaaGreatDoor
namespace Go.Proofs.YtggelmbnliajeaaGreatDoor
open Go.RowKit Go.Sort
/-- the tuples for which it is so, of the first k ones -/
def relL (s : Int) (ar : Nat) (p : List Int → Bool) (k : Nat) : List (List Int) := ((List.range k).map fun i : Nat => digL s i ar).filter p
theorem relL_zero {s : Int} {ar : Nat} {p : List Int → Bool} : relL s ar p 0 = [] := by simp [relL]
theorem relL_yes {s : Int} {ar : Nat} {p : List Int → Bool} {k : Nat} (h : p (digL s k ar) = true) : relL s ar p k ++ [digL s k ar] = relL s ar p (k + 1) := by simp [relL, List.range_succ, h]
theorem relL_no {s : Int} {ar : Nat} {p : List Int → Bool} {k : Nat} (h : p (digL s k ar) = false) : relL s ar p k = relL s ar p (k + 1) := by simp [relL, List.range_succ, h]
theorem relL_len {s : Int} {ar : Nat} {p : List Int → Bool} {k : Nat} : (relL s ar p k).length ≤ k := by
 unfold relL
 exact Nat.le_trans (List.length_filter_le _ _) (by simp)
end Go.Proofs.YtggelmbnliajeaaGreatDoor
namespace Go.Proofs.YtggelmbnliajeaaGreatDoor
open Go.RowKit Go.Sort
theorem dig_idx {s idx : Int} {n : Nat} (hs : 1 ≤ s) (h0 : 0 ≤ idx) (h : idx < s ^ n) : ∀ k, k ≤ n → idxL s 0 ((digL s idx n).take k) = idx / s ^ (n - k)
 | 0, _ => by
  rw [List.take_zero, Nat.sub_zero, Int.ediv_eq_zero_of_lt h0 h]
  rfl
 | k + 1, hk => by
  have hl : k < (digL s idx n).length := by rw [digL_len]; omega
  rw [idxL_take hl, dig_idx hs h0 h k (by omega)]
  have hg : (digL s idx n)[k] = dig s idx (n - 1 - k) := by simp [digL]
  rw [hg, show n - k = (n - (k + 1)) + 1 by omega, show n - 1 - k = n - (k + 1) by omega, ← quo_succ hs]
  unfold dig
  have h1 := Int.ediv_mul_add_emod (idx / s ^ (n - (k + 1))) s
  exact h1
theorem digL_in {s idx : Int} {n : Nat} (hs : 1 ≤ s) : ∀ a ∈ digL s idx n, 0 ≤ a ∧ a ≤ s - 1 := fun a ha => by
 obtain ⟨i, -, rfl⟩ := List.mem_map.1 ha
 have := dig_nn (idx := idx) hs (n - 1 - i)
 omega
theorem idx_mono {s : Int} (hs : 1 ≤ s) : ∀ {xs ys : List Int} {a b : Int}, xs.length = ys.length → (∀ x ∈ xs, 0 ≤ x ∧ x ≤ s - 1) → (∀ y ∈ ys, 0 ≤ y ∧ y ≤ s - 1) → a < b → idxL s a xs < idxL s b ys
 | [], [], _, _, _, _, _, h => h
 | [], _ :: _, _, _, hl, _, _, _ => by simp at hl
 | _ :: _, [], _, _, hl, _, _, _ => by simp at hl
 | x :: xs, y :: ys, a, b, hl, hx, hy, h => by
  simp only [idxL]
  refine idx_mono hs (by simpa using hl) (fun z hz => hx z (List.mem_cons_of_mem _ hz)) (fun z hz => hy z (List.mem_cons_of_mem _ hz)) ?_
  have h1 := hx x (List.mem_cons_self ..)
  have h2 := hy y (List.mem_cons_self ..)
  have h3 := Int.mul_le_mul_of_nonneg_right (show a + 1 ≤ b by omega) (show (0 : Int) ≤ s by omega)
  rw [Int.add_mul, Int.one_mul] at h3
  omega
theorem lt_of_idx {s : Int} (hs : 1 ≤ s) : ∀ {xs ys : List Int} {a : Int}, xs.length = ys.length → (∀ x ∈ xs, 0 ≤ x ∧ x ≤ s - 1) → (∀ y ∈ ys, 0 ≤ y ∧ y ≤ s - 1) → idxL s a xs < idxL s a ys → ltL xs ys
 | [], [], _, _, _, _, h => absurd h (Int.lt_irrefl _)
 | [], _ :: _, _, hl, _, _, _ => by simp at hl
 | _ :: _, [], _, hl, _, _, _ => by simp at hl
 | x :: xs, y :: ys, a, hl, hx, hy, h => by
  simp only [idxL] at h
  have hx' := fun z hz => hx z (List.mem_cons_of_mem x hz)
  have hy' := fun z hz => hy z (List.mem_cons_of_mem y hz)
  unfold ltL
  rcases Int.lt_trichotomy x y with hc | hc | hc
  ·rw [cmpL, if_neg (by omega), cmpI_lt hc]
   decide
  ·subst hc
   rw [cmpL, if_pos rfl]
   exact lt_of_idx hs (by simpa using hl) hx' hy' h
  ·have := idx_mono hs (a := a * s + y) (b := a * s + x) (show ys.length = xs.length by simpa using hl.symm) hy' hx' (by omega)
   omega
theorem dig_lt {s : Int} {n : Nat} {k j : Int} (hs : 1 ≤ s) (h0 : 0 ≤ k) (h : k < j) (hj : j < s ^ n) : ltL (digL s k n) (digL s j n) := by
 refine lt_of_idx hs (a := 0) (by rw [digL_len, digL_len]) (digL_in hs) (digL_in hs) ?_
 have h1 := dig_idx (n := n) hs h0 (by omega) n (Nat.le_refl _)
 have h2 := dig_idx (n := n) hs (show 0 ≤ j by omega) hj n (Nat.le_refl _)
 rw [Nat.sub_self, Int.pow_zero, Int.ediv_one, List.take_of_length_le (by rw [digL_len]; exact Nat.le_refl _)] at h1 h2
 rw [h1, h2]
 exact h
theorem relL_sorted {s : Int} {n N : Nat} {p : List Int → Bool} (hs : 1 ≤ s) (hN : s ^ n = N) : sortedL (relL s n p N) := by
 have h1 : ((List.range N).map fun i : Nat => digL s i n).Pairwise ltL := by
  rw [List.pairwise_map]
  refine List.Pairwise.imp_of_mem ?_ (List.pairwise_lt_range (n := N))
  intro a b _ hb hab
  have : b < N := by simpa using hb
  exact dig_lt hs (by omega) (by omega) (by omega)
 have h2 := h1.filter p
 intro i hi h0
 exact (List.pairwise_iff_getElem.1 h2) (i - 1) i (by unfold relL at hi; omega) hi (by omega)
/-- what is in such a relation -/
theorem relL_mem {s : Int} {n N : Nat} {p : List Int → Bool} {k : Nat} (hk : k < N) : tb (digL s k n ∈ relL s n p N) = p (digL s k n) := by
 cases h : p (digL s k n)
 ·refine tb_false fun hm => ?_
  have := (List.mem_filter.1 hm).2
  rw [h] at this
  cases this
 ·exact tb_true (List.mem_filter.2 ⟨List.mem_map.2 ⟨k, by simpa using hk, rfl⟩, h⟩)
theorem idx_of_lt {s : Int} (hs : 1 ≤ s) : ∀ {xs ys : List Int} {a : Int}, xs.length = ys.length → (∀ x ∈ xs, 0 ≤ x ∧ x ≤ s - 1) → (∀ y ∈ ys, 0 ≤ y ∧ y ≤ s - 1) → ltL xs ys → idxL s a xs < idxL s a ys
 | [], [], _, _, _, _, h => by simp [ltL, cmpL] at h
 | [], _ :: _, _, hl, _, _, _ => by simp at hl
 | _ :: _, [], _, hl, _, _, _ => by simp at hl
 | x :: xs, y :: ys, a, hl, hx, hy, h => by
  simp only [idxL]
  have hx' := fun z hz => hx z (List.mem_cons_of_mem x hz)
  have hy' := fun z hz => hy z (List.mem_cons_of_mem y hz)
  unfold ltL at h
  rcases Int.lt_trichotomy x y with hc | hc | hc
  ·exact idx_mono hs (by simpa using hl) hx' hy' (by omega)
  ·subst hc
   rw [cmpL, if_pos rfl] at h
   exact idx_of_lt hs (by simpa using hl) hx' hy' h
  ·rw [cmpL, if_neg (by omega), cmpI_gt hc] at h
   omega
theorem rel_bd {s : Int} {r : Int × List (List Int)} (h : relOk s r) : r.2.length ≤ 256 ∧ ∀ y ∈ r.2, y.length ≤ 4 := by
 obtain ⟨⟨h1, h2⟩, ⟨h3, h4⟩, h5⟩ := h
 refine ⟨?_, fun y hy => ?_⟩
 ·have key : ∀ i (hi : i < r.2.length), (i : Int) ≤ idxL s 0 r.2[i] := by
   intro i
   induction i with
   | zero =>
    intro hi
    obtain ⟨⟨e1, e2⟩, -⟩ := h5 0 hi
    have := idx_bd h1 e2 _ (Nat.le_refl _)
    rw [List.take_length] at this
    omega
   | succ i ih =>
    intro hi
    have h6 := ih (by omega)
    obtain ⟨⟨e1, e2⟩, e3⟩ := h5 (i + 1) hi
    obtain ⟨⟨d1, d2⟩, -⟩ := h5 i (by omega)
    have := idx_of_lt h1 (a := 0) (by omega) d2 e2 (e3 (by omega))
    omega
  rcases Nat.eq_zero_or_pos r.2.length with h0 | h0
  ·omega
  ·have hi : r.2.length - 1 < r.2.length := by omega
   have h6 := key _ hi
   obtain ⟨⟨e1, e2⟩, -⟩ := h5 _ hi
   have h7 := idx_bd h1 e2 _ (Nat.le_refl _)
   rw [List.take_length] at h7
   have h8 := pow_mono' (s := s) (c := 4) (by omega) (by omega) (r.2[r.2.length - 1]).length
   have h9 : (4 : Int) ^ (r.2[r.2.length - 1]).length ≤ 256 := by
    generalize (r.2[r.2.length - 1]).length = m at e1 ⊢
    rcases (show m = 0 ∨ m = 1 ∨ m = 2 ∨ m = 3 ∨ m = 4 by omega) with e | e | e | e | e <;> rw [e] <;> decide
   omega
 ·obtain ⟨i, hi, rfl⟩ := List.mem_iff_getElem.1 hy
  obtain ⟨⟨e1, -⟩, -⟩ := h5 i hi
  omega
end Go.Proofs.YtggelmbnliajeaaGreatDoor
namespace Go.Proofs.YtggelmbnliajeaaGreatDoor
open Go.RowKit Go.Sort
/-- the value of an operation -/
def opV (s : Int) (tab xs : List Int) : Int := tab.getD (idxL s 0 xs).toNat 0
/-- the table of a function of lists -/
def tabOf (s : Int) (ar N : Nat) (g : List Int → Int) : List Int := (List.range N).map fun i : Nat => g (digL s i ar)
theorem tabOf_len {s : Int} {ar N : Nat} {g : List Int → Int} : (tabOf s ar N g).length = N := by simp [tabOf]
theorem dig_of {s : Int} {ar : Nat} (hs : 1 ≤ s) {xs : List Int} (hl : xs.length = ar) (hx : ∀ a ∈ xs, 0 ≤ a ∧ a ≤ s - 1) : digL s (idxL s 0 xs) ar = xs := by
 have hb := idx_lt hs hl hx
 refine idxL_inj hs ar digL_len hl (digL_in hs) hx ?_
 have h1 := dig_idx (n := ar) hs hb.1 (by omega) ar (Nat.le_refl _)
 rw [Nat.sub_self, Int.pow_zero, Int.ediv_one, List.take_of_length_le (by rw [digL_len]; exact Nat.le_refl _)] at h1
 exact h1
theorem tabOf_at {s : Int} {ar N : Nat} {g : List Int → Int} (hs : 1 ≤ s) (hN : s ^ ar = N) {xs : List Int} (hl : xs.length = ar) (hx : ∀ a ∈ xs, 0 ≤ a ∧ a ≤ s - 1) : opV s (tabOf s ar N g) xs = g xs := by
 have hb := idx_lt hs hl hx
 rw [hN] at hb
 unfold opV tabOf
 rw [List.getD_eq_getElem?_getD, List.getElem?_map, List.getElem?_range (by omega)]
 show g (digL s ((idxL s 0 xs).toNat : Int) ar) = g xs
 rw [show (((idxL s 0 xs).toNat : Nat) : Int) = idxL s 0 xs by omega, dig_of hs hl hx]
theorem madeV_op {s : Int} {tab : List Int} {ts : List (List Int)} {p : Nat} : madeV s tab ts p = opV s tab (colL ts p) := rfl
/-- the projection to a place -/
def projT (s : Int) (ar N p : Nat) : List Int := tabOf s ar N fun xs => xs.getD p 0
theorem madeL_ext {s : Int} {tab : List Int} {ts : List (List Int)} {m : Nat} {u : List Int} (hu : u.length = m) (h : ∀ p, p < m → madeV s tab ts p = u.getD p 0) : madeL s tab ts m = u := by
 refine List.ext_getElem (by rw [madeL_len, hu]) fun i hi hi' => ?_
 have : i < m := by rw [madeL_len] at hi; exact hi
 have e : (madeL s tab ts m)[i] = madeV s tab ts i := by simp [madeL]
 rw [e, h i this, List.getD_eq_getElem?_getD, List.getElem?_eq_getElem hi']
 rfl
theorem colL_getD {ts : List (List Int)} {p q : Nat} (hq : q < ts.length) : (colL ts p).getD q 0 = (ts[q]).getD p 0 := by
 unfold colL
 rw [List.getD_eq_getElem?_getD, List.getElem?_map, List.getElem?_eq_getElem hq]
 rfl
theorem keeps_proj {s : Int} {ar N p : Nat} {r : Int × List (List Int)} (hr : relOk s r) (hN : s ^ ar = N) (har : 1 ≤ ar ∧ ar ≤ 3) (hp : p < ar) : keepsP s ((ar : Int), projT s ar N p) r := by
 have hs := hr.1
 unfold sizeOk at hs
 intro i hi
 have h0 : 0 < r.2.length := by
  rcases Nat.eq_zero_or_pos r.2.length with h | h
  ·rw [h] at hi
   simp only [Int.toNat_natCast] at hi
   rw [show ((0 : Nat) : Int) = 0 from rfl, Int.zero_pow (by omega)] at hi
   omega
  ·exact h
 have hop : opOk s ((ar : Int), List.replicate N 0) := ⟨hr.1, ⟨by show (1 : Int) ≤ ar; omega, by show (ar : Int) ≤ 3; omega⟩, by simp [hN], fun a ha => by rw [List.eq_of_mem_replicate ha]; omega⟩
 have hpk := picks_ok hr hop h0 (i : Int)
 simp only [Int.toNat_natCast] at hpk
 have hpl : p < (picks r.2 ar (i : Int)).length := by rw [picks_len]; exact hp
 have hmem : (picks r.2 ar (i : Int))[p] ∈ r.2 := by
  have h1 := List.getElem_mem hpl
  generalize (picks r.2 ar (i : Int))[p] = q at *
  obtain ⟨k, hk, rfl⟩ := List.mem_map.1 h1
  obtain ⟨k1, k2⟩ := dig_mem (by omega) hk
  rw [List.getD_eq_getElem?_getD, List.getElem?_eq_getElem (show k.toNat < r.2.length by omega)]
  exact List.getElem_mem _
 have e : makes s ((ar : Int), projT s ar N p) r i = (picks r.2 ar (i : Int))[p] := by
  unfold makes
  simp only [Int.toNat_natCast]
  have hl := hpk.2 _ (List.getElem_mem hpl)
  refine madeL_ext hl.1 fun q hq => ?_
  rw [madeV_op]
  unfold projT
  rw [tabOf_at (by omega) hN (by rw [colL_len, picks_len]) (colL_in hpk hq), colL_getD hpl]
 rw [e]
 exact hmem
/-- some tuples of a relation are picked by an index -/
theorem picks_some {ts L : List (List Int)} (h : ∀ x ∈ L, x ∈ ts) (h0 : 0 < ts.length) : ∃ j : Nat, (j : Int) < (ts.length : Int) ^ L.length ∧ picks ts L.length j = L := by
 obtain ⟨K, hK, hk⟩ : ∃ K : List Int, K.length = L.length ∧ ∀ i (h : i < K.length) (h' : i < L.length), 0 ≤ K[i] ∧ K[i] ≤ (ts.length : Int) - 1 ∧ ts.getD (K[i]).toNat [] = L[i] := by
  clear h0
  induction L with
  | nil => exact ⟨[], rfl, fun i h => by simp at h⟩
  | cons x L ih =>
   obtain ⟨K, hK, hk⟩ := ih fun y hy => h y (List.mem_cons_of_mem _ hy)
   obtain ⟨i, hi, hx⟩ := List.mem_iff_getElem.1 (h x (List.mem_cons_self ..))
   refine ⟨(i : Int) :: K, by simp [hK], fun q hq hq' => ?_⟩
   cases q with
   | zero =>
    refine ⟨by simp, by simp; omega, ?_⟩
    simp only [List.getElem_cons_zero, Int.toNat_natCast]
    rw [List.getD_eq_getElem?_getD, List.getElem?_eq_getElem hi]
    exact hx
   | succ q =>
    have := hk q (by simpa using hq) (by simpa using hq')
    simpa using this
 have hin : ∀ a ∈ K, 0 ≤ a ∧ a ≤ (ts.length : Int) - 1 := fun a ha => by
  obtain ⟨i, hi, rfl⟩ := List.mem_iff_getElem.1 ha
  have := hk i hi (by omega)
  exact ⟨this.1, this.2.1⟩
 have hb := idx_lt (s := (ts.length : Int)) (by omega) hK hin
 refine ⟨(idxL (ts.length : Int) 0 K).toNat, by omega, ?_⟩
 unfold picks
 rw [show (((idxL (ts.length : Int) 0 K).toNat : Nat) : Int) = idxL (ts.length : Int) 0 K by omega, dig_of (by omega) hK hin]
 refine List.ext_getElem (by simp [hK]) fun i hi hi' => ?_
 rw [List.getElem_map]
 exact (hk i (by omega) hi').2.2
/-- a composition -/
def compT (s : Int) (ar N : Nat) (f : List Int) (gs : List (Int × List Int)) : List Int := tabOf s ar N fun xs => opV s f (gs.map fun g => opV s g.2 xs)
theorem keeps_comp {s : Int} {ar N : Nat} {f : Int × List Int} {gs : List (Int × List Int)} {r : Int × List (List Int)} (hr : relOk s r) (hN : s ^ ar = N) (har : 1 ≤ ar ∧ ar ≤ 3) (hf : f.1 = gs.length) (hkf : keepsP s f r)
  (hg : ∀ g ∈ gs, g.1 = ar ∧ opOk s g ∧ keepsP s g r) : keepsP s ((ar : Int), compT s ar N f.2 gs) r := by
 have hs := hr.1
 unfold sizeOk at hs
 intro i hi
 have h0 : 0 < r.2.length := by
  rcases Nat.eq_zero_or_pos r.2.length with h | h
  ·rw [h] at hi
   simp only [Int.toNat_natCast] at hi
   rw [show ((0 : Nat) : Int) = 0 from rfl, Int.zero_pow (by omega)] at hi
   omega
  ·exact h
 have hop : opOk s ((ar : Int), List.replicate N 0) := ⟨hr.1, ⟨by show (1 : Int) ≤ ar; omega, by show (ar : Int) ≤ 3; omega⟩, by simp [hN], fun a ha => by rw [List.eq_of_mem_replicate ha]; omega⟩
 have hpk := picks_ok hr hop h0 (i : Int)
 simp only [Int.toNat_natCast] at hpk hi
 obtain ⟨j, hj, hpj⟩ := picks_some (ts := r.2) (L := gs.map fun g => makes s g r i) (fun x hx => by
  obtain ⟨g, hgm, rfl⟩ := List.mem_map.1 hx
  obtain ⟨g1, g2, g3⟩ := hg g hgm
  exact g3 i (by rw [g1, Int.toNat_natCast]; exact hi)) h0
 rw [List.length_map] at hj hpj
 have hk := hkf j (by rw [hf, Int.toNat_natCast]; exact hj)
 have e : makes s ((ar : Int), compT s ar N f.2 gs) r i = makes s f r j := by
  unfold makes
  simp only [Int.toNat_natCast]
  refine madeL_ext madeL_len fun p hp => ?_
  rw [madeV_op]
  unfold compT
  rw [tabOf_at (by omega) hN (by rw [colL_len, picks_len]) (colL_in hpk hp)]
  unfold madeL
  rw [List.getD_eq_getElem?_getD, List.getElem?_map, List.getElem?_range hp]
  show _ = madeV s f.2 (picks r.2 f.1.toNat j) p
  rw [madeV_op, hf, Int.toNat_natCast, hpj]
  congr 1
  unfold colL
  rw [List.map_map]
  refine List.map_congr_left fun g hgm => ?_
  obtain ⟨g1, g2, g3⟩ := hg g hgm
  show _ = (makes s g r i).getD p 0
  unfold makes madeL
  rw [List.getD_eq_getElem?_getD, List.getElem?_map, List.getElem?_range hp, g1, Int.toNat_natCast]
  rfl
 rw [e]
 exact hk
end Go.Proofs.YtggelmbnliajeaaGreatDoor
namespace Go.Proofs.YtggelmbnliajeaaGreatDoor
open Go.RowKit Go.Sort
def Ty.byte : Ty Int where
 sz := 1
 rd := fun _ cs n fp => cs = [.int .u8 n] ∧ (0 ≤ n ∧ n ≤ 255) ∧ fp = []
 len := by rintro _ _ _ _ ⟨rfl, _, _⟩; rfl
 same := fun h _ => h
 lt := by rintro _ _ _ _ ⟨rfl, _, rfl⟩ k hk; cases hk
 one := by rintro _ _ _ _ ⟨rfl, _, _⟩ u hu; simp at hu; subst hu; rfl
abbrev bytesT := Ty.slice Ty.byte
theorem bytes_ex {w : World} {cs : List Value} {xs : List Int} (h : bytesT.Rd w cs xs) :
  ∃ ad cap, cs = [.slice ad xs.length cap] ∧ xs.length ≤ cap ∧ xs.length ≤ 140737488351232 ∧
   (0 < xs.length → ∃ b o, ad = some ⟨b, o, none⟩ ∧ b < w.heap.size ∧ ∀ i (h : i < xs.length), (0 ≤ xs[i] ∧ xs[i] ≤ 255) ∧ w.cell? ⟨b, o + i, none⟩ = some (.int .u8 xs[i])) := by
 obtain ⟨ad, cap, h1, h2, h3, h4⟩ := Ty.slice_ex h
 refine ⟨ad, cap, h1, h2, h3, fun hp => ?_⟩
 obtain ⟨b, o, h5, h6, h7⟩ := h4 hp
 refine ⟨b, o, h5, h6, fun i hi => ?_⟩
 obtain ⟨cs, ⟨fp, rfl, h8, h9⟩, h10⟩ := h7 i hi
 exact ⟨h8, by simpa [Ty.byte] using h10 0 (by simp)⟩
/-- a source of choices at block sb, whose bytes lie below block B, read at most K times -/
def SrcR (sb B : Nat) (K : Int) (w : World) : Prop :=
 ∃ (v : Value) (code : List Int) (pos sd : Int), w.cell? ⟨sb, 0, none⟩ = some v ∧ bytesT.RdP (fun q => q < B) w [v] code ∧ w.cell? ⟨sb, 1, none⟩ = some (.int .i64 pos) ∧ 0 ≤ pos ∧ pos ≤ K ∧
  w.cell? ⟨sb, 2, none⟩ = some (.int .u64 sd) ∧ 0 ≤ sd ∧ sd ≤ 18446744073709551615 ∧ w.frozen? ⟨sb, 1, none⟩ = false ∧ w.frozen? ⟨sb, 2, none⟩ = false ∧ B ≤ sb
theorem SrcR.lt {sb B : Nat} {K : Int} {w : World} (h : SrcR sb B K w) : sb < w.heap.size := let ⟨_, _, _, _, h, _⟩ := h; cell_lt h
theorem SrcR.mono {sb B : Nat} {K K' : Int} {w : World} (h : SrcR sb B K w) (hk : K ≤ K') : SrcR sb B K' w :=
 let ⟨v, c, p, s, h1, h2, h3, h4, h5, h6⟩ := h; ⟨v, c, p, s, h1, h2, h3, h4, Int.le_trans h5 hk, h6⟩
theorem SrcR.tch {sb B : Nat} {K : Int} {w w' : World} {O : Nat → Prop} (h : SrcR sb B K w) (ht : TchP O w w') (hs : ¬ O sb) (hO : ∀ q, q < B → ¬ O q) : SrcR sb B K w' := by
 have hl := h.lt
 obtain ⟨v, c, p, s, h1, h2, h3, h4, h5, h6, h7, h8, h9, h10, h11⟩ := h
 exact ⟨v, c, p, s, (ht.cell hl hs).trans h1, h2.tchP ht (fun q _ hq => hO q hq), (ht.cell hl hs).trans h3, h4, h5, (ht.cell hl hs).trans h6, h7, h8, (ht.frozen hl hs).trans h9, (ht.frozen hl hs).trans h10, h11⟩
theorem SrcR.below {sb B : Nat} {K : Int} {w w' : World} (h : SrcR sb B K w) (hb : Below w.heap.size w w') : SrcR sb B K w' := h.tch (TchP.of_below hb (fun _ => False)) (fun h => h) (fun _ _ h => h)
theorem wrapU (n : Int) : 0 ≤ IntKind.u64.wrap n ∧ IntKind.u64.wrap n ≤ 18446744073709551615 := by
 have h : IntKind.u64.wrap n = n % 18446744073709551616 := by simp [IntKind.wrap, IntKind.signed, IntKind.bits]
 rw [h]
 omega
theorem andB (n : Int) (h0 : 0 ≤ n) (h1 : n ≤ 18446744073709551615) : 0 ≤ wrap64 (bits BinOp.and IntKind.u64 n 255) ∧ wrap64 (bits BinOp.and IntKind.u64 n 255) ≤ 255 := by
 have h := u64_and n 255 h0 (by omega) (by omega) (by omega)
 have h2 : n.toNat &&& (255 : Int).toNat ≤ 255 := Nat.and_le_right
 rw [h]
 rw [wrap64_id (by omega) (by omega)]
 omega
/-- a number between two bounds comes back, the source has been read -/
def NxS (sb B : Nat) (K lo hi : Int) (w : World) (e : Ending) (w' : World) : Prop := ∃ x, e = .returned (.int .i64 x) ∧ lo ≤ x ∧ x ≤ hi ∧ SrcR sb B K w' ∧ TchP (fun q => q = sb) w w'
set_option maxHeartbeats 3200000 in
set_option maxRecDepth 100000 in
theorem next_any' (w : World) {sb B : Nat} {K : Int} (h : SrcR sb B K w) (hK0 : 0 ≤ K) (hK : K ≤ 1000000000) : Calls Tryz.prog 114 #[.pointer (some ⟨sb, 0, none⟩)] w (NxS sb B (K + 1) 0 255 w) := by
 have hl := h.lt
 obtain ⟨v, code, pos, sd, h1, h2, h3, h4, h5, h6, h7, h8, h9, h10, h11⟩ := h
 have H2 := Lib.hid h2
 obtain ⟨ad, cap, hv, hle, hle2, hc⟩ := bytes_ex h2.rd
 obtain rfl : v = _ := by simpa using hv
 clear h2 hv
 obtain ⟨p, rfl⟩ : ∃ p : Nat, pos = p := ⟨pos.toNat, by omega⟩
 go_enter Tryz.func114, Tryz.ntmps114
 go_wp2_with fail
 by_cases hp : p < code.length
 ·obtain ⟨b, o, rfl, hb, hce⟩ := hc (by omega)
  obtain ⟨hr, hcb⟩ := hce p hp
  generalize code[p] = x at *
  have hcv : IntKind.i64.wrap x = x := wrap_small (by omega) (by omega)
  clear hce
  go_quiet (fail)
  go_wp2_with fail
  go_quiet (fail)
  go_upto_region 6 with fail
  generalize hS : IntKind.u64.wrap (IntKind.u64.wrap (IntKind.u64.wrap (sd * 6364136223846793005) + x) + 1442695040888963407) = S
  have hS0 : 0 ≤ S ∧ S ≤ 18446744073709551615 := hS ▸ wrapU _
  generalize hW : World.setCell (World.setCell (World.drewN w _) _ _) _ _ = w3
  have c0 : w3.cell? ⟨sb, 0, none⟩ = some (.slice (some ⟨b, o, none⟩) code.length cap) := by rw [← hW]; exact (World.cell?_setCell_other _ _ _ _ (by simp)).trans ((World.cell?_setCell_other _ _ _ _ (by simp)).trans (((Quiet.drewN w _).below.cell hl).trans h1))
  have c1 : w3.cell? ⟨sb, 1, none⟩ = some (.int .i64 ((p : Int) + 1)) := by rw [← hW]; exact (World.cell?_setCell_other _ _ _ _ (by simp)).trans (World.cell?_setCell_same _ _ _ (((Quiet.drewN w _).below.cell hl).trans h3))
  have c2 : w3.cell? ⟨sb, 2, none⟩ = some (.int .u64 S) := by rw [← hW]; exact World.cell?_setCell_same _ _ _ ((World.cell?_setCell_other _ _ _ _ (by simp)).trans (((Quiet.drewN w _).below.cell hl).trans h6))
  have m1 : w3.frozen? ⟨sb, 1, none⟩ = false := by rw [← hW]; exact (World.frozen?_setCell _ _ _ _).trans ((World.frozen?_setCell _ _ _ _).trans (((Quiet.drewN w _).below.frozen hl).trans h9))
  have m2 : w3.frozen? ⟨sb, 2, none⟩ = false := by rw [← hW]; exact (World.frozen?_setCell _ _ _ _).trans ((World.frozen?_setCell _ _ _ _).trans (((Quiet.drewN w _).below.frozen hl).trans h10))
  have ht : TchP (fun q => q = sb) w w3 := hW ▸ (TchP.of_below (Quiet.drewN w _).below (fun q => q = sb)).then ((TchP.set (O := fun q => q = sb) rfl).then (TchP.set (O := fun q => q = sb) rfl) (fun q _ h => h)) (fun q _ h => h)
  have HT := Lib.hid ht
  have H3 := Lib.hid (H2.out.tchP ht (fun q _ h e => by omega))
  have hl3 : sb < w3.heap.size := cell_lt c0
  clear hW hS h1 h3 h6 h9 h10 H2 ht
  have HF : Hid (∀ n, SrcR sb B (K + 1) (w3.drewN n) ∧ TchP (fun q => q = sb) w (w3.drewN n)) := fun n => by
   have h : SrcR sb B (K + 1) w3 := ⟨_, code, _, _, c0, H3.out, c1, by omega, by omega, c2, hS0.1, hS0.2, m1, m2, h11⟩
   exact ⟨h.below (Quiet.drewN w3 n).below, HT.out.then (TchP.of_below (Quiet.drewN w3 n).below (fun q => q = sb)) (fun q _ h => h)⟩
  go_wp2_with fail
  go_quiet (fail)
  go_wp2_with fail
  go_ret
  exact ⟨x, rfl, hr.1, hr.2, (HF.out _).1, (HF.out _).2⟩
 ·clear hc
  go_quiet (fail)
  go_upto_region 6 with fail
  generalize hS : IntKind.u64.wrap (IntKind.u64.wrap (IntKind.u64.wrap (sd * 6364136223846793005)) + 1442695040888963407) = S
  have hS0 : 0 ≤ S ∧ S ≤ 18446744073709551615 := hS ▸ wrapU _
  generalize hW : World.setCell (World.setCell (World.drewN w _) _ _) _ _ = w3
  have c0 : w3.cell? ⟨sb, 0, none⟩ = some (.slice ad code.length cap) := by rw [← hW]; exact (World.cell?_setCell_other _ _ _ _ (by simp)).trans ((World.cell?_setCell_other _ _ _ _ (by simp)).trans (((Quiet.drewN w _).below.cell hl).trans h1))
  have c1 : w3.cell? ⟨sb, 1, none⟩ = some (.int .i64 ((p : Int) + 1)) := by rw [← hW]; exact (World.cell?_setCell_other _ _ _ _ (by simp)).trans (World.cell?_setCell_same _ _ _ (((Quiet.drewN w _).below.cell hl).trans h3))
  have c2 : w3.cell? ⟨sb, 2, none⟩ = some (.int .u64 S) := by rw [← hW]; exact World.cell?_setCell_same _ _ _ ((World.cell?_setCell_other _ _ _ _ (by simp)).trans (((Quiet.drewN w _).below.cell hl).trans h6))
  have m1 : w3.frozen? ⟨sb, 1, none⟩ = false := by rw [← hW]; exact (World.frozen?_setCell _ _ _ _).trans ((World.frozen?_setCell _ _ _ _).trans (((Quiet.drewN w _).below.frozen hl).trans h9))
  have m2 : w3.frozen? ⟨sb, 2, none⟩ = false := by rw [← hW]; exact (World.frozen?_setCell _ _ _ _).trans ((World.frozen?_setCell _ _ _ _).trans (((Quiet.drewN w _).below.frozen hl).trans h10))
  have ht : TchP (fun q => q = sb) w w3 := hW ▸ (TchP.of_below (Quiet.drewN w _).below (fun q => q = sb)).then ((TchP.set (O := fun q => q = sb) rfl).then (TchP.set (O := fun q => q = sb) rfl) (fun q _ h => h)) (fun q _ h => h)
  have HT := Lib.hid ht
  have H3 := Lib.hid (H2.out.tchP ht (fun q _ h e => by omega))
  have hl3 : sb < w3.heap.size := cell_lt c0
  clear hW hS h1 h3 h6 h9 h10 H2 ht
  have HF : Hid (∀ n, SrcR sb B (K + 1) (w3.drewN n) ∧ TchP (fun q => q = sb) w (w3.drewN n)) := fun n => by
   have h : SrcR sb B (K + 1) w3 := ⟨_, code, _, _, c0, H3.out, c1, by omega, by omega, c2, hS0.1, hS0.2, m1, m2, h11⟩
   exact ⟨h.below (Quiet.drewN w3 n).below, HT.out.then (TchP.of_below (Quiet.drewN w3 n).below (fun q => q = sb)) (fun q _ h => h)⟩
  go_wp2_with fail
  go_quiet (fail)
  go_wp2_with fail
  have hb := andB (S / 1099511627776) (by omega) (by omega)
  go_ret
  exact ⟨_, rfl, hb.1, hb.2, (HF.out _).1, (HF.out _).2⟩
set_option maxHeartbeats 1600000 in
set_option maxRecDepth 100000 in
theorem pick_any (w : World) {sb B : Nat} {K n : Int} (h : SrcR sb B K w) (hK0 : 0 ≤ K) (hK : K ≤ 1000000000) (hn : 1 ≤ n ∧ n ≤ 200) : Calls Tryz.prog 56 #[.pointer (some ⟨sb, 0, none⟩), .int .i64 n] w (NxS sb B (K + 1) 0 (n - 1) w) := by
 have H := Lib.hid h
 clear h
 rcases ilt 1 n with h1 | h1
 ·have h2 : ¬ n ≤ 1 := by omega
  have h3 : ¬ 200 < n := by omega
  go_enter Tryz.func56, Tryz.ntmps56
  go_wp2_with fail
  refine (next_any' w H.out hK0 hK).mono ?_
  rintro e w1 ⟨x, rfl, hx0, hx1, hs, ht⟩
  have HS := Lib.hid hs
  have HT := Lib.hid ht
  clear hs ht
  go_wp2_with fail
  go_ret
  refine ⟨_, rfl, ?_, ?_, HS.out, HT.out⟩
  ·first | exact Int.emod_nonneg _ (by omega) | exact Int.tmod_nonneg _ (by omega)
  ·have := Int.emod_lt_of_pos x (show 0 < n by omega)
   have h5 : Int.tmod x n = x % n := Int.tmod_eq_emod_of_nonneg (by omega)
   first | omega | (rw [h5]; omega)
 ·obtain rfl : n = 1 := by omega
  go_enter Tryz.func56, Tryz.ntmps56
  go_wp2_with fail
  go_ret
  exact ⟨0, rfl, by omega, by omega, H.out.mono (by omega), TchP.refl _ _⟩
/-- yes or no comes back, the source has been read -/
def OnS (sb B : Nat) (K : Int) (w : World) (e : Ending) (w' : World) : Prop := ∃ b, e = .returned (.bool b) ∧ SrcR sb B K w' ∧ TchP (fun q => q = sb) w w'
theorem one_any (w : World) {sb B : Nat} {K n : Int} (h : SrcR sb B K w) (hK0 : 0 ≤ K) (hK : K ≤ 1000000000) (hn : 1 ≤ n ∧ n ≤ 200) : Calls Tryz.prog 115 #[.pointer (some ⟨sb, 0, none⟩), .int .i64 n] w (OnS sb B (K + 1) w) := by
 have H := Lib.hid h
 clear h
 go_enter Tryz.func115, Tryz.ntmps115
 go_wp2_with fail
 refine (pick_any w H.out hK0 hK hn).mono ?_
 rintro e w1 ⟨x, rfl, hx0, hx1, hs, ht⟩
 have HS := Lib.hid hs
 have HT := Lib.hid ht
 clear hs ht
 go_wp2_with fail
 go_ret
 exact ⟨_, rfl, HS.out, HT.out⟩
theorem l00From_any (w : World) {v : Value} {code : List Int} (h : bytesT.Rd w [v] code) : Calls Tryz.prog 55 #[v] w fun e w' => e = .returned (.pointer (some ⟨w.heap.size, 0, none⟩)) ∧ SrcR w.heap.size w.heap.size 0 w' ∧ Below w.heap.size w w' := by
 have H : Hid (bytesT.RdP (fun q => q < w.heap.size) w [v] code) := let ⟨fp, h1⟩ := h; ⟨fp, h1, fun k hk => bytesT.lt h1 k hk⟩
 obtain ⟨ad, cap, rfl⟩ := rd_slice h
 clear h
 go_enter Tryz.func55, Tryz.ntmps55
 go_wp2_with fail
 go_ret
 have hb : Below w.heap.size w (w.alloc (.cells #[.slice ad code.length cap, .int .i64 0, .int .u64 0] 136)) := bA
 refine ⟨rfl, ⟨_, code, 0, 0, by simp [go_sem], H.out.below hb, by simp [go_sem], by omega, by omega, by simp [go_sem], by omega, by omega, by simp [go_sem], by simp [go_sem], Nat.le_refl _⟩, hb⟩
end Go.Proofs.YtggelmbnliajeaaGreatDoor
namespace Go.Proofs.YtggelmbnliajeaaGreatDoor
open Go.RowKit Go.Sort
/-- tuples of some numbers below k, in order -/
def DrW (s : Int) (n k : Nat) (R : List (List Int)) : Prop := ∃ J : List Nat, R = J.map (fun i : Nat => digL s i n) ∧ J.Pairwise (· < ·) ∧ (∀ j ∈ J, j < k) ∧ J.length ≤ k
section
variable {s : Int} {n k : Nat} {R : List (List Int)}
theorem DrW.zero : DrW s n 0 [] := ⟨[], rfl, List.Pairwise.nil, by simp, Nat.zero_le _⟩
theorem DrW.no (h : DrW s n k R) : DrW s n (k + 1) R := let ⟨J, h1, h2, h3, h4⟩ := h; ⟨J, h1, h2, fun j hj => Nat.lt_succ_of_lt (h3 j hj), Nat.le_succ_of_le h4⟩
theorem DrW.yes (h : DrW s n k R) : DrW s n (k + 1) (R ++ [digL s k n]) := by
 obtain ⟨J, rfl, h2, h3, h4⟩ := h
 refine ⟨J ++ [k], by simp, List.pairwise_append.2 ⟨h2, List.pairwise_singleton _ _, fun a ha b hb => ?_⟩, fun j hj => ?_, by simp; omega⟩
 ·rw [List.mem_singleton.1 hb]; exact h3 a ha
 ·rcases List.mem_append.1 hj with hj | hj
  ·exact Nat.lt_succ_of_lt (h3 j hj)
  ·rw [List.mem_singleton.1 hj]; exact Nat.lt_succ_self _
theorem DrW.len (h : DrW s n k R) : R.length ≤ k := by obtain ⟨J, rfl, -, -, h4⟩ := h; simpa using h4
theorem DrW.ok (h : DrW s n k R) (hs : sizeOk s) (hn : 1 ≤ n ∧ n ≤ 4) (hk : (k : Int) ≤ s ^ n) : relOk s ((n : Int), R) := by
 obtain ⟨J, rfl, h2, h3, -⟩ := h
 have hs' := hs
 unfold sizeOk at hs'
 refine ⟨hs, ⟨by show (1 : Int) ≤ n; omega, by show (n : Int) ≤ 4; omega⟩, fun i hi => ?_⟩
 have hi' : i < J.length := by simpa using hi
 refine ⟨⟨by simp [digL_len], fun a ha => ?_⟩, fun h0 => ?_⟩
 ·have : a ∈ digL s ((J[i] : Nat) : Int) n := by simpa using ha
  exact digL_in (by omega) a this
 ·have h5 := (List.pairwise_iff_getElem.1 h2) (i - 1) i (by omega) hi' (by omega)
  have h6 := h3 _ (List.getElem_mem hi')
  show ltL ((J.map fun i : Nat => digL s i n)[i - 1]'(by simp; omega)) ((J.map fun i : Nat => digL s i n)[i]'hi)
  rw [List.getElem_map, List.getElem_map]
  exact dig_lt (by omega) (by omega) (by omega) (by omega)
end
theorem srcB {sb B C : Nat} {K : Int} {w w' : World} (h : SrcR sb B K w) (hc : sb < C) (hb : Below C w w') : SrcR sb B K w' := by
 have hl := h.lt
 have hB : B ≤ sb := let ⟨_, _, _, _, _, _, _, _, _, _, _, _, _, _, h⟩ := h; h
 exact h.tch (O := fun q => C ≤ q) ⟨hb.os, hb.tape, hb.output, hb.size, fun k _ hn => hb.block k (Nat.lt_of_not_le hn)⟩ (by omega) (fun q hq => by omega)
theorem tchB {sb : Nat} {W w w' : World} (h : TchP (fun q => q = sb) W w) (hb : Below (W.heap.size + 2) w w') : TchP (fun q => q = sb) W w' :=
 ⟨hb.os.trans h.os, hb.tape.trans h.tape, hb.output.trans h.output, Nat.le_trans h.size hb.size, fun k hk hn => (hb.block k (by omega)).trans (h.block k hk hn)⟩
theorem tchS {sb g i : Nat} {v : Value} {W w : World} (h : TchP (fun q => q = sb) W w) (hg : W.heap.size ≤ g) : TchP (fun q => q = sb) W (w.setCell ⟨g, i, none⟩ v) :=
 ⟨h.os, h.tape, h.output, by rw [size_set]; exact h.size, fun k hk hn => (Below.heap_setCell _ _ _ _ (fun e => by simp at e; omega)).trans (h.block k hk hn)⟩
/-- a drawn relation comes back -/
def DrR (sb B : Nat) (K s ar : Int) (w : World) (e : Ending) (w' : World) : Prop := ∃ (cs : List Value) (r : Int × List (List Int)), e = .returned (.agg cs.toArray) ∧ relT.Fr w.heap.size w' cs r ∧ relOk s r ∧ r.1 = ar ∧ SrcR sb B K w' ∧ TchP (fun q => q = sb) w w'
/-- a number and a row of the call's own come back, of which something is so; the source has turned -/
def FbR {α : Type} (E : Ty α) (e : TypeId) (Q : Int × List α → Prop) (sb B : Nat) (K : Int) (w : World) (en : Ending) (w' : World) : Prop := ∃ (v : Value) (n : Int) (T : List α) (b0 : Nat), en = .returned (.agg #[.int .i64 n, v]) ∧ I64 n ∧ w.heap.size ≤ b0 ∧ b0 ≤ w'.heap.size ∧ Bl E e b0 w'.heap.size w' v T ∧ T.length ≤ 1000000 ∧ Q (n, T) ∧ SrcR sb B K w' ∧ TchP (fun q => q = sb) w w'
theorem elSS : ElT Tryz.prog 23 42 1 24 := .mk (z := .slice none 0 0) Tryz.underlying23 (by kernel_rfl) rfl (by decide)
set_option maxHeartbeats 6400000 in
set_option maxRecDepth 100000 in
theorem l01DrawnB_any (w : World) {sb B : Nat} {K s : Int} {ar N : Nat} (h : SrcR sb B K w) (hK0 : 0 ≤ K) (hK : K ≤ 100000000) (hs : 1 ≤ s ∧ s ≤ 4) (har : 1 ≤ ar ∧ ar ≤ 4) (hN : s ^ ar = (N : Int)) :
  Calls Tryz.prog 58 #[.pointer (some ⟨sb, 0, none⟩), .int .i64 s, .int .i64 ar] w (FbR intsT 42 (fun r => relOk s r ∧ r.1 = ar) sb B (K + 1 + 2 * N) w) := by
 have H := Lib.hid h
 have hsb := h.lt
 have hBs : B ≤ sb := let ⟨_, _, _, _, _, _, _, _, _, _, _, _, _, _, h⟩ := h; h
 have hNb : N ≤ 256 := by
  have h1 := pow_mono' (s := s) (c := 4) (by omega) (by omega) ar
  rcases (show ar = 1 ∨ ar = 2 ∨ ar = 3 ∨ ar = 4 by omega) with e | e | e | e <;> subst e <;> simp at h1 <;> omega
 have HN := Lib.hid hN
 clear h hN
 go_enter Tryz.func58, Tryz.ntmps58
 go_wp2_with fail
 generalize hW : World.alloc (World.alloc w _) _ = W
 have hbW : Below w.heap.size w W := hW ▸ bAA
 have hsW : w.heap.size + 2 ≤ W.heap.size := by rw [← hW]; simp
 have r0 : W.cell? ⟨w.heap.size, 0, none⟩ = some (.int .i64 0) := by rw [← hW]; simp [go_sem]
 have r1 : W.cell? ⟨w.heap.size, 1, none⟩ = some (.slice none 0 0) := by rw [← hW]; simp [go_sem]
 have q0 : W.frozen? ⟨w.heap.size, 0, none⟩ = false := by rw [← hW]; simp [go_sem]
 have q1 : W.frozen? ⟨w.heap.size, 1, none⟩ = false := by rw [← hW]; simp [go_sem]
 have c0 : W.cell? ⟨w.heap.size + 1, 0, none⟩ = some (.int .i64 (ar : Int)) := by rw [← hW]; simp [go_sem]
 have c1 : W.cell? ⟨w.heap.size + 1, 1, none⟩ = some (.slice none 0 0) := by rw [← hW]; simp [go_sem]
 have m1 : W.frozen? ⟨w.heap.size + 1, 1, none⟩ = false := by rw [← hW]; simp [go_sem]
 have HSW := Lib.hid (H.out.below hbW)
 clear hW
 refine (pick_any W HSW.out hK0 (by omega) (n := 5) (by omega)).mono ?_
 rintro e w2 ⟨often, rfl, ho0, ho1, hs2, ht2⟩
 have hz2 := ht2.size
 replace r0 := (ht2.cell (i := 0) (show w.heap.size < W.heap.size by omega) (by omega)).trans r0
 replace r1 := (ht2.cell (i := 1) (show w.heap.size < W.heap.size by omega) (by omega)).trans r1
 replace q0 := (ht2.frozen (i := 0) (show w.heap.size < W.heap.size by omega) (by omega)).trans q0
 replace q1 := (ht2.frozen (i := 1) (show w.heap.size < W.heap.size by omega) (by omega)).trans q1
 replace c0 := (ht2.cell (i := 0) (show w.heap.size + 1 < W.heap.size by omega) (by omega)).trans c0
 replace c1 := (ht2.cell (i := 1) (show w.heap.size + 1 < W.heap.size by omega) (by omega)).trans c1
 replace m1 := (ht2.frozen (i := 1) (show w.heap.size + 1 < W.heap.size by omega) (by omega)).trans m1
 have HS2 := Lib.hid hs2
 have HT2 : Hid (TchP (fun q => q = sb) w w2) := (TchP.of_below hbW (fun q => q = sb)).then ht2 (fun q _ h => h)
 have HRQ := Lib.hid (And.intro r0 (And.intro r1 (And.intro q0 q1)))
 clear hs2 ht2 HSW r0 r1 q0 q1
 go_wp2_with (go_at_call 94; refine (l01Power_any _ s (ar : Int) (by omega) (by omega) (by omega)).mono ?_; rintro e w' ⟨rfl, rfl⟩; rw [Int.toNat_natCast, HN.out])
 go_loopw [10] (fun i wr => ∃ (k : Nat) (va : Value) (R : List (List Int)), k ≤ N ∧ i = .int .i64 k ∧ Bl intsT 42 (w.heap.size + 2) wr.heap.size wr va R ∧ DrW s ar k R ∧ wr.cell? ⟨w.heap.size + 1, 0, none⟩ = some (.int .i64 (ar : Int)) ∧ wr.cell? ⟨w.heap.size + 1, 1, none⟩ = some va ∧ wr.frozen? ⟨w.heap.size + 1, 1, none⟩ = false ∧ SrcR sb B (K + 1 + 2 * k) wr ∧ TchP (fun q => q = sb) w wr ∧ (∀ i, wr.cell? ⟨w.heap.size, i, none⟩ = w2.cell? ⟨w.heap.size, i, none⟩ ∧ wr.frozen? ⟨w.heap.size, i, none⟩ = w2.frozen? ⟨w.heap.size, i, none⟩)) (fun i _ => N - (intOf i).toNat)
 case atStart => exact ⟨0, _, _, Nat.zero_le _, rfl, Bl.nil, DrW.zero, c0, c1, m1, HS2.out.mono (by omega), HT2.out, fun i => ⟨rfl, rfl⟩⟩
 case round =>
  clear c0 c1 m1
  obtain ⟨k, va, R, hk, rfl, hBa, hdr, c0, c1, m1, hsr, htc, hrq⟩ := hrel
  have HB := Lib.hid hBa
  have HDR := Lib.hid hdr
  have HSR := Lib.hid hsr
  have HTC := Lib.hid htc
  have HRE := Lib.hid hrq
  have hRl := hdr.len
  have hw2 : w.heap.size + 1 < wr.heap.size := cell_lt c0
  obtain ⟨ga, gn, gc, rfl⟩ := ex_slice (hBa.fr (by unfold capMax; omega))
  obtain ⟨wv, rfl⟩ : ∃ wv : World, wv = wr := ⟨_, rfl⟩
  clear hBa hdr hsr htc hrq
  by_cases hkl : k < N
  ·go_wp2_with fail
   refine (pick_any wv HSR.out (by omega) (by omega) (n := 5) (by omega)).mono ?_
   rintro e w3 ⟨x, rfl, hx0, hx1, hs3, ht3⟩
   have hz3 := ht3.size
   replace c0 := (ht3.cell (i := 0) hw2 (by omega)).trans c0
   replace c1 := (ht3.cell (i := 1) hw2 (by omega)).trans c1
   replace m1 := (ht3.frozen (i := 1) hw2 (by omega)).trans m1
   have HB3 : Hid (Bl intsT 42 (w.heap.size + 2) w3.heap.size w3 (.slice ga gn gc) R) := (HB.out.sameB (fun q h1 h2 => ht3.block q h2 (by omega))).mono hz3
   have HR3 : Hid (∀ i, w3.cell? ⟨w.heap.size, i, none⟩ = w2.cell? ⟨w.heap.size, i, none⟩ ∧ w3.frozen? ⟨w.heap.size, i, none⟩ = w2.frozen? ⟨w.heap.size, i, none⟩) := fun i => ⟨(ht3.cell (by omega) (by omega)).trans (HRE.out i).1, (ht3.frozen (by omega) (by omega)).trans (HRE.out i).2⟩
   have HS3 := Lib.hid hs3
   have HT3 := Lib.hid (HTC.out.then ht3 (fun q _ h => h))
   have hw3 : w.heap.size + 1 < w3.heap.size := by omega
   clear hs3 ht3 HB HSR HTC HRE
   cases hq : decide (x ≤ often)
   ·go_wp2_with fail
    refine (one_any w3 HS3.out (by omega) (by omega) (n := 8) (by omega)).mono ?_
    rintro e w4 ⟨b, rfl, hs4, ht4⟩
    have hz4 := ht4.size
    replace c0 := (ht4.cell (i := 0) hw3 (by omega)).trans c0
    replace c1 := (ht4.cell (i := 1) hw3 (by omega)).trans c1
    replace m1 := (ht4.frozen (i := 1) hw3 (by omega)).trans m1
    have HB4 : Hid (Bl intsT 42 (w.heap.size + 2) w4.heap.size w4 (.slice ga gn gc) R) := (HB3.out.sameB (fun q h1 h2 => ht4.block q h2 (by omega))).mono hz4
    have HR4 : Hid (∀ i, w4.cell? ⟨w.heap.size, i, none⟩ = w2.cell? ⟨w.heap.size, i, none⟩ ∧ w4.frozen? ⟨w.heap.size, i, none⟩ = w2.frozen? ⟨w.heap.size, i, none⟩) := fun i => ⟨(ht4.cell (by omega) (by omega)).trans (HR3.out i).1, (ht4.frozen (by omega) (by omega)).trans (HR3.out i).2⟩
    have HS4 := Lib.hid hs4
    have HT4 := Lib.hid (HT3.out.then ht4 (fun q _ h => h))
    have hw4 : w.heap.size + 1 < w4.heap.size := by omega
    clear hs4 ht4 HB3 HS3 HT3 HR3
    cases b
    ·go_wp2_with fail
     go_roundw
     case rel => exact ⟨k + 1, _, _, by omega, by go_num, HB4.out, HDR.out.no, c0, c1, m1, HS4.out.mono (by omega), HT4.out, HR4.out⟩
     case measure => simp [intOf]; omega
    ·go_wp2_with fail
     refine wp_region_T (fun w' => w'.cell? ⟨w.heap.size + 1, 1, none⟩ = some (.slice ga gn gc)) [7] (by kernel_rfl) c1 (fun hHeld => ?_)
     refine wpAnyT_take (i := 0) (v := ?_) rfl (by kernel_rfl) (fun _ _ _ h => h) (Or.inl ⟨by rfl, ?_⟩) (by assumption) ?_
     rotate_left
     ·(intro w hSw; (try dsimp only at hSw); go_simp <;> with_reducible rfl)
     go_simp
     refine wpAnyT_take (i := 1) (v := ?_) rfl (by kernel_rfl) (fun _ _ _ h => h) (Or.inl ⟨by rfl, ?_⟩) (by assumption) ?_
     rotate_left
     ·(intro w hSw; (try dsimp only at hSw); go_simp <;> with_reducible rfl)
     go_simp
     refine wpAnyT_take (i := 2) (v := ?_) rfl (by kernel_rfl) (fun _ _ _ h => h) (Or.inl ⟨by rfl, ?_⟩) (by assumption) ?_
     rotate_left
     ·(intro w hSw; (try dsimp only at hSw); go_simp <;> with_reducible rfl)
     go_simp
     refine wpAnyT_take (i := 3) (v := ?_) rfl (by kernel_rfl) (fun _ _ _ h => h) (Or.inl ⟨by rfl, ?_⟩) (by assumption) ?_
     rotate_left
     ·(intro w hSw; (try dsimp only at hSw); go_simp <;> with_reducible rfl)
     go_simp
     refine wpAnyT_take (i := 4) (v := ?_) rfl (by kernel_rfl) (fun _ _ _ h => h) (Or.inl ⟨by rfl, ?_⟩) (by assumption) ?_
     rotate_left
     ·(intro w hSw; (try dsimp only at hSw); go_simp <;> with_reducible rfl)
     go_simp
     refine wpAnyT_one (i := 5) rfl (by kernel_rfl) (fun K hK => ?_)
     go_simp
     go_at_call 95
     refine (l01Digits_any _ s (k : Int) ar (by omega) (by omega) (by omega) (by omega) (by omega)).mono ?_
     rintro e w5 ⟨dv, rfl, hdf, hb5⟩
     obtain ⟨ad, nd, cd, rfl⟩ := ex_slice hdf
     have HDF := Lib.hid hdf
     have hb5' : Below w4.heap.size w4 w5 := bthen bD hb5
     have hz5 := hb5'.size
     replace c0 := (cellB hb5' (show w.heap.size + 1 < w4.heap.size by omega)).trans c0
     replace c1 := (cellB hb5' (show w.heap.size + 1 < w4.heap.size by omega)).trans c1
     replace m1 := (frozenB hb5' (show w.heap.size + 1 < w4.heap.size by omega)).trans m1
     clear hdf hb5
     dsimp only
     refine hK.out _ _ c1 (fun hHeld => ?_)
     clear hK K
     refine wpAnyT_one (i := 6) rfl (by kernel_rfl) (fun K hK => ?_)
     go_simp
     refine hK.out _ _ (by go_keep) (fun hHeld => ?_)
     clear hK K
     refine wpAnyT_last (i := 7) rfl (by kernel_rfl) (by kernel_rfl) (fun K hK => ?_)
     refine step_push (E := intsT) _ rfl _ _ 23 42 rfl elSS rfl (HB4.out.below (hb5'.alloc hz5 _) (Nat.le_refl _)) rfl news1 (HDF.out.below bA) (by omega) (by decide) (by omega) (by first | (simp; done) | (simp; omega)) ?_
     intro v6 w6 hB6 hg6 _
     obtain ⟨xa, xn, xc, rfl⟩ := ex_slice (hB6.fr (by rw [List.length_append]; unfold capMax; simp; omega))
     have hb6 : RowKit.Below (w.heap.size + 2) w4 w6 := ((hb5'.alloc hz5 _).mono (by omega)).grown hg6 (by first | (simp; done) | (simp; omega)) (fun q hq => HB4.out.own hq)
     have hb56 : RowKit.Below (w.heap.size + 2) w5 w6 := ((Below.refl _ w5).alloc (by omega) _).grown hg6 (by first | (simp; done) | (simp; omega)) (fun q hq => HB4.out.own hq)
     have HB6 := Lib.hid hB6
     replace c0 := (cellB hb56 (by omega)).trans c0
     replace c1 := (cellB hb56 (by omega)).trans c1
     replace m1 := (frozenB hb56 (by omega)).trans m1
     have HD6 := Lib.hid (HDR.out.yes)
     have HS6 := Lib.hid (srcB HS4.out (show sb < w.heap.size + 2 by omega) hb6)
     have HT6 := Lib.hid (tchB HT4.out hb6)
     have HR6 : Hid (∀ i, w6.cell? ⟨w.heap.size, i, none⟩ = w2.cell? ⟨w.heap.size, i, none⟩ ∧ w6.frozen? ⟨w.heap.size, i, none⟩ = w2.frozen? ⟨w.heap.size, i, none⟩) := fun i => ⟨(cellB hb6 (by omega)).trans (HR4.out i).1, (frozenB hb6 (by omega)).trans (HR4.out i).2⟩
     clear hB6 hg6 hb6 hb56
     refine hK.out _ _ ?_
     clear hK K
     refine wpAnyT_any (i := 8) (v := ?_) rfl (by kernel_rfl) (fun _ _ _ h => h) (Or.inl ⟨by rfl, ?_⟩) (by first | exact fun _ => by assumption | (intro hp; exact absurd hp (by rw [show pastB _ _ = true by kernel_rfl]; simp))) ?_
     rotate_left
     ·(intro w hSw; (try dsimp only at hSw); go_simp <;> with_reducible rfl)
     try simp only [Act.put]
     refine wpAnyT_last (i := 9) rfl (by kernel_rfl) (by kernel_rfl) (fun K hK => ?_)
     go_simp
     refine hK.out _ _ ?_
     clear hK K
     refine wpAnyT_done (by kernel_rfl) ?_ _
     go_simp
     go_wp2_with fail
     go_roundw
     case rel => exact ⟨k + 1, _, _, by omega, by go_num, by rw [size_set]; exact HB6.out.sameB (fun q h1 h2 => Below.heap_setCell _ _ _ _ (by simp; omega)), HD6.out, (World.cell?_setCell_other _ _ _ _ (by simp)).trans c0, World.cell?_setCell_same _ _ _ c1, (World.frozen?_setCell _ _ _ _).trans m1, (HS6.out.tch (TchP.set (O := fun q => q = w.heap.size + 1) rfl) (by omega) (by omega)).mono (by omega), tchS HT6.out (by omega), fun i => ⟨(World.cell?_setCell_other _ _ _ _ (by simp)).trans (HR6.out i).1, (World.frozen?_setCell _ _ _ _).trans (HR6.out i).2⟩⟩
     case measure => simp [intOf]; omega
   ·skip
    go_wp2_with fail
    refine wp_region_T (fun w' => w'.cell? ⟨w.heap.size + 1, 1, none⟩ = some (.slice ga gn gc)) [7] (by kernel_rfl) c1 (fun hHeld => ?_)
    refine wpAnyT_take (i := 0) (v := ?_) rfl (by kernel_rfl) (fun _ _ _ h => h) (Or.inl ⟨by rfl, ?_⟩) (by assumption) ?_
    rotate_left
    ·(intro w hSw; (try dsimp only at hSw); go_simp <;> with_reducible rfl)
    go_simp
    refine wpAnyT_take (i := 1) (v := ?_) rfl (by kernel_rfl) (fun _ _ _ h => h) (Or.inl ⟨by rfl, ?_⟩) (by assumption) ?_
    rotate_left
    ·(intro w hSw; (try dsimp only at hSw); go_simp <;> with_reducible rfl)
    go_simp
    refine wpAnyT_take (i := 2) (v := ?_) rfl (by kernel_rfl) (fun _ _ _ h => h) (Or.inl ⟨by rfl, ?_⟩) (by assumption) ?_
    rotate_left
    ·(intro w hSw; (try dsimp only at hSw); go_simp <;> with_reducible rfl)
    go_simp
    refine wpAnyT_take (i := 3) (v := ?_) rfl (by kernel_rfl) (fun _ _ _ h => h) (Or.inl ⟨by rfl, ?_⟩) (by assumption) ?_
    rotate_left
    ·(intro w hSw; (try dsimp only at hSw); go_simp <;> with_reducible rfl)
    go_simp
    refine wpAnyT_take (i := 4) (v := ?_) rfl (by kernel_rfl) (fun _ _ _ h => h) (Or.inl ⟨by rfl, ?_⟩) (by assumption) ?_
    rotate_left
    ·(intro w hSw; (try dsimp only at hSw); go_simp <;> with_reducible rfl)
    go_simp
    refine wpAnyT_one (i := 5) rfl (by kernel_rfl) (fun K hK => ?_)
    go_simp
    go_at_call 95
    refine (l01Digits_any _ s (k : Int) ar (by omega) (by omega) (by omega) (by omega) (by omega)).mono ?_
    rintro e w5 ⟨dv, rfl, hdf, hb5⟩
    obtain ⟨ad, nd, cd, rfl⟩ := ex_slice hdf
    have HDF := Lib.hid hdf
    have hb5' : Below w3.heap.size w3 w5 := bthen bD hb5
    have hz5 := hb5'.size
    replace c0 := (cellB hb5' (show w.heap.size + 1 < w3.heap.size by omega)).trans c0
    replace c1 := (cellB hb5' (show w.heap.size + 1 < w3.heap.size by omega)).trans c1
    replace m1 := (frozenB hb5' (show w.heap.size + 1 < w3.heap.size by omega)).trans m1
    clear hdf hb5
    dsimp only
    refine hK.out _ _ c1 (fun hHeld => ?_)
    clear hK K
    refine wpAnyT_one (i := 6) rfl (by kernel_rfl) (fun K hK => ?_)
    go_simp
    refine hK.out _ _ (by go_keep) (fun hHeld => ?_)
    clear hK K
    refine wpAnyT_last (i := 7) rfl (by kernel_rfl) (by kernel_rfl) (fun K hK => ?_)
    refine step_push (E := intsT) _ rfl _ _ 23 42 rfl elSS rfl (HB3.out.below (hb5'.alloc hz5 _) (Nat.le_refl _)) rfl news1 (HDF.out.below bA) (by omega) (by decide) (by omega) (by first | (simp; done) | (simp; omega)) ?_
    intro v6 w6 hB6 hg6 _
    obtain ⟨xa, xn, xc, rfl⟩ := ex_slice (hB6.fr (by rw [List.length_append]; unfold capMax; simp; omega))
    have hb6 : RowKit.Below (w.heap.size + 2) w3 w6 := ((hb5'.alloc hz5 _).mono (by omega)).grown hg6 (by first | (simp; done) | (simp; omega)) (fun q hq => HB3.out.own hq)
    have hb56 : RowKit.Below (w.heap.size + 2) w5 w6 := ((Below.refl _ w5).alloc (by omega) _).grown hg6 (by first | (simp; done) | (simp; omega)) (fun q hq => HB3.out.own hq)
    have HB6 := Lib.hid hB6
    replace c0 := (cellB hb56 (by omega)).trans c0
    replace c1 := (cellB hb56 (by omega)).trans c1
    replace m1 := (frozenB hb56 (by omega)).trans m1
    have HD6 := Lib.hid (HDR.out.yes)
    have HS6 := Lib.hid (srcB HS3.out (show sb < w.heap.size + 2 by omega) hb6)
    have HT6 := Lib.hid (tchB HT3.out hb6)
    have HR6 : Hid (∀ i, w6.cell? ⟨w.heap.size, i, none⟩ = w2.cell? ⟨w.heap.size, i, none⟩ ∧ w6.frozen? ⟨w.heap.size, i, none⟩ = w2.frozen? ⟨w.heap.size, i, none⟩) := fun i => ⟨(cellB hb6 (by omega)).trans (HR3.out i).1, (frozenB hb6 (by omega)).trans (HR3.out i).2⟩
    clear hB6 hg6 hb6 hb56
    refine hK.out _ _ ?_
    clear hK K
    refine wpAnyT_any (i := 8) (v := ?_) rfl (by kernel_rfl) (fun _ _ _ h => h) (Or.inl ⟨by rfl, ?_⟩) (by first | exact fun _ => by assumption | (intro hp; exact absurd hp (by rw [show pastB _ _ = true by kernel_rfl]; simp))) ?_
    rotate_left
    ·(intro w hSw; (try dsimp only at hSw); go_simp <;> with_reducible rfl)
    try simp only [Act.put]
    refine wpAnyT_last (i := 9) rfl (by kernel_rfl) (by kernel_rfl) (fun K hK => ?_)
    go_simp
    refine hK.out _ _ ?_
    clear hK K
    refine wpAnyT_done (by kernel_rfl) ?_ _
    go_simp
    go_wp2_with fail
    go_roundw
    case rel => exact ⟨k + 1, _, _, by omega, by go_num, by rw [size_set]; exact HB6.out.sameB (fun q h1 h2 => Below.heap_setCell _ _ _ _ (by simp; omega)), HD6.out, (World.cell?_setCell_other _ _ _ _ (by simp)).trans c0, World.cell?_setCell_same _ _ _ c1, (World.frozen?_setCell _ _ _ _).trans m1, (HS6.out.tch (TchP.set (O := fun q => q = w.heap.size + 1) rfl) (by omega) (by omega)).mono (by omega), tchS HT6.out (by omega), fun i => ⟨(World.cell?_setCell_other _ _ _ _ (by simp)).trans (HR6.out i).1, (World.frozen?_setCell _ _ _ _).trans (HR6.out i).2⟩⟩
    case measure => simp [intOf]; omega
  ·obtain rfl : k = N := by omega
   have r0 := (HRE.out 0).1.trans HRQ.out.1
   have r1 := (HRE.out 1).1.trans HRQ.out.2.1
   have q0 := (HRE.out 0).2.trans HRQ.out.2.2.1
   have q1 := (HRE.out 1).2.trans HRQ.out.2.2.2
   have hw0 : w.heap.size < wv.heap.size := by omega
   have HOK : Hid (relOk s ((ar : Int), R)) := HDR.out.ok (by unfold sizeOk; omega) (by omega) (by have := HN.out; omega)
   have hIa : I64 (ar : Int) := I64.small (by omega) (by omega)
   obtain ⟨g0, g1⟩ := set2_cells (x := .int .i64 (ar : Int)) (y := .slice ga gn gc) r0 r1
   have HFF : Hid (Bl intsT 42 (w.heap.size + 2) ((wv.setCell ⟨w.heap.size, 0, none⟩ (.int .i64 (ar : Int))).setCell ⟨w.heap.size, 1, none⟩ (.slice ga gn gc)).heap.size ((wv.setCell ⟨w.heap.size, 0, none⟩ (.int .i64 (ar : Int))).setCell ⟨w.heap.size, 1, none⟩ (.slice ga gn gc)) (.slice ga gn gc) R) := by
    rw [size_set, size_set]
    exact (HB.out.sameB (fun q h1 h2 => Below.heap_setCell _ _ _ _ (by simp; omega))).sameB (fun q h1 h2 => Below.heap_setCell _ _ _ _ (by simp; omega))
   have HTT : Hid (TchP (fun q => q = sb) w ((wv.setCell ⟨w.heap.size, 0, none⟩ (.int .i64 (ar : Int))).setCell ⟨w.heap.size, 1, none⟩ (.slice ga gn gc))) := tchS (tchS HTC.out (Nat.le_refl _)) (Nat.le_refl _)
   have HSS : Hid (SrcR sb B (K + 1 + 2 * (k : Int)) ((wv.setCell ⟨w.heap.size, 0, none⟩ (.int .i64 (ar : Int))).setCell ⟨w.heap.size, 1, none⟩ (.slice ga gn gc))) := ((HSR.out.tch (TchP.set (O := fun q => q = w.heap.size) rfl) (by omega) (by omega)).tch (TchP.set (O := fun q => q = w.heap.size) rfl) (by omega) (by omega)).mono (by omega)
   clear HB
   go_wp2_with fail
   refine bodyPost_ret (v := .agg #[.int .i64 (ar : Int), .slice ga gn gc]) (by simp [results, Tryz.results58, go_sem, g0, g1]) rfl ⟨.slice ga gn gc, (ar : Int), R, w.heap.size + 2, rfl, hIa, by omega, by rw [size_set, size_set]; omega, HFF.out, by omega, ⟨HOK.out, rfl⟩, HSS.out, HTT.out⟩
theorem l01DrawnN_any (w : World) {sb B : Nat} {K s : Int} {ar N : Nat} (h : SrcR sb B K w) (hK0 : 0 ≤ K) (hK : K ≤ 100000000) (hs : 1 ≤ s ∧ s ≤ 4) (har : 1 ≤ ar ∧ ar ≤ 4) (hN : s ^ ar = (N : Int)) :
  Calls Tryz.prog 58 #[.pointer (some ⟨sb, 0, none⟩), .int .i64 s, .int .i64 ar] w (DrR sb B (K + 1 + 2 * N) s ar w) :=
 (l01DrawnB_any w h hK0 hK hs har hN).mono fun e w' ⟨v, n, T, b0, h1, h2, h3, h4, h5, h6, h7, h8, h9⟩ => ⟨[.int .i64 n, v], (n, T), h1, (fr_cons h2 (h5.fr (by unfold capMax; omega))).mono h3, h7.1, h7.2, h8, h9⟩
theorem l01Drawn_any (w : World) {sb B : Nat} {K s : Int} {ar : Nat} (h : SrcR sb B K w) (hK0 : 0 ≤ K) (hK : K ≤ 100000000) (hs : 1 ≤ s ∧ s ≤ 4) (har : 1 ≤ ar ∧ ar ≤ 2) :
  Calls Tryz.prog 58 #[.pointer (some ⟨sb, 0, none⟩), .int .i64 s, .int .i64 ar] w (DrR sb B (K + 33) s ar w) := by
 obtain ⟨N, hN⟩ : ∃ N : Nat, s ^ ar = (N : Int) := ⟨(s ^ ar).toNat, by have h0 : 0 < s ^ ar := Int.pow_pos (by omega); omega⟩
 have hNb : N ≤ 16 := by
  have h1 := pow_mono' (s := s) (c := 4) (by omega) (by omega) ar
  rcases (show ar = 1 ∨ ar = 2 by omega) with e | e <;> subst e <;> simp at h1 <;> omega
 exact (l01DrawnN_any w h hK0 hK hs ⟨har.1, by omega⟩ hN).mono fun e w' ⟨cs, r, h1, h2, h3, h4, h5, h6⟩ => ⟨cs, r, h1, h2, h3, h4, h5.mono (by omega), h6⟩
end Go.Proofs.YtggelmbnliajeaaGreatDoor
namespace Go.Proofs.YtggelmbnliajeaaGreatDoor
open Go.RowKit Go.Sort
end Go.Proofs.YtggelmbnliajeaaGreatDoor
namespace Go.Proofs.YtggelmbnliajeaaGreatDoor
open Go.RowKit Go.Sort
/-- new data that avoid a block -/
def FrA {α : Type} (E : Ty α) (g base : Nat) (w : World) (cs : List Value) (x : α) : Prop := ∃ fp, E.rd w cs x fp ∧ fp.Nodup ∧ (∀ b ∈ fp, base ≤ b) ∧ Unf w fp ∧ g ∉ fp
section
variable {α : Type} {E : Ty α} {g base : Nat} {w w' : World} {cs : List Value} {x : α}
theorem FrA.fr (h : FrA E g base w cs x) : E.Fr base w cs x := let ⟨fp, h1, h2, h3, h4, _⟩ := h; ⟨fp, h1, h2, h3, h4⟩
theorem FrA.lo (h : E.Fr base w cs x) (hg : g < base) : FrA E g base w cs x := let ⟨fp, h1, h2, h3, h4⟩ := h; ⟨fp, h1, h2, h3, h4, fun hm => by have := h3 g hm; omega⟩
theorem FrA.hi (h : E.Fr base w cs x) (hg : w.heap.size ≤ g) : FrA E g base w cs x := let ⟨fp, h1, h2, h3, h4⟩ := h; ⟨fp, h1, h2, h3, h4, fun hm => by have := E.lt h1 g hm; omega⟩
theorem FrA.same (h : FrA E g base w cs x) (hs : ∀ k, k < w.heap.size → k ≠ g → w'.heap[k]? = w.heap[k]?) : FrA E g base w' cs x := by
 obtain ⟨fp, h1, h2, h3, h4, h5⟩ := h
 have hs' : Same fp w w' := fun k hk => hs k (E.lt h1 k hk) (fun e => h5 (e ▸ hk))
 exact ⟨fp, E.same h1 hs', h2, h3, h4.same hs', h5⟩
theorem FrA.set (h : FrA E g base w cs x) {i : Nat} {u : Value} : FrA E g base (w.setCell ⟨g, i, none⟩ u) cs x := h.same (fun k _ hn => Below.heap_setCell _ _ _ _ (fun e => hn (by simpa using e)))
theorem FrA.below (h : FrA E g base w cs x) (hb : Below w.heap.size w w') : FrA E g base w' cs x := h.same (fun k hk _ => hb.block k hk)
theorem FrA.mono {base' : Nat} (h : FrA E g base w cs x) (hb : base' ≤ base) : FrA E g base' w cs x := let ⟨fp, h1, h2, h3, h4, h5⟩ := h; ⟨fp, h1, h2, fun b hm => Nat.le_trans hb (h3 b hm), h4, h5⟩
end
end Go.Proofs.YtggelmbnliajeaaGreatDoor
namespace Go.Proofs.YtggelmbnliajeaaGreatDoor
open Go.RowKit Go.Sort
theorem tabOf_succ {s : Int} {ar k : Nat} {g : List Int → Int} : tabOf s ar (k + 1) g = tabOf s ar k g ++ [g (digL s k ar)] := by simp [tabOf, List.range_succ]
set_option maxHeartbeats 1600000 in
set_option maxRecDepth 100000 in
theorem l02Projection_any (w : World) {s : Int} {ar N p : Nat} (hs : 1 ≤ s ∧ s ≤ 4) (har : 1 ≤ ar ∧ ar ≤ 3) (hN : s ^ ar = N) (hp : p < ar) :
  Calls Tryz.prog 86 #[.int .i64 s, .int .i64 ar, .int .i64 p] w (RetA opT w ((ar : Int), projT s ar N p)) := by
 have HN := Lib.hid hN
 have hNb : N ≤ 64 := by
  have h1 := pow_mono' (s := s) (c := 4) (by omega) (by omega) ar
  rcases (show ar = 1 ∨ ar = 2 ∨ ar = 3 by omega) with e | e | e <;> subst e <;> simp at h1 <;> omega
 clear hN
 go_enter Tryz.func86, Tryz.ntmps86
 go_wp2_with fail
 generalize hW : World.alloc (World.alloc w _) _ = W
 have hbW : Below w.heap.size w W := hW ▸ bAA
 have hsW : w.heap.size + 2 ≤ W.heap.size := by rw [← hW]; simp
 have r0 : W.cell? ⟨w.heap.size, 0, none⟩ = some (.int .i64 0) := by rw [← hW]; simp [go_sem]
 have r1 : W.cell? ⟨w.heap.size, 1, none⟩ = some (.slice none 0 0) := by rw [← hW]; simp [go_sem]
 have q0 : W.frozen? ⟨w.heap.size, 0, none⟩ = false := by rw [← hW]; simp [go_sem]
 have q1 : W.frozen? ⟨w.heap.size, 1, none⟩ = false := by rw [← hW]; simp [go_sem]
 have c0 : W.cell? ⟨w.heap.size + 1, 0, none⟩ = some (.int .i64 (ar : Int)) := by rw [← hW]; simp [go_sem]
 have c1 : W.cell? ⟨w.heap.size + 1, 1, none⟩ = some (.slice none 0 0) := by rw [← hW]; simp [go_sem]
 have m1 : W.frozen? ⟨w.heap.size + 1, 1, none⟩ = false := by rw [← hW]; simp [go_sem]
 have HRQ := Lib.hid (And.intro r0 (And.intro r1 (And.intro q0 q1)))
 clear hW r0 r1 q0 q1
 go_loopw [8] (fun i wr => ∃ (k : Nat) (va : Value), k ≤ N ∧ i = .int .i64 k ∧ Bl Ty.int 2 (w.heap.size + 2) wr.heap.size wr va (projT s ar k p) ∧ wr.cell? ⟨w.heap.size + 1, 0, none⟩ = some (.int .i64 (ar : Int)) ∧ wr.cell? ⟨w.heap.size + 1, 1, none⟩ = some va ∧ wr.frozen? ⟨w.heap.size + 1, 1, none⟩ = false ∧ Below w.heap.size w wr ∧ (∀ i, wr.cell? ⟨w.heap.size, i, none⟩ = W.cell? ⟨w.heap.size, i, none⟩ ∧ wr.frozen? ⟨w.heap.size, i, none⟩ = W.frozen? ⟨w.heap.size, i, none⟩)) (fun i _ => N - (intOf i).toNat)
 case atStart => exact ⟨0, _, Nat.zero_le _, rfl, Bl.nil, c0, c1, m1, hbW, fun i => ⟨rfl, rfl⟩⟩
 case round =>
  clear c0 c1 m1
  obtain ⟨k, va, hk, rfl, hBa, c0, c1, m1, hbv, hrq⟩ := hrel
  have HB := Lib.hid hBa
  have HRE := Lib.hid hrq
  have hw2 : w.heap.size + 1 < wr.heap.size := cell_lt c0
  have hRl : (projT s ar k p).length = k := tabOf_len
  obtain ⟨ga, gn, gc, rfl⟩ := ex_slice (hBa.fr (by unfold capMax; omega))
  obtain ⟨wv, rfl⟩ : ∃ wv : World, wv = wr := ⟨_, rfl⟩
  clear hBa hrq
  by_cases hkl : k < N
  ·go_wp2_with (go_at_call 94; refine (l01Power_any _ s (ar : Int) (by omega) (by omega) (by omega)).mono ?_; rintro e w' ⟨rfl, rfl⟩; rw [Int.toNat_natCast, HN.out])
   refine wp_region_T (fun w' => w'.cell? ⟨w.heap.size + 1, 1, none⟩ = some (.slice ga gn gc)) [10] (by kernel_rfl) c1 (fun hHeld => ?_)
   refine wpAnyT_take (i := 0) (v := ?_) rfl (by kernel_rfl) (fun _ _ _ h => h) (Or.inl ⟨by rfl, ?_⟩) (by assumption) ?_
   rotate_left
   ·(intro w hSw; (try dsimp only at hSw); go_simp <;> with_reducible rfl)
   go_simp
   refine wpAnyT_take (i := 1) (v := ?_) rfl (by kernel_rfl) (fun _ _ _ h => h) (Or.inl ⟨by rfl, ?_⟩) (by assumption) ?_
   rotate_left
   ·(intro w hSw; (try dsimp only at hSw); go_simp <;> with_reducible rfl)
   go_simp
   refine wpAnyT_take (i := 2) (v := ?_) rfl (by kernel_rfl) (fun _ _ _ h => h) (Or.inl ⟨by rfl, ?_⟩) (by assumption) ?_
   rotate_left
   ·(intro w hSw; (try dsimp only at hSw); go_simp <;> with_reducible rfl)
   go_simp
   refine wpAnyT_take (i := 3) (v := ?_) rfl (by kernel_rfl) (fun _ _ _ h => h) (Or.inl ⟨by rfl, ?_⟩) (by assumption) ?_
   rotate_left
   ·(intro w hSw; (try dsimp only at hSw); go_simp <;> with_reducible rfl)
   go_simp
   refine wpAnyT_take (i := 4) (v := ?_) rfl (by kernel_rfl) (fun _ _ _ h => h) (Or.inl ⟨by rfl, ?_⟩) (by assumption) ?_
   rotate_left
   ·(intro w hSw; (try dsimp only at hSw); go_simp <;> with_reducible rfl)
   go_simp
   refine wpAnyT_take (i := 6) (v := ?_) rfl (by kernel_rfl) (fun _ _ _ h => h) (Or.inl ⟨by rfl, ?_⟩) (by assumption) ?_
   rotate_left
   ·(intro w hSw; (try dsimp only at hSw); go_simp <;> with_reducible rfl)
   go_simp
   refine wpAnyT_one (i := 5) rfl (by kernel_rfl) (fun K hK => ?_)
   go_simp
   go_at_call 95
   refine (l01Digits_any _ s (k : Int) ar (by omega) (by omega) (by omega) (by omega) (by omega)).mono ?_
   rintro e w5 ⟨dv, rfl, hdf, hb5⟩
   have hpl : p < (digL s (k : Int) ar).length := by rw [digL_len]; exact hp
   obtain ⟨ad, cd, hv, -, -, hce⟩ := ints_ex hdf.rd
   obtain rfl : dv = _ := by simpa using hv
   obtain ⟨db, dO, rfl, hdb, hce⟩ := hce (by omega)
   have d0 := (hce p hpl).2
   have HSC : Hid (projT s ar (k + 1) p = projT s ar k p ++ [(digL s (k : Int) ar).getD p 0]) := tabOf_succ
   have hx : (digL s (k : Int) ar).getD p 0 = (digL s (k : Int) ar)[p] := by rw [List.getD_eq_getElem?_getD, List.getElem?_eq_getElem hpl]; rfl
   have hI := (hce p hpl).1
   have hlen := digL_len (s := s) (idx := (k : Int)) (n := ar)
   rw [← hx] at d0 hI
   clear hdf hce hx
   generalize (digL s (k : Int) ar).length = nd at hpl hlen ⊢
   obtain rfl : nd = ar := hlen
   generalize hgx : (digL s (k : Int) nd).getD p 0 = x at d0 hI HSC
   clear hgx
   have hb5' : Below wv.heap.size wv w5 := bthen bD hb5
   have hz5 := hb5'.size
   replace c0 := (cellB hb5' (show w.heap.size + 1 < wv.heap.size by omega)).trans c0
   replace c1 := (cellB hb5' (show w.heap.size + 1 < wv.heap.size by omega)).trans c1
   replace m1 := (frozenB hb5' (show w.heap.size + 1 < wv.heap.size by omega)).trans m1
   clear hb5
   dsimp only
   refine hK.out _ _ c1 (fun hHeld => ?_)
   clear hK K
   refine wpAnyT_take (i := 7) (v := ?_) rfl (by kernel_rfl) (fun _ _ _ h => h) (Or.inl ⟨by rfl, ?_⟩) (by assumption) ?_
   rotate_left
   ·(intro w hSw; (try dsimp only at hSw); go_simp <;> with_reducible rfl)
   go_simp
   refine wpAnyT_one (i := 8) rfl (by kernel_rfl) (fun K hK => ?_)
   go_simp
   refine hK.out _ _ c1 (fun hHeld => ?_)
   clear hK K
   refine wpAnyT_one (i := 9) rfl (by kernel_rfl) (fun K hK => ?_)
   go_simp
   refine hK.out _ _ (by go_keep) (fun hHeld => ?_)
   clear hK K
   refine wpAnyT_last (i := 10) rfl (by kernel_rfl) (by kernel_rfl) (fun K hK => ?_)
   refine step_push (E := Ty.int) _ rfl _ _ 42 2 rfl elInt rfl (HB.out.below (hb5'.alloc hz5 _) (Nat.le_refl _)) rfl news1 (fr_int hI) (by omega) (by decide) (by omega) (by first | (simp; done) | (simp; omega)) ?_
   intro v6 w6 hB6 hg6 _
   obtain ⟨xa, xn, xc, rfl⟩ := ex_slice (hB6.fr (by rw [List.length_append]; unfold capMax; simp; omega))
   have hb6 : RowKit.Below (w.heap.size + 2) wv w6 := ((hb5'.alloc hz5 _).mono (by omega)).grown hg6 (by first | (simp; done) | (simp; omega)) (fun q hq => HB.out.own hq)
   have hb56 : RowKit.Below (w.heap.size + 2) w5 w6 := ((Below.refl _ w5).alloc (by omega) _).grown hg6 (by first | (simp; done) | (simp; omega)) (fun q hq => HB.out.own hq)
   rw [← HSC.out] at hB6
   have HB6 := Lib.hid hB6
   replace c0 := (cellB hb56 (by omega)).trans c0
   replace c1 := (cellB hb56 (by omega)).trans c1
   replace m1 := (frozenB hb56 (by omega)).trans m1
   have HR6 : Hid (∀ i, w6.cell? ⟨w.heap.size, i, none⟩ = W.cell? ⟨w.heap.size, i, none⟩ ∧ w6.frozen? ⟨w.heap.size, i, none⟩ = W.frozen? ⟨w.heap.size, i, none⟩) := fun i => ⟨(cellB hb6 (by omega)).trans (HRE.out i).1, (frozenB hb6 (by omega)).trans (HRE.out i).2⟩
   have HT6 := Lib.hid (hbv.trans (hb6.mono (by omega)))
   clear hB6 hg6 hb6 hb56
   refine hK.out _ _ ?_
   clear hK K
   refine wpAnyT_any (i := 11) (v := ?_) rfl (by kernel_rfl) (fun _ _ _ h => h) (Or.inl ⟨by rfl, ?_⟩) (by first | exact fun _ => by assumption | (intro hp; exact absurd hp (by rw [show pastB _ _ = true by kernel_rfl]; simp))) ?_
   rotate_left
   ·(intro w hSw; (try dsimp only at hSw); go_simp <;> with_reducible rfl)
   try simp only [Act.put]
   refine wpAnyT_last (i := 12) rfl (by kernel_rfl) (by kernel_rfl) (fun K hK => ?_)
   go_simp
   refine hK.out _ _ ?_
   clear hK K
   refine wpAnyT_done (by kernel_rfl) ?_ _
   go_simp
   go_wp2_with fail
   go_roundw
   case rel => exact ⟨k + 1, _, by omega, by go_num, by rw [size_set]; exact HB6.out.sameB (fun q h1 h2 => Below.heap_setCell _ _ _ _ (by simp; omega)), (World.cell?_setCell_other _ _ _ _ (by simp)).trans c0, World.cell?_setCell_same _ _ _ c1, (World.frozen?_setCell _ _ _ _).trans m1, HT6.out.setCell (by simp) _, fun i => ⟨(World.cell?_setCell_other _ _ _ _ (by simp)).trans (HR6.out i).1, (World.frozen?_setCell _ _ _ _).trans (HR6.out i).2⟩⟩
   case measure => simp [intOf]; omega
  ·obtain rfl : k = N := by omega
   have r0 := (HRE.out 0).1.trans HRQ.out.1
   have r1 := (HRE.out 1).1.trans HRQ.out.2.1
   have q0 := (HRE.out 0).2.trans HRQ.out.2.2.1
   have q1 := (HRE.out 1).2.trans HRQ.out.2.2.2
   have hw0 : w.heap.size < wv.heap.size := by omega
   have HFR := Lib.hid (HB.out.fr (by unfold capMax; omega))
   have hIa : I64 (ar : Int) := I64.small (by omega) (by omega)
   obtain ⟨g0, g1⟩ := set2_cells (x := .int .i64 (ar : Int)) (y := .slice ga gn gc) r0 r1
   have HFF : Hid (opT.Fr w.heap.size ((wv.setCell ⟨w.heap.size, 0, none⟩ (.int .i64 (ar : Int))).setCell ⟨w.heap.size, 1, none⟩ (.slice ga gn gc)) [.int .i64 (ar : Int), .slice ga gn gc] ((ar : Int), projT s ar k p)) := fr_cons hIa (((HFR.out.set (by simp)).set (by simp)).mono (by omega))
   have HBB : Hid (Below w.heap.size w ((wv.setCell ⟨w.heap.size, 0, none⟩ (.int .i64 (ar : Int))).setCell ⟨w.heap.size, 1, none⟩ (.slice ga gn gc))) := (hbv.setCell (Nat.le_refl _) _).setCell (Nat.le_refl _) _
   clear HB HFR
   go_wp2_with (go_at_call 94; refine (l01Power_any _ s (ar : Int) (by omega) (by omega) (by omega)).mono ?_; rintro e w' ⟨rfl, rfl⟩; rw [Int.toNat_natCast, HN.out])
   refine bodyPost_ret (v := .agg #[.int .i64 (ar : Int), .slice ga gn gc]) (by simp [results, Tryz.results86, go_sem, g0, g1]) rfl ⟨[.int .i64 (ar : Int), .slice ga gn gc], rfl, HFF.out, HBB.out⟩
end Go.Proofs.YtggelmbnliajeaaGreatDoor
