/-
  Contracts: whether an operation breaks a relation, the program's.
-/
import Derived.Test.YtigclobkmocfkaaK29
namespace Go.Proofs.Ytigclobkmocfkaa
open Go.RowKit Go.Sort
/-- what broken hands back: nil in the second place just if the relation is kept -/
def BrkR (b : Bool) (e : Ending) : Prop := ∃ a o m, e = .returned (.tuple #[a, .slice o m m]) ∧ (b = true → o = none ∧ m = 0) ∧ (b = false → ∃ g : Nat, o = some ⟨g, 0, none⟩)
theorem BrkR.yes {b : Bool} {a : Value} (h : b = true) : BrkR b (.returned (.tuple #[a, .slice none 0 0])) := ⟨a, none, 0, rfl, fun _ => ⟨rfl, rfl⟩, (fun h' => by rw [h] at h'; cases h')⟩
theorem BrkR.no {b : Bool} {a : Value} {g m : Nat} (h : b = false) : BrkR b (.returned (.tuple #[a, .slice (some ⟨g, 0, none⟩) m m])) := ⟨a, _, m, rfl, (fun h' => by rw [h] at h'; cases h'), fun _ => ⟨g, rfl⟩⟩
theorem fr_block {α : Type} {E : Ty α} {base : Nat} {w : World} {b o n cap : Nat} {xs : List α} (h : (Ty.slice E).Fr base w [.slice (some ⟨b, o, none⟩) n cap] xs) (h0 : 0 < xs.length) : base ≤ b := by
  obtain ⟨fp, ⟨ad, c, hv, -, -, h3⟩, -, h4, -⟩ := h
  rcases h3 with ⟨h3, _⟩ | ⟨_, b', o', fps, rfl, _, rfl, _⟩
  · omega
  · simp only [List.cons.injEq, Value.slice.injEq, Option.some.injEq, Addr.mk.injEq, and_true] at hv
    rw [hv.1.1]
    exact h4 b' (List.mem_cons_self ..)
set_option maxHeartbeats 3200000 in
set_option maxRecDepth 100000 in
theorem broken_any (w : World) {cs cs' : Array Value} {f : Int × List Int} {r : Int × List (List Int)} (hf : opT.Rd w cs.toList f) (hr : relT.Rd w cs'.toList r) {s : Int} (h1 : relOk s r) (h2 : opOk s f) :
    Calls Try.prog 213 #[.int .i64 s, .agg cs, .agg cs'] w fun e w' => BrkR (tb (keepsP s f r)) e ∧ Below w.heap.size w w' := by
  have hf' := hf
  obtain ⟨u, hv, -, hfx⟩ := pair_ex hf
  obtain rfl := agg_of hv
  obtain ⟨fad, fcap, rfl⟩ := rd_slice hfx
  obtain ⟨u', hv', -, hx⟩ := pair_ex hr
  obtain rfl := agg_of hv'
  obtain ⟨rad, rcap, rfl⟩ := rd_slice hx
  obtain ⟨_, _, e1, -, -, hcell⟩ := slices_ex hx
  simp only [List.cons.injEq, Value.slice.injEq, and_true, true_and] at e1
  obtain ⟨rfl, rfl⟩ := e1
  have hs := h1.1
  have ha := h2.2.1
  have hm := h1.2.1
  unfold sizeOk at hs hm
  obtain ⟨hln, hN256⟩ := rel_len_le h1
  obtain ⟨ar, har⟩ : ∃ ar : Nat, f.1 = ar := ⟨f.1.toNat, by omega⟩
  obtain ⟨N, hN⟩ : ∃ N : Nat, s ^ r.1.toNat = N := ⟨(s ^ r.1.toNat).toNat, by have := pow_nn (s := s) (by omega) r.1.toNat; omega⟩
  obtain ⟨M, hM⟩ : ∃ M : Nat, (r.2.length : Int) ^ f.1.toNat = M := ⟨((r.2.length : Int) ^ f.1.toNat).toNat, by have := pow_nn (s := (r.2.length : Int)) (by omega) f.1.toNat; omega⟩
  rw [har] at hf'
  have HF0 := Lib.hid hf'
  have hMle : (M : Int) ≤ 1000000000000000 := by rw [← hM]; exact pow_le (by omega) (by omega) (by omega)
  have har3 : 1 ≤ ar ∧ ar ≤ 3 := by omega
  have hln2 : r.2.length ≤ 256 := by omega
  have hN2 : N ≤ 256 := by omega
  have hl0 : M ≠ 0 → 0 < r.2.length := fun h => by
    rcases Nat.eq_zero_or_pos r.2.length with h0 | h0
    · rw [h0, show f.1.toNat = (f.1.toNat - 1) + 1 by omega, Int.pow_succ] at hM
      simp at hM
      omega
    · exact h0
  have HM : Hid ((r.2.length : Int) ^ ((ar : Int)).toNat = M) := by unfold Hid; rw [← har]; exact hM
  have HM2 := Lib.hid hM
  have HN := Lib.hid hN
  have HR := Lib.hid h1
  have HF := Lib.hid h2
  have HAR := Lib.hid har
  have HC := Lib.hid hcell
  have q0 : 1 ≤ s ∧ s ≤ 4 := hs
  have q1 : r.1.toNat ≤ 4 := by omega
  have q2 : 0 ≤ r.1 ∧ r.1 ≤ 5 := by omega
  clear hf hf' hr hfx hx hcell h1 h2 hln hN256 hN hM hv hv' hs ha hm
  go_enter Try.func213, Try.ntmps213
  rw [HAR.out]
  go_wp2_with fail
  refine (power_any _ s r.1 (by omega) (by omega) (by omega)).mono ?_
  rintro e _ ⟨rfl, rfl⟩
  rw [HN.out]
  cases hfull : ((r.2.length : Int) == (N : Int))
  rotate_left
  · have HK : Hid (tb (keepsP s f r) = true) := tb_true (keeps_full HR.out HF.out (by rw [HN.out]; simpa using hfull))
    go_wp2_with fail
    go_ret2
    exact ⟨BrkR.yes HK.out, (by repeat (first | exact Below.refl _ _ | exact bA | assumption | refine Below.setCell ?_ (by first | omega | (simp; try omega)) _ | refine Below.alloc ?_ (by first | omega | (simp; try omega)) _ | refine Below.drew ?_ | refine bDN ?_ | refine bthen ?_ (by assumption)))⟩
  · go_wp2_with fail
    refine (power_any _ s r.1 (by omega) (by omega) (by omega)).mono ?_
    rintro e _ ⟨rfl, rfl⟩
    rw [HN.out]
    generalize hW : (w.alloc _).alloc _ = W
    have hbW : Below w.heap.size w W := hW ▸ bAA
    have hsW : w.heap.size + 2 ≤ W.heap.size := by rw [← hW]; simp
    have X0 : W.cell? ⟨w.heap.size, 0, none⟩ = some (.int .i64 (ar : Int)) := by rw [← hW]; simp
    have X1 : W.cell? ⟨w.heap.size, 1, none⟩ = some (.slice fad f.2.length fcap) := by rw [← hW]; simp
    have Y0 : W.cell? ⟨w.heap.size + 1, 0, none⟩ = some (.int .i64 r.1) := by rw [← hW]; simp
    have Y1 : W.cell? ⟨w.heap.size + 1, 1, none⟩ = some (.slice rad r.2.length rcap) := by rw [← hW]; simp
    clear hW
    go_wp2_with (refine wpList_mkB _ rfl _ _ 229 4 rfl Try.underlying229 infoBool w.heap.size N rfl rfl (by omega) (by decide) (by omega) ?_; intro w1 hA hg1 hs1; have hbg := below_of_grown hg1; have y1 := (hbg.cell (p := ⟨w.heap.size + 1, 1, none⟩) hsW).trans Y1)
    have hb1 : Below w.heap.size w w1 := hbW.trans (hbg.mono (by omega))
    have x0 := (hbg.cell (p := ⟨w.heap.size, 0, none⟩) (by simp; omega)).trans X0
    have x1 := (hbg.cell (p := ⟨w.heap.size, 1, none⟩) (by simp; omega)).trans X1
    have y0 := (hbg.cell (p := ⟨w.heap.size + 1, 0, none⟩) hsW).trans Y0
    have HA := Lib.hid hA
    clear hg1 hA X0 X1 Y0 Y1
    go_loopw [34] (fun i wr => ∃ k : Nat, k ≤ r.2.length ∧ i = .int .i64 k ∧ BR 4 w.heap.size wr W.heap.size N N (seenL s N (r.2.take k)) ∧ Below W.heap.size w1 wr) (fun i _ => r.2.length - (intOf i).toNat)
    case atStart => exact ⟨0, Nat.zero_le _, rfl, by rw [List.take_zero, seenL_nil]; exact HA.out, Below.refl _ _⟩
    case round =>
      obtain ⟨k, hk, rfl, hBR, hbel⟩ := hrel
      have HB := Lib.hid hBR
      clear hBR HA
      have hbw : Below w.heap.size w wr := hb1.trans (hbel.mono (by omega))
      have hzr := hbel.size
      by_cases hkl : k < r.2.length
      · obtain ⟨a, q, rfl, haa, hce⟩ := HC.out (by omega)
        obtain ⟨u, hu, hcu⟩ := hce k hkl
        obtain ⟨ua, un, uc, rfl⟩ := rd_sl hu
        have d2 := (hbw.cell haa).trans hcu
        obtain ⟨t1, t2⟩ := (HR.out.2.2 k hkl).1
        have htl : (r.2[k]).length = r.1.toNat := by omega
        obtain ⟨i0, i1⟩ := idx_lt (s := s) (by omega) htl t2
        rw [HN.out] at i1
        obtain ⟨j, hj⟩ : ∃ j : Nat, idxL s 0 r.2[k] = j := ⟨(idxL s 0 r.2[k]).toNat, by omega⟩
        have hjN : j < N := by omega
        have e0 := HB.out.cell (j := j) (by rw [seenL_len]; exact hjN)
        have e1 := HB.out.free j
        have HST := Lib.hid (seenL_set hkl hj hjN)
        have HBS := Lib.hid (HB.out.set j true)
        have HU := Lib.hid (hu.below hbw)
        have HT2 := Lib.hid t2
        have HJ := Lib.hid hj
        have hlen5 : (r.2[k]).length ≤ 5 := by omega
        clear hce hu hcu t1 t2 htl hj i0 i1
        go_wp2_with fail
        refine (indexOf_any _ s HU.out q0.1 (by omega) hlen5 HT2.out).mono ?_
        rintro e _ ⟨rfl, rfl⟩
        rw [HJ.out]
        go_wp2_with fail
        go_roundw
        case rel => exact ⟨k + 1, by omega, by go_num, by rw [← HST.out]; exact HBS.out, hbel.setCell (Nat.le_refl _) _⟩
        case measure => simp [intOf]; omega
      · obtain rfl : k = r.2.length := by omega
        rw [List.take_length] at HB
        obtain ⟨w2, rfl⟩ : ∃ w2 : World, w2 = wr := ⟨_, rfl⟩
        have z0 := (hbel.cell (p := ⟨w.heap.size, 0, none⟩) (by simp; omega)).trans x0
        have z1 := (hbel.cell (p := ⟨w.heap.size, 1, none⟩) (by simp; omega)).trans x1
        have z2 := (hbel.cell (p := ⟨w.heap.size + 1, 1, none⟩) hsW).trans y1
        have hz2 : W.heap.size + 1 ≤ w2.heap.size := HB.out.lt
        clear x0 x1 y0 y1 hbel hb1 hbW
        go_wp2_with fail
        refine (power_any _ (r.2.length : Int) (ar : Int) (by omega) (by omega) (by omega)).mono ?_
        rintro e _ ⟨rfl, rfl⟩
        rw [HM.out]
        go_wp2_with fail
        go_loopw [48] (fun i wr => ∃ k : Nat, k ≤ M ∧ i = .int .i64 k ∧ keptTo s f r k ∧ Below w2.heap.size w2 wr) (fun i _ => M - (intOf i).toNat)
        case atStart => exact ⟨0, Nat.zero_le _, rfl, keptTo_zero, Below.refl _ _⟩
        case round =>
          obtain ⟨k, hk, rfl, hkt, hbel⟩ := hrel
          have HKT := Lib.hid hkt
          have hz3 := hbel.size
          have d0 := (hbel.cell (p := ⟨w.heap.size, 0, none⟩) (by simp; omega)).trans z0
          clear hkt
          by_cases hkl : k < M
          · have h0 : 0 < r.2.length := hl0 (by omega)
            obtain ⟨w3, rfl⟩ : ∃ w3 : World, w3 = wr := ⟨_, rfl⟩
            have hl3 : w.heap.size < w3.heap.size := by omega
            go_wp2_with fail
            refine (listOf_any _ (r.2.length : Int) (k : Int) ar (by omega) (by omega) (by omega) (by omega) (by omega)).mono ?_
            rintro e w4 ⟨u, rfl, hfr, hb4⟩
            obtain ⟨dad, dcap, hdv, -, -, hdc⟩ := ints_ex hfr.rd
            obtain rfl : u = _ := by simpa using hdv
            obtain ⟨db, dof, rfl, hdb, hdce⟩ := hdc (by rw [digL_len]; omega)
            rw [digL_len]
            have hdbl := fr_block hfr (by rw [digL_len]; omega)
            have hdbl2 : w3.heap.size < db := by have := hdbl; simp at this; omega
            have HDC := Lib.hid hdce
            have hb34 : Below w3.heap.size w3 w4 := bthen bA hb4
            have hbw4 : Below w.heap.size w w4 := bthen hbw (bthen hbel hb34)
            have hz4 : w3.heap.size + 1 ≤ w4.heap.size := by have := hb4.size; simp at this; omega
            have hBl0 : Bl Ty.val 25 w3.heap.size w4.heap.size w4 (.slice (some ⟨w3.heap.size, 0, none⟩) 0 0) [] := ((Bl.lit0 (E := Ty.val) (e := 25) (w := w3) (Nat.le_refl _)).below (B := w3.heap.size + 1) (by simpa using hb4) (Nat.le_refl _)).mono hz4
            have HBL0 := Lib.hid hBl0
            clear hdv hdc hdce hfr d0 hBl0 hdbl
            go_wp2_with fail
            go_loopw [58, 13] (fun i q wr => ∃ (j : Nat) (vs : List Value), j ≤ ar ∧ i = .int .i64 j ∧ vs.length = j ∧ picked w vs (picks r.2 ar k) ∧ Bl Ty.val 25 w3.heap.size wr.heap.size wr q vs ∧ Below w3.heap.size w3 wr ∧ (q.ownBlock ≠ some db ∧ wr.heap[db]? = w4.heap[db]? ∧ w4.heap.size ≤ wr.heap.size)) (fun i _ _ => ar - (intOf i).toNat)
            case atStart => exact ⟨0, [], Nat.zero_le _, rfl, rfl, picked_nil, HBL0.out, hb34, by simp [Value.ownBlock]; omega, rfl, Nat.le_refl _⟩
            case round =>
              obtain ⟨j, vs, hj, rfl, hvl, hpk, hBl, hb5, hdg⟩ := hrel
              have HB2 := Lib.hid hBl
              have HVL := Lib.hid hvl
              have HPK := Lib.hid hpk
              have HDG := Lib.hid hdg
              have hb25 : Below w2.heap.size w2 wr := bthen hbel hb5
              have hbw5 : Below w.heap.size w wr := bthen hbw hb25
              have hz5 := hb5.size
              have hl5 : w.heap.size < wr.heap.size := by omega
              clear hBl hvl hpk hdg
              by_cases hjl : j < ar
              · have hjd : j < (digL (r.2.length : Int) k ar).length := by rw [digL_len]; exact hjl
                have hdm := dig_mem (n := (r.2.length : Int)) (i := (k : Int)) (ar := ar) (by omega) (List.getElem_mem hjd)
                obtain ⟨dn, hdn⟩ : ∃ dn : Nat, (digL (r.2.length : Int) k ar)[j] = (dn : Int) := ⟨((digL (r.2.length : Int) k ar)[j]).toNat, by omega⟩
                have hdl : dn < r.2.length := by omega
                have e0 := (World.cell?_of_block (a := ⟨db, dof + j, none⟩) HDG.out.2.1).trans (HDC.out j hjd).2
                rw [hdn] at e0
                obtain ⟨tb0, to0, rfl, htb, hte⟩ := HC.out h0
                obtain ⟨u, hu, hcu⟩ := hte dn hdl
                obtain ⟨ua, un, uc, rfl⟩ := rd_sl hu
                have e1 := (hb25.cell (p := ⟨w.heap.size + 1, 1, none⟩) (by simp; omega)).trans z2
                have e2 := (hbw5.cell htb).trans hcu
                have HPN : Hid (picked w (vs ++ [.slice ua un uc]) (picks r.2 ar k)) := by
                  have hl : j < (picks r.2 ar k).length := by rw [picks_len]; exact hjl
                  have hg := picks_get hjd hdn hdl hl
                  have hv := HVL.out
                  subst hv
                  exact picked_snoc HPK.out hl (by rw [hg]; exact hu)
                have hvj : vs.length ≤ 1000000000 := by rw [HVL.out]; omega
                clear hdm hdn hte hu hcu
                go_wp2_with (refine wpList_push (E := Ty.val) _ rfl _ _ 83 25 rfl elInt64SS rfl (HB2.out.below bA (Nat.le_refl _)) rfl news1 (fr_val rfl) hvj (by decide) hz5 (by simp) ?_; intro v1 w6 hB6 hg6 ho6)
                have hbel6 : Below w3.heap.size w3 w6 := (hb5.alloc hb5.size _).grown hg6 (by simp; omega) (fun k hk => HB2.out.own hk)
                have HB6 := Lib.hid hB6
                have HDN : Hid (v1.ownBlock ≠ some db ∧ w6.heap[db]? = w4.heap[db]? ∧ w4.heap.size ≤ w6.heap.size) := by
                  obtain ⟨n1, n2, n3⟩ := HDG.out
                  have hz6 := hg6.size
                  simp only [World.size_alloc] at hz6
                  refine ⟨?_, ?_, by omega⟩
                  · rcases ho6 with e | e <;> rw [e]
                    · exact n1
                    · intro h; simp at h; omega
                  · rw [hg6.block db (by simp; omega) (fun h => n1 h.symm), ← n2]
                    exact (bA (w := wr)).block db (by omega)
                clear hB6 ho6 hg6
                go_wp2_with fail
                go_roundw
                case rel => exact ⟨j + 1, _, by omega, by go_num, by rw [List.length_append, HVL.out]; rfl, HPN.out, HB6.out, hbel6, HDN.out⟩
                case measure => simp [intOf]; omega
              · obtain rfl : j = ar := by omega
                obtain ⟨wl, rfl⟩ : ∃ wl : World, wl = wr := ⟨_, rfl⟩
                have hfv := HB2.out.fr (by rw [HVL.out]; unfold capMax; omega)
                have HLR := Lib.hid (rows_of_vals hfv.rd (by rw [HVL.out, picks_len]) (fun i h h' => (HPK.out.2 i h h').below hbw5))
                obtain ⟨la, ln, lc, hq⟩ := ex_slice hfv
                subst hq
                have HTO := Lib.hid (picks_ok HR.out HF.out h0 (k : Int))
                rw [show f.1.toNat = j by rw [HAR.out]; omega] at HTO
                have a0 := (hb25.cell (p := ⟨w.heap.size, 0, none⟩) (by simp; omega)).trans z0
                have a1 := (hb25.cell (p := ⟨w.heap.size, 1, none⟩) (by simp; omega)).trans z1
                obtain ⟨rm, hrm⟩ : ∃ rm, r.1.toNat = rm := ⟨_, rfl⟩
                have HRM := Lib.hid hrm
                rw [hrm] at q1 HTO
                clear hfv hrm
                go_wp2_with fail
                refine (made_any _ (HF0.out.below hbw5) HLR.out HF.out HTO.out (by omega)).mono ?_
                rintro e w6 ⟨g, rfl, hft, hb6⟩
                have hbw6 : Below w.heap.size w w6 := bthen hbw5 hb6
                have HTR := Lib.hid hft.rd
                have HMK : Hid (madeL s f.2 (picks r.2 j k) rm = makes s f r k) := by unfold Hid; rw [makes, ← HRM.out, show f.1.toNat = j by rw [HAR.out]; omega]
                rw [HMK.out] at HTR
                obtain ⟨g1, g2⟩ := makes_in HR.out HF.out h0 (k : Int)
                obtain ⟨i0, i1⟩ := idx_lt (s := s) q0.1 g1 g2
                rw [HN.out] at i1
                obtain ⟨jj, hjj⟩ : ∃ jj : Nat, idxL s 0 (makes s f r k) = jj := ⟨(idxL s 0 (makes s f r k)).toNat, by omega⟩
                have hjN : jj < N := by omega
                have hb26 : Below w2.heap.size w2 w6 := bthen hb25 hb6
                have HB6 := HB.out.below hb26 (by omega)
                have t0 := HB6.cell (j := jj) (by rw [seenL_len]; exact hjN)
                have HG := Lib.hid (seenL_get (s := s) (N := N) (ts := r.2) q0.1 (m := r.1.toNat) (fun t ht => by obtain ⟨i, hi, rfl⟩ := List.mem_iff_getElem.1 ht; obtain ⟨a1, a2⟩ := (HR.out.2.2 i hi).1; exact ⟨by omega, a2⟩) g1 g2 hjj (by rw [seenL_len]; exact hjN))
                rw [HG.out] at t0
                have HJJ := Lib.hid hjj
                have HG1 : Hid ((makes s f r k).length ≤ 5) := by unfold Hid; rw [g1, HRM.out]; omega
                have HG2 := Lib.hid g2
                clear HB6 HG hft i0 i1 g1 g2 hjj
                cases hin : tb (makes s f r k ∈ r.2)
                · have HE : Hid (tb (keepsP s f r) = false) := tb_false (keepsP_not HM2.out hkl (fun hh => by rw [tb_true hh] at hin; cases hin))
                  rw [hin] at t0
                  clear hin
                  go_wp2_with fail
                  refine (indexOf_any _ s HTR.out q0.1 (by omega) HG1.out HG2.out).mono ?_
                  rintro e _ ⟨rfl, rfl⟩
                  rw [HJJ.out]
                  go_wp2_with fail
                  go_ret2
                  exact ⟨BrkR.no HE.out, hbw6⟩
                · have HKN := Lib.hid (keptTo_succ HKT.out (tb_iff.1 hin))
                  rw [hin] at t0
                  clear hin
                  go_wp2_with fail
                  refine (indexOf_any _ s HTR.out q0.1 (by omega) HG1.out HG2.out).mono ?_
                  rintro e _ ⟨rfl, rfl⟩
                  rw [HJJ.out]
                  go_wp2_with fail
                  go_roundw
                  case rel => exact ⟨k + 1, by omega, by go_num, HKN.out, hb26⟩
                  case measure => simp [intOf]; omega
          · obtain rfl : k = M := by omega
            have HE : Hid (tb (keepsP s f r) = true) := tb_true (keepsP_of HM2.out HKT.out)
            go_wp2_with fail
            go_ret2
            exact ⟨BrkR.yes HE.out, bthen hbw hbel⟩
set_option maxHeartbeats 800000 in
theorem keeps_any (w : World) {cs cs' : Array Value} {f : Int × List Int} {r : Int × List (List Int)} (hf : opT.Rd w cs.toList f) (hr : relT.Rd w cs'.toList r) {s : Int} (h1 : relOk s r) (h2 : opOk s f) :
    Calls Try.prog 163 #[.int .i64 s, .agg cs, .agg cs'] w fun e w' => e = .returned (.bool (tb (keepsP s f r))) ∧ Below w.heap.size w w' := by
  have HF0 := Lib.hid hf
  have HR0 := Lib.hid hr
  have HR := Lib.hid h1
  have HF := Lib.hid h2
  obtain ⟨u, hv, -, -⟩ := pair_ex hf
  obtain rfl := agg_of hv
  obtain ⟨u', hv', -, -⟩ := pair_ex hr
  obtain rfl := agg_of hv'
  have hnil := fun w o m => Lib.run_eql_slice_nil (P := Try.prog) w 25 2 o m m 0 0 Try.underlying25
  clear hf hr h1 h2 hv hv'
  go_enter Try.func163, Try.ntmps163
  go_wp2_with fail
  refine (broken_any _ (HF0.out.below (by repeat (first | exact Below.refl _ _ | exact bA | assumption | refine Below.setCell ?_ (by first | omega | (simp; try omega)) _ | refine Below.alloc ?_ (by first | omega | (simp; try omega)) _ | refine Below.drew ?_ | refine bDN ?_ | refine bthen ?_ (by assumption)))) (HR0.out.below (by repeat (first | exact Below.refl _ _ | exact bA | assumption | refine Below.setCell ?_ (by first | omega | (simp; try omega)) _ | refine Below.alloc ?_ (by first | omega | (simp; try omega)) _ | refine Below.drew ?_ | refine bDN ?_ | refine bthen ?_ (by assumption)))) HR.out HF.out).mono ?_
  rintro e w1 ⟨⟨a, o, m, rfl, hy, hn⟩, hb1⟩
  cases hk : tb (keepsP s f r)
  · obtain ⟨g, rfl⟩ := hn hk
    clear hy hn
    go_wp2_with fail
    go_ret
    exact ⟨ret_bool hk.symm, bthen (by repeat (first | exact Below.refl _ _ | exact bA | assumption | refine Below.setCell ?_ (by first | omega | (simp; try omega)) _ | refine Below.alloc ?_ (by first | omega | (simp; try omega)) _ | refine Below.drew ?_ | refine bDN ?_ | refine bthen ?_ (by assumption))) hb1⟩
  · obtain ⟨rfl, rfl⟩ := hy hk
    clear hy hn
    go_wp2_with fail
    go_ret
    exact ⟨ret_bool hk.symm, bthen (by repeat (first | exact Below.refl _ _ | exact bA | assumption | refine Below.setCell ?_ (by first | omega | (simp; try omega)) _ | refine Below.alloc ?_ (by first | omega | (simp; try omega)) _ | refine Below.drew ?_ | refine bDN ?_ | refine bthen ?_ (by assumption))) hb1⟩
end Go.Proofs.Ytigclobkmocfkaa
