/-
Contracts: the hull of tuples, the reference's.
Contracts: the hull of tuples, the program's.
Contracts: the hull of tuples, whole, both sides.
The marks of the laws: mark writes numbers from k on into all memory of a datum, held finds them there.
-/
import Derived.Test.YtccobadobklbpaaQBC
import Derived.Test.YtccobadobklbpaaQAC
import Derived.Test.YtccobadobklbpaaQAD
namespace Go.Proofs.Ytccobadobklbpaa
open Go.RowKit Go.Sort
theorem srch_c3 {s : Nat} {okT : List Int → Bool} {fx : List Int} : ∀ (m : Nat) (vals : List Int) (r : FR), (r.1 = 0 ∨ r.1 = 7 ∨ r.1 = -1) → ((srch s okT fx (fun _ => -1) m vals r).1 = 0 ∨ (srch s okT fx (fun _ => -1) m vals r).1 = 7 ∨ (srch s okT fx (fun _ => -1) m vals r).1 = -1)
  | 0, vals, r, _ => .inr (.inr rfl)
  | m + 1, vals, r, h => by
    have key : ∀ (l : List Nat) (q : FR), (q.1 = 0 ∨ q.1 = 7 ∨ q.1 = -1) → ((l.foldl (stepA (srch s okT fx (fun _ => -1) m) okT fx vals) q).1 = 0 ∨ (l.foldl (stepA (srch s okT fx (fun _ => -1) m) okT fx vals) q).1 = 7 ∨ (l.foldl (stepA (srch s okT fx (fun _ => -1) m) okT fx vals) q).1 = -1) := by
      intro l
      induction l with
      | nil => exact fun q h => h
      | cons a l ih =>
        intro q hq
        rw [List.foldl_cons]
        refine ih _ ?_
        by_cases h0 : q.1 = 0
        · cases h1 : skipB fx vals.length a
          · by_cases h2 : q.2.1 = 6000
            · rw [step_bud h0 h1 h2]; exact .inr (.inl rfl)
            · cases h3 : okT (vals ++ [(a : Int)])
              · rw [step_no h0 h1 h2 h3]; exact .inl rfl
              · rw [step_yes h0 h1 h2 h3]; exact srch_c3 m _ _ (.inl rfl)
          · rw [step_skip h1]; exact hq
        · rw [step_stop h0]; exact hq
    exact key _ r h
theorem phC_cases (t : Tpl) (ar : Int) (ls : List (List Int)) (vs : List Int) : phC t ar ls vs = 0 ∨ phC t ar ls vs = 4 ∨ phC t ar ls vs = 6 ∨ phC t ar ls vs = 7 := by
  unfold phC
  cases wF t ar ls vs with
  | none => exact .inr (.inl rfl)
  | some f =>
    show foC (polyF t ar f fun _ => -1) = 0 ∨ foC (polyF t ar f fun _ => -1) = 4 ∨ foC (polyF t ar f fun _ => -1) = 6 ∨ foC (polyF t ar f fun _ => -1) = 7
    rcases srch_c3 (s := t.1.toNat) (okT := okF t ar) (fx := f) (tabL t ar) [] (0, 0, []) (.inl rfl) with h | h | h
    · exact .inr (.inr (.inl (fo_0 (ar := ar) (R := polyF t ar f fun _ => -1) h).2))
    · exact .inr (.inr (.inr (fo_7 (ar := ar) (R := polyF t ar f fun _ => -1) h).2))
    · refine .inl ?_
      have h' : (polyF t ar f fun _ => -1).1 = -1 := h
      simp [foC, h']
theorem TchP.thenB {O : Nat → Prop} {w w' w'' : World} (h : TchP O w w') (hb : Below w.heap.size w' w'') : TchP O w w'' := ⟨hb.os.trans h.os, hb.tape.trans h.tape, hb.output.trans h.output, Nat.le_trans h.size hb.size, fun k hk hn => (hb.block k hk).trans (h.block k hk hn)⟩
theorem fr_rel0 {base : Nat} {w : World} : relT.Fr base w [.int .i64 0, .slice none 0 0] (0, []) := fr_cons (I64.small (by omega) (by omega)) fr_nil
set_option maxHeartbeats 6400000 in
set_option maxRecDepth 100000 in
theorem l04Hull_any (w : World) {vt v : Value} {t : Tpl} {u : List (List Int)} (h : tplT.Pt w vt t) (hu : rowsT.Rd w [v] u) (hc : huC t u = 0) :
    Calls Try.prog 59 #[vt, v] w (RetAC relT w (hlV t u) (hlC t u)) := by
  have HP := Lib.hid h
  have HU := Lib.hid hu
  obtain ⟨hT, hul, hm, hml, hmi⟩ := hu_ok hc
  have HT := Lib.hid hT
  have HML := Lib.hid hml
  have HMI := Lib.hid hmi
  have hs4 := hT.1
  unfold sizeOk at hs4
  have hNb := hulN_bd (u := u) hT hm
  have HN := Lib.hid (hulN_of (u := u) hT)
  have HIN := Lib.hid (cols_in hml hmi)
  obtain ⟨tq, tf, ra, rc, rfl, htq, -, p0, p1, -⟩ := pt_pair h
  obtain ⟨la, lc, hv, -, -, hcell⟩ := slices_ex hu
  obtain rfl : v = _ := by simpa using hv
  have h0 : 0 < u.length := by omega
  obtain ⟨b, o, rfl, hb, hce⟩ := hcell h0
  obtain ⟨ux, hux, hc0⟩ := hce 0 h0
  obtain ⟨a0, k0, rfl⟩ := rd_slice hux
  rw [← huM_at h0, Nat.add_zero] at hc0
  have e0 : ∀ x, (w.alloc x).cell? ⟨b, o, none⟩ = some (.slice a0 (huM u) k0) := fun x => (cellB bA hb).trans hc0
  clear h hu hc hT hml hmi hv hcell hce hux
  go_enter Try.func59, Try.ntmps59
  go_wp2_with fail
  generalize hW : World.alloc w _ = W
  have hbW : Below w.heap.size w W := hW ▸ bA
  have hsW : w.heap.size + 1 ≤ W.heap.size := by rw [← hW]; simp
  have r0 : W.cell? ⟨w.heap.size, 0, none⟩ = some (.int .i64 0) := by rw [← hW]; simp [go_sem]
  have r1 : W.cell? ⟨w.heap.size, 1, none⟩ = some (.slice none 0 0) := by rw [← hW]; simp [go_sem]
  have q0 : W.frozen? ⟨w.heap.size, 0, none⟩ = false := by rw [← hW]; simp [go_sem]
  have q1 : W.frozen? ⟨w.heap.size, 1, none⟩ = false := by rw [← hW]; simp [go_sem]
  clear hW e0
  refine (l04Lists_any W (HU.out.below hbW) h0 (by omega) HML.out (by omega)).mono ?_
  rintro e w2 ⟨lv, rfl, hlf, hb2⟩
  have HLF := Lib.hid (rdP_lt (fr_rdP hlf))
  have hB2 := bthen hbW hb2
  have hz2 := hb2.size
  replace r0 := (cellB hb2 (by omega)).trans r0
  replace r1 := (cellB hb2 (by omega)).trans r1
  replace q0 := (frozenB hb2 (by omega)).trans q0
  replace q1 := (frozenB hb2 (by omega)).trans q1
  clear hlf
  go_wp2_with fail
  generalize hW3 : World.alloc w2 _ = w3
  have hb3 : Below w2.heap.size w2 w3 := hW3 ▸ bA
  have hB3 := bthen hB2 hb3
  obtain ⟨ob, hob⟩ : ∃ ob, w2.heap.size = ob := ⟨_, rfl⟩
  have hz3 : ob + 1 ≤ w3.heap.size := by rw [← hW3, ← hob]; simp
  have o0 : w3.cell? ⟨ob, 0, none⟩ = some (.int .i64 (huM u : Int)) := by rw [← hW3, ← hob]; simp
  have o1 : w3.cell? ⟨ob, 1, none⟩ = some (.slice none 0 0) := by rw [← hW3, ← hob]; simp
  have n1 : w3.frozen? ⟨ob, 1, none⟩ = false := by rw [← hW3, ← hob]; simp
  replace r0 := (cellB hb3 (by omega)).trans r0
  replace r1 := (cellB hb3 (by omega)).trans r1
  replace q0 := (frozenB hb3 (by omega)).trans q0
  replace q1 := (frozenB hb3 (by omega)).trans q1
  have HL3 := Lib.hid ((HLF.out.below hb3).mono (ok' := fun k => k ≠ ob) (fun k _ hk => by have := hk.2; omega))
  clear hW3 HLF
  rw [hob]
  have hwo : w.heap.size + 1 ≤ ob := by omega
  clear hz2 hsW
  go_loopw [9] (fun i wr => ∃ (k : Nat) (va : Value), k ≤ hulN t u ∧ i = .int .i64 k ∧ (limF t u.length = true → k = 0) ∧ hulB t u k = false ∧ Bl intsT 26 w3.heap.size wr.heap.size wr va (hulR t u k) ∧ wr.cell? ⟨ob, 1, none⟩ = some va ∧ wr.cell? ⟨ob, 0, none⟩ = some (.int .i64 (huM u : Int)) ∧ wr.frozen? ⟨ob, 1, none⟩ = false ∧ TchP (fun k => k = ob) w3 wr) (fun i _ => hulN t u - (intOf i).toNat)
  case atStart => exact ⟨0, _, Nat.zero_le _, rfl, fun _ => rfl, by simp [hulB], by rw [hulR_zero]; exact Bl.nil, o1, o0, n1, TchP.refl _ _⟩
  case round =>
    obtain ⟨k, va, hk, rfl, hlm, hbd, hBv, z1, z0, zn, htc⟩ := hrel
    have HBv := Lib.hid hBv
    have HTC := Lib.hid htc
    have HBD := Lib.hid hbd
    have hzr := htc.size
    have hBr : Below w.heap.size w wr := hB3.trans (htc.below (by omega) (fun q hq e => by omega))
    have c0 := (cellB hBr htq).trans p0
    have x0 := (htc.cell (i := 0) (show w.heap.size < w3.heap.size by omega) (by omega)).trans r0
    have x1 := (htc.cell (i := 1) (show w.heap.size < w3.heap.size by omega) (by omega)).trans r1
    have y0 := (htc.frozen (i := 0) (show w.heap.size < w3.heap.size by omega) (by omega)).trans q0
    have y1 := (htc.frozen (i := 1) (show w.heap.size < w3.heap.size by omega) (by omega)).trans q1
    have hrl := hulR_len (t := t) (u := u) (k := k)
    obtain ⟨av, nv, cv, rfl⟩ := ex_slice (hBv.fr (by unfold capMax; omega))
    have HLV := Lib.hid (HL3.out.tchP htc (fun q _ h e => h e))
    clear hBv htc hbd o0 o1 n1
    obtain ⟨wv, rfl⟩ : ∃ wv : World, wv = wr := ⟨_, rfl⟩
    go_wp2_with fail
    refine (l01Power_any _ t.1 (huM u : Int) (by omega) (by omega) (by omega)).mono ?_
    rintro e _ ⟨rfl, rfl⟩
    rw [Int.toNat_natCast, HN.out]
    by_cases hkl : k < hulN t u
    · go_wp2_with fail
      refine (l01Digits_any wv t.1 (k : Int) (huM u) (by omega) (by omega) (by omega) (by omega) (by omega)).mono ?_
      rintro e w4 ⟨dv, rfl, hdf, hb4⟩
      obtain ⟨ad, nd, cd, rfl⟩ := ex_slice hdf
      have HD := Lib.hid (show intsT.Fr wv.heap.size w4 [.slice ad nd cd] (hulD t u k) from hdf)
      have hB4 := bthen hBr hb4
      have hz4 := hb4.size
      replace c0 := (cellB hb4 (by omega)).trans c0
      replace x0 := (cellB hb4 (by omega)).trans x0
      replace x1 := (cellB hb4 (by omega)).trans x1
      replace z0 := (cellB hb4 (by omega)).trans z0
      replace z1 := (cellB hb4 (by omega)).trans z1
      replace y0 := (frozenB hb4 (by omega)).trans y0
      replace y1 := (frozenB hb4 (by omega)).trans y1
      replace zn := (frozenB hb4 (by omega)).trans zn
      clear hdf
      go_wp2_with fail
      refine (l04With_any w4 (HP.out.below hB4) (HLV.out.rd.below hb4) HD.out.rd HT.out (ar := (u.length : Int)) (by omega) HIN.out (by rw [colsL_len, hulD_len]) (hulD_in (by omega)) (by rw [colsL_len]; omega)).mono ?_
      rintro e w5 ⟨cs5, rfl, hf5, hb5⟩
      obtain ⟨a5, c5, rfl⟩ := fr_pair hf5
      have hB5 := bthen hB4 hb5
      have hz5 := hb5.size
      replace c0 := (cellB hb5 (by omega)).trans c0
      replace x0 := (cellB hb5 (by omega)).trans x0
      replace x1 := (cellB hb5 (by omega)).trans x1
      replace z0 := (cellB hb5 (by omega)).trans z0
      replace z1 := (cellB hb5 (by omega)).trans z1
      replace y0 := (frozenB hb5 (by omega)).trans y0
      replace y1 := (frozenB hb5 (by omega)).trans y1
      replace zn := (frozenB hb5 (by omega)).trans zn
      have HD5 := Lib.hid (HD.out.below hb5)
      clear hf5 HD
      generalize hV : lwV t (u.length : Int) (colsL u (huM u)) (hulD t u k) = V
      generalize hC : lwC t (u.length : Int) (colsL u (huM u)) (hulD t u k) = C
      have x0' : ∀ q, (w5.alloc q).cell? ⟨w.heap.size, 0, none⟩ = some (.int .i64 0) := fun q => (cellB bA (show w.heap.size < w5.heap.size by omega)).trans x0
      have x1' : ∀ q, (w5.alloc q).cell? ⟨w.heap.size, 1, none⟩ = some (.slice none 0 0) := fun q => (cellB bA (show w.heap.size < w5.heap.size by omega)).trans x1
      have y0' : ∀ q, (w5.alloc q).frozen? ⟨w.heap.size, 0, none⟩ = false := fun q => (frozenB bA (show w.heap.size < w5.heap.size by omega)).trans y0
      have y1' : ∀ q, (w5.alloc q).frozen? ⟨w.heap.size, 1, none⟩ = false := fun q => (frozenB bA (show w.heap.size < w5.heap.size by omega)).trans y1
      have z1' : ∀ q, (w5.alloc q).cell? ⟨ob, 1, none⟩ = some (.slice av nv cv) := fun q => (cellB bA (show ob < w5.heap.size by omega)).trans z1
      clear hV
      cases hl : limF t u.length
      · have HLM := Lib.hid hl
        have hP : C = phC t (u.length : Int) (colsL u (huM u)) (hulD t u k) := by
          rw [← hC]
          exact (lw_ph (by rw [Int.toNat_natCast]; exact hl)).2
        have hcs := phC_cases t (u.length : Int) (colsL u (huM u)) (hulD t u k)
        rw [← hP] at hcs
        clear hl hC
        rcases hcs with hc | hc | hc | hc
        · have hyes : hulP t u (hulD t u k) = true := by unfold hulP; rw [← hP, hc]; rfl
          have hnx : hulX t u (hulD t u k) = false := by unfold hulX; rw [← hP, hc]; rfl
          have HYR := Lib.hid (hulR_yes hyes)
          have HNB := Lib.hid (hulB_no HBD.out hnx)
          subst hc
          clear hyes hnx hP
          have hbop : Below wv.heap.size wv w5 := bthen hb4 hb5
          go_wp2_with (at_builtin; go_loud (refine wpList_push (E := intsT) _ rfl _ _ 25 26 rfl elInt64SS rfl (HBv.out.below ((hbop.alloc hbop.size _).alloc (by simp; omega) _) (Nat.le_refl _)) rfl (news1' (by simp)) (HD5.out.below (bthen (bA (w := w5)) bA)) (by omega) (by decide) (by omega) (by first | (simp; done) | (simp; omega)) ?_; intro v6 w6 hB6 hg6 _; obtain ⟨a6, n6, c6, rfl⟩ := ex_slice (hB6.fr (by rw [List.length_append]; unfold capMax; simp only [List.length_singleton]; omega)); have hb6 : Below w3.heap.size w5 w6 := (((Below.refl _ w5).alloc (by omega) _).alloc (by simp; omega) _).grown hg6 (by first | (simp; done) | (simp; omega)) (fun q hq => HBv.out.own hq); have i1 := (cellB hb6 (by omega)).trans z1; have i0 := (cellB hb6 (by omega)).trans z0; have i2 := (frozenB hb6 (by omega)).trans zn))
          have hz6 := hb6.size
          rw [HYR.out] at hB6
          have HB6 := Lib.hid hB6
          clear hB6 hg6
          go_wp2_with fail
          go_roundw
          case rel => exact ⟨k + 1, _, by omega, by go_num, (fun h => by rw [HLM.out] at h; cases h), HNB.out, by rw [size_set]; exact HB6.out.sameB (fun q hq1 hq2 => Below.heap_setCell _ _ _ _ (by simp; omega)), World.cell?_setCell_same _ _ _ i1, (World.cell?_setCell_other _ _ _ _ (by simp)).trans i0, (World.frozen?_setCell _ _ _ _).trans i2, (HTC.out.thenB ((hbop.mono (by omega)).trans hb6)).then (TchP.set (O := fun q => q = ob) rfl) (fun q _ h => h)⟩
          case measure => simp [intOf]; omega
        · have hno : hulP t u (hulD t u k) = false := by unfold hulP; rw [← hP, hc]; rfl
          have hnx : hulX t u (hulD t u k) = false := by unfold hulX; rw [← hP, hc]; rfl
          have HNR := Lib.hid (hulR_no hno)
          have HNB := Lib.hid (hulB_no HBD.out hnx)
          subst hc
          clear hno hnx hP
          go_wp2_with fail
          generalize hW6 : World.alloc w5 _ = w6
          have hb6 : Below w5.heap.size w5 w6 := hW6 ▸ bA
          have hb46 : Below wv.heap.size wv w6 := bthen (bthen hb4 hb5) hb6
          have hz6 := hb6.size
          replace z0 := (cellB hb6 (by omega)).trans z0
          replace z1 := (cellB hb6 (by omega)).trans z1
          replace zn := (frozenB hb6 (by omega)).trans zn
          clear hW6
          go_wp2_with fail
          go_roundw
          case rel => exact ⟨k + 1, _, by omega, by go_num, (fun h => by rw [HLM.out] at h; cases h), HNB.out, by rw [← HNR.out]; exact (HBv.out.below hb46 (Nat.le_refl _)).mono (by omega), z1, z0, zn, HTC.out.thenB (hb46.mono (by omega))⟩
          case measure => simp [intOf]; omega
        · have hno : hulP t u (hulD t u k) = false := by unfold hulP; rw [← hP, hc]; rfl
          have hnx : hulX t u (hulD t u k) = false := by unfold hulX; rw [← hP, hc]; rfl
          have HNR := Lib.hid (hulR_no hno)
          have HNB := Lib.hid (hulB_no HBD.out hnx)
          subst hc
          clear hno hnx hP
          go_wp2_with fail
          generalize hW6 : World.alloc w5 _ = w6
          have hb6 : Below w5.heap.size w5 w6 := hW6 ▸ bA
          have hb46 : Below wv.heap.size wv w6 := bthen (bthen hb4 hb5) hb6
          have hz6 := hb6.size
          replace z0 := (cellB hb6 (by omega)).trans z0
          replace z1 := (cellB hb6 (by omega)).trans z1
          replace zn := (frozenB hb6 (by omega)).trans zn
          clear hW6
          go_wp2_with fail
          go_roundw
          case rel => exact ⟨k + 1, _, by omega, by go_num, (fun h => by rw [HLM.out] at h; cases h), HNB.out, by rw [← HNR.out]; exact (HBv.out.below hb46 (Nat.le_refl _)).mono (by omega), z1, z0, zn, HTC.out.thenB (hb46.mono (by omega))⟩
          case measure => simp [intOf]; omega
        · have hbx : hulB t u (hulN t u) = true := hulB_yes (by unfold hulX; rw [← hP, hc]; rfl) hkl
          subst hc
          clear hP
          have HR := Lib.hid (hl_bad HLM.out hbx)
          have HZ0 := Lib.hid (fun (x y : Value) => res2_0 (x := x) (y := y) (x0' (.cells #[.int .i64 V.1, .slice a5 V.2.length c5] 30)))
          have HZ1 := Lib.hid (fun (x y : Value) => res2_1 (x := x) (y := y) (x1' (.cells #[.int .i64 V.1, .slice a5 V.2.length c5] 30)))
          go_wp2_with fail
          refine bodyPost_ret (v := .tuple #[.agg #[.int .i64 0, .slice none 0 0], .int .i64 7]) (by simp [results, Try.results59, go_sem, HZ0.out, HZ1.out]) rfl ⟨[.int .i64 0, .slice none 0 0], by rw [HR.out.1], ?_, res2_b (hB5.alloc (by omega) _) (by omega)⟩
          rw [HR.out.2.1]
          exact fr_rel0
      · obtain rfl : k = 0 := hlm hl
        have h3 := lw_zero (u := u) hl
        rw [hC] at h3
        subst h3
        clear hC
        have HR := Lib.hid (hl_lim hl)
        have HZ0 := Lib.hid (fun (x y : Value) => res2_0 (x := x) (y := y) (x0' (.cells #[.int .i64 V.1, .slice a5 V.2.length c5] 30)))
        have HZ1 := Lib.hid (fun (x y : Value) => res2_1 (x := x) (y := y) (x1' (.cells #[.int .i64 V.1, .slice a5 V.2.length c5] 30)))
        go_wp2_with fail
        refine bodyPost_ret (v := .tuple #[.agg #[.int .i64 0, .slice none 0 0], .int .i64 3]) (by simp [results, Try.results59, go_sem, HZ0.out, HZ1.out]) rfl ⟨[.int .i64 0, .slice none 0 0], by rw [HR.out.1], ?_, res2_b (hB5.alloc (by omega) _) (by omega)⟩
        rw [HR.out.2.1]
        exact fr_rel0
    · obtain rfl : k = hulN t u := by omega
      have HLM : Hid (limF t u.length = false) := by
        unfold Hid
        cases h : limF t u.length
        · rfl
        · have := hlm h; omega
      have HR := Lib.hid (hl_ok HLM.out HBD.out)
      have HFB := Lib.hid (HBv.out.fr (by unfold capMax; omega))
      have HZ0 := Lib.hid (fun (x y : Value) => res2_0 (x := x) (y := y) x0)
      have HZ1 := Lib.hid (fun (x y : Value) => res2_1 (x := x) (y := y) x1)
      have hlw : w.heap.size < wv.heap.size := by omega
      have how : ob < wv.heap.size := by omega
      go_wp2_with fail
      refine bodyPost_ret (v := .tuple #[.agg #[.int .i64 (huM u : Int), .slice av nv cv], .int .i64 0]) (by simp [results, Try.results59, go_sem, HZ0.out, HZ1.out]) rfl ⟨[.int .i64 (huM u : Int), .slice av nv cv], by rw [HR.out.1], ?_, res2_b hBr (by omega)⟩
      rw [HR.out.2.1]
      exact (fr_cons (I64.small (by omega) (by omega)) ((HFB.out.set (a := ⟨w.heap.size, 0, none⟩) (show w.heap.size < w3.heap.size by omega)).set (a := ⟨w.heap.size, 1, none⟩) (show w.heap.size < w3.heap.size by omega))).mono (by omega)
end Go.Proofs.Ytccobadobklbpaa
namespace Go.Proofs.Ytccobadobklbpaa
open Go.RowKit Go.Sort
/-- a hull, the operations by which its tuples are found, a code -/
def HuR (w : World) (x : Int × List (List Int)) (os : List (Int × List Int)) (c : Int) (e : Ending) (w' : World) : Prop :=
  ∃ (cs : List Value) (u : Value), e = .returned (.tuple #[.agg cs.toArray, u, .int .i64 c]) ∧ relT.Fr w.heap.size w' cs x ∧ opsT.Rd w' [u] os ∧ Below w.heap.size w w'
theorem relL_all {s : Int} {m N : Nat} : relL s m (fun _ => true) N = (List.range N).map fun i : Nat => digL s i m := by simp [relL]
theorem fr_on2 {α : Type} {E : Ty α} {O : Nat → Prop} {base : Nat} {w w' : World} {cs : List Value} {x : α} (h : E.Fr base w cs x) (hs : ∀ k, base ≤ k → k < w.heap.size → w'.heap[k]? = w.heap[k]?) (hO : ∀ k, base ≤ k → k < w.heap.size → O k) : (E.on O).Fr base w' cs x := by
  obtain ⟨fp, h1, h2, h3, h4⟩ := h
  have hlt := E.lt h1
  have hS : Same fp w w' := fun k hk => hs k (h3 k hk) (hlt k hk)
  exact ⟨fp, ⟨E.same h1 hS, fun k hk => hO k (h3 k hk) (hlt k hk)⟩, h2, h3, h4.same hS⟩
theorem fr_on2' {α : Type} {E : Ty α} {base : Nat} {w : World} {o : Obj} {cs : List Value} {x : α} (h : E.Fr base w cs x) : E.Fr base (w.alloc o) cs x := h.below bA
theorem hul_same {OB : Nat → Prop} {wv w6 w7 : World} {o1 o2 : Obj} {row : Option Nat} {ob : Nat} {x : Value} (hz : wv.heap.size ≤ w6.heap.size) (hob : ob < wv.heap.size) (hg7 : ((w6.alloc o1).alloc o2).grownBy w7 row) (hOB : ∀ q, OB q → q ≠ ob ∧ q < wv.heap.size) (hrow : ∀ g, row = some g → ¬ OB g ∧ g < wv.heap.size) :
    ∀ q, OB q ∨ (wv.heap.size ≤ q ∧ q < w6.heap.size) → (w7.setCell ⟨ob, 1, none⟩ x).heap[q]? = w6.heap[q]? := fun q hq => by
  have h1 : q ≠ ob ∧ q < w6.heap.size ∧ row ≠ some q := by
    rcases hq with hq | hq
    · have := hOB q hq
      exact ⟨this.1, by omega, fun e => (hrow q e).1 hq⟩
    · exact ⟨by omega, hq.2, fun e => by have := (hrow q e).2; omega⟩
  refine (Below.heap_setCell _ _ _ _ (by simpa using h1.1)).trans ((hg7.block q (by simp; omega) (fun e => h1.2.2 e.symm)).trans ((bthen (bA (w := w6)) bA).block q h1.2.1))
theorem hul_own {v v' : Value} {n m top q : Nat} (hv : ∀ g, v.ownBlock = some g → g < n) (h : v'.ownBlock = v.ownBlock ∨ v'.ownBlock = some top) (ht : m ≤ top) (h1 : n ≤ q) (h2 : q < m) : v'.ownBlock ≠ some q := fun e => by
  rcases h with h | h
  · rw [h] at e; have := hv q e; omega
  · rw [h] at e; have := Option.some.inj e; omega
theorem frP_tail {α : Type} {E : Ty α} {base : Nat} {w : World} {x : Int} {v : Value} {xs : List α} (h : (Ty.cons (Ty.slice E)).Fr base w [.int .i64 x, v] (x, xs)) : (Ty.slice E).Fr base w [v] xs := by
  obtain ⟨fp, ⟨cs, he, -, hr⟩, h2, h3, h4⟩ := h
  obtain rfl : cs = [v] := by simpa using he.symm
  exact ⟨fp, hr, h2, h3, h4⟩
theorem pick_rows {t : Tpl} {u : List (List Int)} {N k : Nat} (hk : k ≤ N) : ((hulJ t u k).map fun j => (relL t.1 (huM u) (fun _ => true) N).getD j []) = hulR t u k := by
  unfold hulR
  refine List.map_congr_left fun j hj => ?_
  have hl := hulJ_lt hj
  rw [relL_all, List.getD_eq_getElem?_getD, List.getElem?_map, List.getElem?_range (by omega)]
  rfl
theorem fieldRel1 (w : World) (n : Int) (ad : Option Addr) (m c : Nat) : (Instr.field 48 (.agg #[.int .i64 n, .slice ad m c]) 1).run Try.prog w = .ok (.slice ad m c) w := by kernel_rfl
theorem elOp2 : ElT Try.prog 88 30 2 32 := .mk (z := .agg #[.int .i64 0, .slice none 0 0]) Try.underlying88 (by kernel_rfl) rfl (by decide)
set_option maxHeartbeats 6400000 in
set_option maxRecDepth 100000 in
theorem hullOf_any (w : World) {cs : Array Value} {v : Value} {t : Tpl} {u : List (List Int)} (h : tplT.Rd w cs.toList t) (hu : rowsT.Rd w [v] u) (hc : huC t u = 0) :
    Calls Try.prog 61 #[.agg cs, v] w (HuR w (hlV t u) (hlO t u) (hlC t u)) := by
  have HP := Lib.hid h
  have HU := Lib.hid hu
  obtain ⟨hT, hul, hm, hml, hmi⟩ := hu_ok hc
  have HT := Lib.hid hT
  have HML := Lib.hid hml
  have HMI := Lib.hid hmi
  have hs4 := hT.1
  unfold sizeOk at hs4
  have hNb := hulN_bd (u := u) hT hm
  have HN := Lib.hid (hulN_of (u := u) hT)
  have HIN := Lib.hid (cols_in hml hmi)
  obtain ⟨v1, hv1, -, -⟩ := pair_ex h
  obtain rfl := agg_of hv1
  obtain ⟨la, lc, hv, -, -, hcell⟩ := slices_ex hu
  obtain rfl : v = _ := by simpa using hv
  have h0 : 0 < u.length := by omega
  obtain ⟨b, o, rfl, hb, hce⟩ := hcell h0
  obtain ⟨ux, hux, hc0⟩ := hce 0 h0
  obtain ⟨a0, k0, rfl⟩ := rd_slice hux
  rw [← huM_at h0, Nat.add_zero] at hc0
  clear h hu hc hT hml hmi hv hcell hce hux hv1
  go_enter Try.func61, Try.ntmps61
  go_wp2_with fail
  generalize hW : World.alloc (World.alloc w _) _ = W
  have hbW : Below w.heap.size w W := hW ▸ bAA
  have hsW : w.heap.size + 2 ≤ W.heap.size := by rw [← hW]; simp
  have t0 : W.cell? ⟨w.heap.size, 0, none⟩ = some (.int .i64 t.1) := by rw [← hW]; simp [go_sem]
  have t1 : W.cell? ⟨w.heap.size, 1, none⟩ = some v1 := by rw [← hW]; simp [go_sem]
  have r0 : W.cell? ⟨w.heap.size + 1, 0, none⟩ = some (.int .i64 0) := by rw [← hW]; simp [go_sem]
  have r1 : W.cell? ⟨w.heap.size + 1, 1, none⟩ = some (.slice none 0 0) := by rw [← hW]; simp [go_sem]
  have q0 : W.frozen? ⟨w.heap.size + 1, 0, none⟩ = false := by rw [← hW]; simp [go_sem]
  have q1 : W.frozen? ⟨w.heap.size + 1, 1, none⟩ = false := by rw [← hW]; simp [go_sem]
  clear hW
  refine (manyLooks_any _ (HP.out.below hbW) HT.out (ar := (u.length : Int)) (by omega)).mono ?_
  rintro e w2 ⟨rfl, hb2⟩
  have hB2 := bthen hbW hb2
  have hz2 := hb2.size
  replace t0 := (cellB hb2 (by omega)).trans t0
  replace t1 := (cellB hb2 (by omega)).trans t1
  replace r0 := (cellB hb2 (by omega)).trans r0
  replace r1 := (cellB hb2 (by omega)).trans r1
  replace q0 := (frozenB hb2 (by omega)).trans q0
  replace q1 := (frozenB hb2 (by omega)).trans q1
  have c0 := (cellB hB2 hb).trans hc0
  have hl2 : w.heap.size + 1 < w2.heap.size := by omega
  rw [Int.toNat_natCast]
  have HLM : Hid (decide (4000 < sumL (minP u.length) t.2) = limF t u.length) := lim_min
  generalize sumL (minP u.length) t.2 = S at *
  cases hlm : decide (4000 < S)
  rotate_left
  · have HR := Lib.hid (hl_lim (u := u) (by rw [← HLM.out]; exact hlm))
    have HZ0 := Lib.hid (fun (x y : Value) => res2_0 (x := x) (y := y) r0)
    have HZ1 := Lib.hid (fun (x y : Value) => res2_1 (x := x) (y := y) r1)
    clear c0
    go_wp2_with fail
    refine bodyPost_ret (v := .tuple #[.agg #[.int .i64 0, .slice none 0 0], .slice none 0 0, .int .i64 3]) (by simp [results, Try.results61, go_sem, HZ0.out, HZ1.out]) rfl ⟨[.int .i64 0, .slice none 0 0], .slice none 0 0, by rw [HR.out.1], ?_, ?_, res2_b hB2 (by omega)⟩
    · rw [HR.out.2.1]; exact fr_rel0
    · rw [HR.out.2.2]; exact (fr_nil (base := 0)).rd
  have HLF : Hid (limF t u.length = false) := by unfold Hid; rw [← HLM.out]; exact hlm
  clear HLM
  have e0 : ∀ x, (w2.alloc x).cell? ⟨b, o, none⟩ = some (.slice a0 (huM u) k0) := fun x => (cellB bA (by omega)).trans c0
  go_wp2_with fail
  clear hlm e0
  generalize hW3 : World.alloc (World.alloc w2 _) _ = w3
  have hb3 : Below w2.heap.size w2 w3 := hW3 ▸ bAA
  have hB3 := bthen hB2 hb3
  obtain ⟨ob, hob⟩ : ∃ ob, w2.heap.size = ob := ⟨_, rfl⟩
  have hz3 : ob + 2 ≤ w3.heap.size := by rw [← hW3, ← hob]; simp
  have o0 : w3.cell? ⟨ob, 0, none⟩ = some (.int .i64 (huM u : Int)) := by rw [← hW3, ← hob]; simp [go_sem]
  have o1 : w3.cell? ⟨ob, 1, none⟩ = some (.slice none 0 0) := by rw [← hW3, ← hob]; simp [go_sem]
  have n1 : w3.frozen? ⟨ob, 1, none⟩ = false := by rw [← hW3, ← hob]; simp [go_sem]
  have HB0 : Hid (∀ O, Bl (opT.on O) 30 (ob + 1) w3.heap.size w3 (.slice (some ⟨ob + 1, 0, none⟩) 0 0) []) := fun O => by
    have h := Bl.lit0 (E := opT.on O) (e := 30) (base := ob + 1) (w := w2.alloc (.cells #[.int .i64 (huM u : Int), .slice none 0 0] 48)) (by simp; omega)
    rw [hW3] at h
    have e1 : (w2.alloc (.cells #[.int .i64 (huM u : Int), .slice none 0 0] 48)).heap.size = ob + 1 := by simp [hob]
    rw [e1] at h
    exact h.mono (by omega)
  replace t0 := (cellB hb3 (by omega)).trans t0
  replace t1 := (cellB hb3 (by omega)).trans t1
  replace r0 := (cellB hb3 (by omega)).trans r0
  replace r1 := (cellB hb3 (by omega)).trans r1
  replace q0 := (frozenB hb3 (by omega)).trans q0
  replace q1 := (frozenB hb3 (by omega)).trans q1
  clear hW3 c0
  rw [hob]
  have hwo : w.heap.size + 2 ≤ ob := by omega
  clear hz2 hsW hb2 hb3 hob hl2
  refine (columns_any w3 (HU.out.below hB3) h0 (by omega) HML.out (by omega)).mono ?_
  rintro e w4 ⟨lv, rfl, hlf, hb4⟩
  have HLF := Lib.hid (fr_rdP hlf)
  have hB4 := bthen hB3 hb4
  have hz4 := hb4.size
  replace t0 := (cellB hb4 (by omega)).trans t0
  replace t1 := (cellB hb4 (by omega)).trans t1
  replace r0 := (cellB hb4 (by omega)).trans r0
  replace r1 := (cellB hb4 (by omega)).trans r1
  replace o0 := (cellB hb4 (by omega)).trans o0
  replace o1 := (cellB hb4 (by omega)).trans o1
  replace q0 := (frozenB hb4 (by omega)).trans q0
  replace q1 := (frozenB hb4 (by omega)).trans q1
  replace n1 := (frozenB hb4 (by omega)).trans n1
  have HB4 : Hid (∀ O, Bl (opT.on O) 30 (ob + 1) w4.heap.size w4 (.slice (some ⟨ob + 1, 0, none⟩) 0 0) []) := fun O => ((HB0.out O).below hb4 (Nat.le_refl _)).mono hz4
  clear hlf HB0
  go_wp2_with fail
  refine (fullRel_any w4 t.1 (huM u) (by omega) (by omega) (hulN t u) HN.out).mono ?_
  rintro e w5 ⟨cs5, rfl, hf5, hb5⟩
  obtain ⟨ad5, cap5, rfl⟩ := fr_pair hf5
  have hfr := frP_tail hf5
  obtain ⟨VS, hVl, hVg, ⟨ad, cap, hvu, hVc⟩, hpk⟩ := fr_pick hfr
  simp only [Value.slice.injEq, true_and] at hvu
  obtain ⟨rfl, rfl⟩ := hvu
  have hrl : (relL t.1 (huM u) (fun _ => true) (hulN t u)).length = hulN t u := by rw [relL_all]; simp
  rw [hrl] at hVl hVc hpk ⊢
  have HPK := Lib.hid hpk
  have HVG := Lib.hid hVg
  obtain ⟨rb, ro, rfl, hrb, hrbl, hrc⟩ := hVc (by omega)
  have HRC := Lib.hid hrc
  have hB5 := bthen hB4 hb5
  have hz5 := hb5.size
  replace t0 := (cellB hb5 (by omega)).trans t0
  replace t1 := (cellB hb5 (by omega)).trans t1
  replace r0 := (cellB hb5 (by omega)).trans r0
  replace r1 := (cellB hb5 (by omega)).trans r1
  replace o0 := (cellB hb5 (by omega)).trans o0
  replace o1 := (cellB hb5 (by omega)).trans o1
  replace q0 := (frozenB hb5 (by omega)).trans q0
  replace q1 := (frozenB hb5 (by omega)).trans q1
  replace n1 := (frozenB hb5 (by omega)).trans n1
  have HB5 : Hid (∀ O, Bl (opT.on O) 30 (ob + 1) w5.heap.size w5 (.slice (some ⟨ob + 1, 0, none⟩) 0 0) []) := fun O => ((HB4.out O).below hb5 (Nat.le_refl _)).mono hz5
  have HL5 := Lib.hid (HLF.out.below hb5)
  have hfld := fieldRel1
  clear hf5 hfr hpk hVg hVc hrc HB4 HLF hrl
  go_wp2_with fail
  clear hfld
  go_loopw [37, 9] (fun i vb wr => ∃ (k : Nat) (va : Value) (OB : Nat → Prop), k ≤ hulN t u ∧ i = .int .i64 k ∧ hulB t u k = false ∧ Bl Ty.val 26 w5.heap.size wr.heap.size wr va ((hulJ t u k).map fun j => VS.getD j undef) ∧ wr.cell? ⟨ob, 1, none⟩ = some va ∧ wr.cell? ⟨ob, 0, none⟩ = some (.int .i64 (huM u : Int)) ∧ wr.frozen? ⟨ob, 1, none⟩ = false ∧ Bl (opT.on OB) 30 (ob + 1) wr.heap.size wr vb (hulO t u k) ∧ (∀ q, OB q → (q = ob + 1 ∨ w5.heap.size ≤ q) ∧ q < wr.heap.size) ∧ (∀ g, vb.ownBlock = some g → OB g) ∧ (∀ g, va.ownBlock = some g → ¬ OB g) ∧ TchP (fun q => q = ob ∨ q = ob + 1) w5 wr) (fun i _ _ => hulN t u - (intOf i).toNat)
  case atStart => exact ⟨0, _, fun q => q = ob + 1, Nat.zero_le _, rfl, by simp [hulB], by rw [hulJ_zero]; exact Bl.nil, o1, o0, n1, by rw [hulO_zero]; exact HB5.out _, fun q hq => by omega, fun g hg => by simpa [Value.ownBlock] using hg.symm, fun g hg => by simp [Value.ownBlock] at hg, TchP.refl _ _⟩
  case round =>
    obtain ⟨k, va, OB, hk, rfl, hbd, hBa, z1, z0, zn, hBb, hOB, hOO, hOA, htc⟩ := hrel
    have HBA := Lib.hid hBa
    have HBB := Lib.hid hBb
    have HOB := Lib.hid hOB
    have HOO := Lib.hid hOO
    have HOA := Lib.hid hOA
    have HTC := Lib.hid htc
    have HBD := Lib.hid hbd
    have hzr := htc.size
    have hBr : Below w.heap.size w wr := hB5.trans (htc.below (by omega) (fun q hq e => by omega))
    have s0 := (htc.cell (i := 0) (show w.heap.size < w5.heap.size by omega) (by omega)).trans t0
    have s1 := (htc.cell (i := 1) (show w.heap.size < w5.heap.size by omega) (by omega)).trans t1
    have x0 := (htc.cell (i := 0) (show w.heap.size + 1 < w5.heap.size by omega) (by omega)).trans r0
    have x1 := (htc.cell (i := 1) (show w.heap.size + 1 < w5.heap.size by omega) (by omega)).trans r1
    have y0 := (htc.frozen (i := 0) (show w.heap.size + 1 < w5.heap.size by omega) (by omega)).trans q0
    have y1 := (htc.frozen (i := 1) (show w.heap.size + 1 < w5.heap.size by omega) (by omega)).trans q1
    have hjl := hulJ_len (t := t) (u := u) (k := k)
    have hol := hulO_len (t := t) (u := u) (k := k)
    obtain ⟨av, nv, cv, rfl⟩ := ex_slice (hBa.fr (by rw [List.length_map]; unfold capMax; omega))
    obtain ⟨bv, nbv, cbv, rfl⟩ := ex_slice (hBb.fr (by unfold capMax; omega))
    have HLV := Lib.hid (HL5.out.tchP htc (fun q _ h e => by omega))
    obtain ⟨wv, rfl⟩ : ∃ wv : World, wv = wr := ⟨_, rfl⟩
    clear hBa hBb hOB hOO hOA htc hbd o0 o1 n1
    by_cases hkl : k < hulN t u
    · have hkv : k < VS.length := by omega
      obtain ⟨⟨ak, ck, hve⟩, hvr⟩ := HVG.out k hkv (by rw [relL_all]; simpa using hkl)
      have hrk : (relL t.1 (huM u) (fun _ => true) (hulN t u))[k]'(by rw [relL_all]; simpa using hkl) = hulD t u k := by simp [relL_all, hulD]
      rw [hrk] at hve hvr
      have dk := HRC.out k hkv
      have hvd : VS.getD k undef = VS[k] := by simp [List.getD_eq_getElem?_getD, hkv]
      rw [hve] at hvr dk hvd
      rw [hulD_len] at hve hvr dk hvd
      have HVR := Lib.hid ((hvr.tchP HTC.out (fun q _ h e => by omega)).rd)
      replace dk := (HTC.out.cell (show rb < w5.heap.size by omega) (by omega)).trans dk
      have HVD := Lib.hid hvd
      clear hve hvr hrk hvd
      go_wp2_with fail
      refine (polymorphismWith_any wv (HP.out.below hBr) HLV.out.rd HVR.out HT.out (ar := (u.length : Int)) (by omega) (by rw [Int.toNat_natCast]; exact HLF.out) HIN.out (by rw [colsL_len, hulD_len]) (hulD_in (by omega)) (by rw [colsL_len]; omega)).mono ?_
      rintro e w6 ⟨cs6, rfl, hf6, hb6⟩
      obtain ⟨a6, c6, rfl⟩ := fr_pair hf6
      have HF6 := Lib.hid hf6
      have hB6 := bthen hBr hb6
      have hz6 := hb6.size
      generalize hV : phV t (u.length : Int) (colsL u (huM u)) (hulD t u k) = V at *
      have HVE := Lib.hid hV
      clear hf6 dk hV
      rcases phC_cases t (u.length : Int) (colsL u (huM u)) (hulD t u k) with hc | hc | hc | hc
      · have hyes : hulP t u (hulD t u k) = true := by unfold hulP; rw [hc]; rfl
        have hnx : hulX t u (hulD t u k) = false := by unfold hulX; rw [hc]; rfl
        have HYR := Lib.hid (hulJ_yes hyes)
        have HYO := Lib.hid (hulO_yes hyes)
        rw [HVE.out] at HYO
        have HNB := Lib.hid (hulB_no HBD.out hnx)
        rw [hc]
        clear hyes hnx hc
        have z0' : ∀ q, (w6.alloc q).cell? ⟨ob, 0, none⟩ = some (.int .i64 (huM u : Int)) := fun q => (cellB (bthen hb6 bA) (show ob < wv.heap.size by omega)).trans z0
        have z1' : ∀ q, (w6.alloc q).cell? ⟨ob, 1, none⟩ = some (.slice av nv cv) := fun q => (cellB (bthen hb6 bA) (show ob < wv.heap.size by omega)).trans z1
        have hlj : ((hulJ t u k).map fun j => VS.getD j undef).length ≤ 256 := by rw [List.length_map]; omega
        go_wp2_with (first | (refine wpList_push (E := Ty.val) _ rfl _ _ 25 26 rfl elInt64SS rfl (HBA.out.below ((hb6.alloc hb6.size _).alloc (by simp; omega) _) (Nat.le_refl _)) rfl (news1' (by simp)) (fr_val rfl) (by omega) (by decide) (by omega) (by first | (simp; done) | (simp; omega)) ?_; intro v7 w7 hA7 hg7 hown7; obtain ⟨a7, n7, c7, rfl⟩ := ex_slice (hA7.fr (by rw [List.length_append]; unfold capMax; simp only [List.length_singleton]; omega)); have hb7 : Below w5.heap.size w6 w7 := (((Below.refl _ w6).alloc (by omega) _).alloc (by simp; omega) _).grown hg7 (by first | (simp; done) | (simp; omega)) (fun q hq => HBA.out.own hq); have i1 := (cellB hb7 (show ob < w5.heap.size by omega)).trans ((cellB hb6 (show ob < wv.heap.size by omega)).trans z1); have i0 := (cellB hb7 (show ob < w5.heap.size by omega)).trans ((cellB hb6 (show ob < wv.heap.size by omega)).trans z0); have i2 := (frozenB hb7 (show ob < w5.heap.size by omega)).trans ((frozenB hb6 (show ob < wv.heap.size by omega)).trans zn); have j0 : w7.cell? ⟨w6.heap.size, 0, none⟩ = some (.int .i64 V.1) := (grown_cell' (i := 0) hg7 (show w6.heap.size < _ by first | (simp; done) | (simp; omega)) (fun e => by have := HBA.out.lt_top e; omega)).trans (by simp [go_sem]); have j1 : w7.cell? ⟨w6.heap.size, 1, none⟩ = some (.slice a6 V.2.length c6) := (grown_cell' (i := 1) hg7 (show w6.heap.size < _ by first | (simp; done) | (simp; omega)) (fun e => by have := HBA.out.lt_top e; omega)).trans (by simp [go_sem]); have hs8 := hul_same (OB := OB) (ob := ob) (x := .slice a7 n7 c7) hz6 (show ob < wv.heap.size by omega) hg7 (fun q hq => ⟨by have := (HOB.out q hq).1; omega, (HOB.out q hq).2⟩) (fun g hg => ⟨HOA.out g hg, HBA.out.lt_top hg⟩); have hB8 : Bl (opT.on OB) 30 (ob + 1) wv.heap.size (w7.setCell ⟨ob, 1, none⟩ (.slice a7 n7 c7)) (.slice bv nbv cbv) (hulO t u k) := on_same HBB.out HOO.out (fun q _ hq => (hs8 q (.inl hq)).trans (hb6.block q (HOB.out q hq).2)); have hF8 : (opT.on fun q => OB q ∨ (wv.heap.size ≤ q ∧ (Value.slice a7 n7 c7).ownBlock ≠ some q)).Fr wv.heap.size (w7.setCell ⟨ob, 1, none⟩ (.slice a7 n7 c7)) [.int .i64 V.1, .slice a6 V.2.length c6] V := fr_on2 HF6.out (fun q h1 h2 => hs8 q (.inr ⟨h1, h2⟩)) (fun q h1 h2 => .inr ⟨h1, hul_own (fun g hg => HBA.out.lt_top hg) hown7 (by first | (simp; done) | (simp; omega)) h1 h2⟩); have HB8 := Lib.hid hB8; have HF8 := Lib.hid hF8; have HS8 := Lib.hid hs8; have HA7 := Lib.hid hA7; have HG7 := Lib.hid hg7; have HW7 := Lib.hid hown7; clear hB8 hF8 hs8 hA7 hg7 hown7) | (refine wpList_push (E := opT.on fun q => OB q ∨ (wv.heap.size ≤ q ∧ (Value.slice a7 n7 c7).ownBlock ≠ some q)) _ rfl _ _ 88 30 rfl elOp2 rfl (((on_mono HB8.out (fun q hq => .inl hq)).sameB (fun q _ hq => bA.block q (by simp [World.setCell]; have := hb7.size; omega)))) rfl (news2' (by simp)) (fr_on2' HF8.out) (by omega) (by decide) (by omega) (by simp [World.setCell]; have := hb7.size; omega) ?_; intro v9 w9 hB9 hg9 hown9))
        have hz7 := hb7.size
        have hB9s := hB9.below (Below.refl w9.heap.size w9) (Nat.le_refl _)
        have hz9 : w7.heap.size < w9.heap.size := by have := hg9.size; simp [World.setCell] at this; omega
        have hoB : ∀ g, (Value.slice bv nbv cbv).ownBlock = some g → (g = ob + 1 ∨ w5.heap.size ≤ g) ∧ g < wv.heap.size ∧ OB g := fun g hg => ⟨(HOB.out g (HOO.out g hg)).1, (HOB.out g (HOO.out g hg)).2, HOO.out g hg⟩
        have hwo9 : v9.ownBlock = (Value.slice bv nbv cbv).ownBlock ∨ v9.ownBlock = some (w7.heap.size + 1) := by
          rcases hown9 with h | h
          · exact .inl h
          · exact .inr (by rw [h]; simp [World.setCell])
        have h79 : ∀ q, q < w7.heap.size → q ≠ ob → (Value.slice bv nbv cbv).ownBlock ≠ some q → w9.heap[q]? = w7.heap[q]? := fun q h1 h2 h3 => by
          refine (hg9.block q (by simp [World.setCell]; omega) (fun e => h3 e.symm)).trans (((bA (w := w7.setCell ⟨ob, 1, none⟩ (.slice a7 n7 c7))).block q (by simpa [World.setCell] using h1)).trans (Below.heap_setCell _ _ _ _ (by simpa using h2)))
        have hX : TchP (fun q => q = ob ∨ (Value.slice av nv cv).ownBlock = some q ∨ (Value.slice bv nbv cbv).ownBlock = some q) wv w9 := by
          refine TchP.then (O' := fun q => q = ob ∨ (Value.slice av nv cv).ownBlock = some q ∨ (Value.slice bv nbv cbv).ownBlock = some q) ?_ (TchP.grown hg9 (fun q hq => .inr (.inr hq))) (fun q _ h => h)
          refine TchP.then ?_ (TchP.of_below bA (fun q => q = ob)) (fun q _ h => .inl h)
          refine TchP.then ?_ (TchP.set (O := fun q => q = ob) rfl) (fun q _ h => .inl h)
          refine TchP.then ?_ (TchP.grown (O := fun q => (Value.slice av nv cv).ownBlock = some q) HG7.out (fun q hq => hq)) (fun q _ h => .inr (.inl h))
          exact TchP.of_below (bthen hb6 (bthen (bA (w := w6)) bA)) _
        have h59 : TchP (fun q => q = ob ∨ q = ob + 1) w5 w9 := HTC.out.then hX (fun q hq h => by
          rcases h with h | h | h
          · exact .inl h
          · have := HBA.out.own h; omega
          · rcases (hoB q h).1 with h | h
            · exact .inr h
            · omega)
        have hcl : ∀ i, w9.cell? ⟨ob, i, none⟩ = (w7.setCell ⟨ob, 1, none⟩ (.slice a7 n7 c7)).cell? ⟨ob, i, none⟩ := fun i => (grown_cell' (i := i) hg9 (show ob < _ by simp [World.setCell]; omega) (fun e => by have := (hoB ob e).1; omega)).trans (cellB bA (show ob < _ by simp [World.setCell]; omega))
        have hA9 : Bl Ty.val 26 w5.heap.size w9.heap.size w9 (.slice a7 n7 c7) ((hulJ t u (k + 1)).map fun j => VS.getD j undef) := by
          have h := HA7.out
          rw [← HVD.out] at h
          have e : ((hulJ t u k).map fun j => VS.getD j undef) ++ [VS.getD k undef] = (hulJ t u (k + 1)).map fun j => VS.getD j undef := by rw [← HYR.out, List.map_append]; rfl
          rw [e] at h
          exact bl_val_same h (fun g hg => h79 g (h.lt_top hg) (by have := h.own hg; omega) (fun e => by
            have h1 := hoB g e
            rcases HW7.out with h2 | h2
            · rw [h2] at hg; exact HOA.out g hg h1.2.2
            · rw [h2] at hg; have := Option.some.inj hg; simp at this; omega)) (by omega)
        rw [HYO.out] at hB9
        have HB9 := Lib.hid (on_lt hB9)
        have HA9 := Lib.hid hA9
        have H59 := Lib.hid h59
        have k1 := (hcl 1).trans (World.cell?_setCell_same _ _ _ i1)
        have k0 := (hcl 0).trans ((World.cell?_setCell_other _ _ _ _ (by simp)).trans i0)
        have kn : w9.frozen? ⟨ob, 1, none⟩ = false := (World.frozen?_of_block (a := ⟨ob, 1, none⟩) (hg9.block ob (by simp [World.setCell]; omega) (fun e => by have := (hoB ob e.symm).1; omega))).trans ((frozenB bA (show ob < _ by simp [World.setCell]; omega)).trans ((World.frozen?_setCell _ _ _ _).trans i2))
        have HO9 : Hid (∀ g, v9.ownBlock = some g → (OB g ∨ (wv.heap.size ≤ g ∧ (Value.slice a7 n7 c7).ownBlock ≠ some g)) ∧ g < w9.heap.size) := fun g hg => by
          refine ⟨?_, hB9.lt_top hg⟩
          rcases hwo9 with h | h
          · rw [h] at hg; exact .inl (hoB g hg).2.2
          · rw [h] at hg
            obtain rfl := Option.some.inj hg
            exact .inr ⟨by omega, fun e => by have := HA7.out.lt_top e; omega⟩
        have HA0 : Hid (∀ g, (Value.slice a7 n7 c7).ownBlock = some g → ¬ ((OB g ∨ (wv.heap.size ≤ g ∧ (Value.slice a7 n7 c7).ownBlock ≠ some g)) ∧ g < w9.heap.size)) := fun g hg hh => by
          rcases hh.1 with h | h
          · rcases HW7.out with h2 | h2
            · rw [h2] at hg; exact HOA.out g hg h
            · rw [h2] at hg
              have h3 := Option.some.inj hg
              have h4 := (HOB.out g h).2
              simp at h3; omega
          · exact h.2 hg
        clear hB9 hB9s hg9 hown9 hwo9 h79 h59 hcl hA9 i0 i1 i2 j0 j1
        go_roundw
        case rel => exact ⟨k + 1, _, _, by omega, by go_num, HNB.out, HA9.out, k1, k0, kn, HB9.out, fun q hq => ⟨hq.1.elim (fun h => (HOB.out q h).1) (fun h => .inr (by omega)), hq.2⟩, HO9.out, HA0.out, H59.out⟩
        case measure => simp [intOf]; omega
      · have hno : hulP t u (hulD t u k) = false := by unfold hulP; rw [hc]; rfl
        have hnx : hulX t u (hulD t u k) = false := by unfold hulX; rw [hc]; rfl
        have HNR := Lib.hid (hulJ_no hno)
        have HNO := Lib.hid (hulO_no hno)
        have HNB := Lib.hid (hulB_no HBD.out hnx)
        rw [hc]
        clear hno hnx hc
        go_wp2_with fail
        generalize hW7 : World.alloc w6 _ = w7
        have hb7 : Below w6.heap.size w6 w7 := hW7 ▸ bA
        have hb67 : Below wv.heap.size wv w7 := bthen hb6 hb7
        have hz7 := hb67.size
        replace z0 := (cellB hb67 (by omega)).trans z0
        replace z1 := (cellB hb67 (by omega)).trans z1
        replace zn := (frozenB hb67 (by omega)).trans zn
        clear hW7
        go_roundw
        case rel => exact ⟨k + 1, _, OB, by omega, by go_num, HNB.out, by rw [← HNR.out]; exact (HBA.out.below hb67 (Nat.le_refl _)).mono (by omega), z1, z0, zn, by rw [← HNO.out]; exact (HBB.out.below hb67 (Nat.le_refl _)).mono (by omega), fun q hq => ⟨(HOB.out q hq).1, by have := (HOB.out q hq).2; omega⟩, HOO.out, HOA.out, HTC.out.then (TchP.of_below hb67 (fun q => q = ob ∨ q = ob + 1)) (fun q _ h => h)⟩
        case measure => simp [intOf]; omega
      · have hno : hulP t u (hulD t u k) = false := by unfold hulP; rw [hc]; rfl
        have hnx : hulX t u (hulD t u k) = false := by unfold hulX; rw [hc]; rfl
        have HNR := Lib.hid (hulJ_no hno)
        have HNO := Lib.hid (hulO_no hno)
        have HNB := Lib.hid (hulB_no HBD.out hnx)
        rw [hc]
        clear hno hnx hc
        go_wp2_with fail
        generalize hW7 : World.alloc w6 _ = w7
        have hb7 : Below w6.heap.size w6 w7 := hW7 ▸ bA
        have hb67 : Below wv.heap.size wv w7 := bthen hb6 hb7
        have hz7 := hb67.size
        replace z0 := (cellB hb67 (by omega)).trans z0
        replace z1 := (cellB hb67 (by omega)).trans z1
        replace zn := (frozenB hb67 (by omega)).trans zn
        clear hW7
        go_roundw
        case rel => exact ⟨k + 1, _, OB, by omega, by go_num, HNB.out, by rw [← HNR.out]; exact (HBA.out.below hb67 (Nat.le_refl _)).mono (by omega), z1, z0, zn, by rw [← HNO.out]; exact (HBB.out.below hb67 (Nat.le_refl _)).mono (by omega), fun q hq => ⟨(HOB.out q hq).1, by have := (HOB.out q hq).2; omega⟩, HOO.out, HOA.out, HTC.out.then (TchP.of_below hb67 (fun q => q = ob ∨ q = ob + 1)) (fun q _ h => h)⟩
        case measure => simp [intOf]; omega
      · have hbx : hulB t u (hulN t u) = true := hulB_yes (by unfold hulX; rw [hc]; rfl) hkl
        have HR := Lib.hid (hl_bad HLF.out hbx)
        rw [hc]
        replace x0 := (cellB hb6 (by omega)).trans x0
        replace x1 := (cellB hb6 (by omega)).trans x1
        replace y0 := (frozenB hb6 (by omega)).trans y0
        replace y1 := (frozenB hb6 (by omega)).trans y1
        have x0' : ∀ q, (w6.alloc q).cell? ⟨w.heap.size + 1, 0, none⟩ = some (.int .i64 0) := fun q => (cellB bA (show w.heap.size + 1 < w6.heap.size by omega)).trans x0
        have x1' : ∀ q, (w6.alloc q).cell? ⟨w.heap.size + 1, 1, none⟩ = some (.slice none 0 0) := fun q => (cellB bA (show w.heap.size + 1 < w6.heap.size by omega)).trans x1
        have y0' : ∀ q, (w6.alloc q).frozen? ⟨w.heap.size + 1, 0, none⟩ = false := fun q => (frozenB bA (show w.heap.size + 1 < w6.heap.size by omega)).trans y0
        have y1' : ∀ q, (w6.alloc q).frozen? ⟨w.heap.size + 1, 1, none⟩ = false := fun q => (frozenB bA (show w.heap.size + 1 < w6.heap.size by omega)).trans y1
        have HZ0 := Lib.hid (fun (x y : Value) => res2_0 (x := x) (y := y) (x0' (.cells #[.int .i64 V.1, .slice a6 V.2.length c6] 30)))
        have HZ1 := Lib.hid (fun (x y : Value) => res2_1 (x := x) (y := y) (x1' (.cells #[.int .i64 V.1, .slice a6 V.2.length c6] 30)))
        clear hc hbx
        go_wp2_with fail
        refine bodyPost_ret (v := .tuple #[.agg #[.int .i64 0, .slice none 0 0], .slice none 0 0, .int .i64 7]) (by simp [results, Try.results61, go_sem, HZ0.out, HZ1.out]) rfl ⟨[.int .i64 0, .slice none 0 0], .slice none 0 0, by rw [HR.out.1], ?_, ?_, res2_b (hB6.alloc (by omega) _) (by omega)⟩
        · rw [HR.out.2.1]; exact fr_rel0
        · rw [HR.out.2.2]; exact (fr_nil (base := 0)).rd
    · obtain rfl : k = hulN t u := by omega
      have HR := Lib.hid (hl_ok HLF.out HBD.out)
      have HZ0 := Lib.hid (fun (x y : Value) => res2_0 (x := x) (y := y) x0)
      have HZ1 := Lib.hid (fun (x y : Value) => res2_1 (x := x) (y := y) x1)
      have hlw : w.heap.size + 1 < wv.heap.size := by omega
      have how : ob < wv.heap.size := by omega
      go_wp2_with fail
      have HFA := Lib.hid (HBA.out.fr (by rw [List.length_map]; unfold capMax; omega))
      have HRO := Lib.hid (on_fr (HBB.out.fr (by unfold capMax; omega)))
      refine bodyPost_ret (v := .tuple #[.agg #[.int .i64 (huM u : Int), .slice av nv cv], .slice bv nbv cbv, .int .i64 0]) (by simp [results, Try.results61, go_sem, HZ0.out, HZ1.out]) rfl ⟨[.int .i64 (huM u : Int), .slice av nv cv], .slice bv nbv cbv, by rw [HR.out.1], ?_, ?_, res2_b hBr (by omega)⟩
      · rw [HR.out.2.1]
        have hp := HPK.out ((wv.setCell ⟨w.heap.size + 1, 0, none⟩ (.int .i64 (huM u : Int))).setCell ⟨w.heap.size + 1, 1, none⟩ (.slice av nv cv)) (.slice av nv cv) (hulJ t u (hulN t u)) hulJ_nodup (fun j hj => hulJ_lt hj) (fun q hq1 hq2 => ((Below.heap_setCell _ _ _ _ (by simp; omega)).trans (Below.heap_setCell _ _ _ _ (by simp; omega))).trans (HTC.out.block q hq2 (by omega))) ((HFA.out.set (a := ⟨w.heap.size + 1, 0, none⟩) (show w.heap.size + 1 < w5.heap.size by omega)).set (a := ⟨w.heap.size + 1, 1, none⟩) (show w.heap.size + 1 < w5.heap.size by omega)) hb5.size
        rw [pick_rows (Nat.le_refl _)] at hp
        exact (fr_cons (I64.small (by omega) (by omega)) hp).mono (by omega)
      · rw [HR.out.2.2]
        exact ((HRO.out.set (a := ⟨w.heap.size + 1, 0, none⟩) (show w.heap.size + 1 < ob + 1 by omega)).set (a := ⟨w.heap.size + 1, 1, none⟩) (show w.heap.size + 1 < ob + 1 by omega)).rd
end Go.Proofs.Ytccobadobklbpaa
namespace Go.Proofs.Ytccobadobklbpaa
open Go.RowKit Go.Sort
noncomputable def hofC (t : Tpl) (u : List (List Int)) : Int := match huC t u == 0 with
  | true => hlC t u
  | false => huC t u
noncomputable def hofV (t : Tpl) (u : List (List Int)) : Int × List (List Int) := match huC t u == 0 with
  | true => hlV t u
  | false => (0, [])
theorem hof_no {t : Tpl} {u : List (List Int)} (h : huC t u ≠ 0) : hofV t u = (0, []) ∧ hofC t u = huC t u := by
  have : (huC t u == 0) = false := by simpa using h
  simp [hofV, hofC, this]
theorem hof_yes {t : Tpl} {u : List (List Int)} (h : huC t u = 0) : hofV t u = hlV t u ∧ hofC t u = hlC t u := by simp [hofV, hofC, h]
theorem hl_cnt {t : Tpl} {u : List (List Int)} (h : huC t u = 0) : cntRel (hlV t u) ≤ 1000000 := by
  obtain ⟨hT, hul, hm, -, -⟩ := hu_ok h
  have hN := hulN_bd (u := u) hT hm
  have key : ∀ k, k ≤ 256 → cntRows (hulR t u k) ≤ 1000000 := fun k hk => by
    have h1 := sumL_bd (f := cntI) (c := 4) (xs := hulR t u k) (fun y hy => by
      obtain ⟨j, -, rfl⟩ := List.mem_map.1 hy
      unfold cntI
      rw [hulD_len]
      omega)
    have h2 := hulR_len (t := t) (u := u) (k := k)
    unfold cntRows
    omega
  unfold cntRel
  cases h1 : limF t u.length
  · cases h2 : hulB t u (hulN t u)
    · rw [(hl_ok h1 h2).2.1]; exact key _ hN.2
    · rw [(hl_bad h1 h2).2.1]; decide
  · rw [(hl_lim h1).2.1]; decide
theorem hof_cnt {t : Tpl} {u : List (List Int)} : cntRel (hofV t u) ≤ 1000000 := by
  by_cases h : huC t u = 0
  · rw [(hof_yes h).1]; exact hl_cnt h
  · rw [(hof_no h).1]; decide
set_option maxHeartbeats 3200000 in
set_option maxRecDepth 100000 in
theorem HullOf_any (w : World) {cs : Array Value} {v : Value} {t : Tpl} {u : List (List Int)} (h : tplT.Rd w cs.toList t) (hu : rowsT.Rd w [v] u) :
    Calls Try.prog 25 #[.agg cs, v] w (RetAC relT w (hofV t u) (hofC t u)) := by
  have HP := Lib.hid h
  have HU := Lib.hid hu
  obtain ⟨v1, hv1, -, -⟩ := pair_ex h
  obtain rfl := agg_of hv1
  obtain ⟨la, lc, rfl⟩ := rd_slice hu
  clear h hu hv1
  go_enter Try.func25, Try.ntmps25
  go_wp2_with fail
  generalize hW : World.alloc (World.alloc w _) _ = W
  have hbW : Below w.heap.size w W := hW ▸ bAA
  have hsW : w.heap.size + 2 ≤ W.heap.size := by rw [← hW]; simp
  have t0 : W.cell? ⟨w.heap.size, 0, none⟩ = some (.int .i64 t.1) := by rw [← hW]; simp [go_sem]
  have t1 : W.cell? ⟨w.heap.size, 1, none⟩ = some v1 := by rw [← hW]; simp [go_sem]
  have r0 : W.cell? ⟨w.heap.size + 1, 0, none⟩ = some (.int .i64 0) := by rw [← hW]; simp [go_sem]
  have r1 : W.cell? ⟨w.heap.size + 1, 1, none⟩ = some (.slice none 0 0) := by rw [← hW]; simp [go_sem]
  have q0 : W.frozen? ⟨w.heap.size + 1, 0, none⟩ = false := by rw [← hW]; simp [go_sem]
  have q1 : W.frozen? ⟨w.heap.size + 1, 1, none⟩ = false := by rw [← hW]; simp [go_sem]
  clear hW
  refine (hullFault_any _ (HP.out.below hbW) (HU.out.below hbW)).mono ?_
  rintro e w2 ⟨rfl, hb2⟩
  have hB2 := bthen hbW hb2
  have hz2 := hb2.size
  replace t0 := (cellB hb2 (by omega)).trans t0
  replace t1 := (cellB hb2 (by omega)).trans t1
  replace r0 := (cellB hb2 (by omega)).trans r0
  replace r1 := (cellB hb2 (by omega)).trans r1
  replace q0 := (frozenB hb2 (by omega)).trans q0
  replace q1 := (frozenB hb2 (by omega)).trans q1
  have hl2 : w.heap.size + 1 < w2.heap.size := by omega
  cases ha : (huC t u != 0)
  · have hc : huC t u = 0 := by simpa using ha
    have HR := Lib.hid (hof_yes hc)
    have HC := Lib.hid hc
    rw [hc]
    clear ha hc
    go_wp2_with fail
    refine (hullOf_any _ (HP.out.below hB2) (HU.out.below hB2) HC.out).mono ?_
    rintro e w3 ⟨cs3, u3, rfl, hf3, -, hb3⟩
    rw [← HR.out.1] at hf3
    rw [← HR.out.2]
    obtain ⟨a3, c3, rfl⟩ := fr_pair hf3
    generalize hV : hofV t u = V at hf3 ⊢
    generalize hC : hofC t u = C
    have HVV := Lib.hid hV
    have HCC := Lib.hid hC
    have HF3 := Lib.hid hf3
    have hB3 := bthen hB2 hb3
    have hz3 := hb3.size
    replace r0 := (cellB hb3 (by omega)).trans r0
    replace r1 := (cellB hb3 (by omega)).trans r1
    replace q0 := (frozenB hb3 (by omega)).trans q0
    replace q1 := (frozenB hb3 (by omega)).trans q1
    have hl3 : w.heap.size + 1 < w3.heap.size := by omega
    have HZ0 := Lib.hid (fun (x y : Value) (q : Obj) => (cellB (bA (w := (w3.setCell ⟨w.heap.size + 1, 0, none⟩ x).setCell ⟨w.heap.size + 1, 1, none⟩ y) (o := q)) (show w.heap.size + 1 < _ by simpa [World.setCell] using hl3)).trans (res2_0 (x := x) (y := y) r0))
    have HZ1 := Lib.hid (fun (x y : Value) (q : Obj) => (cellB (bA (w := (w3.setCell ⟨w.heap.size + 1, 0, none⟩ x).setCell ⟨w.heap.size + 1, 1, none⟩ y) (o := q)) (show w.heap.size + 1 < _ by simpa [World.setCell] using hl3)).trans (res2_1 (x := x) (y := y) r1))
    clear hf3 hV hC t0 t1
    go_wp2_with fail
    refine bodyPost_ret (v := .tuple #[.agg #[.int .i64 V.1, .slice a3 V.2.length c3], .int .i64 C]) (by simp [results, Try.results25, go_sem, HZ0.out, HZ1.out]) rfl ⟨[.int .i64 V.1, .slice a3 V.2.length c3], by rw [HCC.out], ?_, (res2_b hB3 (by omega)).alloc (by simp [World.setCell]; omega) _⟩
    rw [HVV.out]
    exact (((HF3.out.set (a := ⟨w.heap.size + 1, 0, none⟩) (show w.heap.size + 1 < w2.heap.size by omega)).set (a := ⟨w.heap.size + 1, 1, none⟩) (show w.heap.size + 1 < w2.heap.size by omega)).below bA).mono (by omega)
  · have HR := Lib.hid (hof_no (t := t) (u := u) (by simpa using ha))
    have HZ0 := Lib.hid (fun (x y : Value) => res2_0 (x := x) (y := y) r0)
    have HZ1 := Lib.hid (fun (x y : Value) => res2_1 (x := x) (y := y) r1)
    generalize huC t u = C at *
    go_wp2_with fail
    refine bodyPost_ret (v := .tuple #[.agg #[.int .i64 0, .slice none 0 0], .int .i64 C]) (by simp [results, Try.results25, go_sem, HZ0.out, HZ1.out]) rfl ⟨[.int .i64 0, .slice none 0 0], by rw [HR.out.2], ?_, res2_b hB2 (by omega)⟩
    rw [HR.out.1]
    exact fr_rel0
set_option maxHeartbeats 3200000 in
set_option maxRecDepth 100000 in
theorem specHullOf_any (w : World) {cs : Array Value} {v : Value} {t : Tpl} {u : List (List Int)} (h : tplT.Rd w cs.toList t) (hu : rowsT.Rd w [v] u) :
    Calls Try.prog 24 #[.agg cs, v] w (RetAC relT w (hofV t u) (hofC t u)) := by
  have p0 : tplT.Pt (w.alloc (.cells cs 35)) (.pointer (some ⟨w.heap.size, 0, none⟩)) t := pt_box h
  have HU := Lib.hid hu
  obtain ⟨v1, hv1, -, -⟩ := pair_ex h
  obtain rfl := agg_of hv1
  obtain ⟨la, lc, rfl⟩ := rd_slice hu
  clear h hu hv1
  go_enter Try.func24, Try.ntmps24
  go_wp2_with fail
  replace p0 : ∀ o, tplT.Pt (World.alloc (w.alloc (.cells #[.int .i64 t.1, v1] 35)) o) (.pointer (some ⟨w.heap.size, 0, none⟩)) t := fun o => p0.below bA
  generalize hW : World.alloc (World.alloc w _) _ = W
  have HP : Hid (tplT.Pt W (.pointer (some ⟨w.heap.size, 0, none⟩)) t) := hW ▸ p0 _
  have hbW : Below w.heap.size w W := hW ▸ bAA
  have hsW : w.heap.size + 2 ≤ W.heap.size := by rw [← hW]; simp
  have r0 : W.cell? ⟨w.heap.size + 1, 0, none⟩ = some (.int .i64 0) := by rw [← hW]; simp [go_sem]
  have r1 : W.cell? ⟨w.heap.size + 1, 1, none⟩ = some (.slice none 0 0) := by rw [← hW]; simp [go_sem]
  have q0 : W.frozen? ⟨w.heap.size + 1, 0, none⟩ = false := by rw [← hW]; simp [go_sem]
  have q1 : W.frozen? ⟨w.heap.size + 1, 1, none⟩ = false := by rw [← hW]; simp [go_sem]
  clear hW p0
  refine (l04Tuples_any _ HP.out (HU.out.below hbW)).mono ?_
  rintro e w2 ⟨rfl, hq2⟩
  have hb2 := hq2.below
  have hB2 := bthen hbW hb2
  have hz2 := hb2.size
  replace r0 := (cellB hb2 (by omega)).trans r0
  replace r1 := (cellB hb2 (by omega)).trans r1
  replace q0 := (frozenB hb2 (by omega)).trans q0
  replace q1 := (frozenB hb2 (by omega)).trans q1
  have hl2 : w.heap.size + 1 < w2.heap.size := by omega
  replace HP := Lib.hid (HP.out.below hb2)
  clear hq2
  cases ha : (huC t u != 0)
  · have hc : huC t u = 0 := by simpa using ha
    have HR := Lib.hid (hof_yes hc)
    have HC := Lib.hid hc
    rw [hc]
    clear ha hc
    go_wp2_with fail
    refine (l04Hull_any _ HP.out (HU.out.below hB2) HC.out).mono ?_
    rintro e w3 ⟨cs3, rfl, hf3, hb3⟩
    rw [← HR.out.1] at hf3
    rw [← HR.out.2]
    obtain ⟨a3, c3, rfl⟩ := fr_pair hf3
    generalize hV : hofV t u = V at hf3 ⊢
    generalize hC : hofC t u = C
    have HVV := Lib.hid hV
    have HCC := Lib.hid hC
    have HF3 := Lib.hid hf3
    have hB3 := bthen hB2 hb3
    have hz3 := hb3.size
    replace r0 := (cellB hb3 (by omega)).trans r0
    replace r1 := (cellB hb3 (by omega)).trans r1
    replace q0 := (frozenB hb3 (by omega)).trans q0
    replace q1 := (frozenB hb3 (by omega)).trans q1
    have hl3 : w.heap.size + 1 < w3.heap.size := by omega
    have HZ0 := Lib.hid (fun (x y : Value) => res2_0 (x := x) (y := y) r0)
    have HZ1 := Lib.hid (fun (x y : Value) => res2_1 (x := x) (y := y) r1)
    clear hf3 hV hC
    go_wp2_with fail
    refine bodyPost_ret (v := .tuple #[.agg #[.int .i64 V.1, .slice a3 V.2.length c3], .int .i64 C]) (by simp [results, Try.results24, go_sem, HZ0.out, HZ1.out]) rfl ⟨[.int .i64 V.1, .slice a3 V.2.length c3], by rw [HCC.out], ?_, res2_b hB3 (by omega)⟩
    rw [HVV.out]
    exact ((HF3.out.set (a := ⟨w.heap.size + 1, 0, none⟩) (show w.heap.size + 1 < w2.heap.size by omega)).set (a := ⟨w.heap.size + 1, 1, none⟩) (show w.heap.size + 1 < w2.heap.size by omega)).mono (by omega)
  · have HR := Lib.hid (hof_no (t := t) (u := u) (by simpa using ha))
    have HZ0 := Lib.hid (fun (x y : Value) => res2_0 (x := x) (y := y) r0)
    have HZ1 := Lib.hid (fun (x y : Value) => res2_1 (x := x) (y := y) r1)
    generalize huC t u = C at *
    go_wp2_with fail
    refine bodyPost_ret (v := .tuple #[.agg #[.int .i64 0, .slice none 0 0], .int .i64 C]) (by simp [results, Try.results24, go_sem, HZ0.out, HZ1.out]) rfl ⟨[.int .i64 0, .slice none 0 0], by rw [HR.out.2], ?_, res2_b hB2 (by omega)⟩
    rw [HR.out.1]
    exact fr_rel0
end Go.Proofs.Ytccobadobklbpaa
namespace Go.Proofs.Ytccobadobklbpaa
open Go.RowKit Go.Sort

set_option maxHeartbeats 800000 in
theorem markInt64S_any (w : World) {v : Value} {xs : List Int} {fp : List Nat} (h : intsT.rd w [v] xs fp) (hn : fp.Nodup) (hu : Unf w fp) (k : Int) (h0 : 0 ≤ k) (h1 : k + cntI xs ≤ 4611686018427387904) :
    Calls Try.prog 21 #[v, .int .i64 k] w fun e w' => e = .returned (.int .i64 (k + cntI xs)) ∧ TchF fp w w' ∧ intsT.rd w' [v] (mkI k xs) fp ∧ Unf w' fp := by
  obtain ⟨ad, cap, rfl⟩ := rd_slice ⟨fp, h⟩
  unfold cntI at h1
  go_enter Try.func21, Try.ntmps21
  go_wp2_with fail
  go_loopw [1, 5] (fun l i wr => ∃ j : Nat, j ≤ xs.length ∧ i = .int .i64 j ∧ l = .int .i64 (k + j) ∧ TchF fp w wr ∧ intsT.rd wr [.slice ad xs.length cap] (mkAt (fun k _ => k) (fun _ => 1) k xs j) fp ∧ Unf wr fp) (fun _ i _ => xs.length - (intOf i).toNat)
  case atStart => exact ⟨0, Nat.zero_le _, rfl, by simp, TchF.refl _ _, by rw [mkAt_zero]; exact h, hu⟩
  case round =>
    obtain ⟨j, hj, rfl, rfl, ht, hr, hU⟩ := hrel
    by_cases hjl : j < xs.length
    · obtain ⟨b, o, cap', hv, hb, hc, hf, hw⟩ := ints_mark hr hn hU (i := j) (by rw [mkAt_len]; exact hjl)
      simp only [mkAt_len, Value.slice.injEq, true_and] at hv
      obtain ⟨rfl, rfl⟩ := hv
      have H := Lib.hid (hw (k + j) ⟨by omega, by omega⟩)
      have e := mkAt_set (f := fun k _ => k) (c := fun _ => 1) (k := k) hjl
      rw [sumL_one, take_len hj] at e
      have HR := Lib.hid hr
      have HU := Lib.hid hU
      have HE := Lib.hid e
      clear hr hU hw h hu e
      go_wp2_with fail
      go_roundw
      case rel => exact ⟨j + 1, by omega, by go_num, by go_num, ht.trans H.out.2.2, by rw [← HE.out]; exact H.out.1, H.out.2.1⟩
      case measure => simp [intOf]; omega
    · obtain rfl : j = xs.length := by omega
      rw [mkAt_full] at hr
      have HR := Lib.hid hr
      have HU := Lib.hid hU
      clear hr hU h hu
      go_wp2_with fail
      go_ret
      exact ⟨rfl, ht, HR.out, HU.out⟩
set_option maxHeartbeats 800000 in
theorem heldInt64S_any (w : World) {v : Value} {xs : List Int} (k : Int) (h : intsT.Rd w [v] (mkI k xs)) (h0 : 0 ≤ k) (h1 : k + cntI xs ≤ 4611686018427387904) :
    Calls Try.prog 35 #[v, .int .i64 k] w fun e w' => e = .returned (.int .i64 (k + cntI xs)) ∧ Below w.heap.size w w' := by
  obtain ⟨ad, cap, hv, -, -, hcell⟩ := ints_ex h
  have hlen : (mkI k xs).length = xs.length := mkL_len
  rw [hlen] at hv
  obtain rfl : v = _ := by simpa using hv
  unfold cntI at h1
  clear h hv
  go_enter Try.func35, Try.ntmps35
  go_wp2_with fail
  go_loopw [1, 5] (fun l i wr => ∃ j : Nat, j ≤ xs.length ∧ i = .int .i64 j ∧ l = .int .i64 (k + j) ∧ Below w.heap.size w wr) (fun _ i _ => xs.length - (intOf i).toNat)
  case atStart => exact ⟨0, Nat.zero_le _, rfl, by simp, Below.refl _ _⟩
  case round =>
    obtain ⟨j, hj, rfl, rfl, hbel⟩ := hrel
    by_cases hjl : j < xs.length
    · obtain ⟨b, o, rfl, hb, hce⟩ := hcell (by omega)
      obtain ⟨-, hc0⟩ := hce j (by omega)
      have e : (mkI k xs)[j]'(by omega) = k + j := by
        have := mkL_get (f := fun (k : Int) (_ : Int) => k) (c := fun _ => 1) (k := k) hjl (by rw [mkL_len]; exact hjl)
        rw [sumL_one, take_len hj] at this
        exact this
      rw [e] at hc0
      have d0 : wr.cell? ⟨b, o + j, none⟩ = some (.int .i64 (k + j)) := (hbel.cell hb).trans hc0
      clear hcell hce hc0 e hlen
      go_wp2_with fail
      go_roundw
      case rel => exact ⟨j + 1, by omega, by go_num, by go_num, hbel⟩
      case measure => simp [intOf]; omega
    · obtain rfl : j = xs.length := by omega
      clear hcell
      go_wp2_with fail
      go_ret
      exact ⟨rfl, hbel⟩
set_option maxHeartbeats 800000 in
theorem markInt64SS_any (w : World) {v : Value} {xs : List (List Int)} {fp : List Nat} (h : rowsT.rd w [v] xs fp) (hn : fp.Nodup) (hu : Unf w fp) (k : Int) (h0 : 0 ≤ k) (h1 : k + cntRows xs ≤ 4611686018427387904) :
    Calls Try.prog 20 #[v, .int .i64 k] w fun e w' => e = .returned (.int .i64 (k + cntRows xs)) ∧ TchF fp w w' ∧ rowsT.rd w' [v] (mkRows k xs) fp ∧ Unf w' fp := by
  obtain ⟨_, _, _, _, hL, _⟩ := Ty.slice_ex ⟨fp, h⟩
  obtain ⟨ad, cap, rfl⟩ := rd_slice ⟨fp, h⟩
  have HS : Hid (cntRows xs = sumL cntI xs) := rfl
  rw [HS.out] at h1
  go_enter Try.func20, Try.ntmps20
  go_wp2_with fail
  go_loopw [1, 5] (fun l i wr => ∃ j : Nat, j ≤ xs.length ∧ i = .int .i64 j ∧ l = .int .i64 (k + sumL cntI (xs.take j)) ∧ TchF fp w wr ∧ rowsT.rd wr [.slice ad xs.length cap] (mkAt mkI cntI k xs j) fp ∧ Unf wr fp) (fun _ i _ => xs.length - (intOf i).toNat)
  case atStart => exact ⟨0, Nat.zero_le _, rfl, by simp [sumL], TchF.refl _ _, by rw [mkAt_zero]; exact h, hu⟩
  case round =>
    obtain ⟨j, hj, rfl, rfl, ht, hr, hU⟩ := hrel
    have hs0 := sumL_nonneg cntI_nn (xs.take j)
    by_cases hjl : j < xs.length
    · obtain ⟨b, o, cap', u, f, hv, hb, hc, hd, hfn, hfu, hw⟩ := rows_mark hr hn hU (i := j) (by rw [mkAt_len]; exact hjl)
      simp only [mkAt_len, Value.slice.injEq, true_and] at hv
      obtain ⟨rfl, rfl⟩ := hv
      rw [mkAt_get hjl] at hd
      have hs1 := sumL_succ cntI hjl
      have hs2 := sumL_take_le cntI_nn xs (j + 1)
      have HE := Lib.hid (mkAt_set (f := mkI) (c := cntI) (k := k) hjl)
      have HD := Lib.hid hd
      have HW := Lib.hid hw
      have HFN := Lib.hid hfn
      have HFU := Lib.hid hfu
      clear hr hU hw h hu hd hfn hfu
      go_wp2_with fail
      refine (markInt64S_any _ HD.out HFN.out HFU.out _ (by omega) (by omega)).mono ?_
      rintro e w1 ⟨rfl, g1, g2, g3⟩
      obtain ⟨q1, q2, q3⟩ := HW.out _ _ g1 g2 g3
      rw [HE.out] at q1
      have HQ := Lib.hid q1
      have HQ2 := Lib.hid q2
      clear q1 q2 g1 g2 g3 hc
      go_wp2_with fail
      go_roundw
      case rel => exact ⟨j + 1, by omega, by go_num, by rw [hs1]; go_num, ht.trans q3, HQ.out, HQ2.out⟩
      case measure => simp [intOf]; omega
    · obtain rfl : j = xs.length := by omega
      rw [mkAt_full] at hr
      rw [List.take_length]
      have HR := Lib.hid hr
      have HU := Lib.hid hU
      clear hr hU h hu
      go_wp2_with fail
      go_ret
      exact ⟨by rw [HS.out]; rfl, ht, HR.out, HU.out⟩
set_option maxHeartbeats 800000 in
theorem heldInt64SS_any (w : World) {v : Value} {xs : List (List Int)} (k : Int) (h : rowsT.Rd w [v] (mkRows k xs)) (h0 : 0 ≤ k) (h1 : k + cntRows xs ≤ 4611686018427387904) :
    Calls Try.prog 62 #[v, .int .i64 k] w fun e w' => e = .returned (.int .i64 (k + cntRows xs)) ∧ Below w.heap.size w w' := by
  obtain ⟨ad, cap, hv, -, hL, hcell⟩ := slices_ex h
  have hlen : (mkRows k xs).length = xs.length := mkL_len
  rw [hlen] at hv hL
  obtain rfl : v = _ := by simpa using hv
  have HS : Hid (cntRows xs = sumL cntI xs) := rfl
  rw [HS.out] at h1
  clear h hv
  go_enter Try.func62, Try.ntmps62
  go_wp2_with fail
  go_loopw [1, 5] (fun l i wr => ∃ j : Nat, j ≤ xs.length ∧ i = .int .i64 j ∧ l = .int .i64 (k + sumL cntI (xs.take j)) ∧ Below w.heap.size w wr) (fun _ i _ => xs.length - (intOf i).toNat)
  case atStart => exact ⟨0, Nat.zero_le _, rfl, by simp [sumL], Below.refl _ _⟩
  case round =>
    obtain ⟨j, hj, rfl, rfl, hbel⟩ := hrel
    have hs0 := sumL_nonneg cntI_nn (xs.take j)
    by_cases hjl : j < xs.length
    · obtain ⟨b, o, rfl, hb, hce⟩ := hcell (by omega)
      obtain ⟨u, hd, hc0⟩ := hce j (by omega)
      have e : (mkRows k xs)[j]'(by omega) = mkI (k + sumL cntI (xs.take j)) xs[j] := mkL_get hjl (by rw [mkL_len]; exact hjl)
      rw [e] at hd
      have d0 : wr.cell? ⟨b, o + j, none⟩ = some u := (hbel.cell hb).trans hc0
      have HD := Lib.hid (hd.below hbel)
      have hs1 := sumL_succ cntI hjl
      have hs2 := sumL_take_le cntI_nn xs (j + 1)
      clear hcell hce hc0 e hlen hd
      go_wp2_with fail
      refine (heldInt64S_any _ _ HD.out (by omega) (by omega)).mono ?_
      rintro e w1 ⟨rfl, hb1⟩
      have hp : 0 ≤ k + sumL cntI (xs.take j) + cntI xs[j] := by have := cntI_nn xs[j]; omega
      go_wp2_with fail
      go_roundw
      case rel => exact ⟨j + 1, by omega, by go_num, by rw [hs1]; go_num, bthen hbel hb1⟩
      case measure => simp [intOf]; omega
    · obtain rfl : j = xs.length := by omega
      rw [List.take_length]
      clear hcell
      go_wp2_with fail
      go_ret
      exact ⟨by rw [HS.out]; rfl, hbel⟩
set_option maxHeartbeats 800000 in
theorem markAtomS_any (w : World) {v : Value} {xs : List (Int × List Int)} {fp : List Nat} (h : opsT.rd w [v] xs fp) (hn : fp.Nodup) (hu : Unf w fp) (k : Int) (h0 : 0 ≤ k) (h1 : k + cntOps xs ≤ 4611686018427387904) :
    Calls Try.prog 88 #[v, .int .i64 k] w fun e w' => e = .returned (.int .i64 (k + cntOps xs)) ∧ TchF fp w w' ∧ opsT.rd w' [v] (mkOps k xs) fp ∧ Unf w' fp := by
  obtain ⟨_, _, _, _, hL, _⟩ := Ty.slice_ex ⟨fp, h⟩
  obtain ⟨ad, cap, rfl⟩ := rd_slice ⟨fp, h⟩
  have HS : Hid (cntOps xs = sumL cntOp1 xs) := rfl
  rw [HS.out] at h1
  go_enter Try.func88, Try.ntmps88
  go_wp2_with fail
  go_loopw [1, 5] (fun l i wr => ∃ j : Nat, j ≤ xs.length ∧ i = .int .i64 j ∧ l = .int .i64 (k + sumL cntOp1 (xs.take j)) ∧ TchF fp w wr ∧ opsT.rd wr [.slice ad xs.length cap] (mkAt mkOp1 cntOp1 k xs j) fp ∧ Unf wr fp) (fun _ i _ => xs.length - (intOf i).toNat)
  case atStart => exact ⟨0, Nat.zero_le _, rfl, by simp [sumL], TchF.refl _ _, by rw [mkAt_zero]; exact h, hu⟩
  case round =>
    obtain ⟨j, hj, rfl, rfl, ht, hr, hU⟩ := hrel
    have hs0 := sumL_nonneg cntOp1_nn (xs.take j)
    by_cases hjl : j < xs.length
    · obtain ⟨b, o, cap', u, f, hv, hb, hc, hc1, hfz, hw⟩ := pairs_mark hr hn hU (i := j) (by rw [mkAt_len]; exact hjl)
      simp only [mkAt_len, Value.slice.injEq, true_and] at hv
      obtain ⟨rfl, rfl⟩ := hv
      have hs1 := sumL_succ cntOp1 hjl
      have hs2 := sumL_take_le cntOp1_nn xs (j + 1)
      have hi0 := cntI_nn xs[j].2
      have hi1 : cntOp1 xs[j] = 1 + cntI xs[j].2 := rfl
      obtain ⟨w1, hw1, c1, hd, hfn, hfu, -, hw'⟩ := hw (k + sumL cntOp1 (xs.take j)) ⟨by omega, by omega⟩
      rw [mkAt_get hjl] at hd
      have HE := Lib.hid (mkAt_set (f := mkOp1) (c := cntOp1) (k := k) hjl)
      have HD := Lib.hid hd
      have HW := Lib.hid hw'
      have HFN := Lib.hid hfn
      have HFU := Lib.hid hfu
      clear hr hU hw hw' h hu hd hfn hfu
      go_wp2_with fail
      rw [← hw1]
      go_wp2_with fail
      refine (markInt64S_any _ HD.out HFN.out HFU.out _ (by omega) (by omega)).mono ?_
      rintro e w2 ⟨rfl, g1, g2, g3⟩
      obtain ⟨q1, q2, q3⟩ := HW.out _ _ g1 g2 g3
      have he : (mkAt mkOp1 cntOp1 k xs j).set j (k + sumL cntOp1 (xs.take j), mkI (k + sumL cntOp1 (xs.take j) + 1) xs[j].2) = mkAt mkOp1 cntOp1 k xs (j + 1) := HE.out
      rw [he] at q1
      have HQ := Lib.hid q1
      have HQ2 := Lib.hid q2
      clear q1 q2 g1 g2 g3 hc hc1 c1 hfz he
      go_wp2_with fail
      go_roundw
      case rel => exact ⟨j + 1, by omega, by go_num, by rw [hs1, hi1]; go_num, ht.trans q3, HQ.out, HQ2.out⟩
      case measure => simp [intOf]; omega
    · obtain rfl : j = xs.length := by omega
      rw [mkAt_full] at hr
      rw [List.take_length]
      have HR := Lib.hid hr
      have HU := Lib.hid hU
      clear hr hU h hu
      go_wp2_with fail
      go_ret
      exact ⟨by rw [HS.out]; rfl, ht, HR.out, HU.out⟩
set_option maxHeartbeats 800000 in
theorem heldAtomS_any (w : World) {v : Value} {xs : List (Int × List Int)} (k : Int) (h : opsT.Rd w [v] (mkOps k xs)) (h0 : 0 ≤ k) (h1 : k + cntOps xs ≤ 4611686018427387904) :
    Calls Try.prog 89 #[v, .int .i64 k] w fun e w' => e = .returned (.int .i64 (k + cntOps xs)) ∧ Below w.heap.size w w' := by
  obtain ⟨ad, cap, hv, -, hL, hcell⟩ := pairs_ex h
  have hlen : (mkOps k xs).length = xs.length := mkL_len
  rw [hlen] at hv hL
  obtain rfl : v = _ := by simpa using hv
  have HS : Hid (cntOps xs = sumL cntOp1 xs) := rfl
  rw [HS.out] at h1
  clear h hv
  go_enter Try.func89, Try.ntmps89
  go_wp2_with fail
  go_loopw [1, 5] (fun l i wr => ∃ j : Nat, j ≤ xs.length ∧ i = .int .i64 j ∧ l = .int .i64 (k + sumL cntOp1 (xs.take j)) ∧ Below w.heap.size w wr) (fun _ i _ => xs.length - (intOf i).toNat)
  case atStart => exact ⟨0, Nat.zero_le _, rfl, by simp [sumL], Below.refl _ _⟩
  case round =>
    obtain ⟨j, hj, rfl, rfl, hbel⟩ := hrel
    have hs0 := sumL_nonneg cntOp1_nn (xs.take j)
    by_cases hjl : j < xs.length
    · obtain ⟨b, o, rfl, hb, hce⟩ := hcell (by omega)
      obtain ⟨u, hd, -, hc0, hc1⟩ := hce j (by omega)
      have e : (mkOps k xs)[j]'(by omega) = mkOp1 (k + sumL cntOp1 (xs.take j)) xs[j] := mkL_get hjl (by rw [mkL_len]; exact hjl)
      rw [e] at hd hc0
      have d0 : wr.cell? ⟨b, o + j * 2, none⟩ = some (.int .i64 (k + sumL cntOp1 (xs.take j))) := (hbel.cell hb).trans hc0
      have d1 : wr.cell? ⟨b, o + j * 2 + 1, none⟩ = some u := (hbel.cell hb).trans hc1
      have hd' : _ := hd.below hbel
      have HD := Lib.hid hd'
      have hs1 := sumL_succ cntOp1 hjl
      have hs2 := sumL_take_le cntOp1_nn xs (j + 1)
      have hi0 := cntI_nn xs[j].2
      have hi1 : cntOp1 xs[j] = 1 + cntI xs[j].2 := rfl
      clear hcell hce hc0 hc1 e hlen hd hd'
      go_wp2_with fail
      refine (heldInt64S_any _ _ HD.out (by omega) (by omega)).mono ?_
      rintro e w1 ⟨rfl, hb1⟩
      have hp : 0 ≤ k + sumL cntOp1 (xs.take j) + 1 + cntI xs[j].2 := by omega
      go_wp2_with fail
      go_roundw
      case rel => exact ⟨j + 1, by omega, by go_num, by rw [hs1, hi1]; go_num, bthen hbel hb1⟩
      case measure => simp [intOf]; omega
    · obtain rfl : j = xs.length := by omega
      rw [List.take_length]
      clear hcell
      go_wp2_with fail
      go_ret
      exact ⟨by rw [HS.out]; rfl, hbel⟩
set_option maxHeartbeats 800000 in
theorem markRelS_any (w : World) {v : Value} {xs : List (Int × List (List Int))} {fp : List Nat} (h : relsT.rd w [v] xs fp) (hn : fp.Nodup) (hu : Unf w fp) (k : Int) (h0 : 0 ≤ k) (h1 : k + cntRels xs ≤ 4611686018427387904) :
    Calls Try.prog 57 #[v, .int .i64 k] w fun e w' => e = .returned (.int .i64 (k + cntRels xs)) ∧ TchF fp w w' ∧ relsT.rd w' [v] (mkRels k xs) fp ∧ Unf w' fp := by
  obtain ⟨_, _, _, _, hL, _⟩ := Ty.slice_ex ⟨fp, h⟩
  obtain ⟨ad, cap, rfl⟩ := rd_slice ⟨fp, h⟩
  have HS : Hid (cntRels xs = sumL cntRel1 xs) := rfl
  rw [HS.out] at h1
  go_enter Try.func57, Try.ntmps57
  go_wp2_with fail
  go_loopw [1, 5] (fun l i wr => ∃ j : Nat, j ≤ xs.length ∧ i = .int .i64 j ∧ l = .int .i64 (k + sumL cntRel1 (xs.take j)) ∧ TchF fp w wr ∧ relsT.rd wr [.slice ad xs.length cap] (mkAt mkRel1 cntRel1 k xs j) fp ∧ Unf wr fp) (fun _ i _ => xs.length - (intOf i).toNat)
  case atStart => exact ⟨0, Nat.zero_le _, rfl, by simp [sumL], TchF.refl _ _, by rw [mkAt_zero]; exact h, hu⟩
  case round =>
    obtain ⟨j, hj, rfl, rfl, ht, hr, hU⟩ := hrel
    have hs0 := sumL_nonneg cntRel1_nn (xs.take j)
    by_cases hjl : j < xs.length
    · obtain ⟨b, o, cap', u, f, hv, hb, hc, hc1, hfz, hw⟩ := pairs_mark hr hn hU (i := j) (by rw [mkAt_len]; exact hjl)
      simp only [mkAt_len, Value.slice.injEq, true_and] at hv
      obtain ⟨rfl, rfl⟩ := hv
      have hs1 := sumL_succ cntRel1 hjl
      have hs2 := sumL_take_le cntRel1_nn xs (j + 1)
      have hi0 := cntRows_nn xs[j].2
      have hi1 : cntRel1 xs[j] = 1 + cntRows xs[j].2 := rfl
      obtain ⟨w1, hw1, c1, hd, hfn, hfu, -, hw'⟩ := hw (k + sumL cntRel1 (xs.take j)) ⟨by omega, by omega⟩
      rw [mkAt_get hjl] at hd
      have HE := Lib.hid (mkAt_set (f := mkRel1) (c := cntRel1) (k := k) hjl)
      have HD := Lib.hid hd
      have HW := Lib.hid hw'
      have HFN := Lib.hid hfn
      have HFU := Lib.hid hfu
      clear hr hU hw hw' h hu hd hfn hfu
      go_wp2_with fail
      rw [← hw1]
      go_wp2_with fail
      refine (markInt64SS_any _ HD.out HFN.out HFU.out _ (by omega) (by omega)).mono ?_
      rintro e w2 ⟨rfl, g1, g2, g3⟩
      obtain ⟨q1, q2, q3⟩ := HW.out _ _ g1 g2 g3
      have he : (mkAt mkRel1 cntRel1 k xs j).set j (k + sumL cntRel1 (xs.take j), mkRows (k + sumL cntRel1 (xs.take j) + 1) xs[j].2) = mkAt mkRel1 cntRel1 k xs (j + 1) := HE.out
      rw [he] at q1
      have HQ := Lib.hid q1
      have HQ2 := Lib.hid q2
      clear q1 q2 g1 g2 g3 hc hc1 c1 hfz he
      go_wp2_with fail
      go_roundw
      case rel => exact ⟨j + 1, by omega, by go_num, by rw [hs1, hi1]; go_num, ht.trans q3, HQ.out, HQ2.out⟩
      case measure => simp [intOf]; omega
    · obtain rfl : j = xs.length := by omega
      rw [mkAt_full] at hr
      rw [List.take_length]
      have HR := Lib.hid hr
      have HU := Lib.hid hU
      clear hr hU h hu
      go_wp2_with fail
      go_ret
      exact ⟨by rw [HS.out]; rfl, ht, HR.out, HU.out⟩
set_option maxHeartbeats 800000 in
theorem markRel_any (w : World) {cs : Array Value} {xs : Int × List (List Int)} {fp : List Nat} (h : relT.rd w cs.toList xs fp) (hn : fp.Nodup) (hu : Unf w fp) (k : Int) (h0 : 0 ≤ k) (h1 : k + cntRel xs ≤ 4611686018427387904) :
    Calls Try.prog 27 #[.agg cs, .int .i64 k] w fun e w' => e = .returned (.int .i64 (k + cntRel xs)) ∧ TchF fp w w' ∧ relT.rd w' cs.toList (mkRel k xs) fp ∧ Unf w' fp := by
  obtain ⟨u, hv, hd, hcl⟩ := rd_pair h
  obtain rfl := agg_of hv
  clear hv
  go_enter Try.func27, Try.ntmps27
  go_wp2_with fail
  refine (markInt64SS_any _ ((Ty.slice _).same hd (Same.below bA ((Ty.slice _).lt hd))) hn (hu.same (Same.below bA ((Ty.slice _).lt hd))) _ h0 h1).mono ?_
  rintro e w1 ⟨rfl, g1, g2, g3⟩
  go_wp2_with fail
  go_ret
  exact ⟨rfl, (Below.tchF bA fp).trans g1, hcl _ _ g2, g3⟩
set_option maxHeartbeats 800000 in
theorem heldRel_any (w : World) {cs : Array Value} {xs : Int × List (List Int)} (k : Int) (h : relT.Rd w cs.toList (mkRel k xs)) (h0 : 0 ≤ k) (h1 : k + cntRel xs ≤ 4611686018427387904) :
    Calls Try.prog 28 #[.agg cs, .int .i64 k] w fun e w' => e = .returned (.int .i64 (k + cntRel xs)) ∧ Below w.heap.size w w' := by
  obtain ⟨u, hv, -, hd⟩ := pair_ex h
  obtain rfl := agg_of hv
  clear hv h
  go_enter Try.func28, Try.ntmps28
  go_wp2_with fail
  refine (heldInt64SS_any _ _ (hd.below bA) h0 h1).mono ?_
  rintro e w1 ⟨rfl, hb1⟩
  have hp : 0 ≤ k + cntRel xs := by have := cntRows_nn xs.2; unfold cntRel; omega
  unfold cntRel at hp
  go_wp2_with fail
  go_ret
  exact ⟨rfl, (by repeat (first | exact Below.refl _ _ | exact bA | assumption | refine Below.setCell ?_ (by first | omega | (simp; try omega)) _ | refine Below.alloc ?_ (by first | omega | (simp; try omega)) _ | refine Below.drew ?_ | refine bDN ?_ | refine bthen ?_ (by assumption)))⟩
set_option maxHeartbeats 800000 in
theorem markOp_any (w : World) {cs : Array Value} {xs : Int × List Int} {fp : List Nat} (h : opT.rd w cs.toList xs fp) (hn : fp.Nodup) (hu : Unf w fp) (k : Int) (h0 : 0 ≤ k) (h1 : k + cntOp xs ≤ 4611686018427387904) :
    Calls Try.prog 22 #[.agg cs, .int .i64 k] w fun e w' => e = .returned (.int .i64 (k + cntOp xs)) ∧ TchF fp w w' ∧ opT.rd w' cs.toList (mkOp k xs) fp ∧ Unf w' fp := by
  obtain ⟨u, hv, hd, hcl⟩ := rd_pair h
  obtain rfl := agg_of hv
  clear hv
  go_enter Try.func22, Try.ntmps22
  go_wp2_with fail
  refine (markInt64S_any _ ((Ty.slice _).same hd (Same.below bA ((Ty.slice _).lt hd))) hn (hu.same (Same.below bA ((Ty.slice _).lt hd))) _ h0 h1).mono ?_
  rintro e w1 ⟨rfl, g1, g2, g3⟩
  go_wp2_with fail
  go_ret
  exact ⟨rfl, (Below.tchF bA fp).trans g1, hcl _ _ g2, g3⟩
set_option maxHeartbeats 800000 in
theorem heldOp_any (w : World) {cs : Array Value} {xs : Int × List Int} (k : Int) (h : opT.Rd w cs.toList (mkOp k xs)) (h0 : 0 ≤ k) (h1 : k + cntOp xs ≤ 4611686018427387904) :
    Calls Try.prog 23 #[.agg cs, .int .i64 k] w fun e w' => e = .returned (.int .i64 (k + cntOp xs)) ∧ Below w.heap.size w w' := by
  obtain ⟨u, hv, -, hd⟩ := pair_ex h
  obtain rfl := agg_of hv
  clear hv h
  go_enter Try.func23, Try.ntmps23
  go_wp2_with fail
  refine (heldInt64S_any _ _ (hd.below bA) h0 h1).mono ?_
  rintro e w1 ⟨rfl, hb1⟩
  have hp : 0 ≤ k + cntOp xs := by have := cntI_nn xs.2; unfold cntOp; omega
  unfold cntOp at hp
  go_wp2_with fail
  go_ret
  exact ⟨rfl, (by repeat (first | exact Below.refl _ _ | exact bA | assumption | refine Below.setCell ?_ (by first | omega | (simp; try omega)) _ | refine Below.alloc ?_ (by first | omega | (simp; try omega)) _ | refine Below.drew ?_ | refine bDN ?_ | refine bthen ?_ (by assumption)))⟩
set_option maxHeartbeats 800000 in
theorem markTemplate_any (w : World) {cs : Array Value} {xs : Int × List (Int × List (List Int))} {fp : List Nat} (h : tplT.rd w cs.toList xs fp) (hn : fp.Nodup) (hu : Unf w fp) (k : Int) (h0 : 0 ≤ k) (h1 : k + cntTpl xs ≤ 4611686018427387904) :
    Calls Try.prog 19 #[.agg cs, .int .i64 k] w fun e w' => e = .returned (.int .i64 (k + cntTpl xs)) ∧ TchF fp w w' ∧ tplT.rd w' cs.toList (mkTpl k xs) fp ∧ Unf w' fp := by
  obtain ⟨u, hv, hd, hcl⟩ := rd_pair h
  obtain rfl := agg_of hv
  clear hv
  go_enter Try.func19, Try.ntmps19
  go_wp2_with fail
  refine (markRelS_any _ ((Ty.slice _).same hd (Same.below bA ((Ty.slice _).lt hd))) hn (hu.same (Same.below bA ((Ty.slice _).lt hd))) _ h0 h1).mono ?_
  rintro e w1 ⟨rfl, g1, g2, g3⟩
  go_wp2_with fail
  go_ret
  exact ⟨rfl, (Below.tchF bA fp).trans g1, hcl _ _ g2, g3⟩
set_option maxHeartbeats 800000 in
theorem markFormula_any (w : World) {cs : Array Value} {xs : Int × Int × List (Int × List Int)} {fp : List Nat} (h : frmT.rd w cs.toList xs fp) (hn : fp.Nodup) (hu : Unf w fp) (k : Int) (h0 : 0 ≤ k) (h1 : k + cntFrm xs ≤ 4611686018427387904) :
    Calls Try.prog 39 #[.agg cs, .int .i64 k] w fun e w' => e = .returned (.int .i64 (k + cntFrm xs)) ∧ TchF fp w w' ∧ frmT.rd w' cs.toList (mkFrm k xs) fp ∧ Unf w' fp := by
  obtain ⟨u, hv, hd, hcl⟩ := rd_trip h
  obtain rfl := agg_of hv
  clear hv
  go_enter Try.func39, Try.ntmps39
  go_wp2_with fail
  refine (markAtomS_any _ ((Ty.slice _).same hd (Same.below bA ((Ty.slice _).lt hd))) hn (hu.same (Same.below bA ((Ty.slice _).lt hd))) _ h0 h1).mono ?_
  rintro e w1 ⟨rfl, g1, g2, g3⟩
  go_wp2_with fail
  go_ret
  exact ⟨rfl, (Below.tchF bA fp).trans g1, hcl _ _ g2, g3⟩
set_option maxHeartbeats 800000 in
theorem heldFormula_any (w : World) {cs : Array Value} {xs : Int × Int × List (Int × List Int)} (k : Int) (h : frmT.Rd w cs.toList (mkFrm k xs)) (h0 : 0 ≤ k) (h1 : k + cntFrm xs ≤ 4611686018427387904) :
    Calls Try.prog 40 #[.agg cs, .int .i64 k] w fun e w' => e = .returned (.int .i64 (k + cntFrm xs)) ∧ Below w.heap.size w w' := by
  obtain ⟨u, hv, -, -, hd⟩ := trip_ex h
  obtain rfl := agg_of hv
  clear hv h
  go_enter Try.func40, Try.ntmps40
  go_wp2_with fail
  refine (heldAtomS_any _ _ (hd.below bA) h0 h1).mono ?_
  rintro e w1 ⟨rfl, hb1⟩
  have hp : 0 ≤ k + cntFrm xs := by have := cntOps_nn xs.2.2; unfold cntFrm; omega
  unfold cntFrm at hp
  go_wp2_with fail
  go_ret
  exact ⟨rfl, (by repeat (first | exact Below.refl _ _ | exact bA | assumption | refine Below.setCell ?_ (by first | omega | (simp; try omega)) _ | refine Below.alloc ?_ (by first | omega | (simp; try omega)) _ | refine Below.drew ?_ | refine bDN ?_ | refine bthen ?_ (by assumption)))⟩
theorem markInt64S_fx (w : World) {v : Value} {xs : List Int} {lo hi : Nat} (h : intsT.Fx lo hi w [v] xs) (k : Int) (h0 : 0 ≤ k) (h1 : k + cntI xs ≤ 4611686018427387904) :
    Calls Try.prog 21 #[v, .int .i64 k] w fun e w' => e = .returned (.int .i64 (k + cntI xs)) ∧ Tch lo hi w w' ∧ intsT.Fx lo hi w' [v] (mkI k xs) := by
  obtain ⟨fp, g1, g2, g3, g4⟩ := h
  exact (markInt64S_any w g1 g2 g4 k h0 h1).mono fun e w' ⟨he, ht, hr, hu⟩ => ⟨he, ht.tch g3, fp, hr, g2, g3, hu⟩
theorem markInt64SS_fx (w : World) {v : Value} {xs : List (List Int)} {lo hi : Nat} (h : rowsT.Fx lo hi w [v] xs) (k : Int) (h0 : 0 ≤ k) (h1 : k + cntRows xs ≤ 4611686018427387904) :
    Calls Try.prog 20 #[v, .int .i64 k] w fun e w' => e = .returned (.int .i64 (k + cntRows xs)) ∧ Tch lo hi w w' ∧ rowsT.Fx lo hi w' [v] (mkRows k xs) := by
  obtain ⟨fp, g1, g2, g3, g4⟩ := h
  exact (markInt64SS_any w g1 g2 g4 k h0 h1).mono fun e w' ⟨he, ht, hr, hu⟩ => ⟨he, ht.tch g3, fp, hr, g2, g3, hu⟩
theorem markRelS_fx (w : World) {v : Value} {xs : List (Int × List (List Int))} {lo hi : Nat} (h : relsT.Fx lo hi w [v] xs) (k : Int) (h0 : 0 ≤ k) (h1 : k + cntRels xs ≤ 4611686018427387904) :
    Calls Try.prog 57 #[v, .int .i64 k] w fun e w' => e = .returned (.int .i64 (k + cntRels xs)) ∧ Tch lo hi w w' ∧ relsT.Fx lo hi w' [v] (mkRels k xs) := by
  obtain ⟨fp, g1, g2, g3, g4⟩ := h
  exact (markRelS_any w g1 g2 g4 k h0 h1).mono fun e w' ⟨he, ht, hr, hu⟩ => ⟨he, ht.tch g3, fp, hr, g2, g3, hu⟩
theorem markRel_fx (w : World) {cs : Array Value} {xs : Int × List (List Int)} {lo hi : Nat} (h : relT.Fx lo hi w cs.toList xs) (k : Int) (h0 : 0 ≤ k) (h1 : k + cntRel xs ≤ 4611686018427387904) :
    Calls Try.prog 27 #[.agg cs, .int .i64 k] w fun e w' => e = .returned (.int .i64 (k + cntRel xs)) ∧ Tch lo hi w w' ∧ relT.Fx lo hi w' cs.toList (mkRel k xs) := by
  obtain ⟨fp, g1, g2, g3, g4⟩ := h
  exact (markRel_any w g1 g2 g4 k h0 h1).mono fun e w' ⟨he, ht, hr, hu⟩ => ⟨he, ht.tch g3, fp, hr, g2, g3, hu⟩
theorem markOp_fx (w : World) {cs : Array Value} {xs : Int × List Int} {lo hi : Nat} (h : opT.Fx lo hi w cs.toList xs) (k : Int) (h0 : 0 ≤ k) (h1 : k + cntOp xs ≤ 4611686018427387904) :
    Calls Try.prog 22 #[.agg cs, .int .i64 k] w fun e w' => e = .returned (.int .i64 (k + cntOp xs)) ∧ Tch lo hi w w' ∧ opT.Fx lo hi w' cs.toList (mkOp k xs) := by
  obtain ⟨fp, g1, g2, g3, g4⟩ := h
  exact (markOp_any w g1 g2 g4 k h0 h1).mono fun e w' ⟨he, ht, hr, hu⟩ => ⟨he, ht.tch g3, fp, hr, g2, g3, hu⟩
theorem markTemplate_fx (w : World) {cs : Array Value} {xs : Int × List (Int × List (List Int))} {lo hi : Nat} (h : tplT.Fx lo hi w cs.toList xs) (k : Int) (h0 : 0 ≤ k) (h1 : k + cntTpl xs ≤ 4611686018427387904) :
    Calls Try.prog 19 #[.agg cs, .int .i64 k] w fun e w' => e = .returned (.int .i64 (k + cntTpl xs)) ∧ Tch lo hi w w' ∧ tplT.Fx lo hi w' cs.toList (mkTpl k xs) := by
  obtain ⟨fp, g1, g2, g3, g4⟩ := h
  exact (markTemplate_any w g1 g2 g4 k h0 h1).mono fun e w' ⟨he, ht, hr, hu⟩ => ⟨he, ht.tch g3, fp, hr, g2, g3, hu⟩
theorem markFormula_fx (w : World) {cs : Array Value} {xs : Int × Int × List (Int × List Int)} {lo hi : Nat} (h : frmT.Fx lo hi w cs.toList xs) (k : Int) (h0 : 0 ≤ k) (h1 : k + cntFrm xs ≤ 4611686018427387904) :
    Calls Try.prog 39 #[.agg cs, .int .i64 k] w fun e w' => e = .returned (.int .i64 (k + cntFrm xs)) ∧ Tch lo hi w w' ∧ frmT.Fx lo hi w' cs.toList (mkFrm k xs) := by
  obtain ⟨fp, g1, g2, g3, g4⟩ := h
  exact (markFormula_any w g1 g2 g4 k h0 h1).mono fun e w' ⟨he, ht, hr, hu⟩ => ⟨he, ht.tch g3, fp, hr, g2, g3, hu⟩
end Go.Proofs.Ytccobadobklbpaa
