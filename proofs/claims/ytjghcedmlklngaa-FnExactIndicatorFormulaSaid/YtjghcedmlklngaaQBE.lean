/-
Contracts: the formula of the hull, the reference's.
The marks of the laws: mark writes numbers from k on into all memory of a datum, held finds them there.
A region that draws its order and holds one alloc and one store into it besides loads and calls that make new memory: one account serves every order. The box's block is a ghost. No program is named here.
-/
import Derived.Test.YtjghcedmlklngaaQBC
import Derived.Test.YtjghcedmlklngaaQBD
import Derived.Test.YtjghcedmlklngaaQAC
import Derived.Test.YtjghcedmlklngaaQAD
namespace Go.Proofs.Ytjghcedmlklngaa
open Go.RowKit Go.Sort
theorem eqA_lt {s : Int} {cols : List (List Int)} {vars : List Int} {p : Nat} (hp : p < cols.length) {v : Int} (hv : vars.getD (idxL s 0 cols[p]).toNat 0 = v) (hle : v ≤ p) : eqA s cols vars (p + 1) = match decide (v < (p : Int)) with
  | true => eqA s cols vars p ++ [(-1, [v, (p : Int)])]
  | false => eqA s cols vars p := by
  cases h : decide (v < (p : Int))
  · have : v = (p : Int) := by have := of_decide_eq_false h; omega
    exact eqA_no hp hv (by simp [this])
  · have h1 := of_decide_eq_true h
    exact eqA_yes hp hv (by simp; omega)
set_option maxHeartbeats 12800000 in
set_option maxRecDepth 100000 in
theorem specIndicatorFormula_any (w : World) {cs : Array Value} {v : Value} {t : Tpl} {u : List (List Int)} (h : tplT.Rd w cs.toList t) (hu : rowsT.Rd w [v] u) :
    Calls Try.prog 7 #[.agg cs, v] w (RetAC frmT w (inV t u) (inC t u)) := by
  have HP0 := Lib.hid h
  have HU := Lib.hid hu
  obtain ⟨v1, hv1, -, hrls⟩ := pair_ex h
  obtain rfl := agg_of hv1
  obtain ⟨ra, rc, hvr, -, -, -⟩ := pairs_ex hrls
  obtain rfl : v1 = _ := by simpa using hvr
  obtain ⟨la, lc, rfl⟩ := rd_slice hu
  clear h hu hv1 hrls hvr
  go_enter Try.func7, Try.ntmps7
  go_wp2_with fail
  generalize hW : World.alloc (World.alloc w _) _ = W
  have hbW : Below w.heap.size w W := hW ▸ bAA
  have hsW : w.heap.size + 2 ≤ W.heap.size := by rw [← hW]; simp
  have t0 : W.cell? ⟨w.heap.size, 0, none⟩ = some (.int .i64 t.1) := by rw [← hW]; simp [go_sem]
  have t1 : W.cell? ⟨w.heap.size, 1, none⟩ = some (.slice ra t.2.length rc) := by rw [← hW]; simp [go_sem]
  have r0 : W.cell? ⟨w.heap.size + 1, 0, none⟩ = some (.int .i64 0) := by rw [← hW]; simp [go_sem]
  have r1 : W.cell? ⟨w.heap.size + 1, 1, none⟩ = some (.int .i64 0) := by rw [← hW]; simp [go_sem]
  have r2 : W.cell? ⟨w.heap.size + 1, 2, none⟩ = some (.slice none 0 0) := by rw [← hW]; simp [go_sem]
  have q0 : W.frozen? ⟨w.heap.size + 1, 0, none⟩ = false := by rw [← hW]; simp [go_sem]
  have q1 : W.frozen? ⟨w.heap.size + 1, 1, none⟩ = false := by rw [← hW]; simp [go_sem]
  have q2 : W.frozen? ⟨w.heap.size + 1, 2, none⟩ = false := by rw [← hW]; simp [go_sem]
  have HPT : Hid (tplT.Pt W (.pointer (some ⟨w.heap.size, 0, none⟩)) t) := ⟨_, 0, _, rfl, by omega, HP0.out.below hbW, fun j hj => by
    have hj2 : j < 2 := hj
    match j, hj2 with
    | 0, _ => exact t0
    | 1, _ => exact t1⟩
  clear hW HP0
  refine (l04Tuples_any _ HPT.out (HU.out.below hbW)).mono ?_
  rintro e w2 ⟨rfl, hq2⟩
  have hb2 := hq2.below
  have hB2 := bthen hbW hb2
  have hz2 := hb2.size
  replace t0 := (cellB hb2 (by omega)).trans t0
  replace t1 := (cellB hb2 (by omega)).trans t1
  replace r0 := (cellB hb2 (by omega)).trans r0
  replace r1 := (cellB hb2 (by omega)).trans r1
  replace r2 := (cellB hb2 (by omega)).trans r2
  replace q0 := (frozenB hb2 (by omega)).trans q0
  replace q1 := (frozenB hb2 (by omega)).trans q1
  replace q2 := (frozenB hb2 (by omega)).trans q2
  have hl2 : w.heap.size + 2 ≤ w2.heap.size := by omega
  have HPT2 := Lib.hid (HPT.out.below hb2)
  clear HPT hq2
  cases ha : (huC t u != 0)
  rotate_left
  · have HR := Lib.hid (in_no (t := t) (u := u) (by simpa using ha))
    obtain ⟨g0, g1, g2⟩ := set3_cells (x := .int .i64 0) (y := .int .i64 0) (z := .slice none 0 0) r0 r1 r2
    generalize huC t u = C at *
    go_wp2_with fail
    refine bodyPost_ret (v := .tuple #[.agg #[.int .i64 0, .int .i64 0, .slice none 0 0], .int .i64 C]) (by simp [results, Try.results7, go_sem, g0, g1, g2]) rfl ⟨[.int .i64 0, .int .i64 0, .slice none 0 0], by rw [HR.out.1], by rw [HR.out.2]; exact fr_frm0, set3_below hB2 (by omega)⟩
  have hc : huC t u = 0 := by simpa using ha
  have HC := Lib.hid hc
  obtain ⟨hT, hul, hm, hml, hmi⟩ := hu_ok hc
  have HT := Lib.hid hT
  have HML := Lib.hid hml
  have HMI := Lib.hid hmi
  have hs4 := hT.1
  unfold sizeOk at hs4
  have hl6 := hT.2.1
  have hnn := tabL_of (ar := (u.length : Int)) hT
  rw [Int.toNat_natCast] at hnn
  obtain ⟨N, hNe⟩ : ∃ N, tabL t (u.length : Int) = N := ⟨_, rfl⟩
  rw [hNe] at hnn
  have HNN := Lib.hid hnn
  have HNE := Lib.hid hNe
  have hNb := tabN_bd (tabN_of hT.1 (ar := u.length) (by omega) hnn)
  have HIN := Lib.hid (cols_in hml hmi)
  have h0 : 0 < u.length := by omega
  rw [hc]
  clear ha hc hT hml hmi hnn hNe
  go_wp2_with fail
  refine (l04Var_any w2 (HU.out.below hB2) hs4 hul HML.out (by omega) HMI.out HNN.out).mono ?_
  rintro e w3 ⟨vv, rfl, hvf, hb3⟩
  obtain ⟨L, nx, hvr⟩ : ∃ L nx, vrS t.1 u.length (colsL u (huM u)) N = (L, nx) := ⟨_, _, rfl⟩
  rw [hvr] at hvf ⊢
  dsimp only at hvf ⊢
  have HIV : Hid (ivS t u = (L, nx)) := by unfold Hid ivS; rw [HNE.out]; exact hvr
  have hlen := vrS_len (s := t.1) (ar := u.length) (cols := colsL u (huM u)) (k := N)
  have hnx := vrS_next (s := t.1) (ar := u.length) (cols := colsL u (huM u)) (k := N)
  have hcl : (colsL u (huM u)).length = huM u := colsL_len
  rw [hvr] at hlen hnx
  dsimp only at hlen hnx
  rw [hcl] at hnx
  have HLb : Hid (∀ q, q < N → ∃ a, L[q]? = some a ∧ 0 ≤ a ∧ a ≤ 68) := fun q hq => by
    have h1 : q < L.length := by omega
    refine ⟨L[q], List.getElem?_eq_getElem h1, ?_⟩
    have h2 := vrS_bd (s := t.1) (ar := u.length) (cols := colsL u (huM u)) (k := N) L[q] (by rw [hvr]; exact List.getElem_mem h1)
    rw [hcl] at h2
    omega
  have HLE : Hid (∀ p (h : p < (colsL u (huM u)).length), 0 ≤ L.getD (idxL t.1 0 (colsL u (huM u))[p]).toNat 0 ∧ L.getD (idxL t.1 0 (colsL u (huM u))[p]).toNat 0 ≤ p) := fun p hp => by
    have := var_le (s := t.1) (ar := u.length) (cols := colsL u (huM u)) (by omega) HNN.out (fun l hl => by have := (HIN.out l hl).1; omega) (fun l hl => (HIN.out l hl).2) hp
    rw [hvr] at this
    exact this
  obtain ⟨av, cv, rfl⟩ := fr_slice hvf
  rw [hlen] at hvf ⊢
  have HLN := Lib.hid hlen
  have HVF := Lib.hid hvf.rd
  have hB3 := bthen hB2 hb3
  have hz3 := hb3.size
  replace t0 := (cellB hb3 (by omega)).trans t0
  replace t1 := (cellB hb3 (by omega)).trans t1
  replace r0 := (cellB hb3 (by omega)).trans r0
  replace r1 := (cellB hb3 (by omega)).trans r1
  replace r2 := (cellB hb3 (by omega)).trans r2
  replace q0 := (frozenB hb3 (by omega)).trans q0
  replace q1 := (frozenB hb3 (by omega)).trans q1
  replace q2 := (frozenB hb3 (by omega)).trans q2
  have HPT3 := Lib.hid (HPT2.out.below hb3)
  clear hvf hlen HPT2 hvr
  cases h8 : decide ((8 : Int) < nx)
  rotate_left
  · have HR := Lib.hid (in_vars HC.out (by rw [HIV.out]; exact h8))
    obtain ⟨g0, g1, g2⟩ := set3_cells (x := .int .i64 0) (y := .int .i64 0) (z := .slice none 0 0) r0 r1 r2
    go_wp2_with fail
    refine bodyPost_ret (v := .tuple #[.agg #[.int .i64 0, .int .i64 0, .slice none 0 0], .int .i64 3]) (by simp [results, Try.results7, go_sem, g0, g1, g2]) rfl ⟨[.int .i64 0, .int .i64 0, .slice none 0 0], by rw [HR.out.1], by rw [HR.out.2]; exact fr_frm0, set3_below hB3 (by omega)⟩
  have H8 := Lib.hid h8
  have hn8 : nx ≤ 8 := by have := of_decide_eq_false h8; omega
  go_wp2_with fail
  refine (l04Lists_any w3 (HU.out.below hB3) h0 (by omega) HML.out (by omega)).mono ?_
  rintro e w4 ⟨lv, rfl, hlf, hb4⟩
  obtain ⟨la4, lc4, rfl⟩ := fr_slice hlf
  rw [hcl] at hlf ⊢
  have HLF := Lib.hid hlf.rd
  have hB4 := bthen hB3 hb4
  have hz4 := hb4.size
  replace t0 := (cellB hb4 (by omega)).trans t0
  replace t1 := (cellB hb4 (by omega)).trans t1
  replace r0 := (cellB hb4 (by omega)).trans r0
  replace r1 := (cellB hb4 (by omega)).trans r1
  replace r2 := (cellB hb4 (by omega)).trans r2
  replace q0 := (frozenB hb4 (by omega)).trans q0
  replace q1 := (frozenB hb4 (by omega)).trans q1
  replace q2 := (frozenB hb4 (by omega)).trans q2
  have HPT4 := Lib.hid (HPT3.out.below hb4)
  have HV4 := Lib.hid (HVF.out.below hb4)
  clear hlf HPT3 HVF h8
  go_wp2_with fail
  generalize hW5 : World.alloc w4 _ = w5
  have hb5 : Below w4.heap.size w4 w5 := hW5 ▸ bA
  have hB5 := bthen hB4 hb5
  obtain ⟨fb, hfb⟩ : ∃ fb, w4.heap.size = fb := ⟨_, rfl⟩
  have hz5 : fb + 1 ≤ w5.heap.size := by rw [← hW5, ← hfb]; simp
  have HZ5 : Hid (w5.heap.size = fb + 1) := by unfold Hid; rw [← hW5, ← hfb]; simp
  have f0 : w5.cell? ⟨fb, 0, none⟩ = some (.int .i64 (huM u : Int)) := by rw [← hW5, ← hfb]; simp [go_sem]
  have f1 : w5.cell? ⟨fb, 1, none⟩ = some (.int .i64 nx) := by rw [← hW5, ← hfb]; simp [go_sem]
  have f2 : w5.cell? ⟨fb, 2, none⟩ = some (.slice none 0 0) := by rw [← hW5, ← hfb]; simp [go_sem]
  have m2 : w5.frozen? ⟨fb, 2, none⟩ = false := by rw [← hW5, ← hfb]; simp [go_sem]
  have hwf : w.heap.size + 2 ≤ fb := by omega
  have HL5 := Lib.hid (rdP_lt (rd_rdP HLF.out))
  have HV5 := Lib.hid (rdP_lt (rd_rdP HV4.out))
  replace t0 := (cellB hb5 (by omega)).trans t0
  replace t1 := (cellB hb5 (by omega)).trans t1
  replace r0 := (cellB hb5 (by omega)).trans r0
  replace r1 := (cellB hb5 (by omega)).trans r1
  replace r2 := (cellB hb5 (by omega)).trans r2
  replace q0 := (frozenB hb5 (by omega)).trans q0
  replace q1 := (frozenB hb5 (by omega)).trans q1
  replace q2 := (frozenB hb5 (by omega)).trans q2
  have H45 := Lib.hid hb5
  rw [hfb] at HL5 HV5 H45 ⊢
  have HL6 := Lib.hid (HL5.out.below (by rw [hfb]; exact H45.out))
  have HV6 := Lib.hid (HV5.out.below (by rw [hfb]; exact H45.out))
  have HTT := Lib.hid (And.intro t0 t1)
  have HRR := Lib.hid (And.intro r0 (And.intro r1 r2))
  have HQQ := Lib.hid (And.intro q0 (And.intro q1 q2))
  have HFB := Lib.hid hfb
  clear hW5 HL5 HV5 HLF hz2 hsW hb5 t0 t1 r0 r1 r2 q0 q1 q2 hz3 hz4 hfb
  go_wp2_with fail
  go_loopw [11] (fun i wr => ∃ (p : Nat) (va : Value), p ≤ huM u ∧ i = .int .i64 p ∧ Bl opT 72 (fb + 1) wr.heap.size wr va (eqA t.1 (colsL u (huM u)) L p) ∧ wr.cell? ⟨fb, 0, none⟩ = some (.int .i64 (huM u : Int)) ∧ wr.cell? ⟨fb, 1, none⟩ = some (.int .i64 nx) ∧ wr.cell? ⟨fb, 2, none⟩ = some va ∧ wr.frozen? ⟨fb, 2, none⟩ = false ∧ TchP (fun q => q = fb) w5 wr) (fun i _ => huM u - (intOf i).toNat)
  case atStart => exact ⟨0, .slice none 0 0, Nat.zero_le _, rfl, Bl.nil, f0, f1, f2, m2, TchP.refl _ _⟩
  case round =>
    clear f0 f1 f2 m2
    obtain ⟨p, va, hp, rfl, hBa, f0, f1, f2, m2, htc⟩ := hrel
    have HBa := Lib.hid hBa
    have HTD := Lib.hid htc
    have hzr := htc.size
    have s0 := (htc.cell (i := 0) (show w.heap.size < w5.heap.size by omega) (by omega)).trans HTT.out.1
    have HLr := Lib.hid (HL6.out.tchP htc (fun q _ h e => by have := h.2; omega)).rd
    have HVr := Lib.hid (HV6.out.tchP htc (fun q _ h e => by have := h.2; omega)).rd
    have hal := eqA_len (s := t.1) (cols := colsL u (huM u)) (vars := L) (p := p)
    have hBq : Below w.heap.size w wr := hB5.trans (htc.below (by omega) (fun q hq e => by omega))
    obtain ⟨ga, gn, gc, rfl⟩ := ex_slice (hBa.fr (by unfold capMax; omega))
    obtain ⟨wq, rfl⟩ : ∃ wq : World, wq = wr := ⟨_, rfl⟩
    clear hBa htc
    by_cases hpl : p < huM u
    · have hpl' : p < (colsL u (huM u)).length := by rw [colsL_len]; exact hpl
      obtain ⟨_, _, hvL, -, -, hcL⟩ := slices_ex HLr.out
      simp only [List.cons.injEq, Value.slice.injEq, and_true] at hvL
      obtain ⟨rfl, -, rfl⟩ := hvL
      obtain ⟨lb, lo, rfl, hlb, hce⟩ := hcL (by omega)
      obtain ⟨lx, hlx, hcv⟩ := hce p hpl'
      obtain ⟨lxa, lxc, rfl⟩ := rd_slice hlx
      have hin := HIN.out _ (List.getElem_mem hpl')
      have hb := idx_lt (s := t.1) (by omega) (xs := (colsL u (huM u))[p]) (m := u.length) (by have := hin.1; omega) hin.2
      rw [HNN.out] at hb
      have HLX := Lib.hid hlx
      have HI2 := Lib.hid hin.2
      have hl5 : ((colsL u (huM u))[p]).length ≤ 5 := by have := hin.1; omega
      obtain ⟨q, hq⟩ : ∃ q : Nat, idxL t.1 0 (colsL u (huM u))[p] = q := ⟨(idxL t.1 0 (colsL u (huM u))[p]).toNat, by omega⟩
      have hqN : q < N := by omega
      have hqL : q < L.length := Nat.lt_of_lt_of_eq hqN HLN.out.symm
      obtain ⟨a, hLa, ha0, ha1⟩ := HLb.out q hqN
      obtain ⟨_, _, hvV, -, -, hcV⟩ := ints_ex HVr.out
      simp only [List.cons.injEq, Value.slice.injEq, and_true] at hvV
      obtain ⟨rfl, -, rfl⟩ := hvV
      obtain ⟨vb, vo, rfl, hvb, hce2⟩ := hcV (by omega)
      obtain ⟨-, hcq⟩ := hce2 q hqL
      have hLq : L[q] = a := by
        rw [List.getElem?_eq_getElem hqL] at hLa
        exact Option.some.inj hLa
      rw [hLq] at hcq
      have hgd : L.getD (idxL t.1 0 (colsL u (huM u))[p]).toNat 0 = a := by rw [hq, Int.toNat_natCast, List.getD_eq_getElem?_getD, hLa]; rfl
      have hle := (HLE.out p hpl').2
      rw [hgd] at hle
      have HEQ := Lib.hid (eqA_lt (s := t.1) (vars := L) hpl' hgd hle)
      have cC : ∀ n, Calls Try.prog 35 #[.int .i64 t.1, .slice lxa ((colsL u (huM u))[p]).length lxc] (wq.drewN n) fun e w'' => e = .returned (.int .i64 (q : Int)) ∧ ∃ m, w'' = wq.drewN m := fun n => by
        have := pure_drawn (l01Code_any (wq.drewN n) t.1 (HLX.out.below (Quiet.drewN wq n).below) (by omega) (by omega) hl5 HI2.out)
        rw [hq] at this
        exact this
      clear hcL hce hlx hin hb hLa hcV hce2 hLq hgd hq hle hqL
      cases hne : decide (a < (p : Int))
      · have HS : Hid (eqA t.1 (colsL u (huM u)) L (p + 1) = eqA t.1 (colsL u (huM u)) L p) := HEQ.out.trans (by rw [hne])
        have HB2 : ∀ n, Hid (Bl opT 72 (fb + 1) (wq.drewN n).heap.size (wq.drewN n) (.slice ga gn gc) (eqA t.1 (colsL u (huM u)) L p)) := fun n => (HBa.out.below (Quiet.drewN wq n).below (Nat.le_refl _)).mono (by simp)
        go_wp2_with fail
        go_quiet (exact cC _)
        go_wp2_with fail
        go_roundw
        case rel => exact ⟨p + 1, _, by omega, by go_num, by rw [HS.out]; exact (HB2 _).out, f0, f1, f2, m2, HTD.out.then (TchP.of_below (Quiet.drewN wq _).below _) (fun q _ h => h)⟩
        case measure => simp [intOf]; omega
      · have HS : Hid (eqA t.1 (colsL u (huM u)) L (p + 1) = eqA t.1 (colsL u (huM u)) L p ++ [(-1, [a, (p : Int)])]) := HEQ.out.trans (by rw [hne])
        have hI1 : I64 (-1) := I64.small (by omega) (by omega)
        have hIa : I64 a := I64.small (by omega) (by omega)
        have hIp : I64 (p : Int) := I64.small (by omega) (by omega)
        go_wp2_with fail
        go_quiet (exact cC _)
        generalize hWz : wq.drewN nq = wz
        have hqz : Below wq.heap.size wq wz := hWz ▸ (Quiet.drewN wq nq).below
        have hzz := hqz.size
        have HBz := Lib.hid ((HBa.out.below hqz (Nat.le_refl _)).mono hzz)
        replace f0 := (cellB hqz (by omega)).trans f0
        replace f1 := (cellB hqz (by omega)).trans f1
        replace f2 := (cellB hqz (by omega)).trans f2
        replace m2 := (frozenB hqz (by omega)).trans m2
        have HTZ := Lib.hid (HTD.out.then (TchP.of_below hqz (fun q => q = fb)) (fun q _ h => h))
        clear hWz HBa HTD s0 cC
        go_wp2_with (at_builtin; go_loud (refine wpList_push (E := opT) _ rfl _ _ 28 72 rfl elAtm' rfl (HBz.out.below (bAA (w := wz)) (Nat.le_refl _)) rfl (news2' (by simp)) (fr_cons hI1 ((fr_ints2 (base := wz.heap.size) hIa hIp rfl (Nat.le_refl _)).below bA)) (by omega) (by decide) (by omega) (by first | (simp; done) | (simp; omega)) ?_; intro v5 w6 hB6 hg6 _; obtain ⟨va5, vn5, vc5, rfl⟩ := ex_slice (hB6.fr (by rw [List.length_append]; unfold capMax; simp; omega)); refine Hid.out ?_))
        refine Lib.hid ?_
        have hb6 : RowKit.Below (fb + 1) wz w6 := (((Below.refl _ wz).alloc (by omega) _).alloc (by simp; omega) _).grown hg6 (by simp; omega) (fun q hq => HBz.out.own hq)
        have hz6 := hb6.size
        replace f0 := (cellB hb6 (by omega)).trans f0
        replace f1 := (cellB hb6 (by omega)).trans f1
        replace f2 := (cellB hb6 (by omega)).trans f2
        replace m2 := (frozenB hb6 (by omega)).trans m2
        have hB6' : Bl opT 72 (fb + 1) w6.heap.size w6 (.slice va5 vn5 vc5) (eqA t.1 (colsL u (huM u)) L p ++ [(-1, [a, (p : Int)])]) := hB6
        rw [← HS.out] at hB6'
        have HB6 := Lib.hid hB6'
        clear hB6 hB6' hg6
        go_wp2_with fail
        go_roundw
        case rel => exact ⟨p + 1, _, by omega, by go_num, by rw [size_set]; exact HB6.out.sameB (fun q h1 h2 => Below.heap_setCell _ _ _ _ (by simp; omega)), (World.cell?_setCell_other _ _ _ _ (by simp)).trans f0, (World.cell?_setCell_other _ _ _ _ (by simp)).trans f1, World.cell?_setCell_same _ _ _ f2, (World.frozen?_setCell _ _ _ _).trans m2, tch_app' HTZ.out (hb6.mono (Nat.le_of_eq HZ5.out))⟩
        case measure => simp [intOf]; omega
    · obtain rfl : p = huM u := by omega
      have HEE : Hid (eqA t.1 (colsL u (huM u)) L (huM u) = ivE t u) := by unfold Hid ivE; rw [HIV.out]
      unfold Hid at HBa
      rw [HEE.out] at HBa hal
      have HBa := Lib.hid HBa
      clear s0
      go_wp2_with fail
      go_loopw [13] (fun i wr => ∃ (k : Nat) (va : Value) (l : List AtomL), k ≤ t.2.length ∧ i = .int .i64 k ∧ inT t u.length L (ivE t u) k = some l ∧ Bl opT 72 (fb + 1) wr.heap.size wr va l ∧ wr.cell? ⟨fb, 0, none⟩ = some (.int .i64 (huM u : Int)) ∧ wr.cell? ⟨fb, 1, none⟩ = some (.int .i64 nx) ∧ wr.cell? ⟨fb, 2, none⟩ = some va ∧ wr.frozen? ⟨fb, 2, none⟩ = false ∧ l.length ≤ 16 ∧ TchP (fun q => q = fb) w5 wr) (fun i _ => t.2.length - (intOf i).toNat)
      case atStart => exact ⟨0, _, _, Nat.zero_le _, rfl, rfl, HBa.out, f0, f1, f2, m2, by omega, HTD.out⟩
      case round =>
        clear f0 f1 f2 m2 HBa
        obtain ⟨k, va, l, hk, rfl, hin, hBa, f0, f1, f2, m2, hll, htc⟩ := hrel
        have HTE := Lib.hid htc
        have HB := Lib.hid hBa
        have hzr3 := htc.size
        have hB3q : Below w.heap.size w wr := hB5.trans (htc.below (by omega) (fun q hq e => by omega))
        have s1 := (htc.cell (i := 1) (show w.heap.size < w5.heap.size by omega) (by omega)).trans HTT.out.2
        have HI := Lib.hid hin
        obtain ⟨ga, gn, gc, rfl⟩ := ex_slice (hBa.fr (by unfold capMax; omega))
        obtain ⟨wk, rfl⟩ : ∃ wk : World, wk = wr := ⟨_, rfl⟩
        have H4k : Hid (Below w4.heap.size w4 wk) := by
          unfold Hid
          have h1 : Below fb w4 w5 := H45.out
          have h2 : Below fb w5 wk := htc.below (by omega) (fun q hq e => by omega)
          have h3 := h1.trans h2
          rw [← HFB.out] at h3
          exact h3
        clear hBa htc hin
        by_cases hkl : k < t.2.length
        · have hst := inT_step HI.out hkl
          have HST := Lib.hid hst
          have hkI : (k : Int) < (t.2.length : Int) := by omega
          clear hst
          go_wp2_with fail
          refine (l04Atoms_any wk (w0 := w4) (base := fb + 1) HPT4.out HV4.out H4k.out (by rw [HFB.out]; omega) (by omega) HT.out hkl (by omega) HNN.out HLN.out HLb.out HB.out hll).mono ?_
          rintro e w7 ⟨hb7, v7, hcase⟩
          have hz7 := hb7.size
          replace f0 := (cellB hb7 (by omega)).trans f0
          replace f1 := (cellB hb7 (by omega)).trans f1
          replace f2 := (cellB hb7 (by omega)).trans f2
          replace m2 := (frozenB hb7 (by omega)).trans m2
          have HT7 : Hid (TchP (fun q => q = fb) w5 w7) := ⟨hb7.os.trans HTE.out.os, hb7.tape.trans HTE.out.tape, hb7.output.trans HTE.out.output, by have := HTE.out.size; omega, fun q hq hn => (hb7.block q (by have := HZ5.out; omega)).trans (HTE.out.block q hq hn)⟩
          clear HB s1 H4k
          rcases hcase with ⟨hno, rfl⟩ | ⟨l7, hyes, rfl, hB7⟩
          · have hno2 : inT t u.length L (ivE t u) (k + 1) = none := by rw [HST.out]; exact hno
            have hno3 : ivT t u = none := by unfold ivT; rw [HIV.out]; exact inT_none hno2 (by omega)
            have HR := Lib.hid (in_lim HC.out (by rw [HIV.out]; exact H8.out) hno3)
            have hB7' : Below w.heap.size w w7 := hB3q.trans (hb7.mono (by omega))
            have r0 := (HT7.out.cell (i := 0) (show w.heap.size + 1 < w5.heap.size by omega) (by omega)).trans HRR.out.1
            have r1 := (HT7.out.cell (i := 1) (show w.heap.size + 1 < w5.heap.size by omega) (by omega)).trans HRR.out.2.1
            have r2 := (HT7.out.cell (i := 2) (show w.heap.size + 1 < w5.heap.size by omega) (by omega)).trans HRR.out.2.2
            have q0 := (HT7.out.frozen (i := 0) (show w.heap.size + 1 < w5.heap.size by omega) (by omega)).trans HQQ.out.1
            have q1 := (HT7.out.frozen (i := 1) (show w.heap.size + 1 < w5.heap.size by omega) (by omega)).trans HQQ.out.2.1
            have q2 := (HT7.out.frozen (i := 2) (show w.heap.size + 1 < w5.heap.size by omega) (by omega)).trans HQQ.out.2.2
            obtain ⟨g0, g1, g2⟩ := set3_cells (x := .int .i64 0) (y := .int .i64 0) (z := .slice none 0 0) r0 r1 r2
            clear hno hno2 hno3
            go_wp2_with fail
            refine bodyPost_ret (v := .tuple #[.agg #[.int .i64 0, .int .i64 0, .slice none 0 0], .int .i64 3]) (by simp [results, Try.results7, go_sem, g0, g1, g2]) rfl ⟨[.int .i64 0, .int .i64 0, .slice none 0 0], by rw [HR.out.1], by rw [HR.out.2]; exact fr_frm0, set3_below hB7' (by omega)⟩
          · have HIK : Hid (inT t u.length L (ivE t u) (k + 1) = some l7) := by unfold Hid; rw [HST.out]; exact hyes
            have hl7 := inI_len hyes hll
            have HB7 := Lib.hid hB7
            obtain ⟨xa, xn, xc, rfl⟩ := ex_slice (hB7.fr (by unfold capMax; omega))
            clear hyes hB7
            go_wp2_with fail
            go_roundw
            case rel => exact ⟨k + 1, _, l7, by omega, by go_num, HIK.out, by rw [size_set]; exact HB7.out.sameB (fun q h1 h2 => Below.heap_setCell _ _ _ _ (by simp; omega)), (World.cell?_setCell_other _ _ _ _ (by simp)).trans f0, (World.cell?_setCell_other _ _ _ _ (by simp)).trans f1, World.cell?_setCell_same _ _ _ f2, (World.frozen?_setCell _ _ _ _).trans m2, hl7, HT7.out.then (TchP.set (O := fun q => q = fb) rfl) (fun q _ h => h)⟩
            case measure => simp [intOf]; omega
        · obtain rfl : k = t.2.length := by omega
          have HIT : Hid (ivT t u = some l) := by unfold Hid ivT; rw [HIV.out]; exact HI.out
          have HOK := Lib.hid (in_ok HC.out (by rw [HIV.out]; exact H8.out) HIT.out)
          have r0 := (HTE.out.cell (i := 0) (show w.heap.size + 1 < w5.heap.size by omega) (by omega)).trans HRR.out.1
          have r1 := (HTE.out.cell (i := 1) (show w.heap.size + 1 < w5.heap.size by omega) (by omega)).trans HRR.out.2.1
          have r2 := (HTE.out.cell (i := 2) (show w.heap.size + 1 < w5.heap.size by omega) (by omega)).trans HRR.out.2.2
          have q0 := (HTE.out.frozen (i := 0) (show w.heap.size + 1 < w5.heap.size by omega) (by omega)).trans HQQ.out.1
          have q1 := (HTE.out.frozen (i := 1) (show w.heap.size + 1 < w5.heap.size by omega) (by omega)).trans HQQ.out.2.1
          have q2 := (HTE.out.frozen (i := 2) (show w.heap.size + 1 < w5.heap.size by omega) (by omega)).trans HQQ.out.2.2
          have HF9 : Hid (frmT.Fr (fb + 1) wk [.int .i64 (huM u : Int), .int .i64 nx, .slice ga gn gc] ((huM u : Int), nx, l)) := fr_cons (I64.small (by omega) (by omega)) (fr_cons (I64.small (by omega) (by omega)) (HB.out.fr (by unfold capMax; omega)))
          obtain ⟨g0, g1, g2⟩ := set3_cells (x := .int .i64 (huM u : Int)) (y := .int .i64 nx) (z := .slice ga gn gc) r0 r1 r2
          go_wp2_with fail
          refine bodyPost_ret (v := .tuple #[.agg #[.int .i64 (huM u : Int), .int .i64 nx, .slice ga gn gc], .int .i64 0]) (by simp [results, Try.results7, go_sem, g0, g1, g2]) rfl ⟨[.int .i64 (huM u : Int), .int .i64 nx, .slice ga gn gc], by rw [HOK.out.1], ?_, ?_⟩
          · rw [HOK.out.2, HIV.out]
            exact (HF9.out.set3 (by omega)).mono (by omega)
          · exact set3_below hB3q (by omega)
theorem addA_args {a : AtomL} {l l' : List AtomL} (h : addA a l = some l') (ha : a.2.length ≤ 4) (hl : ∀ b ∈ l, b.2.length ≤ 4) : ∀ b ∈ l', b.2.length ≤ 4 := by
  cases hq : anyB (fun b => eqB a b) l
  · by_cases h1 : 16 < l.length + 1
    · rw [addA_no hq h1] at h; cases h
    · rw [addA_new hq h1] at h
      obtain rfl := Option.some.inj h
      intro b hb
      rcases List.mem_append.1 hb with hb | hb
      · exact hl b hb
      · rw [List.mem_singleton.1 hb]; exact ha
  · rw [addA_old hq] at h
    obtain rfl := Option.some.inj h
    exact hl
theorem inI_args {s : Int} {ar : Nat} {vars : List Int} {k : Nat} {r : Int × List (List Int)} {l : List AtomL} (hr : r.1.toNat ≤ 4) (hl : ∀ b ∈ l, b.2.length ≤ 4) : ∀ {c : Nat} {l' : List AtomL}, inI s ar vars k r l c = some l' → ∀ b ∈ l', b.2.length ≤ 4
  | 0, l', h => by
    obtain rfl := Option.some.inj (show some l = some l' from h)
    exact hl
  | c + 1, l', h => by
    cases h0 : inI s ar vars k r l c with
    | none => rw [inI_none h0 (Nat.le_succ c)] at h; cases h
    | some q =>
      rw [inI_step h0] at h
      exact addA_args h (by show (atL vars (cellsL s ar r c)).length ≤ 4; rw [atL_len, cells_len]; exact hr) (inI_args hr hl h0)
theorem inT_args {t : Tpl} {ar : Nat} {vars : List Int} {l : List AtomL} (hT : tplOk t) (hl : ∀ b ∈ l, b.2.length ≤ 4) : ∀ {k : Nat} {l' : List AtomL}, k ≤ t.2.length → inT t ar vars l k = some l' → ∀ b ∈ l', b.2.length ≤ 4
  | 0, l', _, h => by
    obtain rfl := Option.some.inj (show some l = some l' from h)
    exact hl
  | k + 1, l', hk, h => by
    cases h0 : inT t ar vars l k with
    | none => rw [inT_none h0 (Nat.le_succ k)] at h; cases h
    | some q =>
      rw [inT_step h0 (by omega)] at h
      have := (hT.2.2 _ (List.getElem_mem (show k < t.2.length by omega))).2.1
      unfold sizeOk at this
      exact inI_args (by omega) (inT_args hT hl (by omega) h0) h
theorem inT_len {t : Tpl} {ar : Nat} {vars : List Int} {l : List AtomL} (hl : l.length ≤ 16) : ∀ {k : Nat} {l' : List AtomL}, k ≤ t.2.length → inT t ar vars l k = some l' → l'.length ≤ 16
  | 0, l', _, h => by
    obtain rfl := Option.some.inj (show some l = some l' from h)
    exact hl
  | k + 1, l', hk, h => by
    cases h0 : inT t ar vars l k with
    | none => rw [inT_none h0 (Nat.le_succ k)] at h; cases h
    | some q =>
      rw [inT_step h0 (by omega)] at h
      exact inI_len h (inT_len hl (by omega) h0)
theorem eqA_args {s : Int} {cols : List (List Int)} {vars : List Int} : ∀ {p : Nat}, ∀ b ∈ eqA s cols vars p, b.2.length ≤ 4
  | 0, b, h => by cases h
  | p + 1, b, h => by
    unfold eqA at h
    split at h
    · rcases List.mem_append.1 h with h | h
      · exact eqA_args b h
      · rw [List.mem_singleton.1 h]; show 2 ≤ 4; omega
    · exact eqA_args b h
theorem in_cnt {t : Tpl} {u : List (List Int)} : cntFrm (inV t u) ≤ 1000000 := by
  by_cases h : huC t u = 0
  · cases h1 : decide (8 < (ivS t u).2)
    · cases h2 : ivT t u with
      | none => rw [(in_lim h h1 h2).2]; decide
      | some l =>
        rw [(in_ok h h1 h2).2]
        obtain ⟨hT, -, hm, -, -⟩ := hu_ok h
        have h3 := inT_args hT eqA_args (Nat.le_refl _) h2
        have h4 := inT_len (Nat.le_trans eqA_len (by omega)) (Nat.le_refl _) h2
        have h5 := cntOps_bd h3
        show cntOps l ≤ 1000000
        omega
    · rw [(in_vars h h1).2]; decide
  · rw [(in_no h).2]; decide
end Go.Proofs.Ytjghcedmlklngaa
namespace Go.Proofs.Ytjghcedmlklngaa
open Go.RowKit Go.Sort

set_option maxHeartbeats 800000 in
theorem markInt64S_any (w : World) {v : Value} {xs : List Int} {fp : List Nat} (h : intsT.rd w [v] xs fp) (hn : fp.Nodup) (hu : Unf w fp) (k : Int) (h0 : 0 ≤ k) (h1 : k + cntI xs ≤ 4611686018427387904) :
    Calls Try.prog 55 #[v, .int .i64 k] w fun e w' => e = .returned (.int .i64 (k + cntI xs)) ∧ TchF fp w w' ∧ intsT.rd w' [v] (mkI k xs) fp ∧ Unf w' fp := by
  obtain ⟨ad, cap, rfl⟩ := rd_slice ⟨fp, h⟩
  unfold cntI at h1
  go_enter Try.func55, Try.ntmps55
  go_wp2_with fail
  go_loopw [1, 5] (fun l i wr => ∃ j : Nat, j ≤ xs.length ∧ i = .int .i64 j ∧ l = .int .i64 (k + j) ∧ TchF fp w wr ∧ intsT.rd wr [.slice ad xs.length cap] (mkAt (fun k _ => k) (fun _ => 1) k xs j) fp ∧ Unf wr fp) (fun _ i _ => xs.length - (intOf i).toNat)
  case atStart => exact ⟨0, Nat.zero_le _, rfl, by simp, TchF.refl _ _, by rw [mkAt_zero]; exact h, hu⟩
  case round =>
    obtain ⟨j, hj, rfl, rfl, ht, hr, hU⟩ := hrel
    by_cases hjl : j < xs.length
    · obtain ⟨b, o, cap', hv, hb, hc, hf, hw⟩ := ints_mark hr hn hU (i := j) (by rw [mkAt_len]; exact hjl)
      simp only [mkAt_len, Value.slice.injEq, true_and] at hv
      obtain ⟨rfl, rfl⟩ := hv
      have H := Lib.hid (hw (k + j) ⟨by omega, by omega⟩)
      have e := mkAt_set (f := fun k _ => k) (c := fun _ => 1) (k := k) hjl
      rw [sumL_one, take_len hj] at e
      have HR := Lib.hid hr
      have HU := Lib.hid hU
      have HE := Lib.hid e
      clear hr hU hw h hu e
      go_wp2_with fail
      go_roundw
      case rel => exact ⟨j + 1, by omega, by go_num, by go_num, ht.trans H.out.2.2, by rw [← HE.out]; exact H.out.1, H.out.2.1⟩
      case measure => simp [intOf]; omega
    · obtain rfl : j = xs.length := by omega
      rw [mkAt_full] at hr
      have HR := Lib.hid hr
      have HU := Lib.hid hU
      clear hr hU h hu
      go_wp2_with fail
      go_ret
      exact ⟨rfl, ht, HR.out, HU.out⟩
set_option maxHeartbeats 800000 in
theorem heldInt64S_any (w : World) {v : Value} {xs : List Int} (k : Int) (h : intsT.Rd w [v] (mkI k xs)) (h0 : 0 ≤ k) (h1 : k + cntI xs ≤ 4611686018427387904) :
    Calls Try.prog 101 #[v, .int .i64 k] w fun e w' => e = .returned (.int .i64 (k + cntI xs)) ∧ Below w.heap.size w w' := by
  obtain ⟨ad, cap, hv, -, -, hcell⟩ := ints_ex h
  have hlen : (mkI k xs).length = xs.length := mkL_len
  rw [hlen] at hv
  obtain rfl : v = _ := by simpa using hv
  unfold cntI at h1
  clear h hv
  go_enter Try.func101, Try.ntmps101
  go_wp2_with fail
  go_loopw [1, 5] (fun l i wr => ∃ j : Nat, j ≤ xs.length ∧ i = .int .i64 j ∧ l = .int .i64 (k + j) ∧ Below w.heap.size w wr) (fun _ i _ => xs.length - (intOf i).toNat)
  case atStart => exact ⟨0, Nat.zero_le _, rfl, by simp, Below.refl _ _⟩
  case round =>
    obtain ⟨j, hj, rfl, rfl, hbel⟩ := hrel
    by_cases hjl : j < xs.length
    · obtain ⟨b, o, rfl, hb, hce⟩ := hcell (by omega)
      obtain ⟨-, hc0⟩ := hce j (by omega)
      have e : (mkI k xs)[j]'(by omega) = k + j := by
        have := mkL_get (f := fun (k : Int) (_ : Int) => k) (c := fun _ => 1) (k := k) hjl (by rw [mkL_len]; exact hjl)
        rw [sumL_one, take_len hj] at this
        exact this
      rw [e] at hc0
      have d0 : wr.cell? ⟨b, o + j, none⟩ = some (.int .i64 (k + j)) := (hbel.cell hb).trans hc0
      clear hcell hce hc0 e hlen
      go_wp2_with fail
      go_roundw
      case rel => exact ⟨j + 1, by omega, by go_num, by go_num, hbel⟩
      case measure => simp [intOf]; omega
    · obtain rfl : j = xs.length := by omega
      clear hcell
      go_wp2_with fail
      go_ret
      exact ⟨rfl, hbel⟩
set_option maxHeartbeats 800000 in
theorem markInt64SS_any (w : World) {v : Value} {xs : List (List Int)} {fp : List Nat} (h : rowsT.rd w [v] xs fp) (hn : fp.Nodup) (hu : Unf w fp) (k : Int) (h0 : 0 ≤ k) (h1 : k + cntRows xs ≤ 4611686018427387904) :
    Calls Try.prog 15 #[v, .int .i64 k] w fun e w' => e = .returned (.int .i64 (k + cntRows xs)) ∧ TchF fp w w' ∧ rowsT.rd w' [v] (mkRows k xs) fp ∧ Unf w' fp := by
  obtain ⟨_, _, _, _, hL, _⟩ := Ty.slice_ex ⟨fp, h⟩
  obtain ⟨ad, cap, rfl⟩ := rd_slice ⟨fp, h⟩
  have HS : Hid (cntRows xs = sumL cntI xs) := rfl
  rw [HS.out] at h1
  go_enter Try.func15, Try.ntmps15
  go_wp2_with fail
  go_loopw [1, 5] (fun l i wr => ∃ j : Nat, j ≤ xs.length ∧ i = .int .i64 j ∧ l = .int .i64 (k + sumL cntI (xs.take j)) ∧ TchF fp w wr ∧ rowsT.rd wr [.slice ad xs.length cap] (mkAt mkI cntI k xs j) fp ∧ Unf wr fp) (fun _ i _ => xs.length - (intOf i).toNat)
  case atStart => exact ⟨0, Nat.zero_le _, rfl, by simp [sumL], TchF.refl _ _, by rw [mkAt_zero]; exact h, hu⟩
  case round =>
    obtain ⟨j, hj, rfl, rfl, ht, hr, hU⟩ := hrel
    have hs0 := sumL_nonneg cntI_nn (xs.take j)
    by_cases hjl : j < xs.length
    · obtain ⟨b, o, cap', u, f, hv, hb, hc, hd, hfn, hfu, hw⟩ := rows_mark hr hn hU (i := j) (by rw [mkAt_len]; exact hjl)
      simp only [mkAt_len, Value.slice.injEq, true_and] at hv
      obtain ⟨rfl, rfl⟩ := hv
      rw [mkAt_get hjl] at hd
      have hs1 := sumL_succ cntI hjl
      have hs2 := sumL_take_le cntI_nn xs (j + 1)
      have HE := Lib.hid (mkAt_set (f := mkI) (c := cntI) (k := k) hjl)
      have HD := Lib.hid hd
      have HW := Lib.hid hw
      have HFN := Lib.hid hfn
      have HFU := Lib.hid hfu
      clear hr hU hw h hu hd hfn hfu
      go_wp2_with fail
      refine (markInt64S_any _ HD.out HFN.out HFU.out _ (by omega) (by omega)).mono ?_
      rintro e w1 ⟨rfl, g1, g2, g3⟩
      obtain ⟨q1, q2, q3⟩ := HW.out _ _ g1 g2 g3
      rw [HE.out] at q1
      have HQ := Lib.hid q1
      have HQ2 := Lib.hid q2
      clear q1 q2 g1 g2 g3 hc
      go_wp2_with fail
      go_roundw
      case rel => exact ⟨j + 1, by omega, by go_num, by rw [hs1]; go_num, ht.trans q3, HQ.out, HQ2.out⟩
      case measure => simp [intOf]; omega
    · obtain rfl : j = xs.length := by omega
      rw [mkAt_full] at hr
      rw [List.take_length]
      have HR := Lib.hid hr
      have HU := Lib.hid hU
      clear hr hU h hu
      go_wp2_with fail
      go_ret
      exact ⟨by rw [HS.out]; rfl, ht, HR.out, HU.out⟩
set_option maxHeartbeats 800000 in
theorem markAtomS_any (w : World) {v : Value} {xs : List (Int × List Int)} {fp : List Nat} (h : opsT.rd w [v] xs fp) (hn : fp.Nodup) (hu : Unf w fp) (k : Int) (h0 : 0 ≤ k) (h1 : k + cntOps xs ≤ 4611686018427387904) :
    Calls Try.prog 56 #[v, .int .i64 k] w fun e w' => e = .returned (.int .i64 (k + cntOps xs)) ∧ TchF fp w w' ∧ opsT.rd w' [v] (mkOps k xs) fp ∧ Unf w' fp := by
  obtain ⟨_, _, _, _, hL, _⟩ := Ty.slice_ex ⟨fp, h⟩
  obtain ⟨ad, cap, rfl⟩ := rd_slice ⟨fp, h⟩
  have HS : Hid (cntOps xs = sumL cntOp1 xs) := rfl
  rw [HS.out] at h1
  go_enter Try.func56, Try.ntmps56
  go_wp2_with fail
  go_loopw [1, 5] (fun l i wr => ∃ j : Nat, j ≤ xs.length ∧ i = .int .i64 j ∧ l = .int .i64 (k + sumL cntOp1 (xs.take j)) ∧ TchF fp w wr ∧ opsT.rd wr [.slice ad xs.length cap] (mkAt mkOp1 cntOp1 k xs j) fp ∧ Unf wr fp) (fun _ i _ => xs.length - (intOf i).toNat)
  case atStart => exact ⟨0, Nat.zero_le _, rfl, by simp [sumL], TchF.refl _ _, by rw [mkAt_zero]; exact h, hu⟩
  case round =>
    obtain ⟨j, hj, rfl, rfl, ht, hr, hU⟩ := hrel
    have hs0 := sumL_nonneg cntOp1_nn (xs.take j)
    by_cases hjl : j < xs.length
    · obtain ⟨b, o, cap', u, f, hv, hb, hc, hc1, hfz, hw⟩ := pairs_mark hr hn hU (i := j) (by rw [mkAt_len]; exact hjl)
      simp only [mkAt_len, Value.slice.injEq, true_and] at hv
      obtain ⟨rfl, rfl⟩ := hv
      have hs1 := sumL_succ cntOp1 hjl
      have hs2 := sumL_take_le cntOp1_nn xs (j + 1)
      have hi0 := cntI_nn xs[j].2
      have hi1 : cntOp1 xs[j] = 1 + cntI xs[j].2 := rfl
      obtain ⟨w1, hw1, c1, hd, hfn, hfu, -, hw'⟩ := hw (k + sumL cntOp1 (xs.take j)) ⟨by omega, by omega⟩
      rw [mkAt_get hjl] at hd
      have HE := Lib.hid (mkAt_set (f := mkOp1) (c := cntOp1) (k := k) hjl)
      have HD := Lib.hid hd
      have HW := Lib.hid hw'
      have HFN := Lib.hid hfn
      have HFU := Lib.hid hfu
      clear hr hU hw hw' h hu hd hfn hfu
      go_wp2_with fail
      rw [← hw1]
      go_wp2_with fail
      refine (markInt64S_any _ HD.out HFN.out HFU.out _ (by omega) (by omega)).mono ?_
      rintro e w2 ⟨rfl, g1, g2, g3⟩
      obtain ⟨q1, q2, q3⟩ := HW.out _ _ g1 g2 g3
      have he : (mkAt mkOp1 cntOp1 k xs j).set j (k + sumL cntOp1 (xs.take j), mkI (k + sumL cntOp1 (xs.take j) + 1) xs[j].2) = mkAt mkOp1 cntOp1 k xs (j + 1) := HE.out
      rw [he] at q1
      have HQ := Lib.hid q1
      have HQ2 := Lib.hid q2
      clear q1 q2 g1 g2 g3 hc hc1 c1 hfz he
      go_wp2_with fail
      go_roundw
      case rel => exact ⟨j + 1, by omega, by go_num, by rw [hs1, hi1]; go_num, ht.trans q3, HQ.out, HQ2.out⟩
      case measure => simp [intOf]; omega
    · obtain rfl : j = xs.length := by omega
      rw [mkAt_full] at hr
      rw [List.take_length]
      have HR := Lib.hid hr
      have HU := Lib.hid hU
      clear hr hU h hu
      go_wp2_with fail
      go_ret
      exact ⟨by rw [HS.out]; rfl, ht, HR.out, HU.out⟩
set_option maxHeartbeats 800000 in
theorem heldAtomS_any (w : World) {v : Value} {xs : List (Int × List Int)} (k : Int) (h : opsT.Rd w [v] (mkOps k xs)) (h0 : 0 ≤ k) (h1 : k + cntOps xs ≤ 4611686018427387904) :
    Calls Try.prog 57 #[v, .int .i64 k] w fun e w' => e = .returned (.int .i64 (k + cntOps xs)) ∧ Below w.heap.size w w' := by
  obtain ⟨ad, cap, hv, -, hL, hcell⟩ := pairs_ex h
  have hlen : (mkOps k xs).length = xs.length := mkL_len
  rw [hlen] at hv hL
  obtain rfl : v = _ := by simpa using hv
  have HS : Hid (cntOps xs = sumL cntOp1 xs) := rfl
  rw [HS.out] at h1
  clear h hv
  go_enter Try.func57, Try.ntmps57
  go_wp2_with fail
  go_loopw [1, 5] (fun l i wr => ∃ j : Nat, j ≤ xs.length ∧ i = .int .i64 j ∧ l = .int .i64 (k + sumL cntOp1 (xs.take j)) ∧ Below w.heap.size w wr) (fun _ i _ => xs.length - (intOf i).toNat)
  case atStart => exact ⟨0, Nat.zero_le _, rfl, by simp [sumL], Below.refl _ _⟩
  case round =>
    obtain ⟨j, hj, rfl, rfl, hbel⟩ := hrel
    have hs0 := sumL_nonneg cntOp1_nn (xs.take j)
    by_cases hjl : j < xs.length
    · obtain ⟨b, o, rfl, hb, hce⟩ := hcell (by omega)
      obtain ⟨u, hd, -, hc0, hc1⟩ := hce j (by omega)
      have e : (mkOps k xs)[j]'(by omega) = mkOp1 (k + sumL cntOp1 (xs.take j)) xs[j] := mkL_get hjl (by rw [mkL_len]; exact hjl)
      rw [e] at hd hc0
      have d0 : wr.cell? ⟨b, o + j * 2, none⟩ = some (.int .i64 (k + sumL cntOp1 (xs.take j))) := (hbel.cell hb).trans hc0
      have d1 : wr.cell? ⟨b, o + j * 2 + 1, none⟩ = some u := (hbel.cell hb).trans hc1
      have hd' : _ := hd.below hbel
      have HD := Lib.hid hd'
      have hs1 := sumL_succ cntOp1 hjl
      have hs2 := sumL_take_le cntOp1_nn xs (j + 1)
      have hi0 := cntI_nn xs[j].2
      have hi1 : cntOp1 xs[j] = 1 + cntI xs[j].2 := rfl
      clear hcell hce hc0 hc1 e hlen hd hd'
      go_wp2_with fail
      refine (heldInt64S_any _ _ HD.out (by omega) (by omega)).mono ?_
      rintro e w1 ⟨rfl, hb1⟩
      have hp : 0 ≤ k + sumL cntOp1 (xs.take j) + 1 + cntI xs[j].2 := by omega
      go_wp2_with fail
      go_roundw
      case rel => exact ⟨j + 1, by omega, by go_num, by rw [hs1, hi1]; go_num, bthen hbel hb1⟩
      case measure => simp [intOf]; omega
    · obtain rfl : j = xs.length := by omega
      rw [List.take_length]
      clear hcell
      go_wp2_with fail
      go_ret
      exact ⟨by rw [HS.out]; rfl, hbel⟩
set_option maxHeartbeats 800000 in
theorem markRelS_any (w : World) {v : Value} {xs : List (Int × List (List Int))} {fp : List Nat} (h : relsT.rd w [v] xs fp) (hn : fp.Nodup) (hu : Unf w fp) (k : Int) (h0 : 0 ≤ k) (h1 : k + cntRels xs ≤ 4611686018427387904) :
    Calls Try.prog 54 #[v, .int .i64 k] w fun e w' => e = .returned (.int .i64 (k + cntRels xs)) ∧ TchF fp w w' ∧ relsT.rd w' [v] (mkRels k xs) fp ∧ Unf w' fp := by
  obtain ⟨_, _, _, _, hL, _⟩ := Ty.slice_ex ⟨fp, h⟩
  obtain ⟨ad, cap, rfl⟩ := rd_slice ⟨fp, h⟩
  have HS : Hid (cntRels xs = sumL cntRel1 xs) := rfl
  rw [HS.out] at h1
  go_enter Try.func54, Try.ntmps54
  go_wp2_with fail
  go_loopw [1, 5] (fun l i wr => ∃ j : Nat, j ≤ xs.length ∧ i = .int .i64 j ∧ l = .int .i64 (k + sumL cntRel1 (xs.take j)) ∧ TchF fp w wr ∧ relsT.rd wr [.slice ad xs.length cap] (mkAt mkRel1 cntRel1 k xs j) fp ∧ Unf wr fp) (fun _ i _ => xs.length - (intOf i).toNat)
  case atStart => exact ⟨0, Nat.zero_le _, rfl, by simp [sumL], TchF.refl _ _, by rw [mkAt_zero]; exact h, hu⟩
  case round =>
    obtain ⟨j, hj, rfl, rfl, ht, hr, hU⟩ := hrel
    have hs0 := sumL_nonneg cntRel1_nn (xs.take j)
    by_cases hjl : j < xs.length
    · obtain ⟨b, o, cap', u, f, hv, hb, hc, hc1, hfz, hw⟩ := pairs_mark hr hn hU (i := j) (by rw [mkAt_len]; exact hjl)
      simp only [mkAt_len, Value.slice.injEq, true_and] at hv
      obtain ⟨rfl, rfl⟩ := hv
      have hs1 := sumL_succ cntRel1 hjl
      have hs2 := sumL_take_le cntRel1_nn xs (j + 1)
      have hi0 := cntRows_nn xs[j].2
      have hi1 : cntRel1 xs[j] = 1 + cntRows xs[j].2 := rfl
      obtain ⟨w1, hw1, c1, hd, hfn, hfu, -, hw'⟩ := hw (k + sumL cntRel1 (xs.take j)) ⟨by omega, by omega⟩
      rw [mkAt_get hjl] at hd
      have HE := Lib.hid (mkAt_set (f := mkRel1) (c := cntRel1) (k := k) hjl)
      have HD := Lib.hid hd
      have HW := Lib.hid hw'
      have HFN := Lib.hid hfn
      have HFU := Lib.hid hfu
      clear hr hU hw hw' h hu hd hfn hfu
      go_wp2_with fail
      rw [← hw1]
      go_wp2_with fail
      refine (markInt64SS_any _ HD.out HFN.out HFU.out _ (by omega) (by omega)).mono ?_
      rintro e w2 ⟨rfl, g1, g2, g3⟩
      obtain ⟨q1, q2, q3⟩ := HW.out _ _ g1 g2 g3
      have he : (mkAt mkRel1 cntRel1 k xs j).set j (k + sumL cntRel1 (xs.take j), mkRows (k + sumL cntRel1 (xs.take j) + 1) xs[j].2) = mkAt mkRel1 cntRel1 k xs (j + 1) := HE.out
      rw [he] at q1
      have HQ := Lib.hid q1
      have HQ2 := Lib.hid q2
      clear q1 q2 g1 g2 g3 hc hc1 c1 hfz he
      go_wp2_with fail
      go_roundw
      case rel => exact ⟨j + 1, by omega, by go_num, by rw [hs1, hi1]; go_num, ht.trans q3, HQ.out, HQ2.out⟩
      case measure => simp [intOf]; omega
    · obtain rfl : j = xs.length := by omega
      rw [mkAt_full] at hr
      rw [List.take_length]
      have HR := Lib.hid hr
      have HU := Lib.hid hU
      clear hr hU h hu
      go_wp2_with fail
      go_ret
      exact ⟨by rw [HS.out]; rfl, ht, HR.out, HU.out⟩
set_option maxHeartbeats 800000 in
theorem markTemplate_any (w : World) {cs : Array Value} {xs : Int × List (Int × List (List Int))} {fp : List Nat} (h : tplT.rd w cs.toList xs fp) (hn : fp.Nodup) (hu : Unf w fp) (k : Int) (h0 : 0 ≤ k) (h1 : k + cntTpl xs ≤ 4611686018427387904) :
    Calls Try.prog 14 #[.agg cs, .int .i64 k] w fun e w' => e = .returned (.int .i64 (k + cntTpl xs)) ∧ TchF fp w w' ∧ tplT.rd w' cs.toList (mkTpl k xs) fp ∧ Unf w' fp := by
  obtain ⟨u, hv, hd, hcl⟩ := rd_pair h
  obtain rfl := agg_of hv
  clear hv
  go_enter Try.func14, Try.ntmps14
  go_wp2_with fail
  refine (markRelS_any _ ((Ty.slice _).same hd (Same.below bA ((Ty.slice _).lt hd))) hn (hu.same (Same.below bA ((Ty.slice _).lt hd))) _ h0 h1).mono ?_
  rintro e w1 ⟨rfl, g1, g2, g3⟩
  go_wp2_with fail
  go_ret
  exact ⟨rfl, (Below.tchF bA fp).trans g1, hcl _ _ g2, g3⟩
set_option maxHeartbeats 800000 in
theorem markFormula_any (w : World) {cs : Array Value} {xs : Int × Int × List (Int × List Int)} {fp : List Nat} (h : frmT.rd w cs.toList xs fp) (hn : fp.Nodup) (hu : Unf w fp) (k : Int) (h0 : 0 ≤ k) (h1 : k + cntFrm xs ≤ 4611686018427387904) :
    Calls Try.prog 16 #[.agg cs, .int .i64 k] w fun e w' => e = .returned (.int .i64 (k + cntFrm xs)) ∧ TchF fp w w' ∧ frmT.rd w' cs.toList (mkFrm k xs) fp ∧ Unf w' fp := by
  obtain ⟨u, hv, hd, hcl⟩ := rd_trip h
  obtain rfl := agg_of hv
  clear hv
  go_enter Try.func16, Try.ntmps16
  go_wp2_with fail
  refine (markAtomS_any _ ((Ty.slice _).same hd (Same.below bA ((Ty.slice _).lt hd))) hn (hu.same (Same.below bA ((Ty.slice _).lt hd))) _ h0 h1).mono ?_
  rintro e w1 ⟨rfl, g1, g2, g3⟩
  go_wp2_with fail
  go_ret
  exact ⟨rfl, (Below.tchF bA fp).trans g1, hcl _ _ g2, g3⟩
set_option maxHeartbeats 800000 in
theorem heldFormula_any (w : World) {cs : Array Value} {xs : Int × Int × List (Int × List Int)} (k : Int) (h : frmT.Rd w cs.toList (mkFrm k xs)) (h0 : 0 ≤ k) (h1 : k + cntFrm xs ≤ 4611686018427387904) :
    Calls Try.prog 17 #[.agg cs, .int .i64 k] w fun e w' => e = .returned (.int .i64 (k + cntFrm xs)) ∧ Below w.heap.size w w' := by
  obtain ⟨u, hv, -, -, hd⟩ := trip_ex h
  obtain rfl := agg_of hv
  clear hv h
  go_enter Try.func17, Try.ntmps17
  go_wp2_with fail
  refine (heldAtomS_any _ _ (hd.below bA) h0 h1).mono ?_
  rintro e w1 ⟨rfl, hb1⟩
  have hp : 0 ≤ k + cntFrm xs := by have := cntOps_nn xs.2.2; unfold cntFrm; omega
  unfold cntFrm at hp
  go_wp2_with fail
  go_ret
  exact ⟨rfl, (by repeat (first | exact Below.refl _ _ | exact bA | assumption | refine Below.setCell ?_ (by first | omega | (simp; try omega)) _ | refine Below.alloc ?_ (by first | omega | (simp; try omega)) _ | refine Below.drew ?_ | refine bDN ?_ | refine bthen ?_ (by assumption)))⟩
theorem markInt64S_fx (w : World) {v : Value} {xs : List Int} {lo hi : Nat} (h : intsT.Fx lo hi w [v] xs) (k : Int) (h0 : 0 ≤ k) (h1 : k + cntI xs ≤ 4611686018427387904) :
    Calls Try.prog 55 #[v, .int .i64 k] w fun e w' => e = .returned (.int .i64 (k + cntI xs)) ∧ Tch lo hi w w' ∧ intsT.Fx lo hi w' [v] (mkI k xs) := by
  obtain ⟨fp, g1, g2, g3, g4⟩ := h
  exact (markInt64S_any w g1 g2 g4 k h0 h1).mono fun e w' ⟨he, ht, hr, hu⟩ => ⟨he, ht.tch g3, fp, hr, g2, g3, hu⟩
theorem markInt64SS_fx (w : World) {v : Value} {xs : List (List Int)} {lo hi : Nat} (h : rowsT.Fx lo hi w [v] xs) (k : Int) (h0 : 0 ≤ k) (h1 : k + cntRows xs ≤ 4611686018427387904) :
    Calls Try.prog 15 #[v, .int .i64 k] w fun e w' => e = .returned (.int .i64 (k + cntRows xs)) ∧ Tch lo hi w w' ∧ rowsT.Fx lo hi w' [v] (mkRows k xs) := by
  obtain ⟨fp, g1, g2, g3, g4⟩ := h
  exact (markInt64SS_any w g1 g2 g4 k h0 h1).mono fun e w' ⟨he, ht, hr, hu⟩ => ⟨he, ht.tch g3, fp, hr, g2, g3, hu⟩
theorem markRelS_fx (w : World) {v : Value} {xs : List (Int × List (List Int))} {lo hi : Nat} (h : relsT.Fx lo hi w [v] xs) (k : Int) (h0 : 0 ≤ k) (h1 : k + cntRels xs ≤ 4611686018427387904) :
    Calls Try.prog 54 #[v, .int .i64 k] w fun e w' => e = .returned (.int .i64 (k + cntRels xs)) ∧ Tch lo hi w w' ∧ relsT.Fx lo hi w' [v] (mkRels k xs) := by
  obtain ⟨fp, g1, g2, g3, g4⟩ := h
  exact (markRelS_any w g1 g2 g4 k h0 h1).mono fun e w' ⟨he, ht, hr, hu⟩ => ⟨he, ht.tch g3, fp, hr, g2, g3, hu⟩
theorem markTemplate_fx (w : World) {cs : Array Value} {xs : Int × List (Int × List (List Int))} {lo hi : Nat} (h : tplT.Fx lo hi w cs.toList xs) (k : Int) (h0 : 0 ≤ k) (h1 : k + cntTpl xs ≤ 4611686018427387904) :
    Calls Try.prog 14 #[.agg cs, .int .i64 k] w fun e w' => e = .returned (.int .i64 (k + cntTpl xs)) ∧ Tch lo hi w w' ∧ tplT.Fx lo hi w' cs.toList (mkTpl k xs) := by
  obtain ⟨fp, g1, g2, g3, g4⟩ := h
  exact (markTemplate_any w g1 g2 g4 k h0 h1).mono fun e w' ⟨he, ht, hr, hu⟩ => ⟨he, ht.tch g3, fp, hr, g2, g3, hu⟩
theorem markFormula_fx (w : World) {cs : Array Value} {xs : Int × Int × List (Int × List Int)} {lo hi : Nat} (h : frmT.Fx lo hi w cs.toList xs) (k : Int) (h0 : 0 ≤ k) (h1 : k + cntFrm xs ≤ 4611686018427387904) :
    Calls Try.prog 16 #[.agg cs, .int .i64 k] w fun e w' => e = .returned (.int .i64 (k + cntFrm xs)) ∧ Tch lo hi w w' ∧ frmT.Fx lo hi w' cs.toList (mkFrm k xs) := by
  obtain ⟨fp, g1, g2, g3, g4⟩ := h
  exact (markFormula_any w g1 g2 g4 k h0 h1).mono fun e w' ⟨he, ht, hr, hu⟩ => ⟨he, ht.tch g3, fp, hr, g2, g3, hu⟩
end Go.Proofs.Ytjghcedmlklngaa
namespace Go.Proofs.Ytjghcedmlklngaa
open Go.RowKit

/-- a predicate of a value, told which block is the box -/
abbrev OP := Option Nat → VP
inductive Tag | plain | alloc | store
  deriving DecidableEq

/-- all blocks but one are as before -/
structure Bx (b : Nat) (w w' : World) : Prop where
  os : w'.os = w.os
  tape : w'.tape = w.tape
  output : w'.output = w.output
  size : w.heap.size ≤ w'.heap.size
  block : ∀ k, k < w.heap.size → k ≠ b → w'.heap[k]? = w.heap[k]?
  cells : ∀ j, (∃ u, w.cell? ⟨b, j, none⟩ = some u) → ∃ u, w'.cell? ⟨b, j, none⟩ = some u
  frozen : ∀ j, w'.frozen? ⟨b, j, none⟩ = w.frozen? ⟨b, j, none⟩
theorem Bx.setCell (b o : Nat) (w : World) (u : Value) : Bx b w (w.setCell ⟨b, o, none⟩ u) :=
  ⟨rfl, rfl, rfl, by simp [World.setCell], fun k _ hk => Below.heap_setCell _ _ _ _ hk, fun _ ⟨_, h⟩ => cell?_setCell_some h, fun _ => World.frozen?_setCell _ _ _ _⟩
theorem Bx.trans {b : Nat} {w w' w'' : World} (h : Bx b w w') (k : Bx b w' w'') : Bx b w w'' :=
  ⟨k.os.trans h.os, k.tape.trans h.tape, k.output.trans h.output, Nat.le_trans h.size k.size, fun i hi hb => (k.block i (Nat.lt_of_lt_of_le hi h.size) hb).trans (h.block i hi hb), fun j hj => k.cells j (h.cells j hj), fun j => (k.frozen j).trans (h.frozen j)⟩
theorem Bx.refl (b : Nat) (w : World) : Bx b w w := ⟨rfl, rfl, rfl, Nat.le_refl _, fun _ _ _ => rfl, fun _ h => h, fun _ => rfl⟩

/-- what an operation of a kind may do -/
def StepT : Tag → Option Nat → World → Option Nat → World → Prop
  | .plain, o, w, o', w' => o' = o ∧ Below w.heap.size w w'
  | .alloc, _, w, o', w' => o' = some w.heap.size ∧ w.heap.size < w'.heap.size ∧ Below w.heap.size w w'
  | .store, o, w, o', w' => ∃ b, o = some b ∧ o' = some b ∧ Bx b w w'

def boxUpon (P : Program) (g : Tag) (o : Option Nat) (w : World) (Φ : OP) : Result Next → Prop
  | .ok (.value v) w' => ∃ o', StepT g o w o' w' ∧ Φ o' v w'
  | .ok .skip w' => ∃ o', StepT g o w o' w' ∧ Φ o' undef w'
  | .ok (.enter f args) w' => g = .plain ∧ Below w.heap.size w w' ∧ Calls P f args w' fun e w'' => ∃ v, e = .returned v ∧ Below w'.heap.size w' w'' ∧ Φ o v w''
  | _ => False

def writer2 : List Oper → List (Tag × OP) → Tmp → Option OP
  | o :: l, Φ :: Φs, t => if o.dst = some t then some Φ.2 else writer2 l Φs t
  | _, _, _ => none

def slotP2 (l : List Oper) (Φs : List (Tag × OP)) (a : Act) (t : Tmp) : OP := match writer2 l Φs t with
  | some Φ => Φ
  | none => fun _ v _ => v = a.eval (.tmp t)

def JAt2 (P : Program) (l : List Oper) (Φs : List (Tag × OP)) (a : Act) (w : World) (q : Oper) (Φ : Tag × OP) : Prop :=
  ∀ (a' : Act) (w' : World) (o : Option Nat), Below w.heap.size w w' → (∀ b, o = some b → w.heap.size ≤ b ∧ b < w'.heap.size) → (Φ.1 = .alloc → o = none) →
    (∀ t, readsB q t = true → slotP2 l Φs a t o (a'.eval (.tmp t)) w') → boxUpon P Φ.1 o w' Φ.2 ((execOp a'.eval q).run P w')

def JAll2 (P : Program) (l : List Oper) (Φs : List (Tag × OP)) (a : Act) (w : World) : List Oper → List (Tag × OP) → Prop
  | o :: r, Φ :: Φr => JAt2 P l Φs a w o Φ ∧ JAll2 P l Φs a w r Φr
  | [], [] => True
  | _, _ => False

def HAll2 (w : World) (b : Option Nat) : List Oper → List (Tag × OP) → List Value → Prop
  | _ :: l, Φ :: Φs, v :: vs => Φ.2 b v w ∧ HAll2 w b l Φs vs
  | [], [], [] => True
  | _, _, _ => False

/-- predicates that outlast new memory, and the box's being made -/
def StabO (Φ : OP) : Prop := (∀ o v w1 w2, Φ o v w1 → Below w1.heap.size w1 w2 → Φ o v w2) ∧ (∀ v w1 w2, Φ none v w1 → Below w1.heap.size w1 w2 → Φ (some w1.heap.size) v w2)
/-- .. and a store into the box -/
def StabS (Φ : OP) : Prop := ∀ b v w1 w2, Φ (some b) v w1 → Bx b w1 w2 → Φ (some b) v w2
def Indep (Φ : OP) : Prop := ∀ o v v' w, Φ o v w → Φ o v' w
def StG : Tag → OP → Prop
  | .store, Φ => StabO Φ ∧ Indep Φ
  | _, Φ => StabO Φ ∧ StabS Φ
def SAll2 : List (Tag × OP) → Prop
  | Φ :: Φs => StG Φ.1 Φ.2 ∧ SAll2 Φs
  | [] => True
theorem SAll2_mem : ∀ {Φs : List (Tag × OP)}, SAll2 Φs → ∀ Φ ∈ Φs, StG Φ.1 Φ.2
  | _ :: _, h, Φ, hm => by
    rcases List.mem_cons.1 hm with rfl | hm
    · exact h.1
    · exact SAll2_mem h.2 Φ hm
theorem StG.o {g : Tag} {Φ : OP} (h : StG g Φ) : StabO Φ := by cases g <;> exact h.1
theorem StG.s {g : Tag} {Φ : OP} (h : StG g Φ) (hg : g ≠ .store) : StabS Φ := by
  cases g
  · exact h.2
  · exact h.2
  · exact absurd rfl hg

def oneTag (g : Tag) : List Tag → Bool
  | [] => true
  | x :: r => if x = g then r.all (fun y => decide (y ≠ g)) else oneTag g r
theorem oneTag_spec {g : Tag} : ∀ {l : List Tag}, oneTag g l = true → ∀ i j : Nat, l[i]? = some g → l[j]? = some g → i = j
  | [], _, i, j, h, _ => by simp at h
  | x :: r, h, i, j, hi, hj => by
    unfold oneTag at h
    split at h
    · rename_i hx
      have hno : ∀ k : Nat, r[k]? = some g → False := fun k hk => by
        have := List.all_eq_true.1 h g (List.mem_of_getElem? hk)
        simp at this
      match i, j with
      | 0, 0 => rfl
      | 0, j + 1 => exact (hno j (by simpa using hj)).elim
      | i + 1, _ => exact (hno i (by simpa using hi)).elim
    · rename_i hx
      match i, j with
      | 0, _ => simp at hi; exact absurd hi hx
      | _ + 1, 0 => simp at hj; exact absurd hj hx
      | i + 1, j + 1 => rw [oneTag_spec h i j (by simpa using hi) (by simpa using hj)]
/-- what holds of the region's form -/
def boxB (l : List Oper) (gs : List Tag) (n : Nat) : Bool :=
  looseB l n && oneTag .alloc gs && oneTag .store gs && (l.zip gs).all (fun x => x.1.dst.isSome || decide (x.2 = .store))

theorem writer2_some {l : List Oper} {Φs : List (Tag × OP)} {t : Tmp} {Φ : OP} (h : writer2 l Φs t = some Φ) : ∃ (j : Nat) (o : Oper) (g : Tag), l[j]? = some o ∧ o.dst = some t ∧ Φs[j]? = some (g, Φ) := by
  induction l generalizing Φs with
  | nil => simp [writer2] at h
  | cons o l ih =>
    cases Φs with
    | nil => simp [writer2] at h
    | cons Φ' Φs =>
      simp only [writer2] at h
      split at h
      · rename_i hd
        obtain rfl : Φ'.2 = Φ := by simpa using h
        exact ⟨0, o, Φ'.1, rfl, hd, rfl⟩
      · obtain ⟨j, o', g, h1, h2, h3⟩ := ih h
        exact ⟨j + 1, o', g, h1, h2, h3⟩
theorem writer2_none {l : List Oper} {Φs : List (Tag × OP)} {t : Tmp} (hl : l.length = Φs.length) (h : writer2 l Φs t = none) : ∀ (j : Nat) (o : Oper), l[j]? = some o → o.dst ≠ some t := by
  induction l generalizing Φs with
  | nil => intro j o h; simp at h
  | cons q l ih =>
    cases Φs with
    | nil => simp at hl
    | cons Φ' Φs =>
      simp only [writer2] at h
      split at h
      · cases h
      · rename_i hd
        intro j o ho
        match j with
        | 0 => simp at ho; subst ho; exact hd
        | j + 1 => exact ih (by simpa using hl) h j o (by simpa using ho)
theorem JAll2_len {P : Program} {l : List Oper} {Φs : List (Tag × OP)} {a : Act} {w : World} : ∀ {r : List Oper} {Φr : List (Tag × OP)}, JAll2 P l Φs a w r Φr → r.length = Φr.length
  | [], [], _ => rfl
  | _ :: _, _ :: _, h => by simp [JAll2_len h.2]
  | [], _ :: _, h => by cases h
  | _ :: _, [], h => by cases h
theorem JAll2_get {P : Program} {l : List Oper} {Φs : List (Tag × OP)} {a : Act} {w : World} : ∀ {r : List Oper} {Φr : List (Tag × OP)}, JAll2 P l Φs a w r Φr → ∀ {i : Nat} {o : Oper} {Φ : Tag × OP}, r[i]? = some o → Φr[i]? = some Φ → JAt2 P l Φs a w o Φ
  | [], _, _, i, o, Φ, h, _ => by simp at h
  | q :: r, [], h, _, _, _, _, _ => by cases h
  | q :: r, Φ' :: Φr, hj, i, o, Φ, h, h' => by
    match i with
    | 0 => simp at h h'; subst h; subst h'; exact hj.1
    | i + 1 => exact JAll2_get hj.2 (by simpa using h) (by simpa using h')

/-- the value that an operation left, undef if it names no slot -/
def valD (a : Act) (q : Oper) : Value := match q.dst with | some d => a.eval (.tmp d) | none => undef

/-- where the region stands -/
structure BInv (l : List Oper) (Φs : List (Tag × OP)) (a : Act) (w : World) (listed : Array Bool) (a' : Act) (w' : World) (b : Option Nat) : Prop where
  below : Below w.heap.size w w'
  size : listed.size = l.length
  defers : a'.defers = a.defers
  tsize : a'.tmps.size = a.tmps.size
  old : ∀ t, (∀ (j : Nat) (o : Oper), l[j]? = some o → o.dst = some t → listed.getD j false = false) → a'.tmps[t]? = a.tmps[t]?
  new : ∀ (j : Nat) (o : Oper) (Φ : Tag × OP), l[j]? = some o → Φs[j]? = some Φ → listed.getD j false = true → Φ.2 b (valD a' o) w'
  box : ∀ k, b = some k → w.heap.size ≤ k ∧ k < w'.heap.size
  nob : ∀ (j : Nat) (Φ : Tag × OP), Φs[j]? = some Φ → Φ.1 = .alloc → listed.getD j false = false → b = none

theorem getD_set_self {listed : Array Bool} {i : Nat} (h : i < listed.size) : (listed.setIfInBounds i true).getD i false = true := by
  rw [Array.getD_eq_getD_getElem?, Array.getElem?_setIfInBounds_self_of_lt h]; rfl

theorem tag_get {Φs : List (Tag × OP)} {i : Nat} {Φ : Tag × OP} (h : Φs[i]? = some Φ) : (Φs.map Prod.fst)[i]? = some Φ.1 := by simp [h]

theorem boxB_spec {l : List Oper} {gs : List Tag} {n : Nat} (h : boxB l gs n = true) :
    looseB l n = true ∧ (∀ i j : Nat, gs[i]? = some Tag.alloc → gs[j]? = some Tag.alloc → i = j) ∧ (∀ i j : Nat, gs[i]? = some Tag.store → gs[j]? = some Tag.store → i = j) ∧
      ∀ (i : Nat) (q : Oper) (g : Tag), l[i]? = some q → gs[i]? = some g → q.dst = none → g = .store := by
  simp only [boxB, Bool.and_eq_true] at h
  obtain ⟨⟨⟨h1, h2⟩, h3⟩, h4⟩ := h
  refine ⟨h1, oneTag_spec h2, oneTag_spec h3, fun i q g hq hg hd => ?_⟩
  have hm : (q, g) ∈ l.zip gs := by
    apply List.mem_of_getElem? (i := i)
    rw [List.getElem?_zip_eq_some]
    exact ⟨hq, hg⟩
  have := List.all_eq_true.1 h4 _ hm
  simpa [hd] using this

theorem StepT.below {g : Tag} {w w' w'' : World} {o o' : Option Nat} (h : StepT g o w' o' w'') (hb : Below w.heap.size w w') (hk : ∀ k, o = some k → w.heap.size ≤ k ∧ k < w'.heap.size) : Below w.heap.size w w'' ∧ ∀ k, o' = some k → w.heap.size ≤ k ∧ k < w''.heap.size := by
  cases g with
  | plain =>
    obtain ⟨rfl, h⟩ := h
    exact ⟨bthen hb h, fun k he => ⟨(hk k he).1, Nat.lt_of_lt_of_le (hk k he).2 h.size⟩⟩
  | alloc =>
    obtain ⟨rfl, hs, h⟩ := h
    exact ⟨bthen hb h, fun k he => by simp at he; subst he; exact ⟨hb.size, hs⟩⟩
  | store =>
    obtain ⟨b, rfl, rfl, h⟩ := h
    have := hk b rfl
    exact ⟨hb.trans ⟨h.os, h.tape, h.output, h.size, fun k hlt => h.block k (Nat.lt_of_lt_of_le hlt hb.size) (by omega)⟩, fun k he => by simp at he; subst he; exact ⟨this.1, Nat.lt_of_lt_of_le this.2 h.size⟩⟩

theorem BInv.step {l : List Oper} {Φs : List (Tag × OP)} {a : Act} {w : World} {listed : Array Bool} {a' : Act} {w' w'' : World} {b b' : Option Nat} (hB : boxB l (Φs.map Prod.fst) a.tmps.size = true)
    (hst : SAll2 Φs) (h : BInv l Φs a w listed a' w' b) {i : Nat} {o : Oper} {Φ : Tag × OP} (hi : l[i]? = some o) (hΦ : Φs[i]? = some Φ) (hni : listed.getD i true = false) {v : Value} (hs : StepT Φ.1 b w' b' w'') (hv : Φ.2 b' v w'') :
    BInv l Φs a w (listed.setIfInBounds i true) (a'.put o.dst v) w'' b' := by
  have hlt : i < listed.size := by rw [h.size]; exact (List.getElem?_eq_some_iff.1 hi).1
  obtain ⟨hL, hone, hone', hdst⟩ := boxB_spec hB
  obtain ⟨_, _, hdn, hall⟩ := looseB_spec hL hi
  obtain ⟨hb1, hb2⟩ := hs.below h.below h.box
  refine ⟨hb1, by simpa using h.size, put_defers.trans h.defers, put_size.trans h.tsize, fun t ht => ?_, fun j q Ψ hj hΨ hl => ?_, hb2, fun j Ψ hΨ hg hl => ?_⟩
  · have hne : o.dst ≠ some t := fun e => by
      have := ht i o hi e
      rw [getD_set_self hlt] at this
      cases this
    rw [put_other hne]
    refine h.old t fun j q hj hd => ?_
    have := ht j q hj hd
    by_cases e : i = j
    · subst e; rw [getD_set_self hlt] at this; cases this
    · rwa [getD_set_ne false e] at this
  · by_cases e : i = j
    · subst e
      rw [hi] at hj
      cases hj
      rw [hΦ] at hΨ
      cases hΨ
      cases hd : o.dst with
      | none =>
        have hg := hdst i o Φ.1 hi (tag_get hΦ) hd
        have hS := SAll2_mem hst Φ (List.mem_of_getElem? hΦ)
        rw [hg] at hS
        exact hS.2 _ v _ _ hv
      | some d =>
        simp only [valD, hd]
        rw [eval_put_self (by rw [h.tsize]; exact hdn d hd)]
        exact hv
    · rw [getD_set_ne false e] at hl
      have hnew := h.new j q Ψ hj hΨ hl
      have hval : valD (a'.put o.dst v) q = valD a' q := by
        cases hd : q.dst with
        | none => simp [valD, hd]
        | some d => simp only [valD, hd]; exact eval_put_ne ((hall j q d hj hd).2 e)
      rw [hval]
      have hS := SAll2_mem hst Ψ (List.mem_of_getElem? hΨ)
      cases hg : Φ.1 with
      | plain =>
        rw [hg] at hs
        obtain ⟨rfl, hs⟩ := hs
        exact hS.o.1 _ _ _ _ hnew hs
      | alloc =>
        have hbn : b = none := h.nob i Φ hΦ hg (by
          rw [Array.getD_eq_getD_getElem?, Array.getElem?_eq_getElem hlt] at hni ⊢
          exact hni)
        rw [hg] at hs
        obtain ⟨rfl, _, hs⟩ := hs
        subst hbn
        exact hS.o.2 _ _ _ hnew hs
      | store =>
        rw [hg] at hs
        obtain ⟨k, rfl, rfl, hs⟩ := hs
        refine hS.s (fun hg' => e (hone' i j ?_ ?_)) _ _ _ _ hnew hs
        · rw [← hg]; exact tag_get hΦ
        · rw [← hg']; exact tag_get hΨ
  · by_cases e : i = j
    · subst e; rw [getD_set_self hlt] at hl; cases hl
    · rw [getD_set_ne false e] at hl
      have hbn := h.nob j Ψ hΨ hg hl
      cases hg2 : Φ.1 with
      | plain => rw [hg2] at hs; obtain ⟨rfl, _⟩ := hs; exact hbn
      | alloc =>
        exfalso
        refine e (hone i j ?_ ?_)
        · rw [← hg2]; exact tag_get hΦ
        · rw [← hg]; exact tag_get hΨ
      | store => rw [hg2] at hs; obtain ⟨k, rfl, _⟩ := hs; cases hbn

theorem HAll2_of {w : World} {b : Option Nat} {f : Oper → Value} : ∀ {l : List Oper} {Φs : List (Tag × OP)}, l.length = Φs.length → (∀ (j : Nat) (o : Oper) (Φ : Tag × OP), l[j]? = some o → Φs[j]? = some Φ → Φ.2 b (f o) w) → HAll2 w b l Φs (l.map f)
  | [], [], _, _ => trivial
  | o :: l, Φ :: Φs, hl, h => ⟨h 0 o Φ rfl rfl, HAll2_of (by simpa using hl) fun j q Ψ hj hΨ => h (j + 1) q Ψ (by simpa using hj) (by simpa using hΨ)⟩
  | [], _ :: _, hl, _ => by simp at hl
  | _ :: _, [], hl, _ => by simp at hl

theorem wpAny_box {P : Program} {l : List Oper} {Φs : List (Tag × OP)} {a : Act} {w : World} {Q : Exit → Act → World → Prop} (hB : boxB l (Φs.map Prod.fst) a.tmps.size = true)
    (hst : SAll2 Φs) (hJ : JAll2 P l Φs a w l Φs)
    (hQ : ∀ vs w' b, Below w.heap.size w w' → (∀ k, b = some k → w.heap.size ≤ k ∧ k < w'.heap.size) → HAll2 w' b l Φs vs → Q .normal (putAll a l vs) w') :
    ∀ (fuel : Nat) (listed : Array Bool) (a' : Act) (w' : World) (b : Option Nat), (∃ s : List Nat, s.Nodup ∧ (∀ i ∈ s, i < l.length ∧ listed.getD i true = false) ∧ (∀ i, i < l.length → listed.getD i true = false → i ∈ s) ∧ s.length ≤ fuel) → BInv l Φs a w listed a' w' b → wpAny P .any l.toArray Q fuel listed a' w' := by
  have hlen := JAll2_len hJ
  have hBL := (boxB_spec hB).1
  have fin : ∀ (listed : Array Bool) (a' : Act) (w' : World) (b : Option Nat), BInv l Φs a w listed a' w' b → Region.ready .any l.toArray listed = [] → Q .normal a' w' := by
    intro listed a' w' b hI hr
    have hall := ready_nil hBL hI.size hr
    have hH : HAll2 w' b l Φs (l.map (valD a')) := HAll2_of hlen fun j o Φ hj hΦ =>
      hI.new j o Φ hj hΦ (hall j (List.getElem?_eq_some_iff.1 hj).1)
    have ha : a' = putAll a l (l.map (valD a')) := by
      obtain ⟨p1, p2, p3⟩ := putAll_frame (l := l) (vs := l.map (valD a')) (a := a)
      have e1 : a'.tmps = (putAll a l (l.map (valD a'))).tmps := by
        apply Array.ext_getElem?
        intro t
        by_cases ht : ∃ (j : Nat) (o : Oper), l[j]? = some o ∧ o.dst = some t
        · obtain ⟨j, o, hj, hd⟩ := ht
          obtain ⟨_, _, hdn, _⟩ := looseB_spec hBL hj
          have hlt := hdn t hd
          rw [putAll_get (valD a') hj hd hlt (fun i q hne hq => ((looseB_spec hBL hq).2.2.2 j o t hj hd).2 hne)]
          have hlt' : t < a'.tmps.size := by rw [hI.tsize]; exact hlt
          simp [valD, hd, Act.eval, Array.getElem?_eq_getElem hlt']
        · rw [p3 t (fun o ho hd => ?_)]
          · exact hI.old t fun j o hj hd => absurd ⟨j, o, hj, hd⟩ ht
          · obtain ⟨j, hj⟩ := List.getElem?_of_mem ho
            exact ht ⟨j, o, hj, hd⟩
      have e2 : a'.defers = (putAll a l (l.map (valD a'))).defers := hI.defers.trans p2.symm
      cases a'
      generalize putAll a l (l.map (valD _)) = q at e1 e2
      cases q
      simp only at e1 e2
      rw [e1, e2]
    rw [ha]
    exact hQ _ _ _ hI.below hI.box hH
  intro fuel
  induction fuel with
  | zero =>
    intro listed a' w' b ⟨s, _, _, hs2, hs3⟩ hI
    have hr : Region.ready .any l.toArray listed = [] := by
      rw [List.eq_nil_iff_forall_not_mem]
      intro i hi
      obtain ⟨h1, o, ho, _⟩ := mem_ready.1 hi
      have hlt : i < l.length := by simpa using (Array.getElem?_eq_some_iff.1 ho).1
      have := hs2 i hlt h1
      obtain rfl : s = [] := List.eq_nil_of_length_eq_zero (by omega)
      cases this
    exact ⟨hr, fin _ _ _ _ hI hr⟩
  | succ fuel ih =>
    intro listed a' w' b ⟨s, hs0, hs1, hs2, hs3⟩ hI
    refine ⟨fin _ _ _ _ hI, fun i hi => ?_⟩
    obtain ⟨h1, o, ho, hdeps⟩ := mem_ready.1 hi
    have hlt : i < l.length := by simpa using (Array.getElem?_eq_some_iff.1 ho).1
    have ho' : l[i]? = some o := by simpa using ho
    obtain ⟨Φ, hΦ⟩ : ∃ Φ, Φs[i]? = some Φ := ⟨_, List.getElem?_eq_getElem (by omega)⟩
    obtain ⟨hg, _, _, hall⟩ := looseB_spec hBL ho'
    have hJi : JAt2 P l Φs a w o Φ := JAll2_get hJ ho' hΦ
    have hlsz : i < listed.size := by rw [hI.size]; exact hlt
    have hj := hJi a' w' b hI.below hI.box (fun hga => hI.nob i Φ hΦ hga (by
        rw [Array.getD_eq_getD_getElem?, Array.getElem?_eq_getElem hlsz] at h1 ⊢
        exact h1)) (fun t ht0 => by
      have ht : Operand.tmp t ∈ o.op.operands.toList := by
        unfold readsB at ht0
        obtain ⟨x, hx, he⟩ := List.any_eq_true.1 ht0
        cases x <;> simp at he
        subst he
        exact hx
      unfold slotP2
      cases hwr : writer2 l Φs t with
      | some Ψ =>
        obtain ⟨j, q, g, hj, hd, hΨ⟩ := writer2_some hwr
        obtain ⟨e, he, hon, hbind⟩ := (hall j q t hj hd).1 ht
        have := hI.new j q (g, Ψ) hj hΨ (by rw [← hon]; exact hdeps e he hbind)
        simpa [valD, hd] using this
      | none =>
        have hno := writer2_none hlen hwr
        have := hI.old t fun j q hj hd => absurd hd (hno j q hj)
        simp [Act.eval, this])
    have hnext : ∀ v w'' b', StepT Φ.1 b w' b' w'' → Φ.2 b' v w'' → wpAny P .any l.toArray Q fuel (listed.setIfInBounds i true) (a'.put o.dst v) w'' := by
      intro v w'' b' hs hv
      refine ih _ _ _ _ ⟨s.erase i, hs0.erase i, fun j hj => ?_, fun j hj hl => ?_, ?_⟩ (hI.step hB hst ho' hΦ h1 hs hv)
      · have hj' := List.mem_of_mem_erase hj
        have hne : j ≠ i := fun e => by subst e; exact (hs0.not_mem_erase) hj
        exact ⟨(hs1 j hj').1, by rw [getD_set_ne true (Ne.symm hne)]; exact (hs1 j hj').2⟩
      · have hne : i ≠ j := fun e => by
          subst e
          rw [Array.getD_eq_getD_getElem?, Array.getElem?_setIfInBounds_self_of_lt hlsz] at hl
          cases hl
        rw [getD_set_ne true hne] at hl
        exact (List.mem_erase_of_ne (Ne.symm hne)).2 (hs2 j hj hl)
      · rw [List.length_erase_of_mem (hs2 i hlt h1)]; omega
    unfold wpOp
    rw [ho]
    simp only [Region.wanted, hg, if_true]
    left
    unfold Oper.wp
    generalize (execOp a'.eval o).run P w' = r at hj
    cases r with
    | ok n w1 =>
      cases n with
      | value v => exact hnext v w1 hj.choose hj.choose_spec.1 hj.choose_spec.2
      | skip => exact hnext undef w1 hj.choose hj.choose_spec.1 hj.choose_spec.2
      | enter f args =>
        refine hj.2.2.mono fun e w2 ⟨v, he, hb2, hv⟩ => ?_
        subst he
        refine hnext v w2 b ?_ hv
        rw [hj.1]
        exact ⟨rfl, bthen hj.2.1 hb2⟩
      | _ => exact hj.elim
    | halt x w1 => exact hj.elim

theorem wp_region_box {P : Program} {id : Nat} {l : List Oper} {a : Act} {w : World} {Q : Exit → Act → World → Prop} (Φs : List (Tag × OP)) (hm : P.follows .mixedOrders = true) (hB : boxB l (Φs.map Prod.fst) a.tmps.size = true)
    (hst : SAll2 Φs) (hJ : JAll2 P l Φs a w l Φs)
    (hQ : ∀ vs w' b, Below w.heap.size w w' → (∀ k, b = some k → w.heap.size ≤ k ∧ k < w'.heap.size) → HAll2 w' b l Φs vs → Q .normal (putAll a l vs) w') : (Code.region id l.toArray true).wp P Q a w := by
  refine wp_region_any hm (wpAny_box hB hst hJ hQ _ _ _ _ none ⟨List.range l.length, List.nodup_range, fun i hi => ⟨by simpa using hi, ?_⟩, fun i hi _ => by simpa using hi, by simp⟩ ⟨⟨rfl, rfl, rfl, Nat.le_refl _, fun _ _ => rfl⟩, by simp, rfl, rfl, fun _ _ => rfl, fun j o Φ hj _ hl => ?_, fun k hk => (by simp at hk), fun _ _ _ _ _ => rfl⟩)
  · simp at hi
    simp [hi]
  · have hjl := (List.getElem?_eq_some_iff.1 hj).1
    simp [hjl] at hl

/-! the usual predicates -/
def exO (c : Value) : OP := fun _ v _ => v = c
/-- reads so, not through the box -/
def rdAO {α : Type} (E : Ty α) (x : α) : OP := fun o v W => ∃ (cs : List Value) (fp : List Nat), v = .agg cs.toArray ∧ E.rd W cs x fp ∧ ∀ k ∈ fp, o ≠ some k
def rdSO {α : Type} (E : Ty α) (x : α) : OP := fun o v W => ∃ fp, E.rd W [v] x fp ∧ ∀ k ∈ fp, o ≠ some k
/-- new memory that reads so -/
def frAO {α : Type} (E : Ty α) (base : Nat) (x : α) : OP := fun o v W => ∃ (cs : List Value) (fp : List Nat), v = .agg cs.toArray ∧ E.rd W cs x fp ∧ fp.Nodup ∧ (∀ k ∈ fp, base ≤ k) ∧ Unf W fp ∧ ∀ k ∈ fp, o ≠ some k
/-- a struct and a number: the results of a call -/
def frTO {α : Type} (E : Ty α) (base : Nat) (x : α) (n : Value) : OP := fun o v W => ∃ cs : List Value, v = .tuple #[.agg cs.toArray, n] ∧ frAO E base x o (.agg cs.toArray) W
def boxO (n : Nat) : OP := fun o v W => ∃ b, o = some b ∧ v = .pointer (some ⟨b, 0, none⟩) ∧ b < W.heap.size ∧ ∀ j, j < n → (∃ u, W.cell? ⟨b, j, none⟩ = some u) ∧ W.frozen? ⟨b, j, none⟩ = false
/-- the box holds it -/
def heldO {α : Type} (E : Ty α) (base : Nat) (x : α) : OP := fun o _ W => ∃ (b : Nat) (cs : List Value) (fp : List Nat), o = some b ∧ E.rd W cs x fp ∧ fp.Nodup ∧ (∀ k ∈ fp, base ≤ k) ∧ Unf W fp ∧ (∀ k ∈ fp, some b ≠ some k) ∧ ∀ j (hj : j < cs.length), W.cell? ⟨b, j, none⟩ = some cs[j]
theorem some_ne {a : Nat} {fp : List Nat} (h : ∀ k ∈ fp, k < a) : ∀ k ∈ fp, (some a : Option Nat) ≠ some k := fun k hk e => by have := h k hk; simp at e; omega
theorem Bx.same {b : Nat} {w w' : World} {fp : List Nat} (h : Bx b w w') (hl : ∀ k ∈ fp, k < w.heap.size) (hn : ∀ k ∈ fp, (some b : Option Nat) ≠ some k) : Same fp w w' := fun k hk => h.block k (hl k hk) fun e => hn k hk (by rw [e])
theorem st_exO {c : Value} : StG .plain (exO c) := ⟨⟨fun _ _ _ _ h _ => h, fun _ _ _ h _ => h⟩, fun _ _ _ _ h _ => h⟩
theorem st_rdAO {α : Type} {E : Ty α} {x : α} : StG .plain (rdAO E x) :=
  ⟨⟨fun _ _ _ _ ⟨cs, fp, h1, h2, h3⟩ hb => ⟨cs, fp, h1, E.same h2 (Same.below hb (E.lt h2)), h3⟩, fun _ _ _ ⟨cs, fp, h1, h2, _⟩ hb => ⟨cs, fp, h1, E.same h2 (Same.below hb (E.lt h2)), some_ne (E.lt h2)⟩⟩,
    fun _ _ _ _ ⟨cs, fp, h1, h2, h3⟩ hb => ⟨cs, fp, h1, E.same h2 (hb.same (E.lt h2) h3), h3⟩⟩
theorem st_rdSO {α : Type} {E : Ty α} {x : α} : StG .plain (rdSO E x) :=
  ⟨⟨fun _ _ _ _ ⟨fp, h2, h3⟩ hb => ⟨fp, E.same h2 (Same.below hb (E.lt h2)), h3⟩, fun _ _ _ ⟨fp, h2, _⟩ hb => ⟨fp, E.same h2 (Same.below hb (E.lt h2)), some_ne (E.lt h2)⟩⟩,
    fun _ _ _ _ ⟨fp, h2, h3⟩ hb => ⟨fp, E.same h2 (hb.same (E.lt h2) h3), h3⟩⟩
theorem st_frAO {α : Type} {E : Ty α} {base : Nat} {x : α} : StG .plain (frAO E base x) :=
  ⟨⟨fun _ _ _ _ ⟨cs, fp, h1, h2, h4, h5, h6, h3⟩ hb => ⟨cs, fp, h1, E.same h2 (Same.below hb (E.lt h2)), h4, h5, h6.same (Same.below hb (E.lt h2)), h3⟩,
    fun _ _ _ ⟨cs, fp, h1, h2, h4, h5, h6, _⟩ hb => ⟨cs, fp, h1, E.same h2 (Same.below hb (E.lt h2)), h4, h5, h6.same (Same.below hb (E.lt h2)), some_ne (E.lt h2)⟩⟩,
    fun _ _ _ _ ⟨cs, fp, h1, h2, h4, h5, h6, h3⟩ hb => ⟨cs, fp, h1, E.same h2 (hb.same (E.lt h2) h3), h4, h5, h6.same (hb.same (E.lt h2) h3), h3⟩⟩
theorem st_frTO {α : Type} {E : Ty α} {base : Nat} {x : α} {n : Value} : StG .plain (frTO E base x n) :=
  ⟨⟨fun _ _ _ _ ⟨cs, h1, h2⟩ hb => ⟨cs, h1, st_frAO.1.1 _ _ _ _ h2 hb⟩, fun _ _ _ ⟨cs, h1, h2⟩ hb => ⟨cs, h1, st_frAO.1.2 _ _ _ h2 hb⟩⟩, fun _ _ _ _ ⟨cs, h1, h2⟩ hb => ⟨cs, h1, st_frAO.2 _ _ _ _ h2 hb⟩⟩
theorem st_boxO {n : Nat} : StG .alloc (boxO n) :=
  ⟨⟨fun _ _ _ _ ⟨b, h1, h2, h3, h4⟩ hb => ⟨b, h1, h2, Nat.lt_of_lt_of_le h3 hb.size, fun j hj => ⟨let ⟨u, hu⟩ := (h4 j hj).1; ⟨u, (hb.cell (p := ⟨b, j, none⟩) h3).trans hu⟩, (hb.frozen (p := ⟨b, j, none⟩) h3).trans (h4 j hj).2⟩⟩, fun _ _ _ ⟨b, h1, _⟩ _ => by cases h1⟩,
    fun b' _ _ _ ⟨b, h1, h2, h3, h4⟩ hb => by
      obtain rfl : b' = b := by simpa using h1
      exact ⟨_, rfl, h2, Nat.lt_of_lt_of_le h3 hb.size, fun j hj => ⟨hb.cells j (h4 j hj).1, (hb.frozen j).trans (h4 j hj).2⟩⟩⟩
theorem st_heldO {α : Type} {E : Ty α} {base : Nat} {x : α} : StG .store (heldO E base x) :=
  ⟨⟨fun _ _ _ _ ⟨b, cs, fp, h1, h2, h4, h5, h6, h3, h7⟩ hb => ⟨b, cs, fp, h1, E.same h2 (Same.below hb (E.lt h2)), h4, h5, h6.same (Same.below hb (E.lt h2)), h3, fun j hj => (hb.cell (p := ⟨b, j, none⟩) (cell_lt (h7 j hj))).trans (h7 j hj)⟩, fun _ _ _ ⟨b, _, _, h1, _⟩ _ => by cases h1⟩, fun _ _ _ _ h => h⟩
theorem HAll2_cons {w : World} {b : Option Nat} {o : Oper} {l : List Oper} {Φ : Tag × OP} {Φs : List (Tag × OP)} {vs : List Value} (h : HAll2 w b (o :: l) (Φ :: Φs) vs) : ∃ v r, vs = v :: r ∧ Φ.2 b v w ∧ HAll2 w b l Φs r := by
  cases vs with
  | nil => cases h
  | cons v r => exact ⟨v, r, rfl, h.1, h.2⟩
theorem HAll2_nil {w : World} {b : Option Nat} {vs : List Value} (h : HAll2 w b [] [] vs) : vs = [] := by
  cases vs with
  | nil => rfl
  | cons v r => cases h
theorem slot_w2 {l : List Oper} {Φs : List (Tag × OP)} {a a' : Act} {w' : World} {o : Oper} {b : Option Nat} (hd : ∀ t, readsB o t = true → slotP2 l Φs a t b (a'.eval (.tmp t)) w') (t : Tmp) (Φ : OP) (hr : readsB o t = true) (hw : writer2 l Φs t = some Φ) : Φ b (a'.eval (.tmp t)) w' := by
  have h := hd t hr
  unfold slotP2 at h
  rw [hw] at h
  exact h
theorem slot_o2 {l : List Oper} {Φs : List (Tag × OP)} {a a' : Act} {w' : World} {o : Oper} {b : Option Nat} (hd : ∀ t, readsB o t = true → slotP2 l Φs a t b (a'.eval (.tmp t)) w') (t : Tmp) (hr : readsB o t = true) (hw : writer2 l Φs t = none) : a'.eval (.tmp t) = a.eval (.tmp t) := by
  have h := hd t hr
  unfold slotP2 at h
  rw [hw] at h
  exact h
theorem rdAO_mk {α : Type} {E : Ty α} {x : α} {W : World} {cs : List Value} {o : Option Nat} {B L : Nat} (hf : E.Fr B W cs x) (hbo : ∀ k, o = some k → L ≤ k ∧ k < B) : rdAO E x o (.agg cs.toArray) W :=
  let ⟨fp, h1, _, h3, _⟩ := hf; ⟨cs, fp, rfl, h1, fun k hk e => by have := hbo k e; have := h3 k hk; omega⟩
theorem rdSO_mk {α : Type} {E : Ty α} {x : α} {W : World} {u : Value} {o : Option Nat} {B L : Nat} (hf : E.Fr B W [u] x) (hbo : ∀ k, o = some k → L ≤ k ∧ k < B) : rdSO E x o u W :=
  let ⟨fp, h1, _, h3, _⟩ := hf; ⟨fp, h1, fun k hk e => by have := hbo k e; have := h3 k hk; omega⟩
theorem rdSO_val {α : Type} {E : Ty α} {x : List α} {W : World} {u : Value} {o : Option Nat} (h : rdSO (Ty.slice E) x o u W) : ∃ ad cap, u = .slice ad x.length cap := let ⟨fp, h, _⟩ := h; rd_slice ⟨fp, h⟩
theorem rdSO.rd {α : Type} {E : Ty α} {x : α} {W : World} {u : Value} {o : Option Nat} (h : rdSO E x o u W) : E.Rd W [u] x := let ⟨fp, h, _⟩ := h; ⟨fp, h⟩
theorem frTO_mk {α : Type} {E : Ty α} {x : α} {W : World} {cs : List Value} {o : Option Nat} {B L base : Nat} {n : Value} (hB : base ≤ B) (hf : E.Fr B W cs x) (hbo : ∀ k, o = some k → L ≤ k ∧ k < B) : frTO E base x n o (.tuple #[.agg cs.toArray, n]) W :=
  let ⟨fp, h1, h2, h3, h4⟩ := hf; ⟨cs, rfl, cs, fp, rfl, h1, h2, fun k hk => Nat.le_trans hB (h3 k hk), h4, fun k hk e => by have := hbo k e; have := h3 k hk; omega⟩
theorem exO_eqB {α : Type} [DecidableEq α] {x : α} {o : Option Nat} {w : World} : exO (.bool true) o (.bool (eqB x x)) w := congrArg Value.bool (eqB_true rfl)
theorem set3_bx {b : Nat} {w : World} {x y z : Value} : Bx b w (((w.setCell ⟨b, 0, none⟩ x).setCell ⟨b, 1, none⟩ y).setCell ⟨b, 2, none⟩ z) := ((Bx.setCell _ _ _ _).trans (Bx.setCell _ _ _ _)).trans (Bx.setCell _ _ _ _)
theorem set2_bx {b : Nat} {w : World} {x y : Value} : Bx b w ((w.setCell ⟨b, 0, none⟩ x).setCell ⟨b, 1, none⟩ y) := (Bx.setCell _ _ _ _).trans (Bx.setCell _ _ _ _)
theorem held3 {α : Type} {E : Ty α} {base : Nat} {x : α} {b : Nat} {w : World} {v0 v1 v2 y0 y1 y2 : Value} (h0 : w.cell? ⟨b, 0, none⟩ = some y0) (h1 : w.cell? ⟨b, 1, none⟩ = some y1) (h2 : w.cell? ⟨b, 2, none⟩ = some y2) {fp : List Nat} (hr : E.rd w [v0, v1, v2] x fp)
    (hn : fp.Nodup) (hb : ∀ k ∈ fp, base ≤ k) (hu : Unf w fp) (ho : ∀ k ∈ fp, (some b : Option Nat) ≠ some k) (v : Value) :
    ∃ o', StepT .store (some b) w o' (((w.setCell ⟨b, 0, none⟩ v0).setCell ⟨b, 1, none⟩ v1).setCell ⟨b, 2, none⟩ v2) ∧ heldO E base x o' v (((w.setCell ⟨b, 0, none⟩ v0).setCell ⟨b, 1, none⟩ v1).setCell ⟨b, 2, none⟩ v2) := by
  have hs := set3_bx (b := b) (w := w) (x := v0) (y := v1) (z := v2)
  have e1 : (w.setCell ⟨b, 0, none⟩ v0).cell? ⟨b, 1, none⟩ = some y1 := (World.cell?_setCell_other _ _ _ _ (by simp)).trans h1
  have e2 : ((w.setCell ⟨b, 0, none⟩ v0).setCell ⟨b, 1, none⟩ v1).cell? ⟨b, 2, none⟩ = some y2 := (World.cell?_setCell_other _ _ _ _ (by simp)).trans ((World.cell?_setCell_other _ _ _ _ (by simp)).trans h2)
  refine ⟨some b, ⟨b, rfl, rfl, hs⟩, b, [v0, v1, v2], fp, rfl, E.same hr (hs.same (E.lt hr) ho), hn, hb, hu.same (hs.same (E.lt hr) ho), ho, fun j hj => ?_⟩
  rcases (show j = 0 ∨ j = 1 ∨ j = 2 by simp at hj; omega) with rfl | rfl | rfl
  · exact (World.cell?_setCell_other _ _ _ _ (by simp)).trans ((World.cell?_setCell_other _ _ _ _ (by simp)).trans (World.cell?_setCell_same _ _ _ h0))
  · exact (World.cell?_setCell_other _ _ _ _ (by simp)).trans (World.cell?_setCell_same _ _ _ e1)
  · exact World.cell?_setCell_same _ _ _ e2
theorem held2 {α : Type} {E : Ty α} {base : Nat} {x : α} {b : Nat} {w : World} {v0 v1 y0 y1 : Value} (h0 : w.cell? ⟨b, 0, none⟩ = some y0) (h1 : w.cell? ⟨b, 1, none⟩ = some y1) {fp : List Nat} (hr : E.rd w [v0, v1] x fp)
    (hn : fp.Nodup) (hb : ∀ k ∈ fp, base ≤ k) (hu : Unf w fp) (ho : ∀ k ∈ fp, (some b : Option Nat) ≠ some k) (v : Value) :
    ∃ o', StepT .store (some b) w o' ((w.setCell ⟨b, 0, none⟩ v0).setCell ⟨b, 1, none⟩ v1) ∧ heldO E base x o' v ((w.setCell ⟨b, 0, none⟩ v0).setCell ⟨b, 1, none⟩ v1) := by
  have hs := set2_bx (b := b) (w := w) (x := v0) (y := v1)
  have e1 : (w.setCell ⟨b, 0, none⟩ v0).cell? ⟨b, 1, none⟩ = some y1 := (World.cell?_setCell_other _ _ _ _ (by simp)).trans h1
  refine ⟨some b, ⟨b, rfl, rfl, hs⟩, b, [v0, v1], fp, rfl, E.same hr (hs.same (E.lt hr) ho), hn, hb, hu.same (hs.same (E.lt hr) ho), ho, fun j hj => ?_⟩
  rcases (show j = 0 ∨ j = 1 by simp at hj; omega) with rfl | rfl
  · exact (World.cell?_setCell_other _ _ _ _ (by simp)).trans (World.cell?_setCell_same _ _ _ h0)
  · exact World.cell?_setCell_same _ _ _ e1
theorem box3 {w : World} {x y z : Value} {T : TypeId} : ∀ j, j < 3 → (∃ u, (w.alloc (.cells #[x, y, z] T)).cell? ⟨w.heap.size, j, none⟩ = some u) ∧ (w.alloc (.cells #[x, y, z] T)).frozen? ⟨w.heap.size, j, none⟩ = false := fun j hj => by
  rcases (show j = 0 ∨ j = 1 ∨ j = 2 by omega) with rfl | rfl | rfl <;> exact ⟨by simp, by simp⟩
theorem box2n {w : World} {x y : Value} {T : TypeId} : ∀ j, j < 2 → (∃ u, (w.alloc (.cells #[x, y] T)).cell? ⟨w.heap.size, j, none⟩ = some u) ∧ (w.alloc (.cells #[x, y] T)).frozen? ⟨w.heap.size, j, none⟩ = false := fun j hj => by
  rcases (show j = 0 ∨ j = 1 by omega) with rfl | rfl <;> exact ⟨by simp, by simp⟩
end Go.Proofs.Ytjghcedmlklngaa
