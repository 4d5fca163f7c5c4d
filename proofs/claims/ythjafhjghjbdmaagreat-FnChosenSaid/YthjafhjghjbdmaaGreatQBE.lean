/-
Contracts: the reference's tests of a kind: flat, symmetric.
Contracts: the reference's tests of a kind: symmetric, associative.
Contracts: the reference's tests of a kind: associative, thirds; whole.
Contracts: the reference's tests of a kind: thirds; whole.
Contracts: a polymorphism with given values, the reference's, whole.
Contracts: the first polymorphism of a kind, the reference's.
-/
import Derived.Test.YthjafhjghjbdmaaGreatQBD
import Derived.Test.YthjafhjghjbdmaaGreatQAC
namespace Go.Proofs.YthjafhjghjbdmaaGreat
open Go.RowKit Go.Sort
/-- a row of numbers, by its cells -/
theorem rd_ints_mk {w : World} {b o c n : Nat} {ys : List Int} (hl : ys.length = n) (h0 : 0 < n) (hc : n ≤ c) (hcm : n ≤ capMax) (hb : b < w.heap.size) (hI : ∀ a ∈ ys, I64 a)
    (hcell : ∀ j (h : j < ys.length), w.cell? ⟨b, o + j, none⟩ = some (.int .i64 ys[j])) : intsT.Rd w [.slice (some ⟨b, o, none⟩) n c] ys := by
  subst hl
  refine ⟨b :: (List.range ys.length).flatMap fun _ => [], _, c, rfl, hc, hcm, .inr ⟨h0, b, o, fun _ => [], rfl, hb, rfl, fun i hi => ⟨[.int .i64 ys[i]], ⟨rfl, hI _ (List.getElem_mem hi), rfl⟩, fun j hj => ?_⟩⟩⟩
  obtain rfl : j = 0 := by simpa using hj
  simp [Ty.int, hcell i hi]
/-- an element of a new row written -/
theorem fr_setI {base : Nat} {w : World} {b o c n : Nat} {xs : List Int} {i : Nat} {a : Int} (h : intsT.Fr base w [.slice (some ⟨b, o, none⟩) n c] xs) (hi : i < xs.length) (ha : I64 a) :
    intsT.Fr base (w.setCell ⟨b, o + i, none⟩ (.int .i64 a)) [.slice (some ⟨b, o, none⟩) n c] (xs.set i a) := by
  obtain ⟨b', o', c', hv, hc, hcm, hb, hbs, hI, hf, hH⟩ := fr_holds h (by omega)
  obtain ⟨⟨rfl, rfl⟩, rfl, rfl⟩ : (b = b' ∧ o = o') ∧ n = xs.length ∧ c = c' := by simpa using hv
  have hcl : ∀ j (hj : j < xs.length), w.cell? ⟨b, o + j, none⟩ = some (.int .i64 xs[j]) := fun j hj => by
    have := (hH j (by simpa using hj)).1
    rw [this]
    simp [hj]
  refine fr_ints_mk (by simp) (by omega) hc hcm (by simpa [World.setCell] using hb) hbs (fun x hx => ?_) (fun j hj => ?_) (fun q => (World.frozen?_setCell _ _ _ _).trans (hf q))
  · rcases List.mem_or_eq_of_mem_set hx with h | h
    · exact hI x h
    · rw [h]; exact ha
  · have hj' : j < xs.length := by simpa using hj
    rw [List.getElem_set]
    by_cases e : i = j
    · subst e
      rw [if_pos rfl]
      exact World.cell?_setCell_same _ _ _ (hcl i hi)
    · rw [if_neg e]
      exact (World.cell?_setCell_other _ _ _ _ (by first | (simp; done) | (simp; omega))).trans (hcl j hj')
set_option maxHeartbeats 1600000 in
set_option maxRecDepth 100000 in
theorem l02FlatC_any (w : World) {v : Value} {f : Int × List Int} (h : opT.Pt w v f) {s : Int} (hf : opOk s f) :
    Calls Tryz.prog 120 #[.int .i64 s, v, .bool true] w fun e w' => e = .returned (.bool (tb (constP f))) ∧ Below w.heap.size w w' := by
  obtain ⟨hs, har, hN, hfe, h1, h64⟩ := op_dims hf
  obtain ⟨fb, fo, fa, fc, rfl, hfb, -, c0, c1, hx⟩ := pt_pair h
  obtain ⟨ad, cap, e1, -, -, hcell⟩ := ints_ex hx
  simp only [List.cons.injEq, Value.slice.injEq, and_true, true_and] at e1
  obtain ⟨rfl, rfl⟩ := e1
  obtain ⟨tb0, to0, rfl, htb, hte⟩ := hcell (by omega)
  have HTE := Lib.hid hte
  have e0 : w.cell? ⟨tb0, to0, none⟩ = some (.int .i64 f.2[0]) := (hte 0 (by omega)).2
  have hg0 : f.2.getD 0 0 = f.2[0] := by rw [List.getD_eq_getElem?_getD, List.getElem?_eq_getElem (show 0 < f.2.length by omega)]; rfl
  rw [← hg0] at e0
  obtain ⟨V0, hV0⟩ : ∃ V, V = f.2.getD 0 0 := ⟨_, rfl⟩
  rw [← hV0] at e0
  have HC : Hid (constP f ↔ ∀ k, k < f.2.length → f.2.getD k 0 = V0) := by unfold Hid constP; rw [hV0]
  clear h hf hN hfe hx hcell hte hg0 hV0
  go_enter Tryz.func120, Tryz.ntmps120
  go_wp2_with fail
  go_loopw [7] (fun i wr => ∃ k : Nat, k ≤ f.2.length ∧ i = .int .i64 k ∧ (∀ j : Nat, j < k → f.2.getD j 0 = V0) ∧ Below w.heap.size w wr) (fun i _ => f.2.length - (intOf i).toNat)
  case atStart => exact ⟨0, Nat.zero_le _, rfl, fun j hj => absurd hj (Nat.not_lt_zero j), Below.refl _ _⟩
  case round =>
    obtain ⟨k, hk, rfl, hall, hbv⟩ := hrel
    obtain ⟨wv, rfl⟩ : ∃ wv : World, wv = wr := ⟨_, rfl⟩
    have HALL := Lib.hid hall
    have hzv := hbv.size
    have d0 := (cellB hbv hfb).trans c0
    have d1 := (cellB hbv hfb).trans c1
    have d3 := (cellB hbv htb).trans e0
    clear hall
    by_cases hkl : k < f.2.length
    · have hg : f.2.getD k 0 = f.2[k] := by rw [List.getD_eq_getElem?_getD, List.getElem?_eq_getElem hkl]; rfl
      have d2 := (cellB hbv htb).trans (HTE.out k hkl).2
      rw [← hg] at d2
      have HNO : Hid (f.2.getD k 0 ≠ V0 → tb (constP f) = false) := fun hh => tb_false (fun hi => hh (HC.out.1 hi k hkl))
      obtain ⟨V, hV⟩ : ∃ V, V = f.2.getD k 0 := ⟨_, rfl⟩
      rw [← hV] at d2 HNO
      have HVV := Lib.hid hV
      clear hg hV
      cases hh : (V != V0)
      · have hVE : V = V0 := by simpa using hh
        have HVE := Lib.hid hVE
        clear hVE
        go_wp2_with fail
        go_quiet (fail)
        go_wp2_with fail
        go_roundw
        case rel => exact ⟨k + 1, by omega, by go_num, fun j hj => (Nat.lt_succ_iff_lt_or_eq.1 hj).elim (HALL.out j) (fun e => by rw [e, ← HVV.out]; exact HVE.out), (by repeat (first | exact Below.refl _ _ | exact bA | assumption | refine Below.setCell ?_ (by first | omega | (simp; try omega)) _ | refine Below.alloc ?_ (by first | omega | (simp; try omega)) _ | refine Below.drew ?_ | refine bDN ?_ | refine bthen ?_ (by assumption)))⟩
        case measure => simp [intOf]; omega
      · have HR := Lib.hid (HNO.out (by simpa using hh))
        go_wp2_with fail
        go_quiet (fail)
        go_wp2_with fail
        go_ret
        exact ⟨ret_bool HR.out.symm, (by repeat (first | exact Below.refl _ _ | exact bA | assumption | refine Below.setCell ?_ (by first | omega | (simp; try omega)) _ | refine Below.alloc ?_ (by first | omega | (simp; try omega)) _ | refine Below.drew ?_ | refine bDN ?_ | refine bthen ?_ (by assumption)))⟩
    · obtain rfl : k = f.2.length := by omega
      have HR := Lib.hid (tb_true (HC.out.2 HALL.out))
      go_wp2_with fail
      go_ret
      exact ⟨ret_bool HR.out.symm, hbv⟩
set_option maxHeartbeats 1600000 in
set_option maxRecDepth 100000 in
theorem l02FlatP_any (w : World) {v : Value} {f : Int × List Int} (h : opT.Pt w v f) {s : Int} (hf : opOk s f) :
    Calls Tryz.prog 120 #[.int .i64 s, v, .bool false] w fun e w' => e = .returned (.bool (tb (projP s f))) ∧ Below w.heap.size w w' := by
  obtain ⟨hs, har, hN, hfe, h1, h64⟩ := op_dims hf
  obtain ⟨fb, fo, fa, fc, rfl, hfb, -, c0, -, -⟩ := pt_pair h
  have HP := Lib.hid h
  obtain ⟨ar, har1⟩ : ∃ ar : Nat, f.1.toNat = ar := ⟨_, rfl⟩
  rw [har1] at hN har hfe
  have HN := Lib.hid hN
  have HYES : Hid (∀ p : Nat, p < ar → eqB f ((ar : Int), projT s ar f.2.length p) = true → tb (projP s f) = true) := fun p hp he => tb_true ⟨p, by omega, by rw [har1, hfe]; exact eqB_iff.1 he⟩
  have HNO : Hid ((∀ p : Nat, p < ar → eqB f ((ar : Int), projT s ar f.2.length p) = false) → tb (projP s f) = false) := fun hn => by
    refine tb_false ?_
    rintro ⟨p, hp, he⟩
    have := hn p (by omega)
    rw [har1, hfe] at he
    rw [eqB_true he] at this
    cases this
  rw [hfe] at c0
  clear h hf hN hfe har1
  go_enter Tryz.func120, Tryz.ntmps120
  go_wp2_with fail
  go_loopw [8] (fun i wr => ∃ k : Nat, k ≤ ar ∧ i = .int .i64 k ∧ (∀ p, p < k → eqB f ((ar : Int), projT s ar f.2.length p) = false) ∧ Below w.heap.size w wr) (fun i _ => ar - (intOf i).toNat)
  case atStart => exact ⟨0, Nat.zero_le _, rfl, fun p hp => absurd hp (Nat.not_lt_zero p), Below.refl _ _⟩
  case round =>
    obtain ⟨k, hk, rfl, hall, hbv⟩ := hrel
    obtain ⟨wv, rfl⟩ : ∃ wv : World, wv = wr := ⟨_, rfl⟩
    have HALL := Lib.hid hall
    have hzv := hbv.size
    have d0 := (cellB hbv hfb).trans c0
    clear hall
    by_cases hkl : k < ar
    · go_wp2_with fail
      refine (l02Projection_any wv hs har HN.out hkl).mono ?_
      rintro e w4 ⟨cs, rfl, hfp, hb4⟩
      obtain ⟨pa, pc, rfl⟩ := fr_pair hfp
      have HP4 : Hid (opT.Rd w4 [.int .i64 (ar : Int), .slice pa (projT s ar f.2.length k).length pc] ((ar : Int), projT s ar f.2.length k)) := hfp.rd
      have hbv4 := bthen hbv hb4
      have hz4 := hbv4.size
      clear hfp
      go_wp2_with fail
      generalize hX : World.alloc w4 _ = w5
      have hb5 : Below w4.heap.size w4 w5 := hX ▸ bA
      have hz5 : w4.heap.size + 1 ≤ w5.heap.size := by rw [← hX]; simp
      have g0 : w5.cell? ⟨w4.heap.size, 0, none⟩ = some (.int .i64 (ar : Int)) := by rw [← hX]; simp [go_sem]
      have g1 : w5.cell? ⟨w4.heap.size, 1, none⟩ = some (.slice pa (projT s ar f.2.length k).length pc) := by rw [← hX]; simp [go_sem]
      have hbv5 := bthen hbv4 hb5
      have HPT : Hid (opT.Pt w5 (.pointer (some ⟨w4.heap.size, 0, none⟩)) ((ar : Int), projT s ar f.2.length k)) := pt_of2 (f := ((ar : Int), projT s ar f.2.length k)) (by omega) (HP4.out.below hb5) g0 g1
      clear hX g0 g1
      refine (l02Same_quiet w5 (HP.out.below hbv5) HPT.out).mono ?_
      rintro e w6 ⟨rfl, hq6⟩
      have hbv6 := bthen hbv5 hq6.below
      cases hE : eqB f ((ar : Int), projT s ar f.2.length k)
      · have HE := Lib.hid hE
        clear hE
        go_wp2_with fail
        go_roundw
        case rel => exact ⟨k + 1, by omega, by go_num, fun p hp => (Nat.lt_succ_iff_lt_or_eq.1 hp).elim (HALL.out p) (fun e => e ▸ HE.out), hbv6⟩
        case measure => simp [intOf]; omega
      · have HT := Lib.hid (HYES.out k hkl hE)
        clear hE
        go_wp2_with fail
        go_ret
        exact ⟨ret_bool HT.out.symm, hbv6⟩
    · obtain rfl : k = ar := by omega
      have HT := Lib.hid (HNO.out HALL.out)
      go_wp2_with fail
      go_ret
      exact ⟨ret_bool HT.out.symm, hbv⟩
end Go.Proofs.YthjafhjghjbdmaaGreat
namespace Go.Proofs.YthjafhjghjbdmaaGreat
open Go.RowKit Go.Sort
/-- a part of a row of numbers -/
theorem rd_sub {w : World} {b o n c : Nat} {xs : List Int} (h : intsT.Rd w [.slice (some ⟨b, o, none⟩) n c] xs) {i m c' : Nat} (him : i + m ≤ xs.length) (hm : 0 < m) (hc' : m ≤ c') : intsT.Rd w [.slice (some ⟨b, o + i, none⟩) m c'] ((xs.drop i).take m) := by
  obtain ⟨ad, cap, e1, h1, h2, hcell⟩ := ints_ex h
  obtain ⟨rfl, rfl, rfl⟩ : some ⟨b, o, none⟩ = ad ∧ n = xs.length ∧ c = cap := by simpa using e1
  obtain ⟨b', o', e2, hb, hce⟩ := hcell (by omega)
  obtain ⟨rfl, rfl⟩ : b = b' ∧ o = o' := by simpa using e2
  have hl : ((xs.drop i).take m).length = m := by simp; omega
  have hg : ∀ j (hj : j < m), ((xs.drop i).take m)[j]'(by rw [hl]; exact hj) = xs[i + j]'(by omega) := fun j hj => by simp
  refine rd_ints_mk hl hm hc' (by unfold capMax; omega) hb (fun a ha => ?_) (fun j hj => ?_)
  · obtain ⟨j, hj, rfl⟩ := List.getElem_of_mem ha
    rw [hg j (by omega)]
    exact (hce (i + j) (by omega)).1
  · rw [hg j (by omega), Nat.add_assoc]
    exact (hce (i + j) (by omega)).2
set_option maxHeartbeats 3200000 in
set_option maxRecDepth 100000 in
theorem l02Symmetric_any (w : World) {v : Value} {f : Int × List Int} (h : opT.Pt w v f) {s : Int} (hf : opOk s f) :
    Calls Tryz.prog 123 #[.int .i64 s, v] w fun e w' => e = .returned (.bool (tb (symP s f))) ∧ Below w.heap.size w w' := by
  obtain ⟨hs, har, hN, hfe, h1, h64⟩ := op_dims hf
  have HP := Lib.hid h
  have HF := Lib.hid hf
  obtain ⟨fb, fo, fa, fc, rfl, hfb, -, c0, c1, hx⟩ := pt_pair h
  obtain ⟨ad, cap, e1, -, -, hcell⟩ := ints_ex hx
  simp only [List.cons.injEq, Value.slice.injEq, and_true, true_and] at e1
  obtain ⟨rfl, rfl⟩ := e1
  obtain ⟨tb0, to0, rfl, htb, hte⟩ := hcell (by omega)
  have HTE := Lib.hid hte
  have HS := Lib.hid (sym_swap hf)
  obtain ⟨ar, har1⟩ : ∃ ar : Nat, f.1.toNat = ar := ⟨_, rfl⟩
  rw [har1] at har hfe HS
  have HFE := Lib.hid hfe
  rw [hfe] at c0
  clear h hf hN hfe har1 hx hcell hte
  go_enter Tryz.func123, Tryz.ntmps123
  go_wp2_with fail
  go_loopw [5] (fun i wr => ∃ k : Nat, k ≤ f.2.length ∧ i = .int .i64 k ∧ (∀ j : Nat, j < k → ∀ q, q + 1 < ar → opV s f.2 (swapL (digL s (j : Int) ar) q) = f.2.getD j 0) ∧ Below w.heap.size w wr) (fun i _ => f.2.length - (intOf i).toNat)
  case atStart => exact ⟨0, Nat.zero_le _, rfl, fun j hj => absurd hj (Nat.not_lt_zero j), Below.refl _ _⟩
  case round =>
    obtain ⟨k, hk, rfl, hall, hbv⟩ := hrel
    obtain ⟨wv, rfl⟩ : ∃ wv : World, wv = wr := ⟨_, rfl⟩
    have HALL := Lib.hid hall
    have hzv := hbv.size
    have d0 := (cellB hbv hfb).trans c0
    have d1 := (cellB hbv hfb).trans c1
    clear hall
    by_cases hkl : k < f.2.length
    · have hg : f.2.getD k 0 = f.2[k] := by rw [List.getD_eq_getElem?_getD, List.getElem?_eq_getElem hkl]; rfl
      have hTK := (HTE.out k hkl).2
      rw [← hg] at hTK
      obtain ⟨V, hV⟩ : ∃ V, f.2.getD k 0 = V := ⟨_, rfl⟩
      rw [hV] at hTK
      have HV := Lib.hid hV
      clear hg hV
      go_wp2_with fail
      refine (l01Digits_any _ s (k : Int) ar (by omega) (by omega) (by omega) (by omega) (by omega)).mono ?_
      rintro e wd ⟨dv, rfl, hdf, hbd⟩
      have HTIN : Hid (inS s (digL s (k : Int) ar)) := digL_in hs.1
      have HTL : Hid ((digL s (k : Int) ar).length = ar) := digL_len
      have HNO : Hid (∀ q, q + 1 < ar → opV s f.2 (swapL (digL s (k : Int) ar) q) ≠ V → tb (symP s f) = false) := fun q hq hne => tb_false (fun hi => hne ((HS.out.1 hi k hkl q hq).trans HV.out))
      obtain ⟨T, hT⟩ : ∃ T, digL s (k : Int) ar = T := ⟨_, rfl⟩
      rw [hT] at hdf HTIN HTL HNO
      have HTT := Lib.hid hT
      obtain ⟨da, dc, hvd, -, -, hce⟩ := ints_ex hdf.rd
      obtain rfl : dv = _ := by simpa using hvd
      obtain ⟨db, dO, rfl, hdb, hce⟩ := hce (by have := HTL.out; omega)
      have HCE := Lib.hid hce
      have HTR := Lib.hid hdf.rd
      have hbd0 := bthen hbv hbd
      have hzd := hbd0.size
      have e0 := (cellB hbd (by omega)).trans d0
      clear hdf hce hT hvd d0 d1
      have hTl : T.length = ar := HTL.out
      subst hTl
      go_wp2_with fail
      go_loopw [7] (fun i wr => ∃ q : Nat, (q = 0 ∨ q + 1 ≤ T.length) ∧ i = .int .i64 q ∧ (∀ j : Nat, j < q → opV s f.2 (swapL T j) = V) ∧ Below wd.heap.size wd wr) (fun i _ => T.length - (intOf i).toNat)
      case atStart => exact ⟨0, .inl rfl, rfl, fun j hj => absurd hj (Nat.not_lt_zero j), Below.refl _ _⟩
      case round =>
        obtain ⟨q, hq, rfl, hal2, hbq⟩ := hrel
        obtain ⟨wq, rfl⟩ : ∃ wq : World, wq = wr := ⟨_, rfl⟩
        have HAL2 := Lib.hid hal2
        have hzq := hbq.size
        have hbq0 := bthen hbd0 hbq
        have g0 := (cellB hbq0 hfb).trans c0
        clear hal2
        have hw1 : IntKind.i64.wrap ((q : Int) + 1) = ((q + 1 : Nat) : Int) := by rw [wrap_small (by omega) (by omega)]; omega
        by_cases hql : q + 1 < T.length
        · have HTQ := Lib.hid (HTR.out.below hbq)
          go_wp2_with fail
          refine (l00Own_any wq HTQ.out (by omega)).mono ?_
          rintro e wo ⟨u, rfl, hBl, hbo⟩
          obtain ⟨ob, oo, oc, rfl, hoc, hocm, hob, hobs, hoI, hof, hoH⟩ := fr_holds (hBl.fr (by unfold capMax; omega)) (by omega)
          have HOF : Hid (intsT.Fr wq.heap.size wo [.slice (some ⟨ob, oo, none⟩) T.length oc] T) := hBl.fr (by unfold capMax; omega)
          have hbo0 := bthen hbq hbo
          have hbo00 := bthen hbd0 hbo0
          have hzo := hbo00.size
          obtain ⟨hI0, hd0⟩ := HCE.out q (by omega)
          obtain ⟨hI1, hd1⟩ := HCE.out (q + 1) (by omega)
          replace hd0 := (cellB hbo0 hdb).trans hd0
          replace hd1 := (cellB hbo0 hdb).trans hd1
          have hgd : ∀ j (hj : j < T.length), T.getD j 0 = T[j] := fun j hj => by rw [List.getD_eq_getElem?_getD, List.getElem?_eq_getElem hj]; rfl
          rw [← hgd q (by omega)] at hd0 hI0
          rw [← hgd (q + 1) (by omega)] at hd1 hI1
          have ho0 : ∃ y, wo.cell? ⟨ob, oo + q, none⟩ = some y := ⟨_, (hoH q (by simp; omega)).1⟩
          have ho1 : ∃ y, wo.cell? ⟨ob, oo + (q + 1), none⟩ = some y := ⟨_, (hoH (q + 1) (by simp; omega)).1⟩
          obtain ⟨y0, ho0⟩ := ho0
          obtain ⟨y1, ho1⟩ := ho1
          have hm0 := hof (oo + q)
          have hm1 := hof (oo + (q + 1))
          have hne : db ≠ ob := by have := hbq.size; omega
          have HF2 : Hid (intsT.Fr wq.heap.size ((wo.setCell ⟨ob, oo + q, none⟩ (.int .i64 (T.getD (q + 1) 0))).setCell ⟨ob, oo + (q + 1), none⟩ (.int .i64 (T.getD q 0))) [.slice (some ⟨ob, oo, none⟩) T.length oc] (swapL T q)) := by
            have := fr_setI (fr_setI HOF.out (show q < T.length by omega) hI1) (i := q + 1) (a := T.getD q 0) (by rw [List.length_set]; omega) hI0
            unfold Hid
            simpa [swapL] using this
          have HSW : Hid (inS s (swapL T q)) := inS_perm (swapL_perm (by omega)) HTIN.out
          have HSL : Hid (((swapL T q).length : Int) = f.1) := by unfold Hid; rw [swapL_len]; exact HFE.out.symm
          have hb2 : Below wq.heap.size wq ((wo.setCell ⟨ob, oo + q, none⟩ (.int .i64 (T.getD (q + 1) 0))).setCell ⟨ob, oo + (q + 1), none⟩ (.int .i64 (T.getD q 0))) := (hbo.setCell hobs _).setCell hobs _
          have HNO2 := Lib.hid (HNO.out q hql)
          clear HNO hoH hBl hgd hof hoI
          generalize T.getD q 0 = x0 at *
          generalize T.getD (q + 1) 0 = x1 at *
          go_wp2_with fail
          generalize (wo.setCell ⟨ob, oo + q, none⟩ (.int .i64 x1)).setCell ⟨ob, oo + (q + 1), none⟩ (.int .i64 x0) = wx at HF2 hb2 ⊢
          have hbx1 := bthen hbq hb2
          have hbx := bthen hbd0 hbx1
          have yc1 := (cellB hbx hfb).trans c1
          have yc2 := (cellB hbx htb).trans hTK
          obtain ⟨V2, hV2⟩ : ∃ V2, opV s f.2 (swapL T q) = V2 := ⟨_, rfl⟩
          have HV2 := Lib.hid hV2
          rw [hV2] at HNO2
          have cQ : ∀ n, Calls Tryz.prog 192 #[.int .i64 s, .pointer (some ⟨fb, fo, none⟩), .slice (some ⟨ob, oo, none⟩) T.length oc] (wx.drewN n) fun e w'' => e = .returned (.int .i64 V2) ∧ ∃ m, w'' = wx.drewN m := fun n => by
            have := quiet_call (l02ValueV (wx.drewN n) (f := f) ((HP.out.below hbx).below (Quiet.drewN wx n).below) (HF2.out.rd.below (Quiet.drewN wx n).below) HF.out HSL.out HSW.out)
            rw [HV2.out] at this
            exact this
          clear hd0 hd1 ho0 ho1 hm0 hm1 hV2
          have hfx : fb < wx.heap.size := by have := hbx.size; omega
          have htx : tb0 < wx.heap.size := by have := hbx.size; omega
          cases hc : (V2 != V)
          · have hVE : V2 = V := by simpa using hc
            have HVE := Lib.hid hVE
            clear hVE
            go_quiet (exact cQ _)
            go_wp2_with fail
            go_roundw
            case rel => exact ⟨q + 1, .inr (by omega), by go_num, fun j hj => (Nat.lt_succ_iff_lt_or_eq.1 hj).elim (HAL2.out j) (fun e => by rw [e]; exact HV2.out.trans HVE.out), bthen hbx1 (Quiet.drewN wx _).below⟩
            case measure => simp [intOf]; omega
          · have HR := Lib.hid (HNO2.out (by simpa using hc))
            go_quiet (exact cQ _)
            go_wp2_with fail
            go_ret
            exact ⟨ret_bool HR.out.symm, bthen hbx (Quiet.drewN wx _).below⟩
        · have HDONE : Hid (∀ j : Nat, j < k + 1 → ∀ q, q + 1 < T.length → opV s f.2 (swapL (digL s (j : Int) T.length) q) = f.2.getD j 0) := fun j hj p hp => by
            rcases Nat.lt_succ_iff_lt_or_eq.1 hj with h | h
            · exact HALL.out j h p hp
            · subst h
              rw [HTT.out, HV.out]
              exact HAL2.out p (by omega)
          go_wp2_with fail
          go_roundw
          case rel => exact ⟨k + 1, by omega, by go_num, HDONE.out, hbq0⟩
          case measure => simp [intOf]; omega
    · obtain rfl : k = f.2.length := by omega
      have HR := Lib.hid (tb_true (HS.out.2 HALL.out))
      go_wp2_with fail
      go_ret
      exact ⟨ret_bool HR.out.symm, hbv⟩
end Go.Proofs.YthjafhjghjbdmaaGreat
namespace Go.Proofs.YthjafhjghjbdmaaGreat
open Go.RowKit Go.Sort
set_option maxHeartbeats 3200000 in
set_option maxRecDepth 100000 in
theorem l02Associative_any (w : World) {v : Value} {f : Int × List Int} (h : opT.Pt w v f) {s : Int} (hf : opOk s f) (h2 : f.1 = 2) :
    Calls Tryz.prog 124 #[.int .i64 s, v] w fun e w' => e = .returned (.bool (tb (assoP s f))) ∧ Below w.heap.size w w' := by
  obtain ⟨hs, har, -, hfe, h1, h64⟩ := op_dims hf
  have HP := Lib.hid h
  have HF := Lib.hid hf
  obtain ⟨fb, fo, fa, fc, rfl, hfb, -, -, -, -⟩ := pt_pair h
  obtain ⟨N, hN⟩ : ∃ N : Nat, s ^ 3 = (N : Int) := ⟨(s ^ 3).toNat, by have : 0 < s ^ 3 := Int.pow_pos (by omega); omega⟩
  have hNb : N ≤ 64 := by
    have h1 := pow_mono' (s := s) (c := 4) (by omega) (by omega) 3
    simp at h1
    omega
  have HAS := Lib.hid (asso_all (f := f) hs.1 hN)
  have HN : Hid (s ^ ((3 : Int)).toNat = N) := hN
  have hl2 : ∀ x y : Int, ((([x, y] : List Int).length : Nat) : Int) = f.1 := fun _ _ => by rw [h2]; rfl
  have HL2 := Lib.hid hl2
  clear h hf hfe hN h2 hl2
  go_enter Tryz.func124, Tryz.ntmps124
  go_wp2_with fail
  go_loopw [5] (fun i wr => ∃ k : Nat, k ≤ N ∧ i = .int .i64 k ∧ (∀ j : Nat, j < k → ∀ a b c, digL s (j : Int) 3 = [a, b, c] → opV s f.2 [opV s f.2 [a, b], c] = opV s f.2 [a, opV s f.2 [b, c]]) ∧ Below w.heap.size w wr) (fun i _ => N - (intOf i).toNat)
  case atStart => exact ⟨0, Nat.zero_le _, rfl, fun j hj => absurd hj (Nat.not_lt_zero j), Below.refl _ _⟩
  case round =>
    obtain ⟨k, hk, rfl, hall, hbv⟩ := hrel
    obtain ⟨wv, rfl⟩ : ∃ wv : World, wv = wr := ⟨_, rfl⟩
    have HALL := Lib.hid hall
    have hzv := hbv.size
    clear hall
    by_cases hkl : k < N
    · go_wp2_with (go_at_call 114; refine (l01Power_any _ s (3 : Int) (by omega) (by omega) (by omega)).mono ?_; rintro e w' ⟨rfl, rfl⟩; rw [HN.out])
      refine (l01Digits_any _ s (k : Int) 3 (by omega) (by omega) (by omega) (by omega) (by omega)).mono ?_
      rintro e wd ⟨dv, rfl, hdf, hbd⟩
      obtain ⟨a, b, c, hT⟩ := dig3 s k
      have hin := digL_in (s := s) (idx := (k : Int)) (n := 3) hs.1
      rw [hT] at hdf hin
      have ra : 0 ≤ a ∧ a ≤ s - 1 := hin a (by simp)
      have rb : 0 ≤ b ∧ b ≤ s - 1 := hin b (by simp)
      have rc : 0 ≤ c ∧ c ≤ s - 1 := hin c (by simp)
      have r1 := opV_in HF.out (HL2.out a b) (in2 ra rb)
      have r3 := opV_in HF.out (HL2.out b c) (in2 rb rc)
      obtain ⟨V1, hV1⟩ : ∃ V, opV s f.2 [a, b] = V := ⟨_, rfl⟩
      obtain ⟨V3, hV3⟩ : ∃ V, opV s f.2 [b, c] = V := ⟨_, rfl⟩
      rw [hV1] at r1
      rw [hV3] at r3
      obtain ⟨V2, hV2⟩ : ∃ V, opV s f.2 [V1, c] = V := ⟨_, rfl⟩
      obtain ⟨V4, hV4⟩ : ∃ V, opV s f.2 [a, V3] = V := ⟨_, rfl⟩
      obtain ⟨da, dc, hvd, hdc, -, hce⟩ := ints_ex hdf.rd
      obtain rfl : dv = _ := by simpa using hvd
      obtain ⟨db, dO, rfl, hdb, hce⟩ := hce (by simp)
      have d0 : wd.cell? ⟨db, dO, none⟩ = some (.int .i64 a) := (hce 0 (by simp)).2
      have d2 : wd.cell? ⟨db, dO + 2, none⟩ = some (.int .i64 c) := (hce 2 (by simp)).2
      have hdc3 : 3 ≤ dc := hdc
      have hd2 : (2 : Int) ≤ (dc : Int) := by omega
      have hd3 : (3 : Int) ≤ (dc : Int) := by omega
      have hd1 : ¬ (dc = 1) := by omega
      have hd4 : ¬ (dc = 0) := by omega
      have HAB : Hid (∀ c', 2 ≤ c' → intsT.Rd wd [.slice (some ⟨db, dO, none⟩) 2 c'] [a, b]) := fun c' hc' => by have := rd_sub hdf.rd (i := 0) (m := 2) (c' := c') (by simp) (by omega) hc'; simpa using this
      have HBC : Hid (∀ c', 2 ≤ c' → intsT.Rd wd [.slice (some ⟨db, dO + 1, none⟩) 2 c'] [b, c]) := fun c' hc' => by have := rd_sub hdf.rd (i := 1) (m := 2) (c' := c') (by simp) (by omega) hc'; simpa using this
      have HNO : Hid (V2 ≠ V4 → tb (assoP s f) = false) := fun hne => tb_false (fun hi => hne (by have := HAS.out.1 hi k hkl a b c hT; rw [hV1, hV3, hV2, hV4] at this; exact this))
      have HYES : Hid (V2 = V4 → ∀ j : Nat, j < k + 1 → ∀ a b c, digL s (j : Int) 3 = [a, b, c] → opV s f.2 [opV s f.2 [a, b], c] = opV s f.2 [a, opV s f.2 [b, c]]) := fun he j hj a' b' c' hd => by
        rcases Nat.lt_succ_iff_lt_or_eq.1 hj with h | h
        · exact HALL.out j h a' b' c' hd
        · subst h
          rw [hT] at hd
          simp only [List.cons.injEq, and_true] at hd
          obtain ⟨rfl, rfl, rfl⟩ := hd
          rw [hV1, hV3, hV2, hV4]
          exact he
      have HRa := Lib.hid ra
      have HRb := Lib.hid rb
      have HRc := Lib.hid rc
      have HR1 := Lib.hid r1
      have HR3 := Lib.hid r3
      have E1 := Lib.hid hV1
      have E2 := Lib.hid hV2
      have E3 := Lib.hid hV3
      have E4 := Lib.hid hV4
      have hbd0 := bthen hbv hbd
      have hzd := hbd0.size
      have hI1 := i64_in hs r1
      have hI3 := i64_in hs r3
      have hIa := i64_in hs ra
      have hIc := i64_in hs rc
      have HI := Lib.hid (And.intro hI1 (And.intro hI3 (And.intro hIa hIc)))
      clear hdf hce hvd hdc hT hin ra rb rc r1 r3 hV1 hV2 hV3 hV4 hI1 hI3 hIa hIc
      go_wp2_with fail
      refine wp_region_T (fun w' => w'.cell? ⟨db, dO + 2, none⟩ = some (.int .i64 c)) [] (by kernel_rfl) d2 (fun hHeld => ?_)
      refine wpAnyT_take (i := 0) (v := ?_) rfl (by kernel_rfl) (fun _ _ _ h => h) (Or.inl ⟨by rfl, ?_⟩) (by assumption) ?_
      rotate_left
      · (intro w hSw; (try dsimp only at hSw); go_simp <;> with_reducible rfl)
      go_simp
      refine wpAnyT_take (i := 1) (v := ?_) rfl (by kernel_rfl) (fun _ _ _ h => h) (Or.inl ⟨by rfl, ?_⟩) (by assumption) ?_
      rotate_left
      · (intro w hSw; (try dsimp only at hSw); go_simp <;> with_reducible rfl)
      go_simp
      refine wpAnyT_take (i := 2) (v := ?_) rfl (by kernel_rfl) (fun _ _ _ h => h) (Or.inl ⟨by rfl, ?_⟩) (by assumption) ?_
      rotate_left
      · (intro w hSw; (try dsimp only at hSw); go_simp <;> with_reducible rfl)
      go_simp
      refine wpAnyT_take (i := 3) (v := ?_) rfl (by kernel_rfl) (fun _ _ _ h => h) (Or.inl ⟨by rfl, ?_⟩) (by assumption) ?_
      rotate_left
      · (intro w hSw; (try dsimp only at hSw); go_simp <;> with_reducible rfl)
      go_simp
      refine wpAnyT_take (i := 4) (v := ?_) rfl (by kernel_rfl) (fun _ _ _ h => h) (Or.inl ⟨by rfl, ?_⟩) (by assumption) ?_
      rotate_left
      · (intro w hSw; (try dsimp only at hSw); go_simp <;> with_reducible rfl)
      go_simp
      refine wpAnyT_take (i := 5) (v := ?_) rfl (by kernel_rfl) (fun _ _ _ h => h) (Or.inl ⟨by rfl, ?_⟩) (by assumption) ?_
      rotate_left
      · (intro w hSw; (try dsimp only at hSw); go_simp <;> with_reducible rfl)
      go_simp
      refine wpAnyT_take (i := 7) (v := ?_) rfl (by kernel_rfl) (fun _ _ _ h => h) (Or.inl ⟨by rfl, ?_⟩) (by assumption) ?_
      rotate_left
      · (intro w hSw; (try dsimp only at hSw); go_simp <;> with_reducible rfl)
      go_simp
      refine wpAnyT_take (i := 8) (v := ?_) rfl (by kernel_rfl) (fun _ _ _ h => h) (Or.inl ⟨by rfl, ?_⟩) (by assumption) ?_
      rotate_left
      · (intro w hSw; (try dsimp only at hSw); go_simp <;> with_reducible rfl)
      go_simp
      refine wpAnyT_take (i := 9) (v := ?_) rfl (by kernel_rfl) (fun _ _ _ h => h) (Or.inl ⟨by rfl, ?_⟩) (by assumption) ?_
      rotate_left
      · (intro w hSw; (try dsimp only at hSw); go_simp <;> with_reducible rfl)
      go_simp
      have hv0 : Below wd.heap.size wd wd.drew := bD
      have hz3 := hv0.size
      replace d0 := (cellB hv0 hdb).trans d0
      have hdb3 : db < wd.drew.heap.size := by omega
      have HAB3 : Hid (∀ c', 2 ≤ c' → intsT.Rd wd.drew [.slice (some ⟨db, dO, none⟩) 2 c'] [a, b]) := fun c' hc' => (HAB.out c' hc').below hv0
      have HBC3 : Hid (∀ c', 2 ≤ c' → intsT.Rd wd.drew [.slice (some ⟨db, dO + 1, none⟩) 2 c'] [b, c]) := fun c' hc' => (HBC.out c' hc').below hv0
      have hbd3 := bthen hbd0 hv0
      clear d2 hdb
      generalize wd.drew = w3 at hHeld hv0 hz3 d0 HAB3 HBC3 hbd3 hdb3 ⊢
      have d2 := hHeld
      refine wpAnyT_one (i := 6) rfl (by kernel_rfl) (fun K hK => ?_)
      go_simp
      go_at_call 192
      refine (l02ValueV w3 (f := f) (HP.out.below hbd3) (HAB3.out _ (by omega)) HF.out (HL2.out a b) (in2 HRa.out HRb.out)).mono ?_
      rintro e w4 ⟨rfl, hq4⟩
      rw [E1.out]
      have hb4 := hq4.below
      have hz4 := hb4.size
      have hbd4 := bthen hbd3 hb4
      replace d0 := (cellB hb4 (by omega)).trans d0
      replace d2 := (cellB hb4 (by omega)).trans d2
      have HBC4 : Hid (∀ c', 2 ≤ c' → intsT.Rd w4 [.slice (some ⟨db, dO + 1, none⟩) 2 c'] [b, c]) := fun c' hc' => (HBC3.out c' hc').below hb4
      have hdb4 : db < w4.heap.size := by omega
      clear HAB3 HBC3 hq4
      dsimp only
      refine hK.out _ _ d2 (fun hHeld => ?_)
      clear hK K
      refine wpAnyT_one (i := 10) rfl (by kernel_rfl) (fun K hK => ?_)
      go_simp
      refine hK.out _ _ (by go_keep) (fun hHeld => ?_)
      clear hK K
      refine wpAnyT_one (i := 11) rfl (by kernel_rfl) (fun K hK => ?_)
      go_simp
      go_at_call 192
      refine (l02ValueV _ (f := f) (HP.out.below (bthen hbd4 bA)) (fr_ints2 (base := 0) HI.out.1 HI.out.2.2.2 rfl (Nat.zero_le _)).rd HF.out (HL2.out V1 c) (in2 HR1.out HRc.out)).mono ?_
      rintro e w6 ⟨rfl, hq6⟩
      rw [E2.out]
      have hb6 : Below w4.heap.size w4 w6 := bthen bA hq6.below
      have hz6 := hb6.size
      have hbd6 := bthen hbd4 hb6
      replace d0 := (cellB hb6 hdb4).trans d0
      replace d2 := (cellB hb6 hdb4).trans d2
      have HBC6 : Hid (∀ c', 2 ≤ c' → intsT.Rd w6 [.slice (some ⟨db, dO + 1, none⟩) 2 c'] [b, c]) := fun c' hc' => (HBC4.out c' hc').below hb6
      have hdb6 : db < w6.heap.size := by omega
      clear HBC4 hq6
      dsimp only
      refine hK.out _ _ d2 (fun hHeld => ?_)
      clear hK K
      refine wpAnyT_take (i := 12) (v := ?_) rfl (by kernel_rfl) (fun _ _ _ h => h) (Or.inl ⟨by rfl, ?_⟩) (by assumption) ?_
      rotate_left
      · (intro w hSw; (try dsimp only at hSw); go_simp <;> with_reducible rfl)
      go_simp
      refine wpAnyT_done (by kernel_rfl) ?_ _
      go_simp
      go_wp2_with fail
      refine wp_region_T (fun w' => w'.cell? ⟨db, dO, none⟩ = some (.int .i64 a)) [] (by kernel_rfl) d0 (fun hHeld => ?_)
      refine wpAnyT_take (i := 0) (v := ?_) rfl (by kernel_rfl) (fun _ _ _ h => h) (Or.inl ⟨by rfl, ?_⟩) (by assumption) ?_
      rotate_left
      · (intro w hSw; (try dsimp only at hSw); go_simp <;> with_reducible rfl)
      go_simp
      refine wpAnyT_take (i := 1) (v := ?_) rfl (by kernel_rfl) (fun _ _ _ h => h) (Or.inl ⟨by rfl, ?_⟩) (by assumption) ?_
      rotate_left
      · (intro w hSw; (try dsimp only at hSw); go_simp <;> with_reducible rfl)
      go_simp
      refine wpAnyT_take (i := 2) (v := ?_) rfl (by kernel_rfl) (fun _ _ _ h => h) (Or.inl ⟨by rfl, ?_⟩) (by assumption) ?_
      rotate_left
      · (intro w hSw; (try dsimp only at hSw); go_simp <;> with_reducible rfl)
      go_simp
      refine wpAnyT_take (i := 3) (v := ?_) rfl (by kernel_rfl) (fun _ _ _ h => h) (Or.inl ⟨by rfl, ?_⟩) (by assumption) ?_
      rotate_left
      · (intro w hSw; (try dsimp only at hSw); go_simp <;> with_reducible rfl)
      go_simp
      refine wpAnyT_take (i := 4) (v := ?_) rfl (by kernel_rfl) (fun _ _ _ h => h) (Or.inl ⟨by rfl, ?_⟩) (by assumption) ?_
      rotate_left
      · (intro w hSw; (try dsimp only at hSw); go_simp <;> with_reducible rfl)
      go_simp
      refine wpAnyT_take (i := 5) (v := ?_) rfl (by kernel_rfl) (fun _ _ _ h => h) (Or.inl ⟨by rfl, ?_⟩) (by assumption) ?_
      rotate_left
      · (intro w hSw; (try dsimp only at hSw); go_simp <;> with_reducible rfl)
      go_simp
      refine wpAnyT_take (i := 6) (v := ?_) rfl (by kernel_rfl) (fun _ _ _ h => h) (Or.inl ⟨by rfl, ?_⟩) (by assumption) ?_
      rotate_left
      · (intro w hSw; (try dsimp only at hSw); go_simp <;> with_reducible rfl)
      go_simp
      refine wpAnyT_take (i := 7) (v := ?_) rfl (by kernel_rfl) (fun _ _ _ h => h) (Or.inl ⟨by rfl, ?_⟩) (by assumption) ?_
      rotate_left
      · (intro w hSw; (try dsimp only at hSw); go_simp <;> with_reducible rfl)
      go_simp
      refine wpAnyT_take (i := 8) (v := ?_) rfl (by kernel_rfl) (fun _ _ _ h => h) (Or.inl ⟨by rfl, ?_⟩) (by assumption) ?_
      rotate_left
      · (intro w hSw; (try dsimp only at hSw); go_simp <;> with_reducible rfl)
      go_simp
      have hv7 : Below w6.heap.size w6 w6.drew := bD
      have hz7 := hv7.size
      have HBC7 : Hid (∀ c', 2 ≤ c' → intsT.Rd w6.drew [.slice (some ⟨db, dO + 1, none⟩) 2 c'] [b, c]) := fun c' hc' => (HBC6.out c' hc').below hv7
      have hbd7 := bthen hbd6 hv7
      have hdb7 : db < w6.drew.heap.size := by omega
      clear d0 d2
      generalize w6.drew = w7 at hHeld hv7 hz7 HBC7 hbd7 hdb7 ⊢
      have d0 := hHeld
      refine wpAnyT_one (i := 9) rfl (by kernel_rfl) (fun K hK => ?_)
      go_simp
      go_at_call 192
      refine (l02ValueV w7 (f := f) (HP.out.below hbd7) (HBC7.out _ (by omega)) HF.out (HL2.out b c) (in2 HRb.out HRc.out)).mono ?_
      rintro e w8 ⟨rfl, hq8⟩
      rw [E3.out]
      have hb8 := hq8.below
      have hz8 := hb8.size
      have hbd8 := bthen hbd7 hb8
      replace d0 := (cellB hb8 (by omega)).trans d0
      clear HBC7 hq8
      dsimp only
      refine hK.out _ _ d0 (fun hHeld => ?_)
      clear hK K
      refine wpAnyT_one (i := 10) rfl (by kernel_rfl) (fun K hK => ?_)
      go_simp
      refine hK.out _ _ (by go_keep) (fun hHeld => ?_)
      clear hK K
      refine wpAnyT_one (i := 11) rfl (by kernel_rfl) (fun K hK => ?_)
      go_simp
      go_at_call 192
      refine (l02ValueV _ (f := f) (HP.out.below (bthen hbd8 bA)) (fr_ints2 (base := 0) HI.out.2.2.1 HI.out.2.1 rfl (Nat.zero_le _)).rd HF.out (HL2.out a V3) (in2 HRa.out HR3.out)).mono ?_
      rintro e w9 ⟨rfl, hq9⟩
      rw [E4.out]
      have hb9 : Below w8.heap.size w8 w9 := bthen bA hq9.below
      have hbd9 := bthen hbd8 hb9
      have hdb8 : db < w8.heap.size := by omega
      replace d0 := (cellB hb9 hdb8).trans d0
      clear hq9
      dsimp only
      refine hK.out _ _ d0 (fun hHeld => ?_)
      clear hK K
      refine wpAnyT_take (i := 12) (v := ?_) rfl (by kernel_rfl) (fun _ _ _ h => h) (Or.inl ⟨by rfl, ?_⟩) (by assumption) ?_
      rotate_left
      · (intro w hSw; (try dsimp only at hSw); go_simp <;> with_reducible rfl)
      go_simp
      refine wpAnyT_done (by kernel_rfl) ?_ _
      go_simp
      cases hc : (V2 != V4)
      · have HY := Lib.hid (HYES.out (by simpa using hc))
        clear HYES HNO
        go_wp2_with fail
        go_roundw
        case rel => exact ⟨k + 1, by omega, by go_num, HY.out, hbd9⟩
        case measure => simp [intOf]; omega
      · have HR := Lib.hid (HNO.out (by simpa using hc))
        clear HYES HNO
        go_wp2_with fail
        go_ret
        exact ⟨ret_bool HR.out.symm, hbd9⟩
    · obtain rfl : k = N := by omega
      have HR := Lib.hid (tb_true (HAS.out.2 HALL.out))
      go_wp2_with (go_at_call 114; refine (l01Power_any _ s (3 : Int) (by omega) (by omega) (by omega)).mono ?_; rintro e w' ⟨rfl, rfl⟩; rw [HN.out])
      go_ret
      exact ⟨ret_bool HR.out.symm, hbv⟩
end Go.Proofs.YthjafhjghjbdmaaGreat
namespace Go.Proofs.YthjafhjghjbdmaaGreat
open Go.RowKit Go.Sort
/-- the value that is due -/
def dueT (odd : Bool) (x y : Int) : Int := match odd with
  | true => y
  | false => x
/-- what three values tell -/
def badT (mid : Bool) (V1 V2 V3 d : Int) : Bool := (V1 != d) || (V3 != d) || (mid && (V2 != d))
set_option maxHeartbeats 3200000 in
set_option maxRecDepth 100000 in
theorem l02Thirds_any (w : World) {v : Value} {f : Int × List Int} (h : opT.Pt w v f) {s : Int} (hf : opOk s f) (mid odd : Bool) :
    Calls Tryz.prog 125 #[.int .i64 s, v, .bool mid, .bool odd] w fun e w' => e = .returned (.bool (tb (thirdP s f (dueT odd) mid))) ∧ Below w.heap.size w w' := by
  obtain ⟨hs, har, -, hfe, h1, h64⟩ := op_dims hf
  have HP := Lib.hid h
  have HF := Lib.hid hf
  obtain ⟨fb, fo, fa, fc, rfl, hfb, -, c0, -, -⟩ := pt_pair h
  cases h3 : (f.1 != 3)
  rotate_left
  · have HR : Hid (tb (thirdP s f (dueT odd) mid) = false) := tb_false (fun hh => by rw [hh.1] at h3; exact absurd h3 (by decide))
    clear h hf hfe
    go_enter Tryz.func125, Tryz.ntmps125
    go_wp2_with fail
    go_ret
    exact ⟨ret_bool HR.out.symm, (by repeat (first | exact Below.refl _ _ | exact bA | assumption | refine Below.setCell ?_ (by first | omega | (simp; try omega)) _ | refine Below.alloc ?_ (by first | omega | (simp; try omega)) _ | refine Below.drew ?_ | refine bDN ?_ | refine bthen ?_ (by assumption)))⟩
  have h33 : f.1 = 3 := by simpa using h3
  rw [h33] at c0
  have HL3 : Hid (∀ x y z : Int, ((([x, y, z] : List Int).length : Nat) : Int) = f.1) := fun _ _ _ => by rw [h33]; rfl
  obtain ⟨S, rfl⟩ : ∃ S : Nat, s = S := ⟨s.toNat, by omega⟩
  have HTH : Hid (thirdP S f (dueT odd) mid ↔ ∀ x y : Nat, x < S → y < S → badT mid (opV S f.2 [(x : Int), x, y]) (opV S f.2 [(x : Int), y, x]) (opV S f.2 [(y : Int), x, x]) (dueT odd x y) = false) := by
    unfold Hid thirdP
    constructor
    · rintro ⟨-, h⟩ x y hx hy
      obtain ⟨g1, g2, g3⟩ := h x y ⟨by omega, by omega⟩ ⟨by omega, by omega⟩
      unfold badT
      rw [g1, g2]
      cases mid
      · simp
      · rw [g3 rfl]; simp
    · refine fun h => ⟨h33, fun x y hx hy => ?_⟩
      have := h x.toNat y.toNat (by omega) (by omega)
      rw [show ((x.toNat : Nat) : Int) = x by omega, show ((y.toNat : Nat) : Int) = y by omega] at this
      unfold badT at this
      simp only [Bool.or_eq_false_iff, bne_eq_false_iff_eq] at this
      obtain ⟨⟨g1, g2⟩, g3⟩ := this
      refine ⟨g1, g2, fun hm => ?_⟩
      subst hm
      simpa using g3
  clear h hf hfe h33 h3
  go_enter Tryz.func125, Tryz.ntmps125
  go_wp2_with fail
  go_loopw [9] (fun i wr => ∃ k : Nat, k ≤ S ∧ i = .int .i64 k ∧ (∀ x : Nat, x < k → ∀ y : Nat, y < S → badT mid (opV S f.2 [(x : Int), x, y]) (opV S f.2 [(x : Int), y, x]) (opV S f.2 [(y : Int), x, x]) (dueT odd x y) = false) ∧ Below w.heap.size w wr) (fun i _ => S - (intOf i).toNat)
  case atStart => exact ⟨0, Nat.zero_le _, rfl, fun j hj => absurd hj (Nat.not_lt_zero j), Below.refl _ _⟩
  case round =>
    obtain ⟨k, hk, rfl, hall, hbv⟩ := hrel
    obtain ⟨wv, rfl⟩ : ∃ wv : World, wv = wr := ⟨_, rfl⟩
    have HALL := Lib.hid hall
    have hzv := hbv.size
    clear hall
    by_cases hkl : k < S
    · go_wp2_with fail
      go_loopw [10] (fun i wr => ∃ q : Nat, q ≤ S ∧ i = .int .i64 q ∧ (∀ y : Nat, y < q → badT mid (opV S f.2 [(k : Int), k, y]) (opV S f.2 [(k : Int), y, k]) (opV S f.2 [(y : Int), k, k]) (dueT odd k y) = false) ∧ Below wv.heap.size wv wr) (fun i _ => S - (intOf i).toNat)
      case atStart => exact ⟨0, Nat.zero_le _, rfl, fun j hj => absurd hj (Nat.not_lt_zero j), Below.refl _ _⟩
      case round =>
        obtain ⟨q, hq, rfl, hal2, hbq⟩ := hrel
        obtain ⟨wq, rfl⟩ : ∃ wq : World, wq = wr := ⟨_, rfl⟩
        have HAL2 := Lib.hid hal2
        have hbq0 := bthen hbv hbq
        clear hal2
        by_cases hql : q < S
        · have rx : 0 ≤ (k : Int) ∧ (k : Int) ≤ (S : Int) - 1 := by omega
          have ry : 0 ≤ (q : Int) ∧ (q : Int) ≤ (S : Int) - 1 := by omega
          have HNO : Hid (badT mid (opV S f.2 [(k : Int), k, q]) (opV S f.2 [(k : Int), q, k]) (opV S f.2 [(q : Int), k, k]) (dueT odd k q) = true → tb (thirdP S f (dueT odd) mid) = false) := fun hb => tb_false (fun hi => by rw [HTH.out.1 hi k q hkl hql] at hb; cases hb)
          have HYES : Hid (badT mid (opV S f.2 [(k : Int), k, q]) (opV S f.2 [(k : Int), q, k]) (opV S f.2 [(q : Int), k, k]) (dueT odd k q) = false → ∀ y : Nat, y < q + 1 → badT mid (opV S f.2 [(k : Int), k, y]) (opV S f.2 [(k : Int), y, k]) (opV S f.2 [(y : Int), k, k]) (dueT odd k y) = false) := fun hb y hy => (Nat.lt_succ_iff_lt_or_eq.1 hy).elim (HAL2.out y) (fun e => by subst e; exact hb)
          obtain ⟨V1, hV1⟩ : ∃ V, opV S f.2 [(k : Int), k, q] = V := ⟨_, rfl⟩
          obtain ⟨V2, hV2⟩ : ∃ V, opV S f.2 [(k : Int), q, k] = V := ⟨_, rfl⟩
          obtain ⟨V3, hV3⟩ : ∃ V, opV S f.2 [(q : Int), k, k] = V := ⟨_, rfl⟩
          rw [hV1, hV2, hV3] at HNO HYES
          have E1 := Lib.hid hV1
          have E2 := Lib.hid hV2
          have E3 := Lib.hid hV3
          have HRX := Lib.hid rx
          have HRY := Lib.hid ry
          have HIX := Lib.hid (i64_in hs rx)
          have HIY := Lib.hid (i64_in hs ry)
          clear hV1 hV2 hV3 rx ry
          have HD : Hid (∃ d, d = dueT odd (k : Int) (q : Int)) := ⟨_, rfl⟩
          have hstep : ∀ d : Int, dueT odd (k : Int) (q : Int) = d → (odd = true → d = (q : Int)) ∧ (odd = false → d = (k : Int)) := by
            rintro d rfl
            exact ⟨fun h => by rw [h]; rfl, fun h => by rw [h]; rfl⟩
          clear hstep HD
          cases odd
          all_goals
            simp only [dueT] at HNO HYES
            go_wp2_with fail
            refine (l02ValueV _ (f := f) (HP.out.below (bthen hbq0 bA)) (fr_ints3 (base := 0) HIX.out HIX.out HIY.out rfl (Nat.zero_le _)).rd HF.out (HL3.out k k q) (in3 HRX.out HRX.out HRY.out)).mono ?_
            rintro e w1 ⟨rfl, hq1⟩
            rw [E1.out]
            have hb1 : Below wq.heap.size wq w1 := bthen bA hq1.below
            have hbq1 := bthen hbq0 hb1
            clear hq1
          · skip
            cases a1 : (V1 != (k : Int))
            rotate_left
            · have HR := Lib.hid (HNO.out (by simp [badT, a1]))
              go_wp2_with fail
              go_ret
              exact ⟨ret_bool HR.out.symm, hbq1⟩
            go_wp2_with fail
            refine (l02ValueV _ (f := f) (HP.out.below (bthen hbq1 bA)) (fr_ints3 (base := 0) HIY.out HIX.out HIX.out rfl (Nat.zero_le _)).rd HF.out (HL3.out q k k) (in3 HRY.out HRX.out HRX.out)).mono ?_
            rintro e w2 ⟨rfl, hq2⟩
            rw [E3.out]
            have hb2 : Below w1.heap.size w1 w2 := bthen bA hq2.below
            have hbq2 := bthen hbq1 hb2
            have hbv2 := bthen hb1 hb2
            clear hq2
            cases a3 : (V3 != (k : Int))
            rotate_left
            · have HR := Lib.hid (HNO.out (by simp [badT, a3]))
              go_wp2_with fail
              go_ret
              exact ⟨ret_bool HR.out.symm, hbq2⟩
            cases mid
            · have HY := Lib.hid (HYES.out (by simp [badT, a1, a3]))
              go_wp2_with fail
              go_roundw
              case rel => exact ⟨q + 1, by omega, by go_num, HY.out, bthen hbq hbv2⟩
              case measure => simp [intOf]; omega
            go_wp2_with fail
            refine (l02ValueV _ (f := f) (HP.out.below (bthen hbq2 bA)) (fr_ints3 (base := 0) HIX.out HIY.out HIX.out rfl (Nat.zero_le _)).rd HF.out (HL3.out k q k) (in3 HRX.out HRY.out HRX.out)).mono ?_
            rintro e w3 ⟨rfl, hq3⟩
            rw [E2.out]
            have hb3 : Below w2.heap.size w2 w3 := bthen bA hq3.below
            have hbq3 := bthen hbq2 hb3
            have hbv3 := bthen hbv2 hb3
            clear hq3
            cases a2 : (V2 != (k : Int))
            · have HY := Lib.hid (HYES.out (by simp [badT, a1, a3, a2]))
              go_wp2_with fail
              go_roundw
              case rel => exact ⟨q + 1, by omega, by go_num, HY.out, bthen hbq hbv3⟩
              case measure => simp [intOf]; omega
            · have HR := Lib.hid (HNO.out (by simp [badT, a2]))
              go_wp2_with fail
              go_ret
              exact ⟨ret_bool HR.out.symm, hbq3⟩
          · skip
            cases a1 : (V1 != (q : Int))
            rotate_left
            · have HR := Lib.hid (HNO.out (by simp [badT, a1]))
              go_wp2_with fail
              go_ret
              exact ⟨ret_bool HR.out.symm, hbq1⟩
            go_wp2_with fail
            refine (l02ValueV _ (f := f) (HP.out.below (bthen hbq1 bA)) (fr_ints3 (base := 0) HIY.out HIX.out HIX.out rfl (Nat.zero_le _)).rd HF.out (HL3.out q k k) (in3 HRY.out HRX.out HRX.out)).mono ?_
            rintro e w2 ⟨rfl, hq2⟩
            rw [E3.out]
            have hb2 : Below w1.heap.size w1 w2 := bthen bA hq2.below
            have hbq2 := bthen hbq1 hb2
            have hbv2 := bthen hb1 hb2
            clear hq2
            cases a3 : (V3 != (q : Int))
            rotate_left
            · have HR := Lib.hid (HNO.out (by simp [badT, a3]))
              go_wp2_with fail
              go_ret
              exact ⟨ret_bool HR.out.symm, hbq2⟩
            cases mid
            · have HY := Lib.hid (HYES.out (by simp [badT, a1, a3]))
              go_wp2_with fail
              go_roundw
              case rel => exact ⟨q + 1, by omega, by go_num, HY.out, bthen hbq hbv2⟩
              case measure => simp [intOf]; omega
            go_wp2_with fail
            refine (l02ValueV _ (f := f) (HP.out.below (bthen hbq2 bA)) (fr_ints3 (base := 0) HIX.out HIY.out HIX.out rfl (Nat.zero_le _)).rd HF.out (HL3.out k q k) (in3 HRX.out HRY.out HRX.out)).mono ?_
            rintro e w3 ⟨rfl, hq3⟩
            rw [E2.out]
            have hb3 : Below w2.heap.size w2 w3 := bthen bA hq3.below
            have hbq3 := bthen hbq2 hb3
            have hbv3 := bthen hbv2 hb3
            clear hq3
            cases a2 : (V2 != (q : Int))
            · have HY := Lib.hid (HYES.out (by simp [badT, a1, a3, a2]))
              go_wp2_with fail
              go_roundw
              case rel => exact ⟨q + 1, by omega, by go_num, HY.out, bthen hbq hbv3⟩
              case measure => simp [intOf]; omega
            · have HR := Lib.hid (HNO.out (by simp [badT, a2]))
              go_wp2_with fail
              go_ret
              exact ⟨ret_bool HR.out.symm, hbq3⟩
        · obtain rfl : q = S := by omega
          have HDONE : Hid (∀ x : Nat, x < k + 1 → ∀ y : Nat, y < q → badT mid (opV q f.2 [(x : Int), x, y]) (opV q f.2 [(x : Int), y, x]) (opV q f.2 [(y : Int), x, x]) (dueT odd x y) = false) := fun x hx y hy => (Nat.lt_succ_iff_lt_or_eq.1 hx).elim (fun h => HALL.out x h y hy) (fun e => by subst e; exact HAL2.out y hy)
          go_wp2_with fail
          go_roundw
          case rel => exact ⟨k + 1, by omega, by go_num, HDONE.out, hbq0⟩
          case measure => simp [intOf]; omega
    · obtain rfl : k = S := by omega
      have HR := Lib.hid (tb_true (HTH.out.2 (fun x y hx hy => HALL.out x hx y hy)))
      go_wp2_with fail
      go_ret
      exact ⟨ret_bool HR.out.symm, hbv⟩
section
variable {s : Int} {f : Int × List Int}
theorem third_7 : kindB s f 7 = tb (thirdP s f (dueT false) true) := by
  rw [kind_7]
  rfl
theorem third_8 : kindB s f 8 = tb (thirdP s f (dueT true) true) := by
  rw [kind_8]
  rfl
theorem third_9 : kindB s f 9 = tb (thirdP s f (dueT true) false) := by
  rw [kind_9]
  rfl
set_option maxHeartbeats 3200000 in
theorem l02Kind_any (w : World) {v : Value} (h : opT.Pt w v f) (hf : opOk s f) {k : Int} (hk : 1 ≤ k ∧ k ≤ 10) :
    Calls Tryz.prog 45 #[.int .i64 s, v, .int .i64 k] w fun e w' => e = .returned (.bool (kindB s f k)) ∧ Below w.heap.size w w' := by
  have HP := Lib.hid h
  have HF := Lib.hid hf
  obtain ⟨fb, fo, fa, fc, rfl, hfb, -, c0, -, -⟩ := pt_pair h
  clear h hf
  rcases (show k = 1 ∨ k = 2 ∨ k = 3 ∨ k = 4 ∨ k = 5 ∨ k = 6 ∨ k = 7 ∨ k = 8 ∨ k = 9 ∨ k = 10 by omega) with rfl | rfl | rfl | rfl | rfl | rfl | rfl | rfl | rfl | rfl
  · rw [kind_1]
    go_enter Tryz.func45, Tryz.ntmps45
    go_wp2_with fail
    refine (l02FlatP_any w HP.out HF.out).mono ?_
    rintro e w1 ⟨rfl, hb1⟩
    go_wp2_with fail
    go_ret
    exact ⟨rfl, hb1⟩
  · rw [kind_2]
    go_enter Tryz.func45, Tryz.ntmps45
    go_wp2_with fail
    refine (l02FlatC_any w HP.out HF.out).mono ?_
    rintro e w1 ⟨rfl, hb1⟩
    go_wp2_with fail
    go_ret
    exact ⟨rfl, hb1⟩
  · rw [kind_3]
    go_enter Tryz.func45, Tryz.ntmps45
    go_wp2_with fail
    refine (l02Idempotent_any w HP.out HF.out).mono ?_
    rintro e w1 ⟨rfl, hb1⟩
    go_wp2_with fail
    go_ret
    exact ⟨rfl, hb1⟩
  · rw [kind_4]
    go_enter Tryz.func45, Tryz.ntmps45
    go_wp2_with fail
    refine (l02Conservative_any w HP.out HF.out).mono ?_
    rintro e w1 ⟨rfl, hb1⟩
    go_wp2_with fail
    go_ret
    exact ⟨rfl, hb1⟩
  · cases h2 : (f.1 == 2)
    · have HT : Hid (kindB s f 5 = false) := by unfold Hid; rw [kind_5]; exact tb_false (fun hh => by rw [hh.1] at h2; exact absurd h2 (by decide))
      go_enter Tryz.func45, Tryz.ntmps45
      go_wp2_with fail
      go_ret
      exact ⟨ret_bool HT.out.symm, (by repeat (first | exact Below.refl _ _ | exact bA | assumption | refine Below.setCell ?_ (by first | omega | (simp; try omega)) _ | refine Below.alloc ?_ (by first | omega | (simp; try omega)) _ | refine Below.drew ?_ | refine bDN ?_ | refine bthen ?_ (by assumption)))⟩
    · have HT : Hid (tb (symP s f) = kindB s f 5) := by unfold Hid; rw [kind_5]; exact tb_congr ⟨fun h => ⟨by simpa using h2, h⟩, fun h => h.2⟩
      go_enter Tryz.func45, Tryz.ntmps45
      go_wp2_with fail
      refine (l02Symmetric_any w HP.out HF.out).mono ?_
      rintro e w1 ⟨rfl, hb1⟩
      rw [HT.out]
      go_wp2_with fail
      go_ret
      exact ⟨rfl, hb1⟩
  · cases h2 : (f.1 == 2)
    · have HT : Hid (kindB s f 6 = false) := by unfold Hid; rw [kind_6]; exact tb_false (fun hh => by rw [hh.1] at h2; exact absurd h2 (by decide))
      go_enter Tryz.func45, Tryz.ntmps45
      go_wp2_with fail
      go_ret
      exact ⟨ret_bool HT.out.symm, (by repeat (first | exact Below.refl _ _ | exact bA | assumption | refine Below.setCell ?_ (by first | omega | (simp; try omega)) _ | refine Below.alloc ?_ (by first | omega | (simp; try omega)) _ | refine Below.drew ?_ | refine bDN ?_ | refine bthen ?_ (by assumption)))⟩
    · have h22 : f.1 = 2 := by simpa using h2
      have H22 := Lib.hid h22
      have HK : Hid (∀ p q r : Bool, tb (symP s f) = p → tb (idemP s f) = q → tb (assoP s f) = r → kindB s f 6 = (p && q && r)) := by
        rintro p q r rfl rfl rfl
        rw [kind_6, tb_and, tb_and]
        exact tb_congr ⟨fun ⟨_, b, c, d⟩ => ⟨⟨b, c⟩, d⟩, fun ⟨⟨b, c⟩, d⟩ => ⟨h22, b, c, d⟩⟩
      clear h22
      go_enter Tryz.func45, Tryz.ntmps45
      go_wp2_with fail
      refine (l02Symmetric_any w HP.out HF.out).mono ?_
      rintro e w1 ⟨rfl, hb1⟩
      cases h5 : tb (symP s f)
      · have HR : Hid (kindB s f 6 = false) := by unfold Hid; rw [HK.out _ _ _ h5 rfl rfl]; rfl
        go_wp2_with fail
        go_ret
        exact ⟨ret_bool HR.out.symm, hb1⟩
      have H5 := Lib.hid h5
      clear h5
      go_wp2_with fail
      refine (l02Idempotent_any w1 (HP.out.below hb1) HF.out).mono ?_
      rintro e w2 ⟨rfl, hb2⟩
      have hbb := bthen hb1 hb2
      cases h3 : tb (idemP s f)
      · have HR : Hid (kindB s f 6 = false) := by unfold Hid; rw [HK.out _ _ _ H5.out h3 rfl]; rfl
        go_wp2_with fail
        go_ret
        exact ⟨ret_bool HR.out.symm, hbb⟩
      have HR : Hid (tb (assoP s f) = kindB s f 6) := by unfold Hid; rw [HK.out _ _ _ H5.out h3 rfl]; rfl
      clear h3
      go_wp2_with fail
      refine (l02Associative_any w2 (HP.out.below hbb) HF.out H22.out).mono ?_
      rintro e w3 ⟨rfl, hb3⟩
      rw [HR.out]
      go_wp2_with fail
      go_ret
      exact ⟨rfl, bthen hbb hb3⟩
  · rw [third_7]
    go_enter Tryz.func45, Tryz.ntmps45
    go_wp2_with fail
    refine (l02Thirds_any w HP.out HF.out true false).mono ?_
    rintro e w1 ⟨rfl, hb1⟩
    go_wp2_with fail
    go_ret
    exact ⟨rfl, hb1⟩
  · rw [third_8]
    go_enter Tryz.func45, Tryz.ntmps45
    go_wp2_with fail
    refine (l02Thirds_any w HP.out HF.out true true).mono ?_
    rintro e w1 ⟨rfl, hb1⟩
    go_wp2_with fail
    go_ret
    exact ⟨rfl, hb1⟩
  · rw [third_9]
    go_enter Tryz.func45, Tryz.ntmps45
    go_wp2_with fail
    refine (l02Thirds_any w HP.out HF.out false true).mono ?_
    rintro e w1 ⟨rfl, hb1⟩
    go_wp2_with fail
    go_ret
    exact ⟨rfl, hb1⟩
  · rw [kind_10]
    go_enter Tryz.func45, Tryz.ntmps45
    go_wp2_with fail
    refine (l02Symmetric_any w HP.out HF.out).mono ?_
    rintro e w1 ⟨rfl, hb1⟩
    go_wp2_with fail
    go_ret
    exact ⟨rfl, hb1⟩
end
end Go.Proofs.YthjafhjghjbdmaaGreat
namespace Go.Proofs.YthjafhjghjbdmaaGreat
open Go.RowKit Go.Sort
section
variable {t : Tpl} {ar : Int} {ls : List (List Int)} {vs : List Int}
end
end Go.Proofs.YthjafhjghjbdmaaGreat
namespace Go.Proofs.YthjafhjghjbdmaaGreat
open Go.RowKit Go.Sort
/-- where the search for the first one stands -/
def FpL (W : World) (b1 : Nat) (t : Tpl) (ar k : Int) (br gt : Nat) (g : Nat) (wr : World) : Prop :=
  ∃ (pre : List Int) (cur : Int) (st : Nat) (bg : Bool) (L : List (List Int)), g = 6001 - st ∧ Ru (fun q => q ≠ br ∧ q ≠ gt) wr br t ar (duesF (looksA t ar.toNat) (tabL t ar)) (fxN t ar) ∧ Mc 2 b1 wr br gt (tabL t ar) (tabV (tabL t ar) pre cur) st bg ∧ preOk t.1.toNat (fxN t ar) pre ∧ curOk t.1.toNat (fxN t ar) pre.length cur ∧ pre.length < tabL t ar ∧ st ≤ 6000 ∧ (bg = false → pre.length = 0) ∧ (bg = true → pre.length + 1 = tabL t ar) ∧
    upF t.1.toNat (okF t ar) (fxN t ar) (ycP (fpP t ar k)) (tabL t ar) pre.length pre cur (0, st, L) = fpR t ar k ∧ Below b1 W wr
theorem fo_0' {ar : Int} {R : FR} (h : R.1 = 0) : foV ar R = (0, []) ∧ foC R = 6 := by simp [foV, foC, h]
theorem fo_7' {ar : Int} {R : FR} (h : R.1 = 7) : foV ar R = (0, []) ∧ foC R = 7 := by simp [foV, foC, h]
theorem fo_f {ar : Int} {R : FR} {st : Nat} {x : List Int} {L : List (List Int)} (h : R = (-1, st, L ++ [x])) : foV ar R = (ar, x) ∧ foC R = 0 := by simp [foV, foC, h]
theorem pre_in {s : Nat} {fx pre : List Int} {v : Nat} (hp : preOk s fx pre) (hc : curOk s fx pre.length (v : Int)) : ∀ a ∈ pre ++ [(v : Int)], 0 ≤ a ∧ a ≤ (s : Int) - 1 := fun a ha => by
  rcases List.mem_append.1 ha with h | h
  · obtain ⟨i, hi, rfl⟩ := List.getElem_of_mem h
    obtain ⟨h1, h2, -⟩ := hp i hi
    omega
  · obtain rfl := List.mem_singleton.1 h
    rcases hc with h | ⟨h1, h2, -⟩
    · omega
    · omega
set_option maxHeartbeats 6400000 in
set_option maxRecDepth 100000 in
theorem specFirstPolymorphism_any (w : World) {cs : Array Value} {t : Tpl} (h : tplT.Rd w cs.toList t) {ar k : Int} :
    Calls Tryz.prog 7 #[.agg cs, .int .i64 ar, .int .i64 k] w (RetAC opT w (fpV t ar k) (fpC t ar k)) := by
  have p0 : tplT.Pt (w.alloc (.cells cs 33)) (.pointer (some ⟨w.heap.size, 0, none⟩)) t := pt_box h
  obtain ⟨v1, hv, -, -⟩ := pair_ex h
  obtain rfl := agg_of hv
  clear h hv
  go_enter Tryz.func7, Tryz.ntmps7
  go_wp2_with fail
  generalize hW0 : World.alloc w (.cells #[.int .i64 t.1, v1] 33) = W0 at p0 ⊢
  have hbW0 : Below w.heap.size w W0 := hW0 ▸ bA
  have hsW0 : W0.heap.size = w.heap.size + 1 := by rw [← hW0]; simp
  have t0' : W0.cell? ⟨w.heap.size, 0, none⟩ = some (.int .i64 t.1) := by rw [← hW0]; simp [go_sem]
  clear hW0
  generalize hW : World.alloc W0 _ = W
  have hbW1 : Below W0.heap.size W0 W := hW ▸ bA
  have hbW : Below w.heap.size w W := bthen hbW0 hbW1
  have hsW : w.heap.size + 2 ≤ W.heap.size := by rw [← hW]; simp [hsW0]
  have r0 : W.cell? ⟨w.heap.size + 1, 0, none⟩ = some (.int .i64 0) := by rw [← hsW0, ← hW]; simp [go_sem]
  have r1 : W.cell? ⟨w.heap.size + 1, 1, none⟩ = some (.slice none 0 0) := by rw [← hsW0, ← hW]; simp [go_sem]
  have q0 : W.frozen? ⟨w.heap.size + 1, 0, none⟩ = false := by rw [← hsW0, ← hW]; simp [go_sem]
  have q1 : W.frozen? ⟨w.heap.size + 1, 1, none⟩ = false := by rw [← hsW0, ← hW]; simp [go_sem]
  have t0 := (cellB hbW1 (by omega)).trans t0'
  replace p0 := p0.below hbW1
  try rw [hsW0]
  clear hW t0' hsW0
  refine (l04Asked_any _ p0 ar).mono ?_
  rintro e w1 ⟨rfl, hq1⟩
  have hb1 := hq1.below
  have hB1 := bthen hbW hb1
  have hz1 := hb1.size
  have HP := Lib.hid (p0.below hb1)
  replace t0 := (cellB hb1 (by omega)).trans t0
  replace r0 := (cellB hb1 (by omega)).trans r0
  replace r1 := (cellB hb1 (by omega)).trans r1
  replace q0 := (frozenB hb1 (by omega)).trans q0
  replace q1 := (frozenB hb1 (by omega)).trans q1
  clear hq1 p0
  cases ha : (askC t ar != 0)
  · have ha0 : askC t ar = 0 := by simpa using ha
    have HAOK := Lib.hid (ask_ok ha0)
    have HA0 := Lib.hid ha0
    have har := (ask_ok ha0).2
    rw [ha0]
    clear ha ha0
    go_wp2_with fail
    refine (l00In_any k 1 10 w1).mono ?_
    rintro e _ ⟨rfl, rfl⟩
    cases hk : inB k 1 10
    · have HR := Lib.hid (fp_rng HA0.out hk)
      have HZ0 := Lib.hid (fun (x y : Value) => res2_0 (x := x) (y := y) r0)
      have HZ1 := Lib.hid (fun (x y : Value) => res2_1 (x := x) (y := y) r1)
      clear hk
      go_wp2_with fail
      refine bodyPost_ret (v := .tuple #[.agg #[.int .i64 0, .slice none 0 0], .int .i64 2]) (by simp [results, Tryz.results7, go_sem, HZ0.out, HZ1.out]) rfl ⟨[.int .i64 0, .slice none 0 0], by rw [HR.out.2], ?_, res2_b hB1 (by omega)⟩
      rw [HR.out.1]
      exact fr_op0
    have HK := Lib.hid hk
    have HKB := Lib.hid (inB_true.1 hk)
    clear hk
    go_wp2_with fail
    refine (l04Begin_any _ HP.out HAOK.out.1 har).mono ?_
    rintro e w2 ⟨hb2, hcase⟩
    have hB2 := bthen hB1 hb2
    have hz2 := hb2.size
    replace t0 := (cellB hb2 (by omega)).trans t0
    replace r0 := (cellB hb2 (by omega)).trans r0
    replace r1 := (cellB hb2 (by omega)).trans r1
    replace q0 := (frozenB hb2 (by omega)).trans q0
    replace q1 := (frozenB hb2 (by omega)).trans q1
    rcases hcase with ⟨hl, rfl⟩ | ⟨hl, br, gt, rfl, hbr, hgt, hne, hf4, hRu, hMc⟩
    · have HR := Lib.hid (fp_lim HA0.out HK.out hl)
      have HZ0 := Lib.hid (fun (x y : Value) => res2_0 (x := x) (y := y) r0)
      have HZ1 := Lib.hid (fun (x y : Value) => res2_1 (x := x) (y := y) r1)
      clear hl
      go_wp2_with fail
      refine bodyPost_ret (v := .tuple #[.agg #[.int .i64 0, .slice none 0 0], .int .i64 3]) (by simp [results, Tryz.results7, go_sem, HZ0.out, HZ1.out]) rfl ⟨[.int .i64 0, .slice none 0 0], by rw [HR.out.2], ?_, res2_b hB2 (by omega)⟩
      rw [HR.out.1]
      exact fr_op0
    · have HLF := Lib.hid hl
      have HFO := Lib.hid (fp_fo HA0.out HK.out hl)
      have hs4 := HAOK.out.1.1
      unfold sizeOk at hs4
      have hNb := tabN_bd (tabN_of HAOK.out.1.1 (ar := ar.toNat) (by omega) (tabL_of HAOK.out.1))
      have HS : Hid (t.1 = (t.1.toNat : Int)) := by unfold Hid; omega
      have HLK := Lib.hid (tpl_looks HAOK.out.1 har hl)
      have HFXL : Hid ((fxN t ar).length = tabL t ar) := by simp [Hid, fxN]
      have HFS := Lib.hid (fxN_lt (t := t) (ar := ar) (s := t.1.toNat) (by omega))
      have HNE := Lib.hid hne
      have hIa : I64 ar := I64.small (by omega) (by omega)
      have HIa := Lib.hid hIa
      have hbW2 : Below W.heap.size W w2 := bthen hb1 hb2
      have H0 : Hid (FpL w2 w1.heap.size t ar k br gt 6001 w2) := by
        refine ⟨[], -1, 0, false, [], rfl, hRu, ?_, preOk_nil, .inl rfl, by show 0 < tabL t ar; omega, by omega, fun _ => rfl, (fun h => by cases h), up_all (by omega), Below.refl _ _⟩
        rw [← tabV_start (by omega)]
        exact hMc
      have hl2 : w.heap.size + 2 ≤ w2.heap.size := by omega
      clear hl hRu hMc hne hf4 hIa
      go_wp2_with fail
      go_loopg [11] 6001 (fun g _ wr => FpL w2 w1.heap.size t ar k br gt g wr)
      case atStart => exact H0.out
      case round =>
        obtain ⟨pre, cur, st, bg, L, hg, hRu, hMc, hpo, hco, hpl, hst, hb0, hb1', hup, hbe⟩ := hrel
        have HUP := Lib.hid hup
        have HG := Lib.hid hg
        obtain ⟨wv, rfl⟩ : ∃ wv : World, wv = wr := ⟨_, rfl⟩
        have HHb0 := Lib.hid hb0
        have HHb1 := Lib.hid hb1'
        have HRU := Lib.hid hRu
        have HMC := Lib.hid hMc
        have HPO := Lib.hid hpo
        have HCO := Lib.hid hco
        clear hup hg hb0 hb1' hRu hMc hpo hco H0
        go_wp2_with fail
        refine (next_any wv HRU.out HMC.out (fun q hq => hq) HNE.out HAOK.out.1 HS.out (by omega) HLK.out.2.1 HLK.out.1 HLK.out.2.2 HFXL.out HFS.out HPO.out HCO.out hpl hst HHb0.out HHb1.out).mono ?_
        rintro e w3 ⟨more, bad, rfl, hRu3, htc3, hcase⟩
        have hbe3 : Below w1.heap.size w2 w3 := hbe.trans (htc3.below (by have := hbe.size; omega) (fun q hq h => by omega))
        have hB3 : Below w.heap.size w w3 := hB2.trans (hbe3.mono (by omega))
        have HRU3 := Lib.hid hRu3
        have hz4 := htc3.size
        have hz23 := hbe3.size
        have s0 := (cellB hbe3 (show w.heap.size + 1 < w1.heap.size by omega)).trans r0
        have s1 := (cellB hbe3 (show w.heap.size + 1 < w1.heap.size by omega)).trans r1
        have p0 := (frozenB hbe3 (show w.heap.size + 1 < w1.heap.size by omega)).trans q0
        have p1 := (frozenB hbe3 (show w.heap.size + 1 < w1.heap.size by omega)).trans q1
        have tt := (cellB hbe3 (show w.heap.size < w1.heap.size by omega)).trans t0
        clear hRu3 htc3
        rcases hcase with ⟨rfl, rfl, st', hu⟩ | ⟨rfl, rfl, hu⟩ | ⟨rfl, rfl, pre', v, st', hpl', hpo', hco', hMc', hst1, hst2, hu⟩
        · have hE := (hu (ycP (fpP t ar k)) L).symm.trans HUP.out
          have hf0 := fo_0' (ar := ar) (R := fpR t ar k) (by rw [← hE])
          have HR : Hid (fpV t ar k = (0, []) ∧ fpC t ar k = 6) := ⟨HFO.out.1.trans hf0.1, HFO.out.2.trans hf0.2⟩
          have HZ0 := Lib.hid (fun (x y : Value) => res2_0 (x := x) (y := y) s0)
          have HZ1 := Lib.hid (fun (x y : Value) => res2_1 (x := x) (y := y) s1)
          clear hu hE hf0
          go_wp2_with fail
          refine bodyPost_ret (v := .tuple #[.agg #[.int .i64 0, .slice none 0 0], .int .i64 6]) (by simp [results, Tryz.results7, go_sem, HZ0.out, HZ1.out]) rfl ⟨[.int .i64 0, .slice none 0 0], by rw [HR.out.2], ?_, res2_b hB3 (by omega)⟩
          rw [HR.out.1]
          exact fr_op0
        · have hE := (hu (ycP (fpP t ar k)) L).symm.trans HUP.out
          have hf0 := fo_7' (ar := ar) (R := fpR t ar k) (by rw [← hE])
          have HR : Hid (fpV t ar k = (0, []) ∧ fpC t ar k = 7) := ⟨HFO.out.1.trans hf0.1, HFO.out.2.trans hf0.2⟩
          have HZ0 := Lib.hid (fun (x y : Value) => res2_0 (x := x) (y := y) s0)
          have HZ1 := Lib.hid (fun (x y : Value) => res2_1 (x := x) (y := y) s1)
          clear hu hE hf0
          go_wp2_with fail
          refine bodyPost_ret (v := .tuple #[.agg #[.int .i64 0, .slice none 0 0], .int .i64 7]) (by simp [results, Tryz.results7, go_sem, HZ0.out, HZ1.out]) rfl ⟨[.int .i64 0, .slice none 0 0], by rw [HR.out.2], ?_, res2_b hB3 (by omega)⟩
          rw [HR.out.1]
          exact fr_op0
        · have hE := (hu (ycP (fpP t ar k)) L).symm.trans HUP.out
          have HE0 := Lib.hid hE
          have HTP := Lib.hid hpl'
          have HMC3 := Lib.hid hMc'
          have HPO3 := Lib.hid hpo'
          have HCO3 := Lib.hid hco'
          have HXI := Lib.hid (pre_in hpo' hco')
          clear hu hMc' hpo' hco' HMC HRU hE
          have hgk : 6001 - st' < gk := by have := HG.out; omega
          have c15 : w3.cell? ⟨br, 1, none⟩ = some (.int .i64 ar) := by obtain ⟨_, _, _, _, _, _, _, _, _, _, c1, _⟩ := HRU3.out; exact c1
          have c55 := HMC3.out.2.1
          have hbr3 := HRU3.out.1
          have HIR := Lib.hid HMC3.out.2.2.1
          have hxl : (pre' ++ [(v : Int)]).length = tabL t ar := by rw [List.length_append, List.length_singleton]; exact hpl'
          have HOP : Hid (opOk t.1 (ar, pre' ++ [(v : Int)])) := op_of_tab HAOK.out.1 har ⟨hxl, fun a ha => by have := HXI.out a ha; have := HS.out; omega⟩
          clear hpl' hxl
          go_wp2_with fail
          refine (op_any w3 hbr3 c15 c55 (HIR.out.fr (by unfold capMax; omega)).rd (by rw [List.length_append, List.length_singleton, HTP.out]; omega)).mono ?_
          rintro e w4 ⟨u4, rfl, hf4, hb4⟩
          obtain ⟨ua4, uc4, rfl⟩ := fr_slice hf4
          have hb4z := hb4.size
          generalize hx : pre' ++ [(v : Int)] = x at *
          have HX := Lib.hid hx
          have HF4 := Lib.hid hf4
          have hB4 := bthen hB3 hb4
          replace s0 := (cellB hb4 (by omega)).trans s0
          replace s1 := (cellB hb4 (by omega)).trans s1
          replace tt := (cellB hb4 (by omega)).trans tt
          replace p0 := (frozenB hb4 (by omega)).trans p0
          replace p1 := (frozenB hb4 (by omega)).trans p1
          clear hf4 c15 c55 hx
          have hwl4 : w.heap.size < w4.heap.size := by omega
          have hwl41 : w.heap.size + 1 < w4.heap.size := by omega
          go_wp2_with fail
          generalize hY : World.alloc w4 _ = w5
          have hb5 : Below w4.heap.size w4 w5 := hY ▸ bA
          have hz5 : w4.heap.size + 1 ≤ w5.heap.size := by rw [← hY]; simp
          have g0 : w5.cell? ⟨w4.heap.size, 0, none⟩ = some (.int .i64 ar) := by rw [← hY]; simp [go_sem]
          have g1 : w5.cell? ⟨w4.heap.size, 1, none⟩ = some (.slice ua4 x.length uc4) := by rw [← hY]; simp [go_sem]
          have hB5 := bthen hB4 hb5
          have hb35 : Below w3.heap.size w3 w5 := bthen hb4 hb5
          replace s0 := (cellB hb5 (by omega)).trans s0
          replace s1 := (cellB hb5 (by omega)).trans s1
          replace p0 := (frozenB hb5 (by omega)).trans p0
          replace p1 := (frozenB hb5 (by omega)).trans p1
          have HXF : Hid (intsT.Fr w3.heap.size w5 [.slice ua4 x.length uc4] x) := HF4.out.below hb5
          have HPT : Hid (opT.Pt w5 (.pointer (some ⟨w4.heap.size, 0, none⟩)) (ar, x)) := pt_of2 (f := (ar, x)) (by omega) (pair_mk HIa.out HXF.out.rd) g0 g1
          clear hY tt
          refine (l02Kind_any w5 HPT.out HOP.out HKB.out).mono ?_
          rintro e w6 ⟨rfl, hb6⟩
          have hB6 := bthen hB5 hb6
          have hb36 : Below w3.heap.size w3 w6 := bthen hb35 hb6
          have hz6 := hb6.size
          replace s0 := (cellB hb6 (by omega)).trans s0
          replace s1 := (cellB hb6 (by omega)).trans s1
          replace g0 := (cellB hb6 (by omega)).trans g0
          replace g1 := (cellB hb6 (by omega)).trans g1
          replace p0 := (frozenB hb6 (by omega)).trans p0
          replace p1 := (frozenB hb6 (by omega)).trans p1
          have HXF6 : Hid (intsT.Fr w3.heap.size w6 [.slice ua4 x.length uc4] x) := HXF.out.below hb6
          cases hp : kindB t.1 (ar, x) k
          · have hp' : fpP t ar k x = false := hp
            have hE := HE0.out
            rw [cont_yes (by rw [HX.out]; exact ycP_no hp'), HX.out] at hE
            have hb26 : Below w1.heap.size w2 w6 := hbe3.trans (hb36.mono (by omega))
            have HNX : Hid (FpL w2 w1.heap.size t ar k br gt (6001 - st') w6) := by
              refine ⟨pre', v, st', true, L ++ [x], rfl, HRU3.out.below hb36, ?_, HPO3.out, HCO3.out, by have := HTP.out; omega, hst2, (fun h => by cases h), fun _ => HTP.out, hE, hb26⟩
              rw [tabV_full HTP.out, HX.out]
              exact HMC3.out.below hb36
            clear hp hp' hE
            go_wp2_with fail
            go_roundg (6001 - st')
            case measure => exact hgk
            case rel => exact HNX.out
          · have hp' : fpP t ar k x = true := hp
            have hE := HE0.out
            rw [cont_no (by rw [HX.out, ycP_yes hp']; decide), HX.out, ycP_yes hp'] at hE
            have hff := fo_f (ar := ar) hE.symm
            have HR : Hid (fpV t ar k = (ar, x) ∧ fpC t ar k = 0) := ⟨HFO.out.1.trans hff.1, HFO.out.2.trans hff.2⟩
            have HZ0 := Lib.hid (fun (x y : Value) => res2_0 (x := x) (y := y) s0)
            have HZ1 := Lib.hid (fun (x y : Value) => res2_1 (x := x) (y := y) s1)
            clear hp hp' hE hff
            go_wp2_with fail
            refine bodyPost_ret (v := .tuple #[.agg #[.int .i64 ar, .slice ua4 x.length uc4], .int .i64 0]) (by simp [results, Tryz.results7, go_sem, HZ0.out, HZ1.out]) rfl ⟨[.int .i64 ar, .slice ua4 x.length uc4], by rw [HR.out.2], ?_, res2_b hB6 (by omega)⟩
            rw [HR.out.1]
            exact ((fr_cons HIa.out HXF6.out).set (a := ⟨w.heap.size + 1, 0, none⟩) (show w.heap.size + 1 < w3.heap.size by omega)).set (a := ⟨w.heap.size + 1, 1, none⟩) (show w.heap.size + 1 < w3.heap.size by omega) |>.mono (by omega)
  · have ha0 : askC t ar ≠ 0 := by simpa using ha
    have HR := Lib.hid (fp_ask (k := k) ha0)
    have HZ0 := Lib.hid (fun (x y : Value) => res2_0 (x := x) (y := y) r0)
    have HZ1 := Lib.hid (fun (x y : Value) => res2_1 (x := x) (y := y) r1)
    clear ha0
    generalize hA : askC t ar = A at *
    go_wp2_with fail
    refine bodyPost_ret (v := .tuple #[.agg #[.int .i64 0, .slice none 0 0], .int .i64 A]) (by simp [results, Tryz.results7, go_sem, HZ0.out, HZ1.out]) rfl ⟨[.int .i64 0, .slice none 0 0], by rw [HR.out.2], ?_, res2_b hB1 (by omega)⟩
    rw [HR.out.1]
    exact fr_op0
end Go.Proofs.YthjafhjghjbdmaaGreat
