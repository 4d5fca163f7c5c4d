/-
  Contracts: the first values for which all atoms hold, the reference's.
-/
import Derived.Test.YtbpjejhjlmpcjaaGreatS8
namespace Go.Proofs.YtbpjejhjlmpcjaaGreat
open Go.RowKit Go.Sort
set_option maxHeartbeats 1600000 in
set_option maxRecDepth 100000 in
theorem l03Atom_any (w : World) {vt va v : Value} {t : Int × List (Int × List (List Int))} {a : Int × List Int} {vals : List Int} (ht : tplT.Pt w vt t) (ha : opT.Pt w va a) (hv : intsT.Rd w [v] vals)
    (hT : tplOk t) {vars : Int} (hA : atomOk t vars a) (hin : ∀ p ∈ a.2, 0 ≤ p ∧ p < (vals.length : Int)) :
    Calls Tryz.prog 107 #[vt, va, v] w fun e w' => e = .returned (.bool (holdsA t vals a)) ∧ Below w.heap.size w w' := by
  obtain ⟨h1, h4, h5, h6⟩ := atom_len hT hA
  obtain ⟨bt, ot, at0, ct, rfl, hbt, -, -, t1, htx⟩ := pt_pair ht
  obtain ⟨ba, oa, aa, ca, rfl, hba, -, a0, a1, hax⟩ := pt_pair ha
  have HT := Lib.hid htx
  have HX := Lib.hid hax
  have HV := Lib.hid hv
  have HIN := Lib.hid hin
  have HTO := Lib.hid hT
  clear ht ha htx hax hv hin hT hA
  go_enter Tryz.func107, Tryz.ntmps107
  go_wp2_with fail
  refine (l01At_any _ HV.out HX.out HIN.out (by omega)).mono ?_
  rintro e w1 ⟨u, rfl, hf, hb1⟩
  obtain ⟨ua, uc, rfl⟩ := fr_slice hf
  have HF := Lib.hid hf.rd
  replace t1 := (cellB hb1 (by omega)).trans t1
  replace a0 := (cellB hb1 (by omega)).trans a0
  replace a1 := (cellB hb1 (by omega)).trans a1
  have hz1 := hb1.size
  clear hf
  cases hq : (a.1 == -1)
  · have hne : a.1 ≠ -1 := by simpa using hq
    obtain ⟨h7, h8⟩ := h6 hne
    obtain ⟨k, hk⟩ : ∃ k : Nat, a.1 = k := ⟨a.1.toNat, by omega⟩
    have hkl : k < t.2.length := by omega
    obtain ⟨ra, ro, rfl, hp⟩ := rd_elem HT.out hkl
    have hp' : relT.Pt w (.pointer (some ⟨ra, ro + k * 2, none⟩)) t.2[k] := hp
    have HE : Hid (tb (atL vals a.2 ∈ (t.2[k]).2) = holdsA t vals a) := by
      unfold Hid
      rw [holdsA_rel hq]
      unfold holdsC
      rw [hk, relAt_nat hkl]
    have cL : ∀ n, Calls Tryz.prog 45 #[.pointer (some ⟨ra, ro + k * 2, none⟩), .slice ua (atL vals a.2).length uc] (w1.drewN n) fun e w'' => e = .returned (.bool (tb (atL vals a.2 ∈ (t.2[k]).2))) ∧ ∃ m, w'' = w1.drewN m := fun n => quiet_call (l01Has_quiet _ ((hp'.below hb1).below (Quiet.drewN w1 n).below) (HF.out.below (Quiet.drewN w1 n).below))
    rw [hk] at a0 hq
    clear hp hp' hk hne h5 h6
    go_wp2_with fail
    go_quiet (exact cL _)
    go_wp2_with fail
    go_ret
    exact ⟨ret_bool HE.out, bthen hb1 (Quiet.drewN _ _).below⟩
  · have he : a.1 = -1 := by simpa using hq
    have h7 := h5 he
    obtain ⟨_, _, e1, -, -, hce⟩ := ints_ex HF.out
    simp only [List.cons.injEq, Value.slice.injEq, and_true, true_and] at e1
    obtain ⟨rfl, rfl⟩ := e1
    have hal : (atL vals a.2).length = 2 := by rw [atL_len]; exact h7
    obtain ⟨b, o, rfl, hb, hcc⟩ := hce (by omega)
    have i0 := (hcc 0 (by omega)).2
    have i1 := (hcc 1 (by omega)).2
    rw [Nat.add_zero] at i0
    have HE : Hid (((atL vals a.2)[0]'(by omega) == (atL vals a.2)[1]'(by omega)) = holdsA t vals a) := by
      unfold Hid
      rw [holdsA_eq hq]
      simp [List.getD_eq_getElem?_getD, hal]
    clear hcc hce h5 h6 he
    rw [hal]
    go_wp2_with fail
    go_quiet (fail)
    go_wp2_with fail
    go_ret
    exact ⟨ret_bool HE.out, bthen hb1 (Quiet.drewN _ _).below⟩
set_option maxHeartbeats 3200000 in
set_option maxRecDepth 100000 in
theorem l03Sure_any (w : World) {vt vf v : Value} {t : Int × List (Int × List (List Int))} {f : Int × Int × List (Int × List Int)} {vals : List Int} (ht : tplT.Pt w vt t) (hf : frmT.Pt w vf f) (hvr : intsT.Rd w [v] vals) (hok : frmOk t f) {k : Nat} (hl : vals.length = k + 1) (hk : (k : Int) < f.2.1) :
    Calls Tryz.prog 87 #[vt, vf, v] w fun e w' => e = .returned (.bool (goesB t (duesL f.2.2 f.2.1.toNat) vals)) ∧ Below w.heap.size w w' := by
  obtain ⟨b, o, ad, cap, rfl, hb, -, -, -, -, c2, hx⟩ := pt_trip hf
  obtain ⟨b2, o2, _, _, rfl, hb2, -, -, -, -⟩ := pt_pair ht
  obtain ⟨av, capv, rfl⟩ := rd_slice hvr
  obtain ⟨_, _, e1, hle', hle2', hcell⟩ := pairs_ex hx
  simp only [List.cons.injEq, Value.slice.injEq, and_true, true_and] at e1
  obtain ⟨rfl, rfl⟩ := e1
  have HOK := Lib.hid hok
  have HL := Lib.hid hl
  have HTP := Lib.hid ht
  have HV := Lib.hid hvr
  have HX := Lib.hid hx
  have hk10 : k ≤ 10 := by have := hok.2.1.2.1.2; omega
  have HG := Lib.hid (goes_bad (t := t) (ats := f.2.2) (n := f.2.1.toNat) hl (by omega))
  rw [hl]
  clear hf hok hl ht hvr hcell hx
  go_enter Tryz.func87, Tryz.ntmps87
  go_wp2_with fail
  go_loopw [8] (fun i wr => ∃ q : Nat, q ≤ f.2.2.length ∧ i = .int .i64 q ∧ noneB (badB t k vals) (f.2.2.take q) ∧ Below w.heap.size w wr) (fun i _ => f.2.2.length - (intOf i).toNat)
  case atStart => exact ⟨0, Nat.zero_le _, rfl, noneB_zero _ _, Below.refl _ _⟩
  case round =>
    obtain ⟨q, hq, rfl, hne, hbel⟩ := hrel
    have HN := Lib.hid hne
    have d1 := (hbel.cell hb).trans c2
    clear hne
    by_cases hql : q < f.2.2.length
    · obtain ⟨a, r, rfl, hp⟩ := rd_elem HX.out hql
      have hp' : opT.Pt w (.pointer (some ⟨a, r + q * 2, none⟩)) f.2.2[q] := hp
      have HP2 := Lib.hid (hp'.below hbel)
      obtain ⟨_, _, sa, sc, hpe, hpb, -, p0, p1, hps⟩ := pt_pair (hp'.below hbel)
      simp only [Value.pointer.injEq, Option.some.injEq, Addr.mk.injEq, and_true] at hpe
      obtain ⟨rfl, rfl⟩ := hpe
      have hatom := HOK.out.2.2 _ (List.getElem_mem hql)
      have hsh := (atom_len HOK.out.1 hatom).2.1
      have HC := Lib.hid hatom
      obtain ⟨_, _, he, -, -, hsce⟩ := ints_ex hps
      simp only [List.cons.injEq, Value.slice.injEq, and_true, true_and] at he
      obtain ⟨rfl, rfl⟩ := he
      have HSC := Lib.hid hsce
      have HPS := Lib.hid hps
      clear hp hp' hatom hps hsce
      go_wp2_with fail
      obtain ⟨wo, rfl⟩ : ∃ wo : World, wo = wr := ⟨_, rfl⟩
      go_loopw [10, 9] (fun i m wi => ∃ j : Nat, j ≤ (f.2.2[q]).2.length ∧ i = .int .i64 j ∧ m = .int .i64 (topI ((f.2.2[q]).2.take j)) ∧ wi = wo) (fun i _ _ => (f.2.2[q]).2.length - (intOf i).toNat)
      case atStart => exact ⟨0, Nat.zero_le _, rfl, by simp [topI], by first | trivial | rfl⟩
      case round =>
        obtain ⟨j, hj, rfl, rfl, rfl⟩ := hrel
        by_cases hjl : j < (f.2.2[q]).2.length
        · obtain ⟨sb, so, rfl, hsb, hse⟩ := HSC.out (by omega)
          have s0 := (hse j hjl).2
          have HTK := Lib.hid (topI_take hjl)
          clear hse
          go_wp2_with fail
          refine (l00Max_any _ _ _).mono ?_
          rintro e _ ⟨rfl, rfl⟩
          go_wp2_with fail
          go_roundw
          case rel => exact ⟨j + 1, by omega, by go_num, by rw [HTK.out], by first | trivial | rfl⟩
          case measure => simp [intOf]; omega
        · obtain rfl : j = (f.2.2[q]).2.length := by omega
          rw [List.take_length]
          cases htop : (topI (f.2.2[q]).2 == (k : Int))
          · have HN1 := Lib.hid (noneB_succ hql HN.out (bad_no (t := t) (vals := vals) htop))
            go_wp2_with fail
            go_roundw
            case rel => exact ⟨q + 1, by omega, by go_num, HN1.out, hbel⟩
            case measure => simp [intOf]; omega
          · have HBH := Lib.hid (bad_hold (t := t) (vals := vals) htop)
            have htk : topI (f.2.2[q]).2 = (k : Int) := by simpa using htop
            have HIN : Hid (∀ p ∈ (f.2.2[q]).2, 0 ≤ p ∧ p < (vals.length : Int)) := fun p hp => by
              have h1 := topI_ge hp
              have h2 := HC.out.2.2 p hp
              have := HL.out
              omega
            clear htk
            go_wp2_with fail
            refine (l03Atom_any _ (HTP.out.below hbel) HP2.out (by have := HV.out.below hbel; rw [HL.out] at this; exact this) HOK.out.1 HC.out HIN.out).mono ?_
            rintro e w1 ⟨rfl, hb1⟩
            have hbw1 := bthen hbel hb1
            cases hh : holdsA t vals f.2.2[q]
            · have HE : Hid (goesB t (duesL f.2.2 f.2.1.toNat) vals = false) := by
                unfold Hid
                rw [HG.out, anyB_some hql (by rw [HBH.out, hh]; rfl)]
                rfl
              clear hh
              go_wp2_with fail
              go_ret
              exact ⟨ret_bool HE.out.symm, hbw1⟩
            · have HN1 := Lib.hid (noneB_succ hql HN.out (by rw [HBH.out, hh]; rfl))
              clear hh
              go_wp2_with fail
              go_roundw
              case rel => exact ⟨q + 1, by omega, by go_num, HN1.out, hbw1⟩
              case measure => simp [intOf]; omega
    · obtain rfl : q = f.2.2.length := by omega
      have HE : Hid (goesB t (duesL f.2.2 f.2.1.toNat) vals = true) := by
        unfold Hid
        rw [HG.out, anyB_none (by have := HN.out; rwa [List.take_length] at this)]
        rfl
      go_wp2_with fail
      go_ret
      exact ⟨ret_bool HE.out.symm, hbel⟩
theorem headV_app {a b : List (List Int)} (h : a = []) : headV (a ++ b) = headV b ∧ headB (a ++ b) = headB b := by subst h; exact ⟨rfl, rfl⟩
theorem head_app {a b : List (List Int)} (h : headB a = true) : headV (a ++ b) = headV a ∧ headB (a ++ b) = true := by
  cases a with
  | nil => cases h
  | cons x r => exact ⟨rfl, rfl⟩
theorem head_no {a : List (List Int)} (h : headB a = false) : a = [] := by
  cases a with
  | nil => rfl
  | cons x r => cases h
set_option maxHeartbeats 6400000 in
set_option maxRecDepth 100000 in
theorem l03Search_any {t : Int × List (Int × List (List Int))} {f : Int × Int × List (Int × List Int)} (hok : frmOk t f) {n s : Nat} (hn : f.2.1 = n) (hs : t.1 = s) (B : Nat) (vt vf : Value) :
    ∀ (m : Nat) (w : World) (v : Value) (vals : List Int), vals.length + m = n → B ≤ w.heap.size → tplT.Pt w vt t → frmT.Pt w vf f → intsT.Fr B w [v] vals →
      Calls Tryz.prog 88 #[vt, vf, v] w fun e w' => ∃ u, e = .returned (.tuple #[u, .bool (headB (solsL s (goesB t (duesL f.2.2 n)) m vals))]) ∧ intsT.Fr B w' [u] (headV (solsL s (goesB t (duesL f.2.2 n)) m vals)) ∧ Below w.heap.size w w' := by
  have HOK := Lib.hid hok
  have hs4 := hok.1.1
  unfold sizeOk at hs4
  have hn1 := hok.2.1
  have hs41 : 1 ≤ s ∧ s ≤ 4 := by omega
  have hn10 : 1 ≤ n ∧ n ≤ 10 := by unfold frameOk at hn1; omega
  have HN := Lib.hid hn
  have HS := Lib.hid hs
  clear hok hs4 hn1 hn hs
  intro m
  induction m with
  | zero =>
    intro w v vals hlen hB ht hf hv
    obtain ⟨bf, of, _, _, rfl, hbf, -, -, -, f1, -, -⟩ := pt_trip hf
    obtain ⟨va, vc, rfl⟩ := fr_slice hv
    have HV := Lib.hid hv
    have hl : vals.length = n := by omega
    have hnw : ((n : Int) == (n : Int)) = true := by simp
    rw [HN.out] at f1
    rw [solsL_zero]
    clear hv
    rw [hl] at HV ⊢
    go_enter Tryz.func88, Tryz.ntmps88
    go_wp2_with fail
    go_ret2
    exact ⟨.slice va n vc, rfl, HV.out, Below.refl _ _⟩
  | succ m ih =>
    intro w v vals hlen hB ht hf hv
    have HTP := Lib.hid ht
    have HFP := Lib.hid hf
    obtain ⟨bf, of, _, _, rfl, hbf, -, -, -, f1, -, -⟩ := pt_trip hf
    obtain ⟨bt, ot, _, _, rfl, hbt, -, t0, -, -⟩ := pt_pair ht
    obtain ⟨va, vc, rfl⟩ := fr_slice hv
    have HV := Lib.hid hv.rd
    have HIH := Lib.hid ih
    have hl : vals.length < n := by omega
    have hne : ((vals.length : Int) == (n : Int)) = false := by simp; omega
    rw [HN.out] at f1
    rw [HS.out] at t0
    rw [solsL_succ]
    clear ht hf hv ih
    go_enter Tryz.func88, Tryz.ntmps88
    go_wp2_with fail
    go_loopw [8] (fun i wr => ∃ k : Nat, k ≤ s ∧ i = .int .i64 k ∧ solsTo s (goesB t (duesL f.2.2 n)) m vals k = [] ∧ Below w.heap.size w wr) (fun i _ => s - (intOf i).toNat)
    case atStart => exact ⟨0, Nat.zero_le _, rfl, solsTo_zero, Below.refl _ _⟩
    case round =>
      obtain ⟨k, hk, rfl, hnil, hbe⟩ := hrel
      have HNIL := Lib.hid hnil
      have hz := hbe.size
      have y0 := (cellB hbe hbt).trans t0
      clear hnil
      by_cases hkl : k < s
      · go_wp2_with fail
        refine (l00Own_any _ (HV.out.below hbe) (by omega)).mono ?_
        rintro e w2 ⟨u2, rfl, hB2, hb2⟩
        obtain ⟨a2, n2, c2, rfl⟩ := ex_slice (hB2.fr (by unfold capMax; omega))
        have HB2 := Lib.hid hB2
        have hz2 := hb2.size
        replace y0 := (cellB hb2 (by omega)).trans y0
        clear hB2
        go_wp2_with (refine wpList_push (E := Ty.int) _ rfl _ _ 50 2 rfl elInt rfl (HB2.out.below bA (Nat.le_refl _)) rfl news1 (fr_int (I64.small (by omega) (by omega))) (by omega) (by decide) hz2 (by simp) ?_; intro v5 w5 hB5 hg5 _; have hb5 : Below wr.heap.size w2 w5 := ((bA (w := w2)).mono hz2).grown hg5 (by simp; omega) (fun q hq => HB2.out.own hq); obtain ⟨a5, n5, c5, rfl⟩ := ex_slice (hB5.fr (by rw [List.length_append]; unfold capMax; simp only [List.length_singleton]; omega)))
        have hf5 := hB5.fr (by rw [List.length_append]; unfold capMax; simp only [List.length_singleton]; omega)
        have HF5 := Lib.hid hf5
        have hbr5 : Below wr.heap.size wr w5 := hb2.trans hb5
        have hbw5 := bthen hbe hbr5
        have hz5 := hbr5.size
        replace y0 := (cellB hb5 (by omega)).trans y0
        clear hB5 hg5 hf5
        have hNN := HN.out
        refine (l03Sure_any w5 (HTP.out.below hbw5) (HFP.out.below hbw5) HF5.out.rd HOK.out (k := vals.length) (by simp) (by omega)).mono ?_
        rintro e w6 ⟨rfl, hb6⟩
        rw [show f.2.1.toNat = n by omega]
        have hbw6 := bthen hbw5 hb6
        have hz6 := hbw6.size
        replace y0 := (cellB hb6 (by omega)).trans y0
        clear hNN
        cases hg : goesB t (duesL f.2.2 n) (vals ++ [(k : Int)])
        · have HNO : Hid (solsTo s (goesB t (duesL f.2.2 n)) m vals (k + 1) = []) := by unfold Hid; rw [solsTo_no hg]; exact HNIL.out
          clear hg
          go_wp2_with fail
          go_roundw
          case rel => exact ⟨k + 1, by omega, by go_num, HNO.out, hbw6⟩
          case measure => simp [intOf]; omega
        · have HYES := Lib.hid (solsTo_yes (s := s) (m := m) hg)
          clear hg
          go_wp2_with fail
          refine (HIH.out w6 (.slice a5 n5 c5) (vals ++ [(k : Int)]) (by rw [List.length_append, List.length_singleton]; omega) (by omega) (HTP.out.below hbw6) (HFP.out.below hbw6) ((HF5.out.below hb6).mono (by omega))).mono ?_
          rintro e w7 ⟨u7, rfl, hf7, hb7⟩
          obtain ⟨a7, n7, c7, rfl⟩ := ex_slice hf7
          have hbw7 := bthen hbw6 hb7
          cases hh : headB (solsL s (goesB t (duesL f.2.2 n)) m (vals ++ [(k : Int)]))
          · have HNO : Hid (solsTo s (goesB t (duesL f.2.2 n)) m vals (k + 1) = []) := by unfold Hid; rw [HYES.out, HNIL.out, head_no hh]; rfl
            clear hh hf7 y0
            go_wp2_with fail
            go_roundw
            case rel => exact ⟨k + 1, by omega, by go_num, HNO.out, hbw7⟩
            case measure => simp [intOf]; omega
          · have HRES : Hid (headV (solsTo s (goesB t (duesL f.2.2 n)) m vals s) = headV (solsL s (goesB t (duesL f.2.2 n)) m (vals ++ [(k : Int)])) ∧ headB (solsTo s (goesB t (duesL f.2.2 n)) m vals s) = true) := by
              unfold Hid
              obtain ⟨r, hr⟩ := solsTo_append (s := s) (m := m) (sure := goesB t (duesL f.2.2 n)) (vals := vals) (k := k + 1) (j := s) (by omega)
              rw [hr, HYES.out, HNIL.out, List.nil_append]
              exact head_app hh
            have HF7 := Lib.hid hf7
            clear hh hf7 y0
            go_wp2_with fail
            go_ret2
            exact ⟨.slice a7 n7 c7, by rw [HRES.out.2]; rfl, by rw [HRES.out.1]; exact HF7.out, hbw7⟩
      · obtain rfl : k = s := by omega
        go_wp2_with fail
        go_ret2
        exact ⟨.slice (some ⟨wr.heap.size, 0, none⟩) 0 0, by rw [HNIL.out]; rfl, by rw [HNIL.out]; exact fr_nil, hbe.alloc hbe.size _⟩
end Go.Proofs.YtbpjejhjlmpcjaaGreat
