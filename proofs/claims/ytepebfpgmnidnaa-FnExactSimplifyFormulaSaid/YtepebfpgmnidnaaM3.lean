/-
  Contracts: the reference's parts of a formula made simpler: the first atom to be merged; the atoms that say something.
-/
import Derived.Test.YtepebfpgmnidnaaM2
import Derived.Deep.CutRange
namespace Go.Proofs.Ytepebfpgmnidnaa
open Go.RowKit Go.Sort
set_option maxHeartbeats 3200000 in
set_option maxRecDepth 100000 in
theorem l03Equal_quiet (w : World) {vf : Value} {f : Int × Int × Atoms} (h : frmT.Pt w vf f) (h2 : eq2 f.2.2) :
    Calls Try.prog 126 #[vf] w fun e w' => e = .returned (.int .i64 (firstI (mrgB f.1) f.2.2)) ∧ Quiet w w' := by
  obtain ⟨b, o, ad, cap, rfl, hb, hI, hI2, c0, c1, c2, hx⟩ := pt_trip h
  obtain ⟨_, _, e1, hle, hle2, hcell⟩ := pairs_ex hx
  simp only [List.cons.injEq, Value.slice.injEq, and_true, true_and] at e1
  obtain ⟨rfl, rfl⟩ := e1
  have HC := Lib.hid hcell
  have H2 := Lib.hid h2
  clear h hx hcell h2 hI hI2 c1
  go_enter Try.func126, Try.ntmps126
  go_wp2_with fail
  go_loopw [3] (fun i wr => ∃ k : Nat, k ≤ f.2.2.length ∧ i = .int .i64 k ∧ noneB (mrgB f.1) (f.2.2.take k) ∧ Quiet w wr) (fun i _ => f.2.2.length - (intOf i).toNat)
  case atStart => exact ⟨0, Nat.zero_le _, rfl, noneB_zero _ _, Quiet.refl _⟩
  case round =>
    obtain ⟨k, hk, rfl, ht, hqw⟩ := hrel
    have HT := Lib.hid ht
    have d0 := (hqw.below.cell hb).trans c0
    have d2 := (hqw.below.cell hb).trans c2
    clear ht c0 c2
    by_cases hkl : k < f.2.2.length
    · obtain ⟨q, p, rfl, hqb, hce⟩ := HC.out (by omega)
      obtain ⟨u, hu, -, g0, g1⟩ := hce k hkl
      have r0 := (hqw.below.cell hqb).trans g0
      have r1 := (hqw.below.cell hqb).trans g1
      cases hq : ((f.2.2[k]).1 == -1)
      · have HN : Hid (noneB (mrgB f.1) (f.2.2.take (k + 1))) := noneB_succ hkl HT.out (by unfold mrgB; rw [hq]; rfl)
        clear hce hu g0 g1
        go_wp2_with fail
        go_quiet (fail)
        go_wp2_with fail
        go_roundw
        case rel => exact ⟨k + 1, by omega, by go_num, HN.out, hqw.then (Quiet.drewN _ _)⟩
        case measure => simp [intOf]; omega
      · obtain ⟨x, y, hxy⟩ := len_two (H2.out _ (List.getElem_mem hkl) (by simpa using hq))
        have HE : Hid (mrgB f.1 f.2.2[k] = ((x != y) && decide (f.1 ≤ max x y))) := by unfold Hid mrgB hiA mrgX mrgY; rw [hq, hxy]; rfl
        rw [hxy] at hu
        obtain ⟨ua, uc, hv, -, -, hcu⟩ := ints_ex hu
        obtain rfl : u = _ := by simpa using hv
        obtain ⟨b3, o3, rfl, hb3, hc3⟩ := hcu (by simp)
        have e0 := (hqw.below.cell hb3).trans (hc3 0 (by simp)).2
        have e1 := (hqw.below.cell hb3).trans (hc3 1 (by simp)).2
        simp only [Nat.add_zero, List.getElem_cons_zero, List.getElem_cons_succ] at e0 e1 r1
        clear hce hu g0 g1 hv hcu hc3 hxy
        cases hn : (x != y)
        · have HN : Hid (noneB (mrgB f.1) (f.2.2.take (k + 1))) := noneB_succ hkl HT.out (by rw [HE.out, hn]; rfl)
          go_wp2_with fail
          go_quiet (fail)
          go_wp2_with fail
          go_roundw
          case rel => exact ⟨k + 1, by omega, by go_num, HN.out, hqw.then (Quiet.drewN _ _)⟩
          case measure => simp [intOf]; omega
        · have cM : ∀ n, Calls Try.prog 129 #[.int .i64 x, .int .i64 y] (wr.drewN n) fun e w'' => e = .returned (.int .i64 (max x y)) ∧ ∃ m, w'' = wr.drewN m := fun n => pure_drawn (l00Max_any x y _)
          cases hg : decide (f.1 ≤ max x y)
          · have HN : Hid (noneB (mrgB f.1) (f.2.2.take (k + 1))) := noneB_succ hkl HT.out (by rw [HE.out, hn, hg]; rfl)
            generalize max x y = m at cM hg
            go_wp2_with fail
            go_quiet (exact cM _)
            go_wp2_with fail
            go_roundw
            case rel => exact ⟨k + 1, by omega, by go_num, HN.out, hqw.then (Quiet.drewN _ _)⟩
            case measure => simp [intOf]; omega
          · have HN : Hid (firstI (mrgB f.1) f.2.2 = k) := firstI_at hkl HT.out (by rw [HE.out, hn, hg]; rfl)
            generalize max x y = m at cM hg
            go_wp2_with fail
            go_quiet (exact cM _)
            go_wp2_with fail
            go_ret
            exact ⟨ret_int HN.out.symm, hqw.then (Quiet.drewN _ _)⟩
    · obtain rfl : k = f.2.2.length := by omega
      have HN : Hid (firstI (mrgB f.1) f.2.2 = -1) := firstI_none (by have := HT.out; rwa [List.take_length] at this)
      go_wp2_with fail
      go_ret
      exact ⟨ret_int HN.out.symm, hqw⟩
/-- values of a row that stands for atoms in older memory -/
def VRd (w : World) (VS : List (Int × Value)) (xs : Atoms) : Prop := VS.length = xs.length ∧ ∀ i (h : i < VS.length) (h' : i < xs.length), (VS[i]).1 = (xs[i]).1 ∧ I64 (VS[i]).1 ∧ intsT.Rd w [(VS[i]).2] (xs[i]).2
theorem VRd.nil {w : World} : VRd w [] [] := ⟨rfl, fun i h => by simp at h⟩
theorem VRd.snoc {w : World} {VS : List (Int × Value)} {xs : Atoms} {a : Int × List Int} {u : Value} (h : VRd w VS xs) (hI : I64 a.1) (hu : intsT.Rd w [u] a.2) : VRd w (VS ++ [(a.1, u)]) (xs ++ [a]) := by
  obtain ⟨h1, h2⟩ := h
  refine ⟨by simp [h1], fun i hi hi' => ?_⟩
  rcases Nat.lt_or_ge i VS.length with hc | hc
  · rw [List.getElem_append_left hc, List.getElem_append_left (by omega)]
    exact h2 i hc (by omega)
  · obtain rfl : i = VS.length := by simp at hi; omega
    have e1 : (VS ++ [(a.1, u)])[VS.length]'hi = (a.1, u) := by simp
    have e2 : (xs ++ [a])[VS.length]'hi' = a := by simp [h1]
    rw [e1, e2]
    exact ⟨rfl, hI, hu⟩
theorem VRd.ops {w w' : World} {VS : List (Int × Value)} {xs : Atoms} {v : Value} (h : VRd w VS xs) (hv : (Ty.slice pvT).Rd w' [v] VS) (hb : Below w.heap.size w w') : opsT.Rd w' [v] xs :=
  ops_of_vals hv h.1 (fun i hi hi' => let ⟨a, b, c⟩ := h.2 i hi hi'; ⟨a, b, c.below hb⟩)
theorem any_take {α : Type} {p : α → Bool} {xs : List α} {k : Nat} (h : k < xs.length) : anyB p (xs.take (k + 1)) = (anyB p (xs.take k) || p xs[k]) := by
  unfold anyB
  rw [List.take_succ_eq_append_getElem h, List.any_append]
  simp
theorem eqB_comm {α : Type} [DecidableEq α] (x y : α) : eqB x y = eqB y x := by unfold eqB; exact decide_eq_decide.2 ⟨fun h => h.symm, fun h => h.symm⟩
set_option maxHeartbeats 6400000 in
set_option maxRecDepth 100000 in
theorem l03Less_any (w : World) {v : Value} {xs : Atoms} (h : opsT.Rd w [v] xs) (h2 : eq2 xs) (hl : xs.length ≤ 1000000) :
    Calls Try.prog 131 #[v] w fun e w' => ∃ u, e = .returned u ∧ opsT.Rd w' [u] (lessL xs xs.length) ∧ Below w.heap.size w w' := by
  have HX := Lib.hid h
  obtain ⟨ad, cap, hv, -, -, hcell⟩ := pairs_ex h
  obtain rfl : v = _ := by simpa using hv
  have HC := Lib.hid hcell
  have H2 := Lib.hid h2
  clear h hv hcell h2
  go_enter Try.func131, Try.ntmps131
  go_wp2_with fail
  generalize hW : World.alloc w _ = W
  have hbW : Below w.heap.size w W := hW ▸ bA
  have HB0 : Hid (Bl pvT 105 w.heap.size W.heap.size W (.slice (some ⟨w.heap.size, 0, none⟩) 0 0) []) := by
    unfold Hid
    rw [← hW]
    simpa using Bl.lit0 (E := pvT) (e := 105) (base := w.heap.size) (w := w) (Nat.le_refl _)
  clear hW
  go_loopw [4, 3] (fun i o wr => ∃ (j : Nat) (VS : List (Int × Value)), j ≤ xs.length ∧ i = .int .i64 j ∧ Bl pvT 105 w.heap.size wr.heap.size wr o VS ∧ VRd w VS (lessL xs j) ∧ Below w.heap.size w wr) (fun i _ _ => xs.length - (intOf i).toNat)
  case atStart => exact ⟨0, [], Nat.zero_le _, rfl, HB0.out, by rw [less_zero]; exact VRd.nil, hbW⟩
  case round =>
    obtain ⟨j, VS, hj, rfl, hBl, hVR, hbe⟩ := hrel
    have HB := Lib.hid hBl
    have HV := Lib.hid hVR
    have hse := hbe.size
    have hll := (less_mem (l := xs) j hj).2
    have hvl : VS.length ≤ xs.length := by rw [hVR.1]; omega
    have HVL := Lib.hid hVR.1
    have hfr := hBl.fr (by unfold capMax; omega)
    have HRD := Lib.hid (hVR.ops hfr.rd hbe)
    obtain ⟨oa, oc, rfl⟩ := rd_slice HRD.out
    clear hBl HB0 hbW hVR hfr
    by_cases hjl : j < xs.length
    · obtain ⟨q, p, rfl, hqb, hce⟩ := HC.out (by omega)
      obtain ⟨u, hu, hIj, g0, g1⟩ := hce j hjl
      have HU := Lib.hid hu
      have HIJ := Lib.hid hIj
      have r0 := (hbe.cell hqb).trans g0
      have r1 := (hbe.cell hqb).trans g1
      have HLS := Lib.hid (less_succ hjl)
      have HPA : Hid (opT.Pt wr (.pointer (some ⟨q, p + j * 2, none⟩)) xs[j]) := pt_elem (E := opT) (HX.out.below hbe) hjl
      have hqr : q < wr.heap.size := by omega
      obtain ⟨dr, hdr⟩ : ∃ dr, ((((xs[j]).1 == -1) && (mrgX xs[j] == mrgY xs[j]))) = dr := ⟨_, rfl⟩
      have HDR : Hid (dropB (lessL xs j) xs[j] = (dr || anyB (fun b => eqB xs[j] b) (lessL xs j))) := by unfold Hid dropB; rw [hdr]
      go_wp2_with fail
      go_cut [6] from 18 to 37 (fun d wx => d = .bool dr ∧ Quiet wr wx)
      case rest =>
        obtain ⟨rfl, hqx⟩ := hcut
        have hbx := hqx.below
        have HPX := Lib.hid (HPA.out.below hbx)
        have HRX := Lib.hid (HRD.out.below hbx)
        have hzx := hbx.size
        obtain ⟨wv, rfl⟩ : ∃ wv : World, wv = wr := ⟨_, rfl⟩
        obtain ⟨ua, un, uc, rfl⟩ := rd_sl hu
        replace r0 := (cellB hbx (by omega)).trans r0
        replace r1 := (cellB hbx (by omega)).trans r1
        clear hdr HPA
        go_wp2_with fail
        obtain ⟨wo, rfl⟩ : ∃ wo : World, wo = wc := ⟨_, rfl⟩
        go_loopw [7, 6] (fun i d wi => ∃ m : Nat, m ≤ (lessL xs j).length ∧ i = .int .i64 m ∧ d = .bool (dr || anyB (fun b => eqB xs[j] b) ((lessL xs j).take m)) ∧ Quiet wo wi) (fun i _ _ => (lessL xs j).length - (intOf i).toNat)
        case atStart => exact ⟨0, Nat.zero_le _, rfl, by simp [anyB], Quiet.refl _⟩
        case round =>
          obtain ⟨m, hm, rfl, rfl, hqi⟩ := hrel
          have hbi := hqi.below
          have hzi := hbi.size
          by_cases hml : m < (lessL xs j).length
          · obtain ⟨_, _, e1, -, -, hco⟩ := pairs_ex HRX.out
            simp only [List.cons.injEq, Value.slice.injEq, and_true, true_and] at e1
            obtain ⟨rfl, rfl⟩ := e1
            obtain ⟨b3, o3, rfl, hb3, -⟩ := hco (by omega)
            have HPM : Hid (opT.Pt wr (.pointer (some ⟨b3, o3 + m * 2, none⟩)) (lessL xs j)[m]) := pt_elem (E := opT) (HRX.out.below hbi) hml
            have HPB := Lib.hid (HPX.out.below hbi)
            have HAT := Lib.hid (any_take (p := fun b => eqB xs[j] b) hml)
            clear hco
            cases hD : (dr || anyB (fun b => eqB xs[j] b) ((lessL xs j).take m))
            · have HD := Lib.hid hD
              have HNX : Hid (eqB (lessL xs j)[m] xs[j] = (dr || anyB (fun b => eqB xs[j] b) ((lessL xs j).take (m + 1)))) := by
                unfold Hid
                rw [HAT.out, ← Bool.or_assoc, HD.out, Bool.false_or, eqB_comm]
              clear hD
              go_wp2_with fail
              refine (l03SameAtom_quiet _ HPM.out HPB.out).mono ?_
              rintro e w2 ⟨rfl, hq2⟩
              go_wp2_with fail
              go_roundw
              case rel => exact ⟨m + 1, by omega, by go_num, by rw [HNX.out], hqi.then hq2⟩
              case measure => simp [intOf]; omega
            · have HNX : Hid (true = (dr || anyB (fun b => eqB xs[j] b) ((lessL xs j).take (m + 1)))) := by
                unfold Hid
                rw [HAT.out, ← Bool.or_assoc, hD]
                rfl
              clear hD
              go_wp2_with fail
              go_roundw
              case rel => exact ⟨m + 1, by omega, by go_num, by rw [← HNX.out], hqi⟩
              case measure => simp [intOf]; omega
          · obtain rfl : m = (lessL xs j).length := by omega
            rw [List.take_length, ← HDR.out]
            have hbw := bthen hbe (bthen hbx hbi)
            cases hD : dropB (lessL xs j) xs[j]
            · have HNX : Hid (lessL xs (j + 1) = lessL xs j ++ [xs[j]]) := by unfold Hid; rw [HLS.out, less_no hD]
              have HBi : Hid (Bl pvT 105 w.heap.size wv.heap.size wr _ VS) := HB.out.below (bthen hbx hbi) (Nat.le_refl _)
              replace r0 := (cellB hbi (by omega)).trans r0
              replace r1 := (cellB hbi (by omega)).trans r1
              clear hD
              go_wp2_with (refine wpList_push (E := pvT) _ rfl _ _ 30 105 rfl elAtomS rfl (HBi.out.below (bA.mono (by omega)) (Nat.le_refl _)) rfl news2 (fr_pv (x := .slice ua un uc) HIJ.out rfl) (by omega) (by decide) (by omega) (by first | (simp; done) | (simp; omega)) ?_; intro v5 w5 hB5 hg5 _; have hb5 : Below w.heap.size wr w5 := ((Below.refl _ wr).alloc (by omega) _).grown hg5 (by first | (simp; done) | (simp; omega)) (fun q hq => HBi.out.own hq))
              have HB5 := Lib.hid hB5
              clear hB5 hg5
              go_wp2_with fail
              go_roundw
              case rel => exact ⟨j + 1, _, by omega, by go_num, HB5.out, by rw [HNX.out]; exact HV.out.snoc HIJ.out HU.out, hbw.trans hb5⟩
              case measure => simp [intOf]; omega
            · have HNX : Hid (lessL xs (j + 1) = lessL xs j) := by unfold Hid; rw [HLS.out, less_yes hD]
              clear hD
              go_wp2_with fail
              go_roundw
              case rel => exact ⟨j + 1, VS, by omega, by go_num, (HB.out.below (bthen hbx hbi) (Nat.le_refl _)).mono (by omega), by rw [HNX.out]; exact HV.out, hbw⟩
              case measure => simp [intOf]; omega
      cases hq : ((xs[j]).1 == -1)
      · have HE : Hid (dr = false) := by unfold Hid; rw [← hdr, hq]; rfl
        go_quiet (fail)
        go_wp2_with fail
        go_meet
        case rel => exact ⟨by rw [HE.out], Quiet.drewN _ _⟩
      · obtain ⟨x, y, hxy⟩ := len_two (H2.out _ (List.getElem_mem hjl) (by simpa using hq))
        have HE : Hid ((x == y) = dr) := by unfold Hid; rw [← hdr, hq]; unfold mrgX mrgY; rw [hxy]; rfl
        rw [hxy] at hu
        obtain ⟨ua, uc, hv, -, -, hcu⟩ := ints_ex hu
        obtain rfl : u = _ := by simpa using hv
        obtain ⟨b3, o3, rfl, hb3, hc3⟩ := hcu (by simp)
        have e0 := (hbe.cell hb3).trans (hc3 0 (by simp)).2
        have e1 := (hbe.cell hb3).trans (hc3 1 (by simp)).2
        simp only [Nat.add_zero, List.getElem_cons_zero, List.getElem_cons_succ] at e0 e1 r1
        clear hu g0 g1 hv hcu hc3 hce hdr
        go_quiet (fail)
        go_wp2_with fail
        go_meet
        case rel => exact ⟨by rw [HE.out], Quiet.drewN _ _⟩
    · obtain rfl : j = xs.length := by omega
      go_wp2_with fail
      go_ret
      exact ⟨_, rfl, HRD.out, hbe⟩
end Go.Proofs.Ytepebfpgmnidnaa
