/-
  Contracts: hiding a variable of a formula: the reference's.
-/
import Derived.Test.YtadncmlfkoolkaaK13
namespace Go.Proofs.Ytadncmlfkoolkaa
open Go.RowKit Go.Sort
/-- variables renamed by a function -/
def rnL (g : Int → Int) (xs : List (Int × List Int)) : List (Int × List Int) := xs.map fun a => (a.1, a.2.map g)
def toL (g : Int → Int) (n : Nat) : List Int := (List.range n).map fun i : Nat => g (i : Int)
theorem toL_len {g : Int → Int} {n : Nat} : (toL g n).length = n := by simp [toL]
theorem toL_succ (g : Int → Int) (n : Nat) : toL g n ++ [g (n : Int)] = toL g (n + 1) := by simp [toL, List.range_succ]
theorem atL_toL {g : Int → Int} {n : Nat} {ps : List Int} (h : ∀ p ∈ ps, 0 ≤ p ∧ p < (n : Int)) : atL (toL g n) ps = ps.map g := by
  unfold atL
  apply List.map_congr_left
  intro p hp
  obtain ⟨h1, h2⟩ := h p hp
  have h3 : p.toNat < n := by omega
  rw [List.getD_eq_getElem?_getD, List.getElem?_eq_getElem (by rw [toL_len]; exact h3)]
  simp only [toL, List.getElem_map, List.getElem_range, Option.getD_some]
  congr 1
  omega
theorem movedL_toL {g : Int → Int} {n : Nat} {xs : List (Int × List Int)} (h : ∀ a ∈ xs, ∀ p ∈ a.2, 0 ≤ p ∧ p < (n : Int)) : movedL (toL g n) xs = rnL g xs := by
  unfold movedL rnL
  apply List.map_congr_left
  intro a ha
  rw [atL_toL (h a ha)]
theorem rnL_cnt {g : Int → Int} (xs : List (Int × List Int)) : cntOps (rnL g xs) = cntOps xs := by
  induction xs with
  | nil => rfl
  | cons a r ih =>
    have h1 : cntOps (rnL g (a :: r)) = cntOp1 (a.1, a.2.map g) + cntOps (rnL g r) := rfl
    have h2 : cntOps (a :: r) = cntOp1 a + cntOps r := rfl
    rw [h1, h2, ih]
    simp [cntOp1, cntI]
def hideTo (vars var v : Int) : Int := match decide (v = var), decide (var < v) with
  | true, _ => vars - 1
  | false, true => v - 1
  | false, false => v
theorem hideTo_eq {vars var v : Int} (h : v = var) : hideTo vars var v = vars - 1 := by simp [hideTo, h]
theorem hideTo_gt {vars var v : Int} (h : var < v) : hideTo vars var v = v - 1 := by
  have : ¬ v = var := by omega
  simp [hideTo, h, this]
theorem hideTo_lt {vars var v : Int} (h : v < var) : hideTo vars var v = v := by
  have h1 : ¬ v = var := by omega
  have h2 : ¬ var < v := by omega
  simp [hideTo, h1, h2]
theorem hideTo_I {vars var v : Int} (h : 0 ≤ v ∧ v ≤ 1000) (h2 : 0 ≤ vars ∧ vars ≤ 1000) : I64 (hideTo vars var v) := by
  rcases Int.lt_trichotomy v var with h3 | h3 | h3
  · rw [hideTo_lt h3]; exact I64.small (by omega) (by omega)
  · rw [hideTo_eq h3]; exact I64.small (by omega) (by omega)
  · rw [hideTo_gt h3]; exact I64.small (by omega) (by omega)
section
variable (t : Int × List (Int × List (List Int))) (f : Int × Int × List (Int × List Int)) (v : Int)
noncomputable def hideC : Int := match tb (frmOk t f), inB v 0 (f.1 - 1), (f.1 == 1) with
  | false, _, _ => 1
  | true, false, _ => 2
  | true, true, true => 4
  | true, true, false => 0
noncomputable def hideV : Int × Int × List (Int × List Int) := match tb (frmOk t f), inB v 0 (f.1 - 1), (f.1 == 1) with
  | true, true, false => (f.1 - 1, f.2.1, rnL (hideTo f.2.1 v) f.2.2)
  | _, _, _ => frm0
end
section
variable {t : Int × List (Int × List (List Int))} {f : Int × Int × List (Int × List Int)} {v : Int}
theorem hide_1 (h : tb (frmOk t f) = false) : hideV t f v = frm0 ∧ hideC t f v = 1 := by simp [hideV, hideC, h]
theorem hide_2 (h : tb (frmOk t f) = true) (h2 : inB v 0 (f.1 - 1) = false) : hideV t f v = frm0 ∧ hideC t f v = 2 := by simp [hideV, hideC, h, h2]
theorem hide_4 (h : tb (frmOk t f) = true) (h2 : inB v 0 (f.1 - 1) = true) (h3 : (f.1 == 1) = true) : hideV t f v = frm0 ∧ hideC t f v = 4 := by simp [hideV, hideC, h, h2, h3]
theorem hide_0 (h : tb (frmOk t f) = true) (h2 : inB v 0 (f.1 - 1) = true) (h3 : (f.1 == 1) = false) : hideV t f v = (f.1 - 1, f.2.1, rnL (hideTo f.2.1 v) f.2.2) ∧ hideC t f v = 0 := by simp [hideV, hideC, h, h2, h3]
theorem arOf_le (h : tplOk t) (rel : Int) : 0 ≤ arOf t rel ∧ arOf t rel ≤ 4 := by
  by_cases h1 : rel = -1
  · subst h1; rw [arOf_eq]; omega
  · cases h2 : inB rel 0 ((t.2.length : Int) - 1)
    · rw [arOf_no h1 h2]; omega
    · exact arOf_bd h h2
theorem frm_bd (h : tb (frmOk t f) = true) : 1 ≤ f.1 ∧ f.1 ≤ f.2.1 ∧ f.2.1 ≤ 8 ∧ f.2.2.length ≤ 16 ∧ ∀ a ∈ f.2.2, (∀ p ∈ a.2, 0 ≤ p ∧ p < f.2.1) ∧ a.2.length ≤ 4 := by
  have h := tb_iff.1 h
  obtain ⟨h1, ⟨h2, h3, h4⟩, h5⟩ := h
  refine ⟨by omega, by omega, by omega, h4, fun a ha => ?_⟩
  obtain ⟨_, h6, h7⟩ := h5 a ha
  have h8 := arOf_le h1 a.1
  refine ⟨fun p hp => ?_, by omega⟩
  have := h7 p hp
  omega
theorem cntOps_bd : ∀ {xs : List (Int × List Int)}, (∀ a ∈ xs, a.2.length ≤ 4) → cntOps xs ≤ 5 * xs.length
  | [], _ => by simp [cntOps, sumL]
  | a :: r, h => by
    have h1 := h a (List.mem_cons_self ..)
    have h2 := cntOps_bd (xs := r) fun b hb => h b (List.mem_cons_of_mem _ hb)
    have h3 : cntOps (a :: r) = cntOp1 a + cntOps r := rfl
    rw [h3, List.length_cons]
    simp only [cntOp1, cntI]
    omega
theorem hide_cnt : cntFrm (hideV t f v) ≤ 1000000 := by
  cases h1 : tb (frmOk t f)
  · rw [(hide_1 h1).1]; simp [frm0, cntFrm, cntOps, sumL]
  cases h2 : inB v 0 (f.1 - 1)
  · rw [(hide_2 h1 h2).1]; simp [frm0, cntFrm, cntOps, sumL]
  cases h3 : (f.1 == 1)
  · rw [(hide_0 h1 h2 h3).1]
    obtain ⟨_, _, _, h4, h5⟩ := frm_bd h1
    have := cntOps_bd (xs := f.2.2) fun a ha => (h5 a ha).2
    simp only [cntFrm, rnL_cnt]
    omega
  · rw [(hide_4 h1 h2 h3).1]; simp [frm0, cntFrm, cntOps, sumL]
end
theorem wrap_small {n : Int} (h0 : -1000000000000000000 ≤ n) (h1 : n ≤ 1000000000000000000) : IntKind.i64.wrap n = n := by
  simp [IntKind.wrap, IntKind.signed, IntKind.bits]
  omega
set_option maxHeartbeats 3200000 in
set_option maxRecDepth 100000 in
theorem specHideVariable_any (w : World) {cs cs' : Array Value} {t : Int × List (Int × List (List Int))} {x : Int × Int × List (Int × List Int)} (h : tplT.Rd w cs.toList t) (h' : frmT.Rd w cs'.toList x) {n : Int} :
    Calls Try.prog 49 #[.agg cs, .agg cs', .int .i64 n] w (RetAC frmT w (hideV t x n) (hideC t x n)) := by
  have p0 : tplT.Pt ((w.alloc (.cells cs 33)).alloc (.cells cs' 28)) (.pointer (some ⟨w.heap.size, 0, none⟩)) t := (pt_box h).below bA
  have p1 : frmT.Pt ((w.alloc (.cells cs 33)).alloc (.cells cs' 28)) (.pointer (some ⟨w.heap.size + 1, 0, none⟩)) x := by
    simpa using pt_box (T := 28) (h'.below (bA (o := .cells cs 33)))
  obtain ⟨u, hv, hI, -⟩ := pair_ex h
  obtain rfl := agg_of hv
  obtain ⟨u', hv', hI', hI2, hxx⟩ := trip_ex h'
  obtain rfl := agg_of hv'
  obtain ⟨ax, cx, rfl⟩ := rd_slice hxx
  clear h hv h' hv'
  cases hT : tb (frmOk t x)
  · have HR := Lib.hid (hide_1 (v := n) hT)
    go_enter Try.func49, Try.ntmps49
    go_wp2_with fail
    refine (l03Ok_quiet _ (p0.below (by repeat (first | exact Below.refl _ _ | exact bA | assumption | refine Below.setCell ?_ (by first | omega | (simp; try omega)) _ | refine Below.alloc ?_ (by first | omega | (simp; try omega)) _ | refine Below.drew ?_ | refine bDN ?_ | refine bthen ?_ (by assumption)))) (p1.below (by repeat (first | exact Below.refl _ _ | exact bA | assumption | refine Below.setCell ?_ (by first | omega | (simp; try omega)) _ | refine Below.alloc ?_ (by first | omega | (simp; try omega)) _ | refine Below.drew ?_ | refine bDN ?_ | refine bthen ?_ (by assumption))))).mono ?_
    rintro e w1 ⟨rfl, hqq⟩
    have hb1 := hqq.below
    rw [hT]
    obtain ⟨q1, q2⟩ := bcell hb1
    have hz1 : w.heap.size + 3 ≤ w1.heap.size := by have := hb1.size; simp at this; omega
    go_wp2_with fail
    refine bodyPost_ret (v := .tuple #[.agg #[.int .i64 0, .int .i64 0, .slice none 0 0], .int .i64 1]) (by simp [results, Try.results49, go_sem, q1]) rfl ⟨[.int .i64 0, .int .i64 0, .slice none 0 0], by rw [HR.out.2], by rw [HR.out.1]; exact fr_frm0, (by repeat (first | exact Below.refl _ _ | exact bA | assumption | refine Below.setCell ?_ (by first | omega | (simp; try omega)) _ | refine Below.alloc ?_ (by first | omega | (simp; try omega)) _ | refine Below.drew ?_ | refine bDN ?_ | refine bthen ?_ (by assumption)))⟩
  obtain ⟨k1, k2, k3, k4, k5⟩ := frm_bd hT
  cases hA : inB n 0 (x.1 - 1)
  · have HR := Lib.hid (hide_2 hT hA)
    go_enter Try.func49, Try.ntmps49
    go_wp2_with fail
    refine (l03Ok_quiet _ (p0.below (by repeat (first | exact Below.refl _ _ | exact bA | assumption | refine Below.setCell ?_ (by first | omega | (simp; try omega)) _ | refine Below.alloc ?_ (by first | omega | (simp; try omega)) _ | refine Below.drew ?_ | refine bDN ?_ | refine bthen ?_ (by assumption)))) (p1.below (by repeat (first | exact Below.refl _ _ | exact bA | assumption | refine Below.setCell ?_ (by first | omega | (simp; try omega)) _ | refine Below.alloc ?_ (by first | omega | (simp; try omega)) _ | refine Below.drew ?_ | refine bDN ?_ | refine bthen ?_ (by assumption))))).mono ?_
    rintro e w1 ⟨rfl, hqq⟩
    have hb1 := hqq.below
    rw [hT]
    obtain ⟨q1, q2⟩ := bcell hb1
    have hz1 : w.heap.size + 3 ≤ w1.heap.size := by have := hb1.size; simp at this; omega
    go_wp2_with fail
    refine (l00In_any _ _ _ _).mono ?_
    rintro e _ ⟨rfl, rfl⟩
    rw [hA]
    go_wp2_with fail
    refine bodyPost_ret (v := .tuple #[.agg #[.int .i64 0, .int .i64 0, .slice none 0 0], .int .i64 2]) (by simp [results, Try.results49, go_sem, q1]) rfl ⟨[.int .i64 0, .int .i64 0, .slice none 0 0], by rw [HR.out.2], by rw [HR.out.1]; exact fr_frm0, (by repeat (first | exact Below.refl _ _ | exact bA | assumption | refine Below.setCell ?_ (by first | omega | (simp; try omega)) _ | refine Below.alloc ?_ (by first | omega | (simp; try omega)) _ | refine Below.drew ?_ | refine bDN ?_ | refine bthen ?_ (by assumption)))⟩
  cases hO : (x.1 == 1)
  rotate_left
  · have HR := Lib.hid (hide_4 hT hA hO)
    have HO := Lib.hid hO
    clear hO
    go_enter Try.func49, Try.ntmps49
    go_wp2_with fail
    refine (l03Ok_quiet _ (p0.below (by repeat (first | exact Below.refl _ _ | exact bA | assumption | refine Below.setCell ?_ (by first | omega | (simp; try omega)) _ | refine Below.alloc ?_ (by first | omega | (simp; try omega)) _ | refine Below.drew ?_ | refine bDN ?_ | refine bthen ?_ (by assumption)))) (p1.below (by repeat (first | exact Below.refl _ _ | exact bA | assumption | refine Below.setCell ?_ (by first | omega | (simp; try omega)) _ | refine Below.alloc ?_ (by first | omega | (simp; try omega)) _ | refine Below.drew ?_ | refine bDN ?_ | refine bthen ?_ (by assumption))))).mono ?_
    rintro e w1 ⟨rfl, hqq⟩
    have hb1 := hqq.below
    rw [hT]
    obtain ⟨q1, q2⟩ := bcell hb1
    have hz1 : w.heap.size + 3 ≤ w1.heap.size := by have := hb1.size; simp at this; omega
    go_wp2_with fail
    refine (l00In_any _ _ _ _).mono ?_
    rintro e _ ⟨rfl, rfl⟩
    rw [hA]
    have hO' : x.1 = 1 := by simpa using HO.out
    go_wp2_with fail
    refine bodyPost_ret (v := .tuple #[.agg #[.int .i64 0, .int .i64 0, .slice none 0 0], .int .i64 4]) (by simp [results, Try.results49, go_sem, q1]) rfl ⟨[.int .i64 0, .int .i64 0, .slice none 0 0], by rw [HR.out.2], by rw [HR.out.1]; exact fr_frm0, (by repeat (first | exact Below.refl _ _ | exact bA | assumption | refine Below.setCell ?_ (by first | omega | (simp; try omega)) _ | refine Below.alloc ?_ (by first | omega | (simp; try omega)) _ | refine Below.drew ?_ | refine bDN ?_ | refine bthen ?_ (by assumption)))⟩
  have HR := Lib.hid (hide_0 hT hA hO)
  have hO' : ¬ x.1 = 1 := by simpa using hO
  have hA2 := inB_true.1 hA
  have HM := Lib.hid (movedL_toL (g := hideTo x.2.1 n) (n := x.2.1.toNat) (xs := x.2.2) fun a ha p hp => by have := (k5 a ha).1 p hp; omega)
  have K5 := Lib.hid k5
  clear k5
  go_enter Try.func49, Try.ntmps49
  go_wp2_with fail
  refine (l03Ok_quiet _ (p0.below (by repeat (first | exact Below.refl _ _ | exact bA | assumption | refine Below.setCell ?_ (by first | omega | (simp; try omega)) _ | refine Below.alloc ?_ (by first | omega | (simp; try omega)) _ | refine Below.drew ?_ | refine bDN ?_ | refine bthen ?_ (by assumption)))) (p1.below (by repeat (first | exact Below.refl _ _ | exact bA | assumption | refine Below.setCell ?_ (by first | omega | (simp; try omega)) _ | refine Below.alloc ?_ (by first | omega | (simp; try omega)) _ | refine Below.drew ?_ | refine bDN ?_ | refine bthen ?_ (by assumption))))).mono ?_
  rintro e w1 ⟨rfl, hqq⟩
  have hb1 := hqq.below
  rw [hT]
  obtain ⟨q1, q2⟩ := bcell hb1
  have hz1 : w.heap.size + 3 ≤ w1.heap.size := by have := hb1.size; simp at this; omega
  have hB1 : Below w.heap.size w w1 := bthen (by repeat (first | exact Below.refl _ _ | exact bA | assumption | refine Below.setCell ?_ (by first | omega | (simp; try omega)) _ | refine Below.alloc ?_ (by first | omega | (simp; try omega)) _ | refine Below.drew ?_ | refine bDN ?_ | refine bthen ?_ (by assumption))) hb1
  have c0 : w1.cell? ⟨w.heap.size + 1, 0, none⟩ = some (.int .i64 x.1) := (hb1.cell (by simp [go_sem]; try omega)).trans (by simp [go_sem])
  have c1 : w1.cell? ⟨w.heap.size + 1, 1, none⟩ = some (.int .i64 x.2.1) := (hb1.cell (by simp [go_sem]; try omega)).trans (by simp [go_sem])
  have c2 : w1.cell? ⟨w.heap.size + 1, 2, none⟩ = some (.slice ax x.2.2.length cx) := (hb1.cell (by simp [go_sem]; try omega)).trans (by simp [go_sem])
  have r0 : w1.cell? ⟨w.heap.size + 2, 0, none⟩ = some (.int .i64 0) := (hb1.cell (by simp [go_sem])).trans (by simp [go_sem])
  have r1 : w1.cell? ⟨w.heap.size + 2, 1, none⟩ = some (.int .i64 0) := (hb1.cell (by simp [go_sem])).trans (by simp [go_sem])
  have r2 : w1.cell? ⟨w.heap.size + 2, 2, none⟩ = some (.slice none 0 0) := (hb1.cell (by simp [go_sem])).trans (by simp [go_sem])
  have m0 : w1.frozen? ⟨w.heap.size + 2, 0, none⟩ = false := (hb1.frozen (by simp [go_sem])).trans (by simp [go_sem])
  have m1 : w1.frozen? ⟨w.heap.size + 2, 1, none⟩ = false := (hb1.frozen (by simp [go_sem])).trans (by simp [go_sem])
  have m2 : w1.frozen? ⟨w.heap.size + 2, 2, none⟩ = false := (hb1.frozen (by simp [go_sem])).trans (by simp [go_sem])
  have hx1 : opsT.Rd w1 [.slice ax x.2.2.length cx] x.2.2 := hxx.below hB1
  clear hb1 hqq q1 q2 p0 p1 hxx
  go_wp2_with fail
  refine (l00In_any _ _ _ _).mono ?_
  rintro e _ ⟨rfl, rfl⟩
  rw [hA]
  go_wp2_with fail
  go_loopw [9, 8] (fun i o wr => ∃ k : Nat, k ≤ x.2.1.toNat ∧ i = .int .i64 k ∧ Bl Ty.int 2 w1.heap.size wr.heap.size wr o (toL (hideTo x.2.1 n) k) ∧ Below w1.heap.size w1 wr) (fun i _ _ => x.2.1.toNat - (intOf i).toNat)
  case atStart => exact ⟨0, Nat.zero_le _, rfl, by simpa [toL] using Bl.lit0 (E := Ty.int) (e := 2) (w := w1) (Nat.le_refl _), bA⟩
  case round =>
    obtain ⟨k, hk, rfl, hBl, hbel⟩ := hrel
    have HB := Lib.hid hBl
    clear hBl
    have hsz := hbel.size
    have d0 := (hbel.cell (show w.heap.size + 1 < w1.heap.size by omega)).trans c0
    have d1 := (hbel.cell (show w.heap.size + 1 < w1.heap.size by omega)).trans c1
    have d2 := (hbel.cell (show w.heap.size + 1 < w1.heap.size by omega)).trans c2
    by_cases hkl : (k : Int) < x.2.1
    · have HI : I64 (hideTo x.2.1 n k) := hideTo_I (by omega) (by omega)
      have HRT := Lib.hid (toL_succ (hideTo x.2.1 n) k)
      have hgo : True := trivial
      rcases Int.lt_trichotomy (k : Int) n with hc | hc | hc
      · have e := hideTo_lt (vars := x.2.1) hc
        rw [e] at HI HRT
        have HE := Lib.hid e
        clear e
        go_wp2_with (refine wpList_push (E := Ty.int) _ rfl _ _ 40 2 rfl elInt rfl (HB.out.below bA (Nat.le_refl _)) rfl news1 (fr_int HI) (by rw [toL_len]; omega) (by decide) hbel.size (by simp) ?_; intro v1 w2 hB1 hg1 _)
        have hbel1 : Below w1.heap.size w1 w2 := (hbel.alloc hbel.size _).grown hg1 (by simp; omega) (fun k hk => HB.out.own hk)
        rw [HRT.out] at hB1
        have HB1 := Lib.hid hB1
        clear hB1
        go_wp2_with fail
        go_roundw
        case rel => exact ⟨k + 1, by omega, by go_num, HB1.out, hbel1⟩
        case measure => simp [intOf]; omega
      · have e := hideTo_eq (vars := x.2.1) hc
        rw [e] at HI HRT
        have HE := Lib.hid e
        clear e
        go_wp2_with (refine wpList_push (E := Ty.int) _ rfl _ _ 40 2 rfl elInt rfl (HB.out.below bA (Nat.le_refl _)) rfl news1 (fr_int HI) (by rw [toL_len]; omega) (by decide) hbel.size (by simp) ?_; intro v1 w2 hB1 hg1 _)
        have hbel1 : Below w1.heap.size w1 w2 := (hbel.alloc hbel.size _).grown hg1 (by simp; omega) (fun k hk => HB.out.own hk)
        rw [HRT.out] at hB1
        have HB1 := Lib.hid hB1
        clear hB1
        go_wp2_with fail
        go_roundw
        case rel => exact ⟨k + 1, by omega, by go_num, HB1.out, hbel1⟩
        case measure => simp [intOf]; omega
      · have e := hideTo_gt (vars := x.2.1) hc
        rw [e] at HI HRT
        have HE := Lib.hid e
        clear e
        go_wp2_with (refine wpList_push (E := Ty.int) _ rfl _ _ 40 2 rfl elInt rfl (HB.out.below bA (Nat.le_refl _)) rfl news1 (fr_int HI) (by rw [toL_len]; omega) (by decide) hbel.size (by simp) ?_; intro v1 w2 hB1 hg1 _)
        have hbel1 : Below w1.heap.size w1 w2 := (hbel.alloc hbel.size _).grown hg1 (by simp; omega) (fun k hk => HB.out.own hk)
        rw [HRT.out] at hB1
        have HB1 := Lib.hid hB1
        clear hB1
        go_wp2_with fail
        go_roundw
        case rel => exact ⟨k + 1, by omega, by go_num, HB1.out, hbel1⟩
        case measure => simp [intOf]; omega
    · obtain rfl : k = x.2.1.toNat := by omega
      have hft := HB.out.fr (by rw [toL_len]; unfold capMax; omega)
      obtain ⟨at0, ct0, rfl⟩ := fr_slice hft
      have HIN := Lib.hid (show ∀ a ∈ x.2.2, (∀ p ∈ a.2, 0 ≤ p ∧ p < (((toL (hideTo x.2.1 n) x.2.1.toNat).length : Nat) : Int)) ∧ a.2.length ≤ 1000000 from fun a ha => ⟨fun p hp => by have := (K5.out a ha).1 p hp; rw [toL_len]; omega, by have := (K5.out a ha).2; omega⟩)
      have hlen : x.2.2.length ≤ 1000000 := by omega
      have HT := Lib.hid hft.rd
      have HX := Lib.hid (hx1.below hbel)
      have hlt2 : w.heap.size + 2 < w1.heap.size := by omega
      have hlt2' : w.heap.size + 2 < wr.heap.size := by omega
      have hlt1' : w.heap.size + 1 < wr.heap.size := by omega
      have R0 := (hbel.cell hlt2).trans r0
      have R1 := (hbel.cell hlt2).trans r1
      have R2 := (hbel.cell hlt2).trans r2
      have M0 := (hbel.frozen hlt2).trans m0
      have M1 := (hbel.frozen hlt2).trans m1
      have M2 := (hbel.frozen hlt2).trans m2
      have hB2 : Below w.heap.size w wr := bthen hB1 hbel
      clear hft r0 r1 r2 m0 m1 m2 c0 c1 c2 HB hx1
      go_wp2_with fail
      go_region_held_law (fun w' => w'.cell? ⟨w.heap.size + 1, 0, none⟩ = some (.int .i64 x.1) ∧ w'.cell? ⟨w.heap.size + 1, 1, none⟩ = some (.int .i64 x.2.1) ∧ w'.cell? ⟨w.heap.size + 1, 2, none⟩ = some (.slice ax x.2.2.length cx)) (first | exact ⟨d0, d1, d2⟩ | exact ⟨e0, e1, e2⟩ | go_keep)
        (first
          | (go_simp; go_at_call 95; refine (l03Moved_any _ (HX.out.below bD) (HT.out.below bD) HIN.out hlen).mono ?_; rintro e w2 ⟨u2, rfl, hf, hb2⟩; obtain ⟨ad2, cap2, rfl⟩ := fr_slice hf; have hbn : Below wr.heap.size wr w2 := bthen bD hb2; have e0 := (hbn.cell hlt1').trans d0; have e1 := (hbn.cell hlt1').trans d1; have e2 := (hbn.cell hlt1').trans d2; have s0 := (hbn.cell hlt2').trans R0; have s1 := (hbn.cell hlt2').trans R1; have s2 := (hbn.cell hlt2').trans R2; have t0 := (hbn.frozen hlt2').trans M0; have t1 := (hbn.frozen hlt2').trans M1; have t2 := (hbn.frozen hlt2').trans M2; have HF := Lib.hid hf; clear hf; dsimp only))
      have hwr : IntKind.i64.wrap (x.1 - 1) = x.1 - 1 := wrap_small (by omega) (by omega)
      rw [hwr]
      go_wp2_with fail
      obtain ⟨g0, g1, g2⟩ := set3_cells (x := .int .i64 (x.1 - 1)) (y := .int .i64 x.2.1) (z := .slice ad2 (movedL (toL (hideTo x.2.1 n) x.2.1.toNat) x.2.2).length cap2) (show w2.cell? ⟨w.heap.size + 1 + 1, 0, none⟩ = _ from s0) (show w2.cell? ⟨w.heap.size + 1 + 1, 1, none⟩ = _ from s1) (show w2.cell? ⟨w.heap.size + 1 + 1, 2, none⟩ = _ from s2)
      have hz2 := hbn.size
      refine bodyPost_ret (v := .tuple #[.agg #[.int .i64 (x.1 - 1), .int .i64 x.2.1, .slice ad2 (movedL (toL (hideTo x.2.1 n) x.2.1.toNat) x.2.2).length cap2], .int .i64 0]) (by simp [results, Try.results49, go_sem, g0, g1, g2]) rfl ⟨[.int .i64 (x.1 - 1), .int .i64 x.2.1, .slice ad2 (movedL (toL (hideTo x.2.1 n) x.2.1.toNat) x.2.2).length cap2], by rw [HR.out.2], ?_, ?_⟩
      · rw [HR.out.1, ← HM.out]
        exact (fr_cons (I64.small (by omega) (by omega)) (fr_cons hI2 (HF.out.set3 (by simp; omega)))).mono (by simp; omega)
      · exact set3_below (bthen hB2 hbn) (by omega)
end Go.Proofs.Ytadncmlfkoolkaa
