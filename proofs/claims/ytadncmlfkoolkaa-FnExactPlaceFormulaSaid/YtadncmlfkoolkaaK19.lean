/-
  Contracts: placing a formula: the reference's.
-/
import Derived.Test.YtadncmlfkoolkaaK18
namespace Go.Proofs.Ytadncmlfkoolkaa
open Go.RowKit Go.Sort
theorem place_toL {ff free : Int} {ps : List Int} (h : (ps.length : Int) = ff) : toL (placeTo ff free ps) ff.toNat = ps := by
  apply List.ext_getElem
  · rw [toL_len]; omega
  · intro i h1 h2
    simp only [toL, List.getElem_map, List.getElem_range]
    rw [placeTo_lt (by omega), Int.toNat_natCast, List.getD_eq_getElem?_getD, List.getElem?_eq_getElem h2]
    rfl
set_option maxHeartbeats 3200000 in
set_option maxRecDepth 100000 in
theorem specPlaceFormula_any (w : World) {cs cs' : Array Value} {t : Int × List (Int × List (List Int))} {x : Int × Int × List (Int × List Int)} {v3 : Value} {ps : List Int} (h : tplT.Rd w cs.toList t) (h' : frmT.Rd w cs'.toList x) {nn : Int} (h3 : intsT.Rd w [v3] ps) :
    Calls Try.prog 45 #[.agg cs, .agg cs', .int .i64 nn, v3] w (RetAC frmT w (placeV t x nn ps) (placeC t x nn ps)) := by
  have p0 : tplT.Pt ((w.alloc (.cells cs 33)).alloc (.cells cs' 28)) (.pointer (some ⟨w.heap.size, 0, none⟩)) t := (pt_box h).below bA
  have p1 : frmT.Pt ((w.alloc (.cells cs 33)).alloc (.cells cs' 28)) (.pointer (some ⟨w.heap.size + 1, 0, none⟩)) x := by
    simpa using pt_box (T := 28) (h'.below (bA (o := .cells cs 33)))
  obtain ⟨u, hv, hI, -⟩ := pair_ex h
  obtain rfl := agg_of hv
  obtain ⟨u', hv', hI', hI2, hxx⟩ := trip_ex h'
  obtain rfl := agg_of hv'
  obtain ⟨ax, cx, rfl⟩ := rd_slice hxx
  obtain ⟨ap, cp, rfl⟩ := rd_slice h3
  obtain ⟨_, _, -, -, hpl2, -⟩ := Ty.slice_ex h3
  have hx0 := hxx
  clear h hv h' hv' hxx
  cases hT : tb (frmOk t x)
  · have HR := Lib.hid (place_1 (free := nn) (places := ps) hT)
    go_enter Try.func45, Try.ntmps45
    go_wp2_with fail
    refine (l03Ok_quiet _ (p0.below (by repeat (first | exact Below.refl _ _ | exact bA | assumption | refine Below.setCell ?_ (by first | omega | (simp; try omega)) _ | refine Below.alloc ?_ (by first | omega | (simp; try omega)) _ | refine Below.drew ?_ | refine bDN ?_ | refine bthen ?_ (by assumption)))) (p1.below (by repeat (first | exact Below.refl _ _ | exact bA | assumption | refine Below.setCell ?_ (by first | omega | (simp; try omega)) _ | refine Below.alloc ?_ (by first | omega | (simp; try omega)) _ | refine Below.drew ?_ | refine bDN ?_ | refine bthen ?_ (by assumption))))).mono ?_
    rintro e w1 ⟨rfl, hqq⟩
    have hb1 := hqq.below
    rw [hT]
    have hz1 : w.heap.size + 3 ≤ w1.heap.size := by have := hb1.size; simp at this; omega
    have hB1 : Below w.heap.size w w1 := bthen (by repeat (first | exact Below.refl _ _ | exact bA | assumption | refine Below.setCell ?_ (by first | omega | (simp; try omega)) _ | refine Below.alloc ?_ (by first | omega | (simp; try omega)) _ | refine Below.drew ?_ | refine bDN ?_ | refine bthen ?_ (by assumption))) hb1
    have a0 : w1.cell? ⟨w.heap.size + 1, 0, none⟩ = some (.int .i64 x.1) := (hb1.cell (by simp [go_sem]; try omega)).trans (by simp [go_sem])
    have a1 : w1.cell? ⟨w.heap.size + 1, 1, none⟩ = some (.int .i64 x.2.1) := (hb1.cell (by simp [go_sem]; try omega)).trans (by simp [go_sem])
    have a2 : w1.cell? ⟨w.heap.size + 1, 2, none⟩ = some (.slice ax x.2.2.length cx) := (hb1.cell (by simp [go_sem]; try omega)).trans (by simp [go_sem])
    have r0 : w1.cell? ⟨w.heap.size + 2, 0, none⟩ = some (.int .i64 0) := (hb1.cell (by simp [go_sem]; try omega)).trans (by simp [go_sem])
    have r1 : w1.cell? ⟨w.heap.size + 2, 1, none⟩ = some (.int .i64 0) := (hb1.cell (by simp [go_sem]; try omega)).trans (by simp [go_sem])
    have r2 : w1.cell? ⟨w.heap.size + 2, 2, none⟩ = some (.slice none 0 0) := (hb1.cell (by simp [go_sem]; try omega)).trans (by simp [go_sem])
    have m0 : w1.frozen? ⟨w.heap.size + 2, 0, none⟩ = false := (hb1.frozen (by simp [go_sem]; try omega)).trans (by simp [go_sem])
    have m1 : w1.frozen? ⟨w.heap.size + 2, 1, none⟩ = false := (hb1.frozen (by simp [go_sem]; try omega)).trans (by simp [go_sem])
    have m2 : w1.frozen? ⟨w.heap.size + 2, 2, none⟩ = false := (hb1.frozen (by simp [go_sem]; try omega)).trans (by simp [go_sem])
    clear hqq hb1 p0 p1
    go_wp2_with fail
    refine bodyPost_ret (v := .tuple #[.agg #[.int .i64 0, .int .i64 0, .slice none 0 0], .int .i64 1]) (by simp [results, Try.results45, go_sem, r0, r1, r2]) rfl ⟨[.int .i64 0, .int .i64 0, .slice none 0 0], by rw [HR.out.2], by rw [HR.out.1]; exact fr_frm0, (by repeat (first | exact Below.refl _ _ | exact bA | assumption | refine Below.setCell ?_ (by first | omega | (simp; try omega)) _ | refine Below.alloc ?_ (by first | omega | (simp; try omega)) _ | refine Below.drew ?_ | refine bDN ?_ | refine bthen ?_ (by assumption)))⟩
  obtain ⟨k1, k2, k3, k4, k5⟩ := frm_bd hT
  have K5 := Lib.hid k5
  clear k5
  cases hA : inB nn 1 4
  · have HR := Lib.hid (place_2 (places := ps) hT hA)
    go_enter Try.func45, Try.ntmps45
    go_wp2_with fail
    refine (l03Ok_quiet _ (p0.below (by repeat (first | exact Below.refl _ _ | exact bA | assumption | refine Below.setCell ?_ (by first | omega | (simp; try omega)) _ | refine Below.alloc ?_ (by first | omega | (simp; try omega)) _ | refine Below.drew ?_ | refine bDN ?_ | refine bthen ?_ (by assumption)))) (p1.below (by repeat (first | exact Below.refl _ _ | exact bA | assumption | refine Below.setCell ?_ (by first | omega | (simp; try omega)) _ | refine Below.alloc ?_ (by first | omega | (simp; try omega)) _ | refine Below.drew ?_ | refine bDN ?_ | refine bthen ?_ (by assumption))))).mono ?_
    rintro e w1 ⟨rfl, hqq⟩
    have hb1 := hqq.below
    rw [hT]
    have hz1 : w.heap.size + 3 ≤ w1.heap.size := by have := hb1.size; simp at this; omega
    have hB1 : Below w.heap.size w w1 := bthen (by repeat (first | exact Below.refl _ _ | exact bA | assumption | refine Below.setCell ?_ (by first | omega | (simp; try omega)) _ | refine Below.alloc ?_ (by first | omega | (simp; try omega)) _ | refine Below.drew ?_ | refine bDN ?_ | refine bthen ?_ (by assumption))) hb1
    have a0 : w1.cell? ⟨w.heap.size + 1, 0, none⟩ = some (.int .i64 x.1) := (hb1.cell (by simp [go_sem]; try omega)).trans (by simp [go_sem])
    have a1 : w1.cell? ⟨w.heap.size + 1, 1, none⟩ = some (.int .i64 x.2.1) := (hb1.cell (by simp [go_sem]; try omega)).trans (by simp [go_sem])
    have a2 : w1.cell? ⟨w.heap.size + 1, 2, none⟩ = some (.slice ax x.2.2.length cx) := (hb1.cell (by simp [go_sem]; try omega)).trans (by simp [go_sem])
    have r0 : w1.cell? ⟨w.heap.size + 2, 0, none⟩ = some (.int .i64 0) := (hb1.cell (by simp [go_sem]; try omega)).trans (by simp [go_sem])
    have r1 : w1.cell? ⟨w.heap.size + 2, 1, none⟩ = some (.int .i64 0) := (hb1.cell (by simp [go_sem]; try omega)).trans (by simp [go_sem])
    have r2 : w1.cell? ⟨w.heap.size + 2, 2, none⟩ = some (.slice none 0 0) := (hb1.cell (by simp [go_sem]; try omega)).trans (by simp [go_sem])
    have m0 : w1.frozen? ⟨w.heap.size + 2, 0, none⟩ = false := (hb1.frozen (by simp [go_sem]; try omega)).trans (by simp [go_sem])
    have m1 : w1.frozen? ⟨w.heap.size + 2, 1, none⟩ = false := (hb1.frozen (by simp [go_sem]; try omega)).trans (by simp [go_sem])
    have m2 : w1.frozen? ⟨w.heap.size + 2, 2, none⟩ = false := (hb1.frozen (by simp [go_sem]; try omega)).trans (by simp [go_sem])
    clear hqq hb1 p0 p1
    go_wp2_with fail
    refine (l01Arity_any _ _).mono ?_
    rintro e _ ⟨rfl, rfl⟩
    rw [hA]
    go_wp2_with fail
    refine bodyPost_ret (v := .tuple #[.agg #[.int .i64 0, .int .i64 0, .slice none 0 0], .int .i64 2]) (by simp [results, Try.results45, go_sem, r0, r1, r2]) rfl ⟨[.int .i64 0, .int .i64 0, .slice none 0 0], by rw [HR.out.2], by rw [HR.out.1]; exact fr_frm0, (by repeat (first | exact Below.refl _ _ | exact bA | assumption | refine Below.setCell ?_ (by first | omega | (simp; try omega)) _ | refine Below.alloc ?_ (by first | omega | (simp; try omega)) _ | refine Below.drew ?_ | refine bDN ?_ | refine bthen ?_ (by assumption)))⟩
  have hA2 := inB_true.1 hA
  by_cases hL : (ps.length : Int) = x.1
  rotate_left
  · have HR := Lib.hid (place_3 hT hA (tb_false (fun hh => hL hh.1)))
    go_enter Try.func45, Try.ntmps45
    go_wp2_with fail
    refine (l03Ok_quiet _ (p0.below (by repeat (first | exact Below.refl _ _ | exact bA | assumption | refine Below.setCell ?_ (by first | omega | (simp; try omega)) _ | refine Below.alloc ?_ (by first | omega | (simp; try omega)) _ | refine Below.drew ?_ | refine bDN ?_ | refine bthen ?_ (by assumption)))) (p1.below (by repeat (first | exact Below.refl _ _ | exact bA | assumption | refine Below.setCell ?_ (by first | omega | (simp; try omega)) _ | refine Below.alloc ?_ (by first | omega | (simp; try omega)) _ | refine Below.drew ?_ | refine bDN ?_ | refine bthen ?_ (by assumption))))).mono ?_
    rintro e w1 ⟨rfl, hqq⟩
    have hb1 := hqq.below
    rw [hT]
    have hz1 : w.heap.size + 3 ≤ w1.heap.size := by have := hb1.size; simp at this; omega
    have hB1 : Below w.heap.size w w1 := bthen (by repeat (first | exact Below.refl _ _ | exact bA | assumption | refine Below.setCell ?_ (by first | omega | (simp; try omega)) _ | refine Below.alloc ?_ (by first | omega | (simp; try omega)) _ | refine Below.drew ?_ | refine bDN ?_ | refine bthen ?_ (by assumption))) hb1
    have a0 : w1.cell? ⟨w.heap.size + 1, 0, none⟩ = some (.int .i64 x.1) := (hb1.cell (by simp [go_sem]; try omega)).trans (by simp [go_sem])
    have a1 : w1.cell? ⟨w.heap.size + 1, 1, none⟩ = some (.int .i64 x.2.1) := (hb1.cell (by simp [go_sem]; try omega)).trans (by simp [go_sem])
    have a2 : w1.cell? ⟨w.heap.size + 1, 2, none⟩ = some (.slice ax x.2.2.length cx) := (hb1.cell (by simp [go_sem]; try omega)).trans (by simp [go_sem])
    have r0 : w1.cell? ⟨w.heap.size + 2, 0, none⟩ = some (.int .i64 0) := (hb1.cell (by simp [go_sem]; try omega)).trans (by simp [go_sem])
    have r1 : w1.cell? ⟨w.heap.size + 2, 1, none⟩ = some (.int .i64 0) := (hb1.cell (by simp [go_sem]; try omega)).trans (by simp [go_sem])
    have r2 : w1.cell? ⟨w.heap.size + 2, 2, none⟩ = some (.slice none 0 0) := (hb1.cell (by simp [go_sem]; try omega)).trans (by simp [go_sem])
    have m0 : w1.frozen? ⟨w.heap.size + 2, 0, none⟩ = false := (hb1.frozen (by simp [go_sem]; try omega)).trans (by simp [go_sem])
    have m1 : w1.frozen? ⟨w.heap.size + 2, 1, none⟩ = false := (hb1.frozen (by simp [go_sem]; try omega)).trans (by simp [go_sem])
    have m2 : w1.frozen? ⟨w.heap.size + 2, 2, none⟩ = false := (hb1.frozen (by simp [go_sem]; try omega)).trans (by simp [go_sem])
    clear hqq hb1 p0 p1
    go_wp2_with fail
    refine (l01Arity_any _ _).mono ?_
    rintro e _ ⟨rfl, rfl⟩
    rw [hA]
    go_wp2_with fail
    refine bodyPost_ret (v := .tuple #[.agg #[.int .i64 0, .int .i64 0, .slice none 0 0], .int .i64 2]) (by simp [results, Try.results45, go_sem, r0, r1, r2]) rfl ⟨[.int .i64 0, .int .i64 0, .slice none 0 0], by rw [HR.out.2], by rw [HR.out.1]; exact fr_frm0, (by repeat (first | exact Below.refl _ _ | exact bA | assumption | refine Below.setCell ?_ (by first | omega | (simp; try omega)) _ | refine Below.alloc ?_ (by first | omega | (simp; try omega)) _ | refine Below.drew ?_ | refine bDN ?_ | refine bthen ?_ (by assumption)))⟩
  have HL := Lib.hid hL
  cases hP : tb (rowOk nn x.1 ps)
  · have HR := Lib.hid (place_3 hT hA hP)
    have hQ : tb (rowOk nn ps.length ps) = false := by rw [hL]; exact hP
    have HQ := Lib.hid hQ
    clear hP
    go_enter Try.func45, Try.ntmps45
    go_wp2_with fail
    refine (l03Ok_quiet _ (p0.below (by repeat (first | exact Below.refl _ _ | exact bA | assumption | refine Below.setCell ?_ (by first | omega | (simp; try omega)) _ | refine Below.alloc ?_ (by first | omega | (simp; try omega)) _ | refine Below.drew ?_ | refine bDN ?_ | refine bthen ?_ (by assumption)))) (p1.below (by repeat (first | exact Below.refl _ _ | exact bA | assumption | refine Below.setCell ?_ (by first | omega | (simp; try omega)) _ | refine Below.alloc ?_ (by first | omega | (simp; try omega)) _ | refine Below.drew ?_ | refine bDN ?_ | refine bthen ?_ (by assumption))))).mono ?_
    rintro e w1 ⟨rfl, hqq⟩
    have hb1 := hqq.below
    rw [hT]
    have hz1 : w.heap.size + 3 ≤ w1.heap.size := by have := hb1.size; simp at this; omega
    have hB1 : Below w.heap.size w w1 := bthen (by repeat (first | exact Below.refl _ _ | exact bA | assumption | refine Below.setCell ?_ (by first | omega | (simp; try omega)) _ | refine Below.alloc ?_ (by first | omega | (simp; try omega)) _ | refine Below.drew ?_ | refine bDN ?_ | refine bthen ?_ (by assumption))) hb1
    have a0 : w1.cell? ⟨w.heap.size + 1, 0, none⟩ = some (.int .i64 x.1) := (hb1.cell (by simp [go_sem]; try omega)).trans (by simp [go_sem])
    have a1 : w1.cell? ⟨w.heap.size + 1, 1, none⟩ = some (.int .i64 x.2.1) := (hb1.cell (by simp [go_sem]; try omega)).trans (by simp [go_sem])
    have a2 : w1.cell? ⟨w.heap.size + 1, 2, none⟩ = some (.slice ax x.2.2.length cx) := (hb1.cell (by simp [go_sem]; try omega)).trans (by simp [go_sem])
    have r0 : w1.cell? ⟨w.heap.size + 2, 0, none⟩ = some (.int .i64 0) := (hb1.cell (by simp [go_sem]; try omega)).trans (by simp [go_sem])
    have r1 : w1.cell? ⟨w.heap.size + 2, 1, none⟩ = some (.int .i64 0) := (hb1.cell (by simp [go_sem]; try omega)).trans (by simp [go_sem])
    have r2 : w1.cell? ⟨w.heap.size + 2, 2, none⟩ = some (.slice none 0 0) := (hb1.cell (by simp [go_sem]; try omega)).trans (by simp [go_sem])
    have m0 : w1.frozen? ⟨w.heap.size + 2, 0, none⟩ = false := (hb1.frozen (by simp [go_sem]; try omega)).trans (by simp [go_sem])
    have m1 : w1.frozen? ⟨w.heap.size + 2, 1, none⟩ = false := (hb1.frozen (by simp [go_sem]; try omega)).trans (by simp [go_sem])
    have m2 : w1.frozen? ⟨w.heap.size + 2, 2, none⟩ = false := (hb1.frozen (by simp [go_sem]; try omega)).trans (by simp [go_sem])
    clear hqq hb1 p0 p1
    go_wp2_with fail
    refine (l01Arity_any _ _).mono ?_
    rintro e _ ⟨rfl, rfl⟩
    rw [hA]
    go_wp2_with fail
    refine (l01Places_any _ _ (h3.below hB1) (by omega) (by omega)).mono ?_
    rintro e _ ⟨rfl, rfl⟩
    rw [hQ]
    go_wp2_with fail
    refine bodyPost_ret (v := .tuple #[.agg #[.int .i64 0, .int .i64 0, .slice none 0 0], .int .i64 2]) (by simp [results, Try.results45, go_sem, r0, r1, r2]) rfl ⟨[.int .i64 0, .int .i64 0, .slice none 0 0], by rw [HR.out.2], by rw [HR.out.1]; exact fr_frm0, (by repeat (first | exact Below.refl _ _ | exact bA | assumption | refine Below.setCell ?_ (by first | omega | (simp; try omega)) _ | refine Below.alloc ?_ (by first | omega | (simp; try omega)) _ | refine Below.drew ?_ | refine bDN ?_ | refine bthen ?_ (by assumption)))⟩
  have HR := Lib.hid (place_0 hT hA hP)
  have hQ : tb (rowOk nn ps.length ps) = true := by rw [hL]; exact hP
  have HM := Lib.hid (movedL_toL (g := placeTo x.1 nn ps) (n := x.2.1.toNat) (xs := x.2.2) fun a ha p hp => by have := (K5.out a ha).1 p hp; omega)
  have HP2 := Lib.hid (tb_iff.1 hP)
  have HTL := Lib.hid (place_toL (free := nn) hL)
  clear hP
  go_enter Try.func45, Try.ntmps45
  go_wp2_with fail
  refine (l03Ok_quiet _ (p0.below (by repeat (first | exact Below.refl _ _ | exact bA | assumption | refine Below.setCell ?_ (by first | omega | (simp; try omega)) _ | refine Below.alloc ?_ (by first | omega | (simp; try omega)) _ | refine Below.drew ?_ | refine bDN ?_ | refine bthen ?_ (by assumption)))) (p1.below (by repeat (first | exact Below.refl _ _ | exact bA | assumption | refine Below.setCell ?_ (by first | omega | (simp; try omega)) _ | refine Below.alloc ?_ (by first | omega | (simp; try omega)) _ | refine Below.drew ?_ | refine bDN ?_ | refine bthen ?_ (by assumption))))).mono ?_
  rintro e w1 ⟨rfl, hqq⟩
  have hb1 := hqq.below
  rw [hT]
  have hz1 : w.heap.size + 3 ≤ w1.heap.size := by have := hb1.size; simp at this; omega
  have hB1 : Below w.heap.size w w1 := bthen (by repeat (first | exact Below.refl _ _ | exact bA | assumption | refine Below.setCell ?_ (by first | omega | (simp; try omega)) _ | refine Below.alloc ?_ (by first | omega | (simp; try omega)) _ | refine Below.drew ?_ | refine bDN ?_ | refine bthen ?_ (by assumption))) hb1
  have a0 : w1.cell? ⟨w.heap.size + 1, 0, none⟩ = some (.int .i64 x.1) := (hb1.cell (by simp [go_sem]; try omega)).trans (by simp [go_sem])
  have a1 : w1.cell? ⟨w.heap.size + 1, 1, none⟩ = some (.int .i64 x.2.1) := (hb1.cell (by simp [go_sem]; try omega)).trans (by simp [go_sem])
  have a2 : w1.cell? ⟨w.heap.size + 1, 2, none⟩ = some (.slice ax x.2.2.length cx) := (hb1.cell (by simp [go_sem]; try omega)).trans (by simp [go_sem])
  have r0 : w1.cell? ⟨w.heap.size + 2, 0, none⟩ = some (.int .i64 0) := (hb1.cell (by simp [go_sem]; try omega)).trans (by simp [go_sem])
  have r1 : w1.cell? ⟨w.heap.size + 2, 1, none⟩ = some (.int .i64 0) := (hb1.cell (by simp [go_sem]; try omega)).trans (by simp [go_sem])
  have r2 : w1.cell? ⟨w.heap.size + 2, 2, none⟩ = some (.slice none 0 0) := (hb1.cell (by simp [go_sem]; try omega)).trans (by simp [go_sem])
  have m0 : w1.frozen? ⟨w.heap.size + 2, 0, none⟩ = false := (hb1.frozen (by simp [go_sem]; try omega)).trans (by simp [go_sem])
  have m1 : w1.frozen? ⟨w.heap.size + 2, 1, none⟩ = false := (hb1.frozen (by simp [go_sem]; try omega)).trans (by simp [go_sem])
  have m2 : w1.frozen? ⟨w.heap.size + 2, 2, none⟩ = false := (hb1.frozen (by simp [go_sem]; try omega)).trans (by simp [go_sem])
  clear hqq hb1 p0 p1
  go_wp2_with fail
  refine (l01Arity_any _ _).mono ?_
  rintro e _ ⟨rfl, rfl⟩
  rw [hA]
  go_wp2_with fail
  refine (l01Places_any _ _ (h3.below hB1) (by omega) (by omega)).mono ?_
  rintro e _ ⟨rfl, rfl⟩
  rw [hQ]
  go_wp2_with fail
  refine (l00Own_any _ (h3.below hB1) (by omega)).mono ?_
  rintro e w2 ⟨u2, rfl, hBl2, hb2⟩
  rw [← HTL.out] at hBl2
  have HB2 := Lib.hid hBl2
  have hlt1 : w.heap.size + 1 < w1.heap.size := by omega
  have hlt2 : w.heap.size + 2 < w1.heap.size := by omega
  have c0 := (hb2.cell hlt1).trans a0
  clear hBl2
  go_wp2_with fail
  go_loopw [11, 10] (fun i o wr => ∃ k : Nat, x.1.toNat ≤ k ∧ k ≤ x.2.1.toNat ∧ i = .int .i64 k ∧ Bl Ty.int 2 w1.heap.size wr.heap.size wr o (toL (placeTo x.1 nn ps) k) ∧ Below w1.heap.size w1 wr) (fun i _ _ => x.2.1.toNat - (intOf i).toNat)
  case atStart => exact ⟨x.1.toNat, Nat.le_refl _, by omega, by rw [Int.toNat_of_nonneg (by omega)], HB2.out, hb2⟩
  case round =>
    obtain ⟨k, hk0, hk, rfl, hBl, hbel⟩ := hrel
    have HB := Lib.hid hBl
    clear hBl c0
    have hsz := hbel.size
    have d0 := (hbel.cell hlt1).trans a0
    have d1 := (hbel.cell hlt1).trans a1
    have d2 := (hbel.cell hlt1).trans a2
    by_cases hkl : (k : Int) < x.2.1
    · have HE : Hid (placeTo x.1 nn ps k = nn + k - x.1) := by
        unfold Hid
        rw [placeTo_ge (by omega)]; omega
      have hI9 : I64 (nn + k - x.1) := I64.small (by omega) (by omega)
      have HRT := Lib.hid (toL_succ (placeTo x.1 nn ps) k)
      go_wp2_with (refine wpList_push (E := Ty.int) _ rfl _ _ 40 2 rfl elInt rfl (HB.out.below bA (Nat.le_refl _)) rfl news1 (fr_int hI9) (by rw [toL_len]; omega) (by decide) hbel.size (by simp) ?_; intro v1 w3 hB3 hg1 _)
      have hbel1 : Below w1.heap.size w1 w3 := (hbel.alloc hbel.size _).grown hg1 (by simp; omega) (fun k hk => HB.out.own hk)
      have hB4 : Bl Ty.int 2 w1.heap.size w3.heap.size w3 v1 (toL (placeTo x.1 nn ps) (k + 1)) := by rw [← HRT.out, HE.out]; exact hB3
      have HB4 := Lib.hid hB4
      clear hB3 hB4
      go_wp2_with fail
      go_roundw
      case rel => exact ⟨k + 1, by omega, by omega, by go_num, HB4.out, hbel1⟩
      case measure => simp [intOf]; omega
    · obtain rfl : k = x.2.1.toNat := by omega
      have hft := HB.out.fr (by rw [toL_len]; unfold capMax; omega)
      obtain ⟨at0, nt0, ct0, rfl⟩ := ex_slice hft
      have HIN := Lib.hid (show ∀ a ∈ x.2.2, (∀ p ∈ a.2, 0 ≤ p ∧ p < (((toL (placeTo x.1 nn ps) x.2.1.toNat).length : Nat) : Int)) ∧ a.2.length ≤ 1000000 from fun a ha => ⟨fun p hp => by have := (K5.out a ha).1 p hp; rw [toL_len]; omega, by have := (K5.out a ha).2; omega⟩)
      have hlen : x.2.2.length ≤ 1000000 := by omega
      have HT := Lib.hid hft.rd
      have HX := Lib.hid (hx0.below (bthen hB1 hbel))
      have hlt2' : w.heap.size + 2 < wr.heap.size := by omega
      have hlt1' : w.heap.size + 1 < wr.heap.size := by omega
      have R0 := (hbel.cell hlt2).trans r0
      have R1 := (hbel.cell hlt2).trans r1
      have R2 := (hbel.cell hlt2).trans r2
      have M0 := (hbel.frozen hlt2).trans m0
      have M1 := (hbel.frozen hlt2).trans m1
      have M2 := (hbel.frozen hlt2).trans m2
      have hB2 : Below w.heap.size w wr := bthen hB1 hbel
      have hwr : IntKind.i64.wrap (IntKind.i64.wrap (nn + x.2.1) - x.1) = nn + x.2.1 - x.1 := by
        rw [wrap_small (n := nn + x.2.1) (by omega) (by omega), wrap_small (by omega) (by omega)]
      have HWR := Lib.hid hwr
      have hIn : I64 nn := I64.small (by omega) (by omega)
      have hIm : I64 (nn + x.2.1 - x.1) := I64.small (by omega) (by omega)
      clear hft r0 r1 r2 m0 m1 m2 a0 a1 a2 HB HB2 hwr hx0
      go_wp2_with fail
      go_region_held_law (fun w' => w'.cell? ⟨w.heap.size + 1, 0, none⟩ = some (.int .i64 x.1) ∧ w'.cell? ⟨w.heap.size + 1, 1, none⟩ = some (.int .i64 x.2.1) ∧ w'.cell? ⟨w.heap.size + 1, 2, none⟩ = some (.slice ax x.2.2.length cx)) (first | exact ⟨d0, d1, d2⟩ | exact ⟨e0, e1, e2⟩ | exact ⟨q0, q1, q2⟩ | go_keep)
        (first
          | (go_simp; go_at_call 95; refine (l03Moved_any _ (HX.out.below bD) (HT.out.below bD) HIN.out hlen).mono ?_; rintro e w3 ⟨u3, rfl, hf, hb3⟩; obtain ⟨ad2, nv2, cap2, rfl⟩ := ex_slice hf; have hbn : Below wr.heap.size wr w3 := bthen bD hb3; have e0 := (hbn.cell hlt1').trans d0; have e1 := (hbn.cell hlt1').trans d1; have e2 := (hbn.cell hlt1').trans d2; have HF := Lib.hid (show frmT.Fr wr.heap.size w3 [.int .i64 nn, .int .i64 (IntKind.i64.wrap (IntKind.i64.wrap (nn + x.2.1) - x.1)), .slice ad2 nv2 cap2] (placeF x nn ps) from by rw [HWR.out]; unfold placeF; rw [← HM.out]; exact fr_cons hIn (fr_cons hIm hf)); clear hf; dsimp only)
          | (go_simp; go_at_call 94; refine (l03Told_any _ (cs := #[.int .i64 nn, .int .i64 (IntKind.i64.wrap (IntKind.i64.wrap (nn + x.2.1) - x.1)), .slice ad2 nv2 cap2]) HF.out hbn.size).mono ?_; rintro e w4 ⟨cs4, rfl, hf4, hb4⟩; obtain ⟨ad4, cap4, rfl⟩ := fr_trip hf4; have HF4 := Lib.hid hf4; have hbn4 : Below wr.heap.size wr w4 := bthen hbn hb4; have q0 := (hbn4.cell hlt1').trans d0; have q1 := (hbn4.cell hlt1').trans d1; have q2 := (hbn4.cell hlt1').trans d2; have s0 := (hbn4.cell hlt2').trans R0; have s1 := (hbn4.cell hlt2').trans R1; have s2 := (hbn4.cell hlt2').trans R2; have t0 := (hbn4.frozen hlt2').trans M0; have t1 := (hbn4.frozen hlt2').trans M1; have t2 := (hbn4.frozen hlt2').trans M2; clear hf4; dsimp only))
      go_wp2_with fail
      obtain ⟨g0, g1, g2⟩ := set3_cells (x := .int .i64 (limV (placeF x nn ps)).1) (y := .int .i64 (limV (placeF x nn ps)).2.1) (z := .slice ad4 (limV (placeF x nn ps)).2.2.length cap4) (show w4.cell? ⟨w.heap.size + 1 + 1, 0, none⟩ = _ from s0) (show w4.cell? ⟨w.heap.size + 1 + 1, 1, none⟩ = _ from s1) (show w4.cell? ⟨w.heap.size + 1 + 1, 2, none⟩ = _ from s2)
      refine bodyPost_ret (v := .tuple #[.agg #[.int .i64 (limV (placeF x nn ps)).1, .int .i64 (limV (placeF x nn ps)).2.1, .slice ad4 (limV (placeF x nn ps)).2.2.length cap4], .int .i64 (limC (placeF x nn ps))]) (by simp [results, Try.results45, go_sem, g0, g1, g2]) rfl ⟨[.int .i64 (limV (placeF x nn ps)).1, .int .i64 (limV (placeF x nn ps)).2.1, .slice ad4 (limV (placeF x nn ps)).2.2.length cap4], by rw [HR.out.2], ?_, ?_⟩
      · rw [HR.out.1]
        exact (HF4.out.set3 (by omega)).mono (by omega)
      · exact set3_below (bthen hB2 hbn4) (by omega)
end Go.Proofs.Ytadncmlfkoolkaa
