/-
  Contracts: placing a formula: the program's.
-/
import Derived.Test.YtadncmlfkoolkaaK17
namespace Go.Proofs.Ytadncmlfkoolkaa
open Go.RowKit Go.Sort
def placeTo (ff free : Int) (places : List Int) (v : Int) : Int := match decide (v < ff) with
  | true => places.getD v.toNat 0
  | false => v - ff + free
theorem placeTo_lt {ff free : Int} {places : List Int} {v : Int} (h : v < ff) : placeTo ff free places v = places.getD v.toNat 0 := by simp [placeTo, h]
theorem placeTo_ge {ff free : Int} {places : List Int} {v : Int} (h : ff ≤ v) : placeTo ff free places v = v - ff + free := by
  have : ¬ v < ff := by omega
  simp [placeTo, this]
def placeF (f : Int × Int × List (Int × List Int)) (free : Int) (places : List Int) : Int × Int × List (Int × List Int) := (free, free + f.2.1 - f.1, rnL (placeTo f.1 free places) f.2.2)
section
variable (t : Int × List (Int × List (List Int))) (f : Int × Int × List (Int × List Int)) (free : Int) (places : List Int)
noncomputable def placeC : Int := match tb (frmOk t f), inB free 1 4, tb (rowOk free f.1 places) with
  | false, _, _ => 1
  | true, false, _ => 2
  | true, true, false => 2
  | true, true, true => limC (placeF f free places)
noncomputable def placeV : Int × Int × List (Int × List Int) := match tb (frmOk t f), inB free 1 4, tb (rowOk free f.1 places) with
  | true, true, true => limV (placeF f free places)
  | _, _, _ => frm0
end
section
variable {t : Int × List (Int × List (List Int))} {f : Int × Int × List (Int × List Int)} {free : Int} {places : List Int}
theorem place_1 (h : tb (frmOk t f) = false) : placeV t f free places = frm0 ∧ placeC t f free places = 1 := by simp [placeV, placeC, h]
theorem place_2 (h : tb (frmOk t f) = true) (h2 : inB free 1 4 = false) : placeV t f free places = frm0 ∧ placeC t f free places = 2 := by simp [placeV, placeC, h, h2]
theorem place_3 (h : tb (frmOk t f) = true) (h2 : inB free 1 4 = true) (h3 : tb (rowOk free f.1 places) = false) : placeV t f free places = frm0 ∧ placeC t f free places = 2 := by simp [placeV, placeC, h, h2, h3]
theorem place_0 (h : tb (frmOk t f) = true) (h2 : inB free 1 4 = true) (h3 : tb (rowOk free f.1 places) = true) : placeV t f free places = limV (placeF f free places) ∧ placeC t f free places = limC (placeF f free places) := by simp [placeV, placeC, h, h2, h3]
theorem cnt_frm0 : cntFrm frm0 = 0 := by simp [frm0, cntFrm, cntOps, sumL]
theorem place_cnt : cntFrm (placeV t f free places) ≤ 1000000 := by
  cases h1 : tb (frmOk t f)
  · rw [(place_1 h1).1, cnt_frm0]; omega
  cases h2 : inB free 1 4
  · rw [(place_2 h1 h2).1, cnt_frm0]; omega
  cases h3 : tb (rowOk free f.1 places)
  · rw [(place_3 h1 h2 h3).1, cnt_frm0]; omega
  · rw [(place_0 h1 h2 h3).1]
    obtain ⟨_, _, _, h4, h5⟩ := frm_bd h1
    have := cntOps_bd (xs := f.2.2) fun a ha => (h5 a ha).2
    by_cases hl : (placeF f free places).2.1 ≤ 8 ∧ (placeF f free places).2.2.length ≤ 16
    · rw [(lim_yes hl).1]
      simp only [placeF, cntFrm, rnL_cnt]
      omega
    · rw [(lim_no hl).1, cnt_frm0]; omega
theorem placeTo_I (h : rowOk free f.1 places) (h1 : inB free 1 4 = true) (h2 : 1 ≤ f.1 ∧ f.1 ≤ f.2.1 ∧ f.2.1 ≤ 8) {v : Int} (hv : 0 ≤ v ∧ v < f.2.1) : I64 (placeTo f.1 free places v) := by
  have h3 := inB_true.1 h1
  rcases ilt v f.1 with h4 | h4
  · rw [placeTo_lt h4]
    have h5 : v.toNat < places.length := by have := h.1; omega
    rw [List.getD_eq_getElem?_getD, List.getElem?_eq_getElem h5]
    have := h.2 _ (List.getElem_mem h5)
    exact I64.small (by simp; omega) (by simp; omega)
  · rw [placeTo_ge h4]; exact I64.small (by omega) (by omega)
end
theorem PlaceFormula1_any (w : World) (a ff free : Int) (ps : List Int) (b1 b2 b3 : Nat) (v : Value) (h1 : w.cell? ⟨b1, 0, none⟩ = some (.int .i64 ff)) (h2 : w.cell? ⟨b2, 0, none⟩ = some v) (hp : intsT.Rd w [v] ps) (h3 : w.cell? ⟨b3, 0, none⟩ = some (.int .i64 free))
    (h4 : 0 ≤ a ∧ a ≤ 1000) (h5 : 0 ≤ ff ∧ ff ≤ ps.length) (h6 : 0 ≤ free ∧ free ≤ 1000) (h7 : ff ≤ 1000) :
    Calls Try.prog 101 #[.int .i64 a, .pointer (some ⟨b1, 0, none⟩), .pointer (some ⟨b2, 0, none⟩), .pointer (some ⟨b3, 0, none⟩)] w fun e w' => e = .returned (.int .i64 (placeTo ff free ps a)) ∧ w = w' := by
  obtain ⟨ap, cp, hv, hl, hc, hcell⟩ := ints_ex hp
  obtain rfl : v = _ := by simpa using hv
  clear hp hv
  rcases ilt a ff with hlt | hlt
  · obtain ⟨k, rfl⟩ : ∃ k : Nat, a = k := ⟨a.toNat, by omega⟩
    have hkl : k < ps.length := by omega
    obtain ⟨b, o, rfl, hb, hce⟩ := hcell (by omega)
    have e0 := (hce k hkl).2
    have HE : Hid (placeTo ff free ps k = ps[k]) := by
      unfold Hid
      rw [placeTo_lt hlt, List.getD_eq_getElem?_getD, Int.toNat_natCast, List.getElem?_eq_getElem hkl]
      rfl
    clear hcell hce
    go_enter Try.func101, Try.ntmps101
    go_wp2_with fail
    go_ret
    exact ⟨ret_int HE.out.symm, rfl⟩
  · have HE := Lib.hid (placeTo_ge (free := free) (places := ps) hlt)
    clear hcell
    go_enter Try.func101, Try.ntmps101
    go_wp2_with fail
    go_ret
    exact ⟨ret_int HE.out.symm, rfl⟩
theorem arePlaces_any (w : World) {v : Value} {xs : List Int} (h : intsT.Rd w [v] xs) (size many : Int) (h0 : 0 ≤ size) (h1 : size ≤ 1000000000000) :
    Calls Try.prog 99 #[v, .int .i64 size, .int .i64 many] w fun e w' => e = .returned (.bool (tb (rowOk size many xs))) ∧ Below w.heap.size w w' := by
  obtain ⟨ap, cp, rfl⟩ := rd_slice h
  go_enter Try.func99, Try.ntmps99
  go_wp2_with fail
  refine (areValues_any _ h size many h0 h1).mono ?_
  rintro e w1 ⟨rfl, hb1⟩
  go_wp2_with fail
  go_ret
  exact ⟨rfl, hb1⟩
set_option maxHeartbeats 3200000 in
set_option maxRecDepth 100000 in
theorem PlaceFormula_any (w : World) {cs cs' : Array Value} {t : Int × List (Int × List (List Int))} {x : Int × Int × List (Int × List Int)} {v3 : Value} {ps : List Int} (h : tplT.Rd w cs.toList t) (h' : frmT.Rd w cs'.toList x) {nn : Int} (h3 : intsT.Rd w [v3] ps) :
    Calls Try.prog 47 #[.agg cs, .agg cs', .int .i64 nn, v3] w (RetAC frmT w (placeV t x nn ps) (placeC t x nn ps)) := by
  have ht := h
  have hf0 := h'
  obtain ⟨u, hv, hI, -⟩ := pair_ex h
  obtain rfl := agg_of hv
  obtain ⟨u', hv', hI', hI2, hxx⟩ := trip_ex h'
  obtain rfl := agg_of hv'
  obtain ⟨ax, cx, rfl⟩ := rd_slice hxx
  obtain ⟨ap, cp, rfl⟩ := rd_slice h3
  have hx0 := hxx
  clear h hv h' hv' hxx
  cases hT : tb (frmOk t x)
  · have HR := Lib.hid (place_1 (free := nn) (places := ps) hT)
    go_enter Try.func47, Try.ntmps47
    go_wp2_with fail
    refine (ValidFormula_any _ (ht.below (by repeat (first | exact Below.refl _ _ | exact bA | assumption | refine Below.setCell ?_ (by first | omega | (simp; try omega)) _ | refine Below.alloc ?_ (by first | omega | (simp; try omega)) _ | refine Below.drew ?_ | refine bDN ?_ | refine bthen ?_ (by assumption)))) (hf0.below (by repeat (first | exact Below.refl _ _ | exact bA | assumption | refine Below.setCell ?_ (by first | omega | (simp; try omega)) _ | refine Below.alloc ?_ (by first | omega | (simp; try omega)) _ | refine Below.drew ?_ | refine bDN ?_ | refine bthen ?_ (by assumption))))).mono ?_
    rintro e w1 ⟨rfl, hb1⟩
    rw [hT]
    have hz1 : w.heap.size + 5 ≤ w1.heap.size := by have := hb1.size; simp at this; omega
    have hB1 : Below w.heap.size w w1 := bthen (by repeat (first | exact Below.refl _ _ | exact bA | assumption | refine Below.setCell ?_ (by first | omega | (simp; try omega)) _ | refine Below.alloc ?_ (by first | omega | (simp; try omega)) _ | refine Below.drew ?_ | refine bDN ?_ | refine bthen ?_ (by assumption))) hb1
    have a0 : w1.cell? ⟨w.heap.size + 1, 0, none⟩ = some (.int .i64 x.1) := (hb1.cell (by simp [go_sem]; try omega)).trans (by simp [go_sem])
    have a1 : w1.cell? ⟨w.heap.size + 1, 1, none⟩ = some (.int .i64 x.2.1) := (hb1.cell (by simp [go_sem]; try omega)).trans (by simp [go_sem])
    have a2 : w1.cell? ⟨w.heap.size + 1, 2, none⟩ = some (.slice ax x.2.2.length cx) := (hb1.cell (by simp [go_sem]; try omega)).trans (by simp [go_sem])
    have n : w1.cell? ⟨w.heap.size + 2, 0, none⟩ = some (.int .i64 nn) := (hb1.cell (by simp [go_sem]; try omega)).trans (by simp [go_sem])
    have p : w1.cell? ⟨w.heap.size + 3, 0, none⟩ = some (.slice ap ps.length cp) := (hb1.cell (by simp [go_sem]; try omega)).trans (by simp [go_sem])
    have r0 : w1.cell? ⟨w.heap.size + 4, 0, none⟩ = some (.int .i64 0) := (hb1.cell (by simp [go_sem]; try omega)).trans (by simp [go_sem])
    have r1 : w1.cell? ⟨w.heap.size + 4, 1, none⟩ = some (.int .i64 0) := (hb1.cell (by simp [go_sem]; try omega)).trans (by simp [go_sem])
    have r2 : w1.cell? ⟨w.heap.size + 4, 2, none⟩ = some (.slice none 0 0) := (hb1.cell (by simp [go_sem]; try omega)).trans (by simp [go_sem])
    have m0 : w1.frozen? ⟨w.heap.size + 4, 0, none⟩ = false := (hb1.frozen (by simp [go_sem]; try omega)).trans (by simp [go_sem])
    have m1 : w1.frozen? ⟨w.heap.size + 4, 1, none⟩ = false := (hb1.frozen (by simp [go_sem]; try omega)).trans (by simp [go_sem])
    have m2 : w1.frozen? ⟨w.heap.size + 4, 2, none⟩ = false := (hb1.frozen (by simp [go_sem]; try omega)).trans (by simp [go_sem])
    go_wp2_with fail
    refine bodyPost_ret (v := .tuple #[.agg #[.int .i64 0, .int .i64 0, .slice none 0 0], .int .i64 1]) (by simp [results, Try.results47, go_sem, r0, r1, r2]) rfl ⟨[.int .i64 0, .int .i64 0, .slice none 0 0], by rw [HR.out.2], by rw [HR.out.1]; exact fr_frm0, (by repeat (first | exact Below.refl _ _ | exact bA | assumption | refine Below.setCell ?_ (by first | omega | (simp; try omega)) _ | refine Below.alloc ?_ (by first | omega | (simp; try omega)) _ | refine Below.drew ?_ | refine bDN ?_ | refine bthen ?_ (by assumption)))⟩
  obtain ⟨k1, k2, k3, k4, k5⟩ := frm_bd hT
  have K5 := Lib.hid k5
  clear k5
  cases hA : inB nn 1 4
  · have HR := Lib.hid (place_2 (places := ps) hT hA)
    go_enter Try.func47, Try.ntmps47
    go_wp2_with fail
    refine (ValidFormula_any _ (ht.below (by repeat (first | exact Below.refl _ _ | exact bA | assumption | refine Below.setCell ?_ (by first | omega | (simp; try omega)) _ | refine Below.alloc ?_ (by first | omega | (simp; try omega)) _ | refine Below.drew ?_ | refine bDN ?_ | refine bthen ?_ (by assumption)))) (hf0.below (by repeat (first | exact Below.refl _ _ | exact bA | assumption | refine Below.setCell ?_ (by first | omega | (simp; try omega)) _ | refine Below.alloc ?_ (by first | omega | (simp; try omega)) _ | refine Below.drew ?_ | refine bDN ?_ | refine bthen ?_ (by assumption))))).mono ?_
    rintro e w1 ⟨rfl, hb1⟩
    rw [hT]
    have hz1 : w.heap.size + 5 ≤ w1.heap.size := by have := hb1.size; simp at this; omega
    have hB1 : Below w.heap.size w w1 := bthen (by repeat (first | exact Below.refl _ _ | exact bA | assumption | refine Below.setCell ?_ (by first | omega | (simp; try omega)) _ | refine Below.alloc ?_ (by first | omega | (simp; try omega)) _ | refine Below.drew ?_ | refine bDN ?_ | refine bthen ?_ (by assumption))) hb1
    have a0 : w1.cell? ⟨w.heap.size + 1, 0, none⟩ = some (.int .i64 x.1) := (hb1.cell (by simp [go_sem]; try omega)).trans (by simp [go_sem])
    have a1 : w1.cell? ⟨w.heap.size + 1, 1, none⟩ = some (.int .i64 x.2.1) := (hb1.cell (by simp [go_sem]; try omega)).trans (by simp [go_sem])
    have a2 : w1.cell? ⟨w.heap.size + 1, 2, none⟩ = some (.slice ax x.2.2.length cx) := (hb1.cell (by simp [go_sem]; try omega)).trans (by simp [go_sem])
    have n : w1.cell? ⟨w.heap.size + 2, 0, none⟩ = some (.int .i64 nn) := (hb1.cell (by simp [go_sem]; try omega)).trans (by simp [go_sem])
    have p : w1.cell? ⟨w.heap.size + 3, 0, none⟩ = some (.slice ap ps.length cp) := (hb1.cell (by simp [go_sem]; try omega)).trans (by simp [go_sem])
    have r0 : w1.cell? ⟨w.heap.size + 4, 0, none⟩ = some (.int .i64 0) := (hb1.cell (by simp [go_sem]; try omega)).trans (by simp [go_sem])
    have r1 : w1.cell? ⟨w.heap.size + 4, 1, none⟩ = some (.int .i64 0) := (hb1.cell (by simp [go_sem]; try omega)).trans (by simp [go_sem])
    have r2 : w1.cell? ⟨w.heap.size + 4, 2, none⟩ = some (.slice none 0 0) := (hb1.cell (by simp [go_sem]; try omega)).trans (by simp [go_sem])
    have m0 : w1.frozen? ⟨w.heap.size + 4, 0, none⟩ = false := (hb1.frozen (by simp [go_sem]; try omega)).trans (by simp [go_sem])
    have m1 : w1.frozen? ⟨w.heap.size + 4, 1, none⟩ = false := (hb1.frozen (by simp [go_sem]; try omega)).trans (by simp [go_sem])
    have m2 : w1.frozen? ⟨w.heap.size + 4, 2, none⟩ = false := (hb1.frozen (by simp [go_sem]; try omega)).trans (by simp [go_sem])
    go_wp2_with fail
    refine (isArity_any _ _).mono ?_
    rintro e _ ⟨rfl, rfl⟩
    rw [hA]
    go_wp2_with fail
    refine bodyPost_ret (v := .tuple #[.agg #[.int .i64 0, .int .i64 0, .slice none 0 0], .int .i64 2]) (by simp [results, Try.results47, go_sem, r0, r1, r2]) rfl ⟨[.int .i64 0, .int .i64 0, .slice none 0 0], by rw [HR.out.2], by rw [HR.out.1]; exact fr_frm0, (by repeat (first | exact Below.refl _ _ | exact bA | assumption | refine Below.setCell ?_ (by first | omega | (simp; try omega)) _ | refine Below.alloc ?_ (by first | omega | (simp; try omega)) _ | refine Below.drew ?_ | refine bDN ?_ | refine bthen ?_ (by assumption)))⟩
  have hA2 := inB_true.1 hA
  cases hP : tb (rowOk nn x.1 ps)
  · have HR := Lib.hid (place_3 hT hA hP)
    go_enter Try.func47, Try.ntmps47
    go_wp2_with fail
    refine (ValidFormula_any _ (ht.below (by repeat (first | exact Below.refl _ _ | exact bA | assumption | refine Below.setCell ?_ (by first | omega | (simp; try omega)) _ | refine Below.alloc ?_ (by first | omega | (simp; try omega)) _ | refine Below.drew ?_ | refine bDN ?_ | refine bthen ?_ (by assumption)))) (hf0.below (by repeat (first | exact Below.refl _ _ | exact bA | assumption | refine Below.setCell ?_ (by first | omega | (simp; try omega)) _ | refine Below.alloc ?_ (by first | omega | (simp; try omega)) _ | refine Below.drew ?_ | refine bDN ?_ | refine bthen ?_ (by assumption))))).mono ?_
    rintro e w1 ⟨rfl, hb1⟩
    rw [hT]
    have hz1 : w.heap.size + 5 ≤ w1.heap.size := by have := hb1.size; simp at this; omega
    have hB1 : Below w.heap.size w w1 := bthen (by repeat (first | exact Below.refl _ _ | exact bA | assumption | refine Below.setCell ?_ (by first | omega | (simp; try omega)) _ | refine Below.alloc ?_ (by first | omega | (simp; try omega)) _ | refine Below.drew ?_ | refine bDN ?_ | refine bthen ?_ (by assumption))) hb1
    have a0 : w1.cell? ⟨w.heap.size + 1, 0, none⟩ = some (.int .i64 x.1) := (hb1.cell (by simp [go_sem]; try omega)).trans (by simp [go_sem])
    have a1 : w1.cell? ⟨w.heap.size + 1, 1, none⟩ = some (.int .i64 x.2.1) := (hb1.cell (by simp [go_sem]; try omega)).trans (by simp [go_sem])
    have a2 : w1.cell? ⟨w.heap.size + 1, 2, none⟩ = some (.slice ax x.2.2.length cx) := (hb1.cell (by simp [go_sem]; try omega)).trans (by simp [go_sem])
    have n : w1.cell? ⟨w.heap.size + 2, 0, none⟩ = some (.int .i64 nn) := (hb1.cell (by simp [go_sem]; try omega)).trans (by simp [go_sem])
    have p : w1.cell? ⟨w.heap.size + 3, 0, none⟩ = some (.slice ap ps.length cp) := (hb1.cell (by simp [go_sem]; try omega)).trans (by simp [go_sem])
    have r0 : w1.cell? ⟨w.heap.size + 4, 0, none⟩ = some (.int .i64 0) := (hb1.cell (by simp [go_sem]; try omega)).trans (by simp [go_sem])
    have r1 : w1.cell? ⟨w.heap.size + 4, 1, none⟩ = some (.int .i64 0) := (hb1.cell (by simp [go_sem]; try omega)).trans (by simp [go_sem])
    have r2 : w1.cell? ⟨w.heap.size + 4, 2, none⟩ = some (.slice none 0 0) := (hb1.cell (by simp [go_sem]; try omega)).trans (by simp [go_sem])
    have m0 : w1.frozen? ⟨w.heap.size + 4, 0, none⟩ = false := (hb1.frozen (by simp [go_sem]; try omega)).trans (by simp [go_sem])
    have m1 : w1.frozen? ⟨w.heap.size + 4, 1, none⟩ = false := (hb1.frozen (by simp [go_sem]; try omega)).trans (by simp [go_sem])
    have m2 : w1.frozen? ⟨w.heap.size + 4, 2, none⟩ = false := (hb1.frozen (by simp [go_sem]; try omega)).trans (by simp [go_sem])
    go_wp2_with fail
    refine (isArity_any _ _).mono ?_
    rintro e _ ⟨rfl, rfl⟩
    rw [hA]
    go_wp2_with fail
    refine (arePlaces_any _ (h3.below hB1) _ _ (by omega) (by omega)).mono ?_
    rintro e w2 ⟨rfl, hb2⟩
    rw [hP]
    have hlt4 : w.heap.size + 4 < w1.heap.size := by omega
    have R0 := (hb2.cell hlt4).trans r0
    have R1 := (hb2.cell hlt4).trans r1
    have R2 := (hb2.cell hlt4).trans r2
    have M0 := (hb2.frozen hlt4).trans m0
    have M1 := (hb2.frozen hlt4).trans m1
    have M2 := (hb2.frozen hlt4).trans m2
    have hlt5 : w.heap.size + 4 < w2.heap.size := by have := hb2.size; omega
    go_wp2_with fail
    refine bodyPost_ret (v := .tuple #[.agg #[.int .i64 0, .int .i64 0, .slice none 0 0], .int .i64 2]) (by simp [results, Try.results47, go_sem, R0, R1, R2]) rfl ⟨[.int .i64 0, .int .i64 0, .slice none 0 0], by rw [HR.out.2], by rw [HR.out.1]; exact fr_frm0, (by repeat (first | exact Below.refl _ _ | exact bA | assumption | refine Below.setCell ?_ (by first | omega | (simp; try omega)) _ | refine Below.alloc ?_ (by first | omega | (simp; try omega)) _ | refine Below.drew ?_ | refine bDN ?_ | refine bthen ?_ (by assumption)))⟩
  have HR := Lib.hid (place_0 hT hA hP)
  have hP2 := tb_iff.1 hP
  have HP2 := Lib.hid hP2
  have hpl := hP2.1
  clear hP2
  go_enter Try.func47, Try.ntmps47
  go_wp2_with fail
  refine (ValidFormula_any _ (ht.below (by repeat (first | exact Below.refl _ _ | exact bA | assumption | refine Below.setCell ?_ (by first | omega | (simp; try omega)) _ | refine Below.alloc ?_ (by first | omega | (simp; try omega)) _ | refine Below.drew ?_ | refine bDN ?_ | refine bthen ?_ (by assumption)))) (hf0.below (by repeat (first | exact Below.refl _ _ | exact bA | assumption | refine Below.setCell ?_ (by first | omega | (simp; try omega)) _ | refine Below.alloc ?_ (by first | omega | (simp; try omega)) _ | refine Below.drew ?_ | refine bDN ?_ | refine bthen ?_ (by assumption))))).mono ?_
  rintro e w1 ⟨rfl, hb1⟩
  rw [hT]
  have hz1 : w.heap.size + 5 ≤ w1.heap.size := by have := hb1.size; simp at this; omega
  have hB1 : Below w.heap.size w w1 := bthen (by repeat (first | exact Below.refl _ _ | exact bA | assumption | refine Below.setCell ?_ (by first | omega | (simp; try omega)) _ | refine Below.alloc ?_ (by first | omega | (simp; try omega)) _ | refine Below.drew ?_ | refine bDN ?_ | refine bthen ?_ (by assumption))) hb1
  have a0 : w1.cell? ⟨w.heap.size + 1, 0, none⟩ = some (.int .i64 x.1) := (hb1.cell (by simp [go_sem]; try omega)).trans (by simp [go_sem])
  have a1 : w1.cell? ⟨w.heap.size + 1, 1, none⟩ = some (.int .i64 x.2.1) := (hb1.cell (by simp [go_sem]; try omega)).trans (by simp [go_sem])
  have a2 : w1.cell? ⟨w.heap.size + 1, 2, none⟩ = some (.slice ax x.2.2.length cx) := (hb1.cell (by simp [go_sem]; try omega)).trans (by simp [go_sem])
  have n : w1.cell? ⟨w.heap.size + 2, 0, none⟩ = some (.int .i64 nn) := (hb1.cell (by simp [go_sem]; try omega)).trans (by simp [go_sem])
  have p : w1.cell? ⟨w.heap.size + 3, 0, none⟩ = some (.slice ap ps.length cp) := (hb1.cell (by simp [go_sem]; try omega)).trans (by simp [go_sem])
  have r0 : w1.cell? ⟨w.heap.size + 4, 0, none⟩ = some (.int .i64 0) := (hb1.cell (by simp [go_sem]; try omega)).trans (by simp [go_sem])
  have r1 : w1.cell? ⟨w.heap.size + 4, 1, none⟩ = some (.int .i64 0) := (hb1.cell (by simp [go_sem]; try omega)).trans (by simp [go_sem])
  have r2 : w1.cell? ⟨w.heap.size + 4, 2, none⟩ = some (.slice none 0 0) := (hb1.cell (by simp [go_sem]; try omega)).trans (by simp [go_sem])
  have m0 : w1.frozen? ⟨w.heap.size + 4, 0, none⟩ = false := (hb1.frozen (by simp [go_sem]; try omega)).trans (by simp [go_sem])
  have m1 : w1.frozen? ⟨w.heap.size + 4, 1, none⟩ = false := (hb1.frozen (by simp [go_sem]; try omega)).trans (by simp [go_sem])
  have m2 : w1.frozen? ⟨w.heap.size + 4, 2, none⟩ = false := (hb1.frozen (by simp [go_sem]; try omega)).trans (by simp [go_sem])
  go_wp2_with fail
  refine (isArity_any _ _).mono ?_
  rintro e _ ⟨rfl, rfl⟩
  rw [hA]
  go_wp2_with fail
  refine (arePlaces_any _ (h3.below hB1) _ _ (by omega) (by omega)).mono ?_
  rintro e w2 ⟨rfl, hb2⟩
  rw [hP]
  have hlt1 : w.heap.size + 1 < w1.heap.size := by omega
  have hlt2 : w.heap.size + 2 < w1.heap.size := by omega
  have hlt3 : w.heap.size + 3 < w1.heap.size := by omega
  have hlt4 : w.heap.size + 4 < w1.heap.size := by omega
  have A0 := (hb2.cell hlt1).trans a0
  have A1 := (hb2.cell hlt1).trans a1
  have A2 := (hb2.cell hlt1).trans a2
  have N0 := (hb2.cell hlt2).trans n
  have P0 := (hb2.cell hlt3).trans p
  have hB2 : Below w.heap.size w w2 := bthen hB1 hb2
  have hx2 : opsT.Rd w2 [.slice ax x.2.2.length cx] x.2.2 := hx0.below hB2
  have hz2 := hb2.size
  clear a0 a1 a2 n p
  go_wp2_with fail
  have hto : Hid (∀ W a, Below w2.heap.size w2 W → (∃ c ∈ x.2.2, a ∈ c.2) → Calls Try.prog 101 (#[.int .i64 a] ++ #[.pointer (some ⟨w.heap.size + 1, 0, none⟩), .pointer (some ⟨w.heap.size + 3, 0, none⟩), .pointer (some ⟨w.heap.size + 2, 0, none⟩)]) W fun e w' => e = .returned (.int .i64 (placeTo x.1 nn ps a)) ∧ W = w') := by
    intro W a hW ⟨c, hc, ha⟩
    have h5 := (K5.out c hc).1 a ha
    exact PlaceFormula1_any W a x.1 nn ps _ _ _ _ ((hW.cell (show w.heap.size + 1 < w2.heap.size by omega)).trans A0) ((hW.cell (show w.heap.size + 3 < w2.heap.size by omega)).trans P0) (h3.below (bthen hB2 hW)) ((hW.cell (show w.heap.size + 2 < w2.heap.size by omega)).trans N0) (by omega) (by omega) (by omega) (by omega)
  have HGH := Lib.hid (show ∀ c ∈ x.2.2, (∀ a ∈ c.2, I64 (placeTo x.1 nn ps a)) ∧ c.2.length ≤ 1000000 from fun c hc => ⟨fun a ha => placeTo_I HP2.out hA ⟨k1, k2, k3⟩ ((K5.out c hc).1 a ha), by have := (K5.out c hc).2; omega⟩)
  refine (renamed_any _ hx2 101 _ (enters Try.func101 (by kernel_rfl) rfl) (placeTo x.1 nn ps) hto HGH.out (by omega)).mono ?_
  rintro e w3 ⟨u3, rfl, hf3, hb3⟩
  obtain ⟨ad3, nv3, cap3, rfl⟩ := ex_slice hf3
  have HF := Lib.hid hf3
  have hlt1' : w.heap.size + 1 < w2.heap.size := by omega
  have hlt2' : w.heap.size + 2 < w2.heap.size := by omega
  have B0 := (hb3.cell hlt1').trans A0
  have B1 := (hb3.cell hlt1').trans A1
  have B2 := (hb3.cell hlt2').trans N0
  have hz3 := hb3.size
  clear hf3 hto hx2 A0 A1 A2 N0 P0
  go_wp2_with fail
  have hgf : frmT.Fr w2.heap.size w3 [.int .i64 nn, .int .i64 (nn + x.2.1 - x.1), .slice ad3 nv3 cap3] (placeF x nn ps) := fr_cons (I64.small (by omega) (by omega)) (fr_cons (I64.small (by omega) (by omega)) HF.out)
  refine (limited_any _ (cs := #[.int .i64 nn, .int .i64 (nn + x.2.1 - x.1), .slice ad3 nv3 cap3]) hgf (by omega)).mono ?_
  rintro e w4 ⟨cs4, rfl, hf4, hb4⟩
  obtain ⟨ad4, cap4, rfl⟩ := fr_trip hf4
  have HF4 := Lib.hid hf4
  have hB34 : Below w1.heap.size w1 w4 := bthen (bthen hb2 hb3) hb4
  have s0 := (hB34.cell hlt4).trans r0
  have s1 := (hB34.cell hlt4).trans r1
  have s2 := (hB34.cell hlt4).trans r2
  have t0 := (hB34.frozen hlt4).trans m0
  have t1 := (hB34.frozen hlt4).trans m1
  have t2 := (hB34.frozen hlt4).trans m2
  have hz4 := hb4.size
  have hlt5 : w.heap.size + 4 < w4.heap.size := by omega
  clear hf4 r0 r1 r2 m0 m1 m2 B0 B1 B2 hgf
  go_wp2_with fail
  obtain ⟨g0, g1, g2⟩ := set3_cells (x := .int .i64 (limV (placeF x nn ps)).1) (y := .int .i64 (limV (placeF x nn ps)).2.1) (z := .slice ad4 (limV (placeF x nn ps)).2.2.length cap4) s0 s1 s2
  refine bodyPost_ret (v := .tuple #[.agg #[.int .i64 (limV (placeF x nn ps)).1, .int .i64 (limV (placeF x nn ps)).2.1, .slice ad4 (limV (placeF x nn ps)).2.2.length cap4], .int .i64 (limC (placeF x nn ps))]) (by simp [results, Try.results47, go_sem, g0, g1, g2]) rfl ⟨[.int .i64 (limV (placeF x nn ps)).1, .int .i64 (limV (placeF x nn ps)).2.1, .slice ad4 (limV (placeF x nn ps)).2.2.length cap4], by rw [HR.out.2], ?_, ?_⟩
  · rw [HR.out.1]
    exact (HF4.out.set3 (by omega)).mono (by omega)
  · exact set3_below (bthen hB1 hB34) (by omega)
end Go.Proofs.Ytadncmlfkoolkaa
