/-
  Contracts: hiding a variable of a formula: the program's.
-/
import Derived.Test.YtadncmlfkoolkaaK15
namespace Go.Proofs.Ytadncmlfkoolkaa
open Go.RowKit Go.Sort
theorem HideVariable1_any (w : World) (a n vars : Int) (b1 b2 : Nat) (h1 : w.cell? ⟨b1, 0, none⟩ = some (.int .i64 n)) (h2 : w.cell? ⟨b2, 1, none⟩ = some (.int .i64 vars)) (h3 : 0 ≤ a ∧ a ≤ 1000) (h4 : 0 ≤ vars ∧ vars ≤ 1000) :
    Calls Try.prog 103 #[.int .i64 a, .pointer (some ⟨b1, 0, none⟩), .pointer (some ⟨b2, 0, none⟩)] w fun e w' => e = .returned (.int .i64 (hideTo vars n a)) ∧ w = w' := by
  rcases Int.lt_trichotomy a n with hc | hc | hc
  · have HE := Lib.hid (hideTo_lt (vars := vars) hc)
    go_enter Try.func103, Try.ntmps103
    go_wp2_with fail
    go_ret
    exact ⟨ret_int HE.out.symm, rfl⟩
  · have HE := Lib.hid (hideTo_eq (vars := vars) hc)
    go_enter Try.func103, Try.ntmps103
    go_wp2_with fail
    go_ret
    exact ⟨ret_int HE.out.symm, rfl⟩
  · have HE := Lib.hid (hideTo_gt (vars := vars) hc)
    go_enter Try.func103, Try.ntmps103
    go_wp2_with fail
    go_ret
    exact ⟨ret_int HE.out.symm, rfl⟩
set_option maxHeartbeats 3200000 in
set_option maxRecDepth 100000 in
theorem HideVariable_any (w : World) {cs cs' : Array Value} {t : Int × List (Int × List (List Int))} {x : Int × Int × List (Int × List Int)} (h : tplT.Rd w cs.toList t) (h' : frmT.Rd w cs'.toList x) {n : Int} :
    Calls Try.prog 50 #[.agg cs, .agg cs', .int .i64 n] w (RetAC frmT w (hideV t x n) (hideC t x n)) := by
  have ht := h
  have hf0 := h'
  obtain ⟨u, hv, hI, -⟩ := pair_ex h
  obtain rfl := agg_of hv
  obtain ⟨u', hv', hI', hI2, hxx⟩ := trip_ex h'
  obtain rfl := agg_of hv'
  obtain ⟨ax, cx, rfl⟩ := rd_slice hxx
  clear h hv h' hv'
  cases hT : tb (frmOk t x)
  · have HR := Lib.hid (hide_1 (v := n) hT)
    go_enter Try.func50, Try.ntmps50
    go_wp2_with fail
    refine (ValidFormula_any _ (ht.below (by repeat (first | exact Below.refl _ _ | exact bA | assumption | refine Below.setCell ?_ (by first | omega | (simp; try omega)) _ | refine Below.alloc ?_ (by first | omega | (simp; try omega)) _ | refine Below.drew ?_ | refine bDN ?_ | refine bthen ?_ (by assumption)))) (hf0.below (by repeat (first | exact Below.refl _ _ | exact bA | assumption | refine Below.setCell ?_ (by first | omega | (simp; try omega)) _ | refine Below.alloc ?_ (by first | omega | (simp; try omega)) _ | refine Below.drew ?_ | refine bDN ?_ | refine bthen ?_ (by assumption))))).mono ?_
    rintro e w1 ⟨rfl, hb1⟩
    rw [hT]
    obtain ⟨q1, q2⟩ := bcell hb1
    have hz1 : w.heap.size + 4 ≤ w1.heap.size := by have := hb1.size; simp at this; omega
    go_wp2_with fail
    refine bodyPost_ret (v := .tuple #[.agg #[.int .i64 0, .int .i64 0, .slice none 0 0], .int .i64 1]) (by simp [results, Try.results50, go_sem, q1]) rfl ⟨[.int .i64 0, .int .i64 0, .slice none 0 0], by rw [HR.out.2], by rw [HR.out.1]; exact fr_frm0, (by repeat (first | exact Below.refl _ _ | exact bA | assumption | refine Below.setCell ?_ (by first | omega | (simp; try omega)) _ | refine Below.alloc ?_ (by first | omega | (simp; try omega)) _ | refine Below.drew ?_ | refine bDN ?_ | refine bthen ?_ (by assumption)))⟩
  obtain ⟨k1, k2, k3, k4, k5⟩ := frm_bd hT
  cases hA : inB n 0 (x.1 - 1)
  · have HR := Lib.hid (hide_2 hT hA)
    go_enter Try.func50, Try.ntmps50
    go_wp2_with fail
    refine (ValidFormula_any _ (ht.below (by repeat (first | exact Below.refl _ _ | exact bA | assumption | refine Below.setCell ?_ (by first | omega | (simp; try omega)) _ | refine Below.alloc ?_ (by first | omega | (simp; try omega)) _ | refine Below.drew ?_ | refine bDN ?_ | refine bthen ?_ (by assumption)))) (hf0.below (by repeat (first | exact Below.refl _ _ | exact bA | assumption | refine Below.setCell ?_ (by first | omega | (simp; try omega)) _ | refine Below.alloc ?_ (by first | omega | (simp; try omega)) _ | refine Below.drew ?_ | refine bDN ?_ | refine bthen ?_ (by assumption))))).mono ?_
    rintro e w1 ⟨rfl, hb1⟩
    rw [hT]
    obtain ⟨q1, q2⟩ := bcell hb1
    have hz1 : w.heap.size + 4 ≤ w1.heap.size := by have := hb1.size; simp at this; omega
    go_wp2_with fail
    refine (within_any _ _ _ _).mono ?_
    rintro e _ ⟨rfl, rfl⟩
    rw [hA]
    go_wp2_with fail
    refine bodyPost_ret (v := .tuple #[.agg #[.int .i64 0, .int .i64 0, .slice none 0 0], .int .i64 2]) (by simp [results, Try.results50, go_sem, q1]) rfl ⟨[.int .i64 0, .int .i64 0, .slice none 0 0], by rw [HR.out.2], by rw [HR.out.1]; exact fr_frm0, (by repeat (first | exact Below.refl _ _ | exact bA | assumption | refine Below.setCell ?_ (by first | omega | (simp; try omega)) _ | refine Below.alloc ?_ (by first | omega | (simp; try omega)) _ | refine Below.drew ?_ | refine bDN ?_ | refine bthen ?_ (by assumption)))⟩
  cases hO : (x.1 == 1)
  rotate_left
  · have HR := Lib.hid (hide_4 hT hA hO)
    have HO := Lib.hid hO
    clear hO
    go_enter Try.func50, Try.ntmps50
    go_wp2_with fail
    refine (ValidFormula_any _ (ht.below (by repeat (first | exact Below.refl _ _ | exact bA | assumption | refine Below.setCell ?_ (by first | omega | (simp; try omega)) _ | refine Below.alloc ?_ (by first | omega | (simp; try omega)) _ | refine Below.drew ?_ | refine bDN ?_ | refine bthen ?_ (by assumption)))) (hf0.below (by repeat (first | exact Below.refl _ _ | exact bA | assumption | refine Below.setCell ?_ (by first | omega | (simp; try omega)) _ | refine Below.alloc ?_ (by first | omega | (simp; try omega)) _ | refine Below.drew ?_ | refine bDN ?_ | refine bthen ?_ (by assumption))))).mono ?_
    rintro e w1 ⟨rfl, hb1⟩
    rw [hT]
    obtain ⟨q1, q2⟩ := bcell hb1
    have hz1 : w.heap.size + 4 ≤ w1.heap.size := by have := hb1.size; simp at this; omega
    go_wp2_with fail
    refine (within_any _ _ _ _).mono ?_
    rintro e _ ⟨rfl, rfl⟩
    rw [hA]
    have hO' : x.1 = 1 := by simpa using HO.out
    go_wp2_with fail
    refine bodyPost_ret (v := .tuple #[.agg #[.int .i64 0, .int .i64 0, .slice none 0 0], .int .i64 4]) (by simp [results, Try.results50, go_sem, q1]) rfl ⟨[.int .i64 0, .int .i64 0, .slice none 0 0], by rw [HR.out.2], by rw [HR.out.1]; exact fr_frm0, (by repeat (first | exact Below.refl _ _ | exact bA | assumption | refine Below.setCell ?_ (by first | omega | (simp; try omega)) _ | refine Below.alloc ?_ (by first | omega | (simp; try omega)) _ | refine Below.drew ?_ | refine bDN ?_ | refine bthen ?_ (by assumption)))⟩
  have HR := Lib.hid (hide_0 hT hA hO)
  have hO' : ¬ x.1 = 1 := by simpa using hO
  have hA2 := inB_true.1 hA
  have K5 := Lib.hid k5
  clear k5
  go_enter Try.func50, Try.ntmps50
  go_wp2_with fail
  refine (ValidFormula_any _ (ht.below (by repeat (first | exact Below.refl _ _ | exact bA | assumption | refine Below.setCell ?_ (by first | omega | (simp; try omega)) _ | refine Below.alloc ?_ (by first | omega | (simp; try omega)) _ | refine Below.drew ?_ | refine bDN ?_ | refine bthen ?_ (by assumption)))) (hf0.below (by repeat (first | exact Below.refl _ _ | exact bA | assumption | refine Below.setCell ?_ (by first | omega | (simp; try omega)) _ | refine Below.alloc ?_ (by first | omega | (simp; try omega)) _ | refine Below.drew ?_ | refine bDN ?_ | refine bthen ?_ (by assumption))))).mono ?_
  rintro e w1 ⟨rfl, hb1⟩
  rw [hT]
  obtain ⟨q1, q2⟩ := bcell hb1
  have hz1 : w.heap.size + 4 ≤ w1.heap.size := by have := hb1.size; simp at this; omega
  have hB1 : Below w.heap.size w w1 := bthen (by repeat (first | exact Below.refl _ _ | exact bA | assumption | refine Below.setCell ?_ (by first | omega | (simp; try omega)) _ | refine Below.alloc ?_ (by first | omega | (simp; try omega)) _ | refine Below.drew ?_ | refine bDN ?_ | refine bthen ?_ (by assumption))) hb1
  have c0 : w1.cell? ⟨w.heap.size + 1, 0, none⟩ = some (.int .i64 x.1) := (hb1.cell (by simp [go_sem]; try omega)).trans (by simp [go_sem])
  have c1 : w1.cell? ⟨w.heap.size + 1, 1, none⟩ = some (.int .i64 x.2.1) := (hb1.cell (by simp [go_sem]; try omega)).trans (by simp [go_sem])
  have c2 : w1.cell? ⟨w.heap.size + 1, 2, none⟩ = some (.slice ax x.2.2.length cx) := (hb1.cell (by simp [go_sem]; try omega)).trans (by simp [go_sem])
  have r0 : w1.cell? ⟨w.heap.size + 3, 0, none⟩ = some (.int .i64 0) := (hb1.cell (by simp [go_sem])).trans (by simp [go_sem])
  have r1 : w1.cell? ⟨w.heap.size + 3, 1, none⟩ = some (.int .i64 0) := (hb1.cell (by simp [go_sem])).trans (by simp [go_sem])
  have r2 : w1.cell? ⟨w.heap.size + 3, 2, none⟩ = some (.slice none 0 0) := (hb1.cell (by simp [go_sem])).trans (by simp [go_sem])
  have m0 : w1.frozen? ⟨w.heap.size + 3, 0, none⟩ = false := (hb1.frozen (by simp [go_sem])).trans (by simp [go_sem])
  have m1 : w1.frozen? ⟨w.heap.size + 3, 1, none⟩ = false := (hb1.frozen (by simp [go_sem])).trans (by simp [go_sem])
  have m2 : w1.frozen? ⟨w.heap.size + 3, 2, none⟩ = false := (hb1.frozen (by simp [go_sem])).trans (by simp [go_sem])
  have hx1 : opsT.Rd w1 [.slice ax x.2.2.length cx] x.2.2 := hxx.below hB1
  have n0 : w1.cell? ⟨w.heap.size + 2, 0, none⟩ = some (.int .i64 n) := (hb1.cell (by simp [go_sem])).trans (by simp [go_sem])
  clear hb1 q1 q2 hxx
  go_wp2_with fail
  refine (within_any _ _ _ _).mono ?_
  rintro e _ ⟨rfl, rfl⟩
  rw [hA]
  go_wp2_with fail
  have hto : Hid (∀ W a, Below w1.heap.size w1 W → (∃ c ∈ x.2.2, a ∈ c.2) → Calls Try.prog 103 (#[.int .i64 a] ++ #[.pointer (some ⟨w.heap.size + 2, 0, none⟩), .pointer (some ⟨w.heap.size + 1, 0, none⟩)]) W fun e w' => e = .returned (.int .i64 (hideTo x.2.1 n a)) ∧ W = w') := by
    intro W a hW ⟨c, hc, ha⟩
    have h5 := (K5.out c hc).1 a ha
    exact HideVariable1_any W a n x.2.1 _ _ ((hW.cell (show w.heap.size + 2 < w1.heap.size by omega)).trans n0) ((hW.cell (show w.heap.size + 1 < w1.heap.size by omega)).trans c1) (by omega) (by omega)
  have hG : ∀ c ∈ x.2.2, (∀ a ∈ c.2, I64 (hideTo x.2.1 n a)) ∧ c.2.length ≤ 1000000 := fun c hc => ⟨fun a ha => hideTo_I (by have := (K5.out c hc).1 a ha; omega) (by omega), by have := (K5.out c hc).2; omega⟩
  have HGH := Lib.hid hG
  have hlt0 : w.heap.size + 3 < w1.heap.size := by omega
  have hlt1 : w.heap.size + 1 < w1.heap.size := by omega
  clear hG
  refine (renamed_any _ hx1 103 _ (enters Try.func103 (by kernel_rfl) rfl) (hideTo x.2.1 n) hto HGH.out (by omega)).mono ?_
  rintro e w2 ⟨u2, rfl, hf, hb2⟩
  obtain ⟨ad2, nv2, cap2, rfl⟩ := ex_slice hf
  have HF := Lib.hid hf
  have s0 := (hb2.cell hlt0).trans r0
  have s1 := (hb2.cell hlt0).trans r1
  have s2 := (hb2.cell hlt0).trans r2
  have t0 := (hb2.frozen hlt0).trans m0
  have t1 := (hb2.frozen hlt0).trans m1
  have t2 := (hb2.frozen hlt0).trans m2
  have d0 := (hb2.cell hlt1).trans c0
  have d1 := (hb2.cell hlt1).trans c1
  have hz2 := hb2.size
  have hlt3 : w.heap.size + 3 < w2.heap.size := by omega
  have hlt4 : w.heap.size + 1 < w2.heap.size := by omega
  clear hf hto hx1 r0 r1 r2 m0 m1 m2 c0 c1 c2 n0
  go_wp2_with fail
  obtain ⟨g0, g1, g2⟩ := set3_cells (x := .int .i64 (x.1 - 1)) (y := .int .i64 x.2.1) (z := .slice ad2 nv2 cap2) s0 s1 s2
  refine bodyPost_ret (v := .tuple #[.agg #[.int .i64 (x.1 - 1), .int .i64 x.2.1, .slice ad2 nv2 cap2], .int .i64 0]) (by simp [results, Try.results50, go_sem, g0, g1, g2]) rfl ⟨[.int .i64 (x.1 - 1), .int .i64 x.2.1, .slice ad2 nv2 cap2], by rw [HR.out.2], ?_, ?_⟩
  · rw [HR.out.1]
    exact (fr_cons (I64.small (by omega) (by omega)) (fr_cons hI2 (HF.out.set3 (by omega)))).mono (by omega)
  · exact set3_below (bthen hB1 hb2) (by omega)
end Go.Proofs.Ytadncmlfkoolkaa
