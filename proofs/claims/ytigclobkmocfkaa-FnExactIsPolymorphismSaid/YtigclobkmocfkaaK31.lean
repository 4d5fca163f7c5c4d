/-
  Contracts: whether an operation is a polymorphism, both sides.
-/
import Derived.Test.YtigclobkmocfkaaK30
import Derived.Test.YtigclobkmocfkaaKL
namespace Go.Proofs.Ytigclobkmocfkaa
open Go.RowKit Go.Sort
theorem firstI_lo {α : Type} (p : α → Bool) (xs : List α) : -1 ≤ firstI p xs := by
  unfold firstI
  cases xs.findIdx? p with
  | none => exact Int.le_refl _
  | some i => show (-1 : Int) ≤ i; omega
theorem brokenI_lo {t : Int × List (Int × List (List Int))} {f : Int × List Int} : -1 ≤ brokenI t f := firstI_lo _ _
noncomputable def polyOk (t : Int × List (Int × List (List Int))) (f : Int × List Int) : Bool := tb (tplOk t) && tb (opOk t.1 f)
noncomputable def polyB (t : Int × List (Int × List (List Int))) (f : Int × List Int) : Bool := polyOk t f && decide (brokenI t f < 0)
noncomputable def polyC (t : Int × List (Int × List (List Int))) (f : Int × List Int) : Int := if polyOk t f then 0 else 1
theorem poly_no {t : Int × List (Int × List (List Int))} {f : Int × List Int} (h : polyOk t f = false) : Ending.returned (.tuple #[.bool false, .int .i64 1]) = .returned (.tuple #[.bool (polyB t f), .int .i64 (polyC t f)]) := by
  rw [polyB, polyC, h]; rfl
theorem poly_yes {t : Int × List (Int × List (List Int))} {f : Int × List Int} (h : polyOk t f = true) {b : Bool} (hb : b = decide (brokenI t f < 0)) : Ending.returned (.tuple #[.bool b, .int .i64 0]) = .returned (.tuple #[.bool (polyB t f), .int .i64 (polyC t f)]) := by
  rw [polyB, polyC, h, hb]; rfl
theorem firstBroken1_any (w : World) {cs : Array Value} {r : Int × List (List Int)} (h : relT.Rd w cs.toList r) {s : Int} {f : Int × List Int} (b1 b2 : Nat) (hb1 : b1 < w.heap.size) (hb2 : b2 < w.heap.size) (c0 : w.cell? ⟨b1, 0, none⟩ = some (.int .i64 s))
    {fa : Option Addr} {fn fc : Nat} (c1 : w.cell? ⟨b2, 0, none⟩ = some (.int .i64 f.1)) (c2 : w.cell? ⟨b2, 1, none⟩ = some (.slice fa fn fc)) (hf : opT.Rd w [.int .i64 f.1, .slice fa fn fc] f) (hr : relOk s r) (hF : opOk s f) :
    Calls Try.prog 162 #[.agg cs, .pointer (some ⟨b1, 0, none⟩), .pointer (some ⟨b2, 0, none⟩)] w fun e w' => e = .returned (.bool (!tb (keepsP s f r))) ∧ Below w.heap.size w w' := by
  have HX := Lib.hid h
  obtain ⟨v, hv, hI, -⟩ := pair_ex h
  obtain rfl := agg_of hv
  have HR := Lib.hid hr
  have HF := Lib.hid hF
  have HF0 := Lib.hid hf
  clear h hv hr hF hf
  go_enter Try.func162, Try.ntmps162
  go_wp2_with fail
  refine (keeps_any (cs := #[.int .i64 f.1, .slice fa fn fc]) _ (HF0.out.below bA) (HX.out.below bA) HR.out HF.out).mono ?_
  rintro e w1 ⟨rfl, hb⟩
  go_wp2_with fail
  go_ret
  exact ⟨rfl, (by repeat (first | exact Below.refl _ _ | exact bA | assumption | refine Below.setCell ?_ (by first | omega | (simp; try omega)) _ | refine Below.alloc ?_ (by first | omega | (simp; try omega)) _ | refine Below.drew ?_ | refine bDN ?_ | refine bthen ?_ (by assumption)))⟩
set_option maxHeartbeats 1600000 in
theorem firstBroken_any (w : World) {cs cs' : Array Value} {t : Int × List (Int × List (List Int))} {f : Int × List Int} (h : tplT.Rd w cs.toList t) (h' : opT.Rd w cs'.toList f) (hT : tplOk t) (hF : opOk t.1 f) :
    Calls Try.prog 76 #[.agg cs, .agg cs'] w fun e w' => e = .returned (.int .i64 (brokenI t f)) ∧ Below w.heap.size w w' := by
  have HF0 := Lib.hid h'
  obtain ⟨v1, hv, hI, hx⟩ := pair_ex h
  obtain rfl := agg_of hv
  obtain ⟨ad, cap, rfl⟩ := rd_slice hx
  obtain ⟨v2, hv', hI', hx'⟩ := pair_ex h'
  obtain rfl := agg_of hv'
  obtain ⟨fa, fn, fc, rfl⟩ := rd_sl hx'
  have HT := Lib.hid hT
  have HF := Lib.hid hF
  clear h hv h' hv' hT hF hx'
  go_enter Try.func76, Try.ntmps76
  go_wp2_with fail
  generalize hW : (w.alloc _).alloc _ = W
  have hbW : Below w.heap.size w W := hW ▸ bAA
  have hsW : w.heap.size + 2 ≤ W.heap.size := by rw [← hW]; simp
  have x0 : W.cell? ⟨w.heap.size, 0, none⟩ = some (.int .i64 t.1) := by rw [← hW]; simp
  have y0 : W.cell? ⟨w.heap.size + 1, 0, none⟩ = some (.int .i64 f.1) := by rw [← hW]; simp
  have y1 : W.cell? ⟨w.heap.size + 1, 1, none⟩ = some (.slice fa fn fc) := by rw [← hW]; simp
  have l0 : w.heap.size < W.heap.size := by omega
  have l1 : w.heap.size + 1 < W.heap.size := by omega
  clear hW
  refine (IndexFuncRel_any _ (hx.below hbW) (fun r => !tb (keepsP t.1 f r)) 162 #[.pointer (some ⟨w.heap.size, 0, none⟩), .pointer (some ⟨w.heap.size + 1, 0, none⟩)] (enters Try.func162 (by kernel_rfl) rfl) (fun W' hW k hk cs hcs => firstBroken1_any W' hcs _ _ (by have := hW.size; omega) (by have := hW.size; omega) ((hW.cell l0).trans x0) ((hW.cell l1).trans y0) ((hW.cell l1).trans y1) ((HF0.out.below hbW).below hW) (HT.out.2.2 _ (List.getElem_mem hk)) HF.out)).mono ?_
  rintro e w1 ⟨rfl, hb1⟩
  go_wp2_with fail
  go_ret
  exact ⟨rfl, bthen hbW hb1⟩
set_option maxHeartbeats 1600000 in
theorem IsPolymorphism_any (w : World) {cs cs' : Array Value} {t : Int × List (Int × List (List Int))} {f : Int × List Int} (h : tplT.Rd w cs.toList t) (h' : opT.Rd w cs'.toList f) :
    Calls Try.prog 20 #[.agg cs, .agg cs'] w fun e w' => e = .returned (.tuple #[.bool (polyB t f), .int .i64 (polyC t f)]) ∧ Below w.heap.size w w' := by
  have HT0 := Lib.hid h
  have HF0 := Lib.hid h'
  obtain ⟨v1, hv, hI, -⟩ := pair_ex h
  obtain rfl := agg_of hv
  obtain ⟨v2, hv', hI', -⟩ := pair_ex h'
  obtain rfl := agg_of hv'
  clear h hv h' hv'
  go_enter Try.func20, Try.ntmps20
  go_wp2_with fail
  generalize hW : (w.alloc _).alloc _ = W
  have hbW : Below w.heap.size w W := hW ▸ bAA
  have hsW : w.heap.size + 2 ≤ W.heap.size := by rw [← hW]; simp
  have x0 : W.cell? ⟨w.heap.size, 0, none⟩ = some (.int .i64 t.1) := by rw [← hW]; simp
  have x1 : W.cell? ⟨w.heap.size, 1, none⟩ = some v1 := by rw [← hW]; simp
  have y0 : W.cell? ⟨w.heap.size + 1, 0, none⟩ = some (.int .i64 f.1) := by rw [← hW]; simp
  have y1 : W.cell? ⟨w.heap.size + 1, 1, none⟩ = some v2 := by rw [← hW]; simp
  have l0 : w.heap.size < W.heap.size := by omega
  have l1 : w.heap.size + 1 < W.heap.size := by omega
  clear hW
  refine (ValidTemplate_any _ (HT0.out.below hbW)).mono ?_
  rintro e w1 ⟨rfl, hb1⟩
  have hB1 := bthen hbW hb1
  have a0 := (hb1.cell l0).trans x0
  have a1 := (hb1.cell l0).trans x1
  have b0 := (hb1.cell l1).trans y0
  have b1 := (hb1.cell l1).trans y1
  clear x0 x1 y0 y1
  cases hT : tb (tplOk t)
  · have HN : Hid (polyOk t f = false) := by unfold Hid; rw [polyOk, hT]; rfl
    clear hT
    go_wp2_with fail
    go_ret2
    exact ⟨poly_no HN.out, hB1⟩
  go_wp2_with fail
  refine (ValidOp_any _ (HF0.out.below hB1) t.1).mono ?_
  rintro e w2 ⟨rfl, hb2⟩
  have hB2 := bthen hB1 hb2
  have l2 : w.heap.size < w1.heap.size := by have := hb1.size; omega
  have l3 : w.heap.size + 1 < w1.heap.size := by have := hb1.size; omega
  have c0 := (hb2.cell l2).trans a0
  have c1 := (hb2.cell l2).trans a1
  have d0 := (hb2.cell l3).trans b0
  have d1 := (hb2.cell l3).trans b1
  clear a0 a1 b0 b1
  cases hF : tb (opOk t.1 f)
  · have HN : Hid (polyOk t f = false) := by unfold Hid; rw [polyOk, hT, hF]; rfl
    clear hT hF
    go_wp2_with fail
    go_ret2
    exact ⟨poly_no HN.out, hB2⟩
  have HN : Hid (polyOk t f = true) := by unfold Hid; rw [polyOk, hT, hF]; rfl
  have HT := Lib.hid (tb_iff.1 hT)
  have HF := Lib.hid (tb_iff.1 hF)
  clear hT hF
  go_wp2_with fail
  refine (firstBroken_any _ (HT0.out.below hB2) (HF0.out.below hB2) HT.out HF.out).mono ?_
  rintro e w3 ⟨rfl, hb3⟩
  go_wp2_with fail
  go_ret2
  exact ⟨poly_yes HN.out rfl, bthen hB2 hb3⟩
set_option maxHeartbeats 1600000 in
theorem specIsPolymorphism_any (w : World) {cs cs' : Array Value} {t : Int × List (Int × List (List Int))} {f : Int × List Int} (h : tplT.Rd w cs.toList t) (h' : opT.Rd w cs'.toList f) :
    Calls Try.prog 17 #[.agg cs, .agg cs'] w fun e w' => e = .returned (.tuple #[.bool (polyB t f), .int .i64 (polyC t f)]) ∧ Below w.heap.size w w' := by
  have p0 : tplT.Pt ((w.alloc (.cells cs 34)).alloc (.cells cs' 36)) (.pointer (some ⟨w.heap.size, 0, none⟩)) t := (pt_box h).below bA
  have p1 : opT.Pt ((w.alloc (.cells cs 34)).alloc (.cells cs' 36)) (.pointer (some ⟨w.heap.size + 1, 0, none⟩)) f := by
    simpa using pt_box (T := 36) (h'.below (bA (o := .cells cs 34)))
  obtain ⟨v1, hv, hI, -⟩ := pair_ex h
  obtain rfl := agg_of hv
  obtain ⟨v2, hv', hI', -⟩ := pair_ex h'
  obtain rfl := agg_of hv'
  clear h hv h' hv'
  go_enter Try.func17, Try.ntmps17
  go_wp2_with fail
  generalize hW : (w.alloc _).alloc _ = W at p0 p1 ⊢
  have hbW : Below w.heap.size w W := hW ▸ bAA
  have x0 : W.cell? ⟨w.heap.size, 0, none⟩ = some (.int .i64 t.1) := by rw [← hW]; simp
  have P0 := Lib.hid p0
  have P1 := Lib.hid p1
  have l0 : w.heap.size < W.heap.size := by rw [← hW]; simp; omega
  clear hW p0 p1
  refine (l01Template_quiet _ P0.out).mono ?_
  rintro e w1 ⟨rfl, hq1⟩
  have hb1 := hq1.below
  have hB1 := bthen hbW hb1
  have a0 := (hb1.cell l0).trans x0
  clear x0
  cases hT : tb (tplOk t)
  · have HN : Hid (polyOk t f = false) := by unfold Hid; rw [polyOk, hT]; rfl
    clear hT
    go_wp2_with fail
    go_ret2
    exact ⟨poly_no HN.out, hB1⟩
  go_wp2_with fail
  refine (l02Ok_quiet _ (P1.out.below hb1) t.1).mono ?_
  rintro e w2 ⟨rfl, hq2⟩
  have hb2 := hq2.below
  have hB2 := bthen hB1 hb2
  cases hF : tb (opOk t.1 f)
  · have HN : Hid (polyOk t f = false) := by unfold Hid; rw [polyOk, hT, hF]; rfl
    clear hT hF
    go_wp2_with fail
    go_ret2
    exact ⟨poly_no HN.out, hB2⟩
  have HN : Hid (polyOk t f = true) := by unfold Hid; rw [polyOk, hT, hF]; rfl
  have HT := Lib.hid (tb_iff.1 hT)
  have HF := Lib.hid (tb_iff.1 hF)
  clear hT hF
  go_wp2_with fail
  refine (l02First_any _ (P0.out.below (bthen hb1 hb2)) (P1.out.below (bthen hb1 hb2)) HT.out HF.out).mono ?_
  rintro e w3 ⟨rfl, hb3⟩
  have HD : Hid ((brokenI t f == -1) = decide (brokenI t f < 0)) := by
    unfold Hid
    have := brokenI_lo (t := t) (f := f)
    rw [Bool.eq_iff_iff]
    simp
    omega
  go_wp2_with fail
  go_ret2
  exact ⟨poly_yes HN.out HD.out, bthen hB2 hb3⟩
end Go.Proofs.Ytigclobkmocfkaa
