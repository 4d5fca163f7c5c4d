/-
  Contracts: valid instances and formulas, the program's.
-/
import Derived.Test.YtepebfpgmnidnaaK6
namespace Go.Proofs.Ytepebfpgmnidnaa
open Go.RowKit Go.Sort
theorem pure_below {P : Program} {f : FuncId} {args : Array Value} {w : World} {v : Value} (h : Calls P f args w fun e w' => e = .returned v ∧ w = w') :
    Calls P f args w fun e w' => e = .returned v ∧ Below w.heap.size w w' := h.mono fun _ _ ⟨he, hw⟩ => ⟨he, hw ▸ Below.refl _ _⟩
set_option maxHeartbeats 1600000 in
theorem ValidFormula1_any (w : World) {cs : Array Value} {c : Int × List Int} (h : opT.Rd w cs.toList c) {vt vx : Value} {t : Int × List (Int × List (List Int))} {x : Int × Int × List (Int × List Int)}
    (ht : tplT.Pt w vt t) (hxp : frmT.Pt w vx x) (h0 : 0 ≤ x.2.1) (h1 : x.2.1 ≤ 1000000000000) :
    Calls Try.prog 135 #[.agg cs, vt, vx] w fun e w' => e = .returned (.bool (!tb (atomOk t x.2.1 c))) ∧ Below w.heap.size w w' := by
  have hc := h
  obtain ⟨u, hv, hI, hu⟩ := pair_ex h
  obtain rfl := agg_of hv
  obtain ⟨b, o, ad, cap, rfl, hb, hI', c0, c1, hx⟩ := pt_pair ht
  obtain ⟨b', o', ad', cap', rfl, hb', -, -, c0', c1', -, -⟩ := pt_trip hxp
  have htr : tplT.Rd w (#[.int .i64 t.1, .slice ad t.2.length cap] : Array Value).toList t := pair_mk hI' hx
  clear h hv ht hxp
  cases h2 : (arOf t c.1 == 0)
  rotate_left
  · have HR : Hid ((!tb (atomOk t x.2.1 c)) = true) := by
      unfold Hid
      rw [tb_false (fun hh => hh.1 (eq_of_beq h2))]; rfl
    go_enter Try.func135, Try.ntmps135
    go_wp2_with fail
    generalize hW : w.alloc _ = wr
    have hB : Below w.heap.size w wr := hW ▸ bA
    have e0 : wr.cell? ⟨w.heap.size, 0, none⟩ = some (.int .i64 c.1) := by rw [← hW]; simp
    have d0 := (hB.cell hb).trans c0
    have d1 := (hB.cell hb).trans c1
    clear hW c0 c1 c0' c1'
    have k0 := cell_regrown e0
    have k1 := cell_regrown d0
    have k2 := cell_regrown d1
    have htr' := htr.below hB
    have cW : ∀ d os, Calls Try.prog 136 #[.agg #[.int .i64 t.1, .slice ad t.2.length cap], .int .i64 c.1] (grow (redrawn wr d) os) fun e w'' => e = .returned (.int .i64 (arOf t c.1)) ∧ ∃ p : Regrown, w'' = grow (redrawn wr p.d) p.os := fun d os =>
      Calls.regrown_of (arityOf_any _ (htr'.below (below_regrown _ d os)) _)
    refine wp_region_quiet_below (by kernel_rfl) (by kernel_rfl) ?_
    repeat (go_big_quiet_step (exact cW _ _))
    refine wpQuiet_nil ?_
    rintro w2 ⟨p, rfl⟩
    have hb2 := below_regrown wr p.d p.os
    go_wp2_with fail
    go_ret
    exact ⟨ret_bool HR.out.symm, bthen hB hb2⟩
  have HR : Hid ((!tb (rowOk x.2.1 (arOf t c.1) c.2)) = !tb (atomOk t x.2.1 c)) := by
    unfold Hid
    congr 1
    exact tb_congr ⟨fun hh => ⟨by simpa using h2, hh⟩, fun hh => hh.2⟩
  go_enter Try.func135, Try.ntmps135
  go_wp2_with fail
  generalize hW : w.alloc _ = wr
  have hB : Below w.heap.size w wr := hW ▸ bA
  have e0 : wr.cell? ⟨w.heap.size, 0, none⟩ = some (.int .i64 c.1) := by rw [← hW]; simp
  have e1 : wr.cell? ⟨w.heap.size, 1, none⟩ = some u := by rw [← hW]; simp
  have d0 := (hB.cell hb).trans c0
  have d1 := (hB.cell hb).trans c1
  have d1' := (hB.cell hb').trans c1'
  have hc' := hc.below hB
  have htr' := htr.below hB
  clear hW c0 c1 c0' c1'
  have k0 := cell_regrown e0
  have k0' := cell_regrown e1
  have k1 := cell_regrown d0
  have k2 := cell_regrown d1
  have k3 := cell_regrown d1'
  have cW : ∀ d os, Calls Try.prog 136 #[.agg #[.int .i64 t.1, .slice ad t.2.length cap], .int .i64 c.1] (grow (redrawn wr d) os) fun e w'' => e = .returned (.int .i64 (arOf t c.1)) ∧ ∃ p : Regrown, w'' = grow (redrawn wr p.d) p.os := fun d os =>
    Calls.regrown_of (arityOf_any _ (htr'.below (below_regrown _ d os)) _)
  have cV : ∀ d os, Calls Try.prog 137 #[.agg #[.int .i64 c.1, u], .int .i64 (arOf t c.1), .int .i64 x.2.1] (grow (redrawn wr d) os) fun e w'' => e = .returned (.bool (tb (rowOk x.2.1 (arOf t c.1) c.2))) ∧ ∃ p : Regrown, w'' = grow (redrawn wr p.d) p.os := fun d os =>
    Calls.regrown_of (isAtom_any _ (hc'.below (below_regrown _ d os)) _ _ h0 h1)
  refine wp_region_quiet_below (by kernel_rfl) (by kernel_rfl) ?_
  repeat (go_big_quiet_step (first | exact cW _ _ | exact cV _ _))
  refine wpQuiet_nil ?_
  rintro w2 ⟨p, rfl⟩
  have hb2 := below_regrown wr p.d p.os
  go_wp2_with fail
  go_ret
  exact ⟨ret_bool HR.out, bthen hB hb2⟩
theorem frmOk_any {t : Int × List (Int × List (List Int))} {f : Int × Int × List (Int × List Int)} (h0 : tplOk t) (h1 : frameOk f) : (!anyB (fun a => !tb (atomOk t f.2.1 a)) f.2.2) = tb (frmOk t f) := by
  rw [Bool.eq_iff_iff, tb_iff]
  simp only [anyB, frmOk, h0, h1, true_and, Bool.not_eq_true', List.any_eq_false, Bool.not_eq_false, tb_iff]
set_option maxHeartbeats 1600000 in
theorem ValidFormula_any (w : World) {cs cs' : Array Value} {t : Int × List (Int × List (List Int))} {x : Int × Int × List (Int × List Int)} (h : tplT.Rd w cs.toList t) (h' : frmT.Rd w cs'.toList x) :
    Calls Try.prog 64 #[.agg cs, .agg cs'] w fun e w' => e = .returned (.bool (tb (frmOk t x))) ∧ Below w.heap.size w w' := by
  have ht := h
  have hxx := h'
  obtain ⟨v, hv, hI, -⟩ := pair_ex h
  obtain rfl := agg_of hv
  obtain ⟨v', hv', hI', hI2', hx⟩ := trip_ex h'
  obtain rfl := agg_of hv'
  obtain ⟨ad, cap, rfl⟩ := rd_slice hx
  clear h hv h' hv'
  have p0 : tplT.Pt ((w.alloc (.cells #[.int .i64 t.1, v] 37)).alloc (.cells #[.int .i64 x.1, .int .i64 x.2.1, .slice ad x.2.2.length cap] 32)) (.pointer (some ⟨w.heap.size, 0, none⟩)) t := (pt_box ht).below bA
  have p1 : frmT.Pt ((w.alloc (.cells #[.int .i64 t.1, v] 37)).alloc (.cells #[.int .i64 x.1, .int .i64 x.2.1, .slice ad x.2.2.length cap] 32)) (.pointer (some ⟨w.heap.size + 1, 0, none⟩)) x := by
    simpa using pt_box (T := 32) (hxx.below (bA (o := .cells #[.int .i64 t.1, v] 37)))
  cases hT : tb (tplOk t)
  · go_enter Try.func64, Try.ntmps64
    go_wp2_with fail
    refine (ValidTemplate_any _ (ht.below (by repeat (first | exact Below.refl _ _ | exact bA | assumption | refine Below.setCell ?_ (by first | omega | (simp; try omega)) _ | refine Below.alloc ?_ (by first | omega | (simp; try omega)) _ | refine Below.drew ?_ | refine bDN ?_ | refine bthen ?_ (by assumption))))).mono ?_
    rintro e w1 ⟨rfl, hb1⟩
    rw [hT]
    go_wp2_with fail
    go_ret
    exact ⟨ret_bool (tb_false (fun hh => by have := tb_true hh.1; rw [hT] at this; cases this)).symm, bthen (by repeat (first | exact Below.refl _ _ | exact bA | assumption | refine Below.setCell ?_ (by first | omega | (simp; try omega)) _ | refine Below.alloc ?_ (by first | omega | (simp; try omega)) _ | refine Below.drew ?_ | refine bDN ?_ | refine bthen ?_ (by assumption))) hb1⟩
  have hT' := tb_iff.1 hT
  cases hF : tb (frameOk x)
  · clear hT'
    go_enter Try.func64, Try.ntmps64
    go_wp2_with fail
    refine (ValidTemplate_any _ (ht.below (by repeat (first | exact Below.refl _ _ | exact bA | assumption | refine Below.setCell ?_ (by first | omega | (simp; try omega)) _ | refine Below.alloc ?_ (by first | omega | (simp; try omega)) _ | refine Below.drew ?_ | refine bDN ?_ | refine bthen ?_ (by assumption))))).mono ?_
    rintro e w1 ⟨rfl, hb1⟩
    rw [hT]
    have q1 := p1.below hb1
    obtain ⟨_, _, ad2, cap2, hbo, z1, -, -, c0, c1, c2, hx1⟩ := pt_trip q1
    simp only [Value.pointer.injEq, Option.some.injEq, Addr.mk.injEq, and_true] at hbo
    obtain ⟨rfl, rfl⟩ := hbo
    have hB1 : Below w.heap.size w w1 := bthen (by repeat (first | exact Below.refl _ _ | exact bA | assumption | refine Below.setCell ?_ (by first | omega | (simp; try omega)) _ | refine Below.alloc ?_ (by first | omega | (simp; try omega)) _ | refine Below.drew ?_ | refine bDN ?_ | refine bthen ?_ (by assumption))) hb1
    have r1 : frmT.Rd w1 (#[.int .i64 x.1, .int .i64 x.2.1, .slice ad2 x.2.2.length cap2] : Array Value).toList x := trip_mk hI' hI2' hx1
    go_wp2_with fail
    refine (isFrame_any _ r1).mono ?_
    rintro e w2 ⟨rfl, hb2⟩
    rw [hF]
    go_wp2_with fail
    go_ret
    exact ⟨ret_bool (tb_false (fun hh => by have := tb_true hh.2.1; rw [hF] at this; cases this)).symm, bthen hB1 hb2⟩
  have hF' := tb_iff.1 hF
  have HT := Lib.hid (frmOk_any hT' hF')
  have hv1 : 0 ≤ x.2.1 := by have := hF'.1.1; have := hF'.2.1.1; omega
  have hv2 : x.2.1 ≤ 1000000000000 := by have := hF'.2.1.2; omega
  have HV := Lib.hid (And.intro hv1 hv2)
  clear hT' hF' hv1 hv2
  go_enter Try.func64, Try.ntmps64
  go_wp2_with fail
  refine (ValidTemplate_any _ (ht.below (by repeat (first | exact Below.refl _ _ | exact bA | assumption | refine Below.setCell ?_ (by first | omega | (simp; try omega)) _ | refine Below.alloc ?_ (by first | omega | (simp; try omega)) _ | refine Below.drew ?_ | refine bDN ?_ | refine bthen ?_ (by assumption))))).mono ?_
  rintro e w1 ⟨rfl, hb1⟩
  rw [hT]
  have hB1 : Below w.heap.size w w1 := bthen (by repeat (first | exact Below.refl _ _ | exact bA | assumption | refine Below.setCell ?_ (by first | omega | (simp; try omega)) _ | refine Below.alloc ?_ (by first | omega | (simp; try omega)) _ | refine Below.drew ?_ | refine bDN ?_ | refine bthen ?_ (by assumption))) hb1
  have q0 := p0.below hb1
  have q1 := p1.below hb1
  obtain ⟨_, _, ad2, cap2, hbo, z1, -, -, c0, c1, c2, hx1⟩ := pt_trip q1
  simp only [Value.pointer.injEq, Option.some.injEq, Addr.mk.injEq, and_true] at hbo
  obtain ⟨rfl, rfl⟩ := hbo
  have r1 : frmT.Rd w1 (#[.int .i64 x.1, .int .i64 x.2.1, .slice ad2 x.2.2.length cap2] : Array Value).toList x := trip_mk hI' hI2' hx1
  go_wp2_with fail
  refine (isFrame_any _ r1).mono ?_
  rintro e w2 ⟨rfl, hb2⟩
  rw [hF]
  have f2 := (hb2.cell z1).trans c2
  have q0' := q0.below hb2
  have q1' := q1.below hb2
  have hx2 := hx1.below hb2
  clear c0 c1 c2
  go_wp2_with fail
  refine (ContainsFuncAtom_any _ hx2 (fun c => !tb (atomOk t x.2.1 c)) 135 #[.pointer (some ⟨w.heap.size, 0, none⟩), .pointer (some ⟨w.heap.size + 1, 0, none⟩)] (enters Try.func135 (by kernel_rfl) rfl) (fun W hW k hk cs hcs => ValidFormula1_any W hcs (q0'.below hW) (q1'.below hW) HV.out.1 HV.out.2)).mono ?_
  rintro e w3 ⟨rfl, hb3⟩
  go_wp2_with fail
  go_ret
  exact ⟨ret_bool HT.out, bthen (bthen hB1 hb2) hb3⟩
end Go.Proofs.Ytepebfpgmnidnaa
