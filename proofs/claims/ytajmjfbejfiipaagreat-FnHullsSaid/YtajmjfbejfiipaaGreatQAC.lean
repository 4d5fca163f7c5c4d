/-
Contracts: valid instances and formulas, the program's.
Contracts: valid instances and formulas, the reference's.
Contracts: valid operations.
Contracts: the tuple that an operation makes of tuples.
The order of tuples; tuples at places; search in a relation.
Contracts: the tuple that an operation makes of tuples, the reference's.
Rows whose elements point into older memory of the call's own: they read as new data. No program is named here.
Rows of truth values; rows of slices that lie in older memory; indices of lists are one to one.
Plain: a relation that has all tuples; what an operation makes of tuples of a relation; whether it keeps the relation.
Contracts: the set of a relation's tuples, the reference's.
Contracts: the set of a relation's tuples, filled.
Constraints that hold for values: the program's and the reference's.
Marks: what a write into all numbers of a datum's memory changes, and what the datum then reads as. No program is named here.
Contracts: counting lists, formulas of one atom; results that lie in new memory.
Contracts: atoms whose variables are renamed.
Contracts: hiding a variable of a formula: the reference's.
Contracts: hiding a variable of a formula: the program's.
Contracts: hiding a variable of a formula: the program's.
Contracts: a copy of a list by append, the limits of formulas; the law of an append of many numbers.
-/
import Derived.Test.YtajmjfbejfiipaaGreatQAB
import Derived.Test.YtajmjfbejfiipaaGreatQAA
import Derived.Deep.RegionHeldLaw
import Derived.Deep.RegionLaw
namespace Go.Proofs.YtajmjfbejfiipaaGreat
open Go.RowKit Go.Sort
theorem pure_below {P : Program} {f : FuncId} {args : Array Value} {w : World} {v : Value} (h : Calls P f args w fun e w' => e = .returned v ∧ w = w') :
  Calls P f args w fun e w' => e = .returned v ∧ Below w.heap.size w w' := h.mono fun _ _ ⟨he, hw⟩ => ⟨he, hw ▸ Below.refl _ _⟩
set_option maxHeartbeats 1600000 in
theorem ValidFormula1_any (w : World) {cs : Array Value} {c : Int × List Int} (h : opT.Rd w cs.toList c) {vt vx : Value} {t : Int × List (Int × List (List Int))} {x : Int × Int × List (Int × List Int)}
  (ht : tplT.Pt w vt t) (hxp : frmT.Pt w vx x) (h0 : 0 ≤ x.2.1) (h1 : x.2.1 ≤ 1000000000000) :
  Calls Tryz.prog 152 #[.agg cs, vt, vx] w fun e w' => e = .returned (.bool (!tb (atomOk t x.2.1 c))) ∧ Below w.heap.size w w' := by
 have hc := h
 obtain ⟨u, hv, hI, hu⟩ := pair_ex h
 obtain rfl := agg_of hv
 obtain ⟨b, o, ad, cap, rfl, hb, hI', c0, c1, hx⟩ := pt_pair ht
 obtain ⟨b', o', ad', cap', rfl, hb', -, -, c0', c1', -, -⟩ := pt_trip hxp
 have htr : tplT.Rd w (#[.int .i64 t.1, .slice ad t.2.length cap] : Array Value).toList t := pair_mk hI' hx
 clear h hv ht hxp
 cases h2 : (arOf t c.1 == 0)
 rotate_left
 ·have HR : Hid ((!tb (atomOk t x.2.1 c)) = true) := by
   unfold Hid
   rw [tb_false (fun hh => hh.1 (eq_of_beq h2))]; rfl
  go_enter Tryz.func152, Tryz.ntmps152
  go_wp2_with fail
  generalize hW : w.alloc _ = wr
  have hB : Below w.heap.size w wr := hW ▸ bA
  have e0 : wr.cell? ⟨w.heap.size, 0, none⟩ = some (.int .i64 c.1) := by rw [← hW]; simp
  have d0 := (hB.cell hb).trans c0
  have d1 := (hB.cell hb).trans c1
  clear hW c0 c1 c0' c1'
  have k0 := cell_regrown e0
  have k1 := cell_regrown d0
  have k2 := cell_regrown d1
  have htr' := htr.below hB
  have cW : ∀ d os, Calls Tryz.prog 153 #[.agg #[.int .i64 t.1, .slice ad t.2.length cap], .int .i64 c.1] (grow (redrawn wr d) os) fun e w'' => e = .returned (.int .i64 (arOf t c.1)) ∧ ∃ p : Regrown, w'' = grow (redrawn wr p.d) p.os := fun d os =>
   Calls.regrown_of (arityOf_any _ (htr'.below (below_regrown _ d os)) _)
  refine wp_region_quiet_below (by kernel_rfl) (by kernel_rfl) ?_
  repeat (go_big_quiet_step (exact cW _ _))
  refine wpQuiet_nil ?_
  rintro w2 ⟨p, rfl⟩
  have hb2 := below_regrown wr p.d p.os
  go_wp2_with fail
  go_ret
  exact ⟨ret_bool HR.out.symm, bthen hB hb2⟩
 have HR : Hid ((!tb (rowOk x.2.1 (arOf t c.1) c.2)) = !tb (atomOk t x.2.1 c)) := by
  unfold Hid
  congr 1
  exact tb_congr ⟨fun hh => ⟨by simpa using h2, hh⟩, fun hh => hh.2⟩
 go_enter Tryz.func152, Tryz.ntmps152
 go_wp2_with fail
 generalize hW : w.alloc _ = wr
 have hB : Below w.heap.size w wr := hW ▸ bA
 have e0 : wr.cell? ⟨w.heap.size, 0, none⟩ = some (.int .i64 c.1) := by rw [← hW]; simp
 have e1 : wr.cell? ⟨w.heap.size, 1, none⟩ = some u := by rw [← hW]; simp
 have d0 := (hB.cell hb).trans c0
 have d1 := (hB.cell hb).trans c1
 have d1' := (hB.cell hb').trans c1'
 have hc' := hc.below hB
 have htr' := htr.below hB
 clear hW c0 c1 c0' c1'
 have k0 := cell_regrown e0
 have k0' := cell_regrown e1
 have k1 := cell_regrown d0
 have k2 := cell_regrown d1
 have k3 := cell_regrown d1'
 have cW : ∀ d os, Calls Tryz.prog 153 #[.agg #[.int .i64 t.1, .slice ad t.2.length cap], .int .i64 c.1] (grow (redrawn wr d) os) fun e w'' => e = .returned (.int .i64 (arOf t c.1)) ∧ ∃ p : Regrown, w'' = grow (redrawn wr p.d) p.os := fun d os =>
  Calls.regrown_of (arityOf_any _ (htr'.below (below_regrown _ d os)) _)
 have cV : ∀ d os, Calls Tryz.prog 154 #[.agg #[.int .i64 c.1, u], .int .i64 (arOf t c.1), .int .i64 x.2.1] (grow (redrawn wr d) os) fun e w'' => e = .returned (.bool (tb (rowOk x.2.1 (arOf t c.1) c.2))) ∧ ∃ p : Regrown, w'' = grow (redrawn wr p.d) p.os := fun d os =>
  Calls.regrown_of (isAtom_any _ (hc'.below (below_regrown _ d os)) _ _ h0 h1)
 refine wp_region_quiet_below (by kernel_rfl) (by kernel_rfl) ?_
 repeat (go_big_quiet_step (first | exact cW _ _ | exact cV _ _))
 refine wpQuiet_nil ?_
 rintro w2 ⟨p, rfl⟩
 have hb2 := below_regrown wr p.d p.os
 go_wp2_with fail
 go_ret
 exact ⟨ret_bool HR.out, bthen hB hb2⟩
theorem frmOk_any {t : Int × List (Int × List (List Int))} {f : Int × Int × List (Int × List Int)} (h0 : tplOk t) (h1 : frameOk f) : (!anyB (fun a => !tb (atomOk t f.2.1 a)) f.2.2) = tb (frmOk t f) := by
 rw [Bool.eq_iff_iff, tb_iff]
 simp only [anyB, frmOk, h0, h1, true_and, Bool.not_eq_true', List.any_eq_false, Bool.not_eq_false, tb_iff]
set_option maxHeartbeats 1600000 in
theorem ValidFormula_any (w : World) {cs cs' : Array Value} {t : Int × List (Int × List (List Int))} {x : Int × Int × List (Int × List Int)} (h : tplT.Rd w cs.toList t) (h' : frmT.Rd w cs'.toList x) :
  Calls Tryz.prog 78 #[.agg cs, .agg cs'] w fun e w' => e = .returned (.bool (tb (frmOk t x))) ∧ Below w.heap.size w w' := by
 have ht := h
 have hxx := h'
 obtain ⟨v, hv, hI, -⟩ := pair_ex h
 obtain rfl := agg_of hv
 obtain ⟨v', hv', hI', hI2', hx⟩ := trip_ex h'
 obtain rfl := agg_of hv'
 obtain ⟨ad, cap, rfl⟩ := rd_slice hx
 clear h hv h' hv'
 have p0 : tplT.Pt ((w.alloc (.cells #[.int .i64 t.1, v] 26)).alloc (.cells #[.int .i64 x.1, .int .i64 x.2.1, .slice ad x.2.2.length cap] 47)) (.pointer (some ⟨w.heap.size, 0, none⟩)) t := (pt_box ht).below bA
 have p1 : frmT.Pt ((w.alloc (.cells #[.int .i64 t.1, v] 26)).alloc (.cells #[.int .i64 x.1, .int .i64 x.2.1, .slice ad x.2.2.length cap] 47)) (.pointer (some ⟨w.heap.size + 1, 0, none⟩)) x := by
  simpa using pt_box (T := 47) (hxx.below (bA (o := .cells #[.int .i64 t.1, v] 26)))
 cases hT : tb (tplOk t)
 ·go_enter Tryz.func78, Tryz.ntmps78
  go_wp2_with fail
  refine (ValidTemplate_any _ (ht.below (by repeat (first | exact Below.refl _ _ | exact bA | assumption | refine Below.setCell ?_ (by first | omega | (simp; try omega)) _ | refine Below.alloc ?_ (by first | omega | (simp; try omega)) _ | refine Below.drew ?_ | refine bDN ?_ | refine bthen ?_ (by assumption))))).mono ?_
  rintro e w1 ⟨rfl, hb1⟩
  rw [hT]
  go_wp2_with fail
  go_ret
  exact ⟨ret_bool (tb_false (fun hh => by have := tb_true hh.1; rw [hT] at this; cases this)).symm, bthen (by repeat (first | exact Below.refl _ _ | exact bA | assumption | refine Below.setCell ?_ (by first | omega | (simp; try omega)) _ | refine Below.alloc ?_ (by first | omega | (simp; try omega)) _ | refine Below.drew ?_ | refine bDN ?_ | refine bthen ?_ (by assumption))) hb1⟩
 have hT' := tb_iff.1 hT
 cases hF : tb (frameOk x)
 ·clear hT'
  go_enter Tryz.func78, Tryz.ntmps78
  go_wp2_with fail
  refine (ValidTemplate_any _ (ht.below (by repeat (first | exact Below.refl _ _ | exact bA | assumption | refine Below.setCell ?_ (by first | omega | (simp; try omega)) _ | refine Below.alloc ?_ (by first | omega | (simp; try omega)) _ | refine Below.drew ?_ | refine bDN ?_ | refine bthen ?_ (by assumption))))).mono ?_
  rintro e w1 ⟨rfl, hb1⟩
  rw [hT]
  have q1 := p1.below hb1
  obtain ⟨_, _, ad2, cap2, hbo, z1, -, -, c0, c1, c2, hx1⟩ := pt_trip q1
  simp only [Value.pointer.injEq, Option.some.injEq, Addr.mk.injEq, and_true] at hbo
  obtain ⟨rfl, rfl⟩ := hbo
  have hB1 : Below w.heap.size w w1 := bthen (by repeat (first | exact Below.refl _ _ | exact bA | assumption | refine Below.setCell ?_ (by first | omega | (simp; try omega)) _ | refine Below.alloc ?_ (by first | omega | (simp; try omega)) _ | refine Below.drew ?_ | refine bDN ?_ | refine bthen ?_ (by assumption))) hb1
  have r1 : frmT.Rd w1 (#[.int .i64 x.1, .int .i64 x.2.1, .slice ad2 x.2.2.length cap2] : Array Value).toList x := trip_mk hI' hI2' hx1
  go_wp2_with fail
  refine (isFrame_any _ r1).mono ?_
  rintro e w2 ⟨rfl, hb2⟩
  rw [hF]
  go_wp2_with fail
  go_ret
  exact ⟨ret_bool (tb_false (fun hh => by have := tb_true hh.2.1; rw [hF] at this; cases this)).symm, bthen hB1 hb2⟩
 have hF' := tb_iff.1 hF
 have HT := Lib.hid (frmOk_any hT' hF')
 have hv1 : 0 ≤ x.2.1 := by have := hF'.1.1; have := hF'.2.1.1; omega
 have hv2 : x.2.1 ≤ 1000000000000 := by have := hF'.2.1.2; omega
 have HV := Lib.hid (And.intro hv1 hv2)
 clear hT' hF' hv1 hv2
 go_enter Tryz.func78, Tryz.ntmps78
 go_wp2_with fail
 refine (ValidTemplate_any _ (ht.below (by repeat (first | exact Below.refl _ _ | exact bA | assumption | refine Below.setCell ?_ (by first | omega | (simp; try omega)) _ | refine Below.alloc ?_ (by first | omega | (simp; try omega)) _ | refine Below.drew ?_ | refine bDN ?_ | refine bthen ?_ (by assumption))))).mono ?_
 rintro e w1 ⟨rfl, hb1⟩
 rw [hT]
 have hB1 : Below w.heap.size w w1 := bthen (by repeat (first | exact Below.refl _ _ | exact bA | assumption | refine Below.setCell ?_ (by first | omega | (simp; try omega)) _ | refine Below.alloc ?_ (by first | omega | (simp; try omega)) _ | refine Below.drew ?_ | refine bDN ?_ | refine bthen ?_ (by assumption))) hb1
 have q0 := p0.below hb1
 have q1 := p1.below hb1
 obtain ⟨_, _, ad2, cap2, hbo, z1, -, -, c0, c1, c2, hx1⟩ := pt_trip q1
 simp only [Value.pointer.injEq, Option.some.injEq, Addr.mk.injEq, and_true] at hbo
 obtain ⟨rfl, rfl⟩ := hbo
 have r1 : frmT.Rd w1 (#[.int .i64 x.1, .int .i64 x.2.1, .slice ad2 x.2.2.length cap2] : Array Value).toList x := trip_mk hI' hI2' hx1
 go_wp2_with fail
 refine (isFrame_any _ r1).mono ?_
 rintro e w2 ⟨rfl, hb2⟩
 rw [hF]
 have f2 := (hb2.cell z1).trans c2
 have q0' := q0.below hb2
 have q1' := q1.below hb2
 have hx2 := hx1.below hb2
 clear c0 c1 c2
 go_wp2_with fail
 refine (ContainsFuncAtom_any _ hx2 (fun c => !tb (atomOk t x.2.1 c)) 152 #[.pointer (some ⟨w.heap.size, 0, none⟩), .pointer (some ⟨w.heap.size + 1, 0, none⟩)] (enters Tryz.func152 (by kernel_rfl) rfl) (fun W hW k hk cs hcs => ValidFormula1_any W hcs (q0'.below hW) (q1'.below hW) HV.out.1 HV.out.2)).mono ?_
 rintro e w3 ⟨rfl, hb3⟩
 go_wp2_with fail
 go_ret
 exact ⟨ret_bool HT.out, bthen (bthen hB1 hb2) hb3⟩
end Go.Proofs.YtajmjfbejfiipaaGreat
namespace Go.Proofs.YtajmjfbejfiipaaGreat
open Go.RowKit Go.Sort
theorem pure_drawn {P : Program} {f : FuncId} {args : Array Value} {w : World} {n : Nat} {v : Value} (h : Calls P f args (w.drewN n) fun e w' => e = .returned v ∧ w.drewN n = w') :
  Calls P f args (w.drewN n) fun e w'' => e = .returned v ∧ ∃ m, w'' = w.drewN m := h.mono fun _ _ ⟨he, hw⟩ => ⟨he, n, hw.symm⟩
end Go.Proofs.YtajmjfbejfiipaaGreat
namespace Go.Proofs.YtajmjfbejfiipaaGreat
open Go.RowKit Go.Sort
def opOk (s : Int) (f : Int × List Int) : Prop := sizeOk s ∧ (1 ≤ f.1 ∧ f.1 ≤ 3) ∧ rowOk s (s ^ f.1.toNat) f.2
set_option maxHeartbeats 1600000 in
set_option maxRecDepth 100000 in
theorem ValidOp_any (w : World) {cs : Array Value} {f : Int × List Int} (h : opT.Rd w cs.toList f) (s : Int) :
  Calls Tryz.prog 60 #[.int .i64 s, .agg cs] w fun e w' => e = .returned (.bool (tb (opOk s f))) ∧ Below w.heap.size w w' := by
 obtain ⟨u, hv, hI, hx⟩ := pair_ex h
 obtain rfl := agg_of hv
 obtain ⟨ad, cap, rfl⟩ := rd_slice hx
 clear h hv
 cases h1 : inB s 1 4
 ·have HR : Hid (false = tb (opOk s f)) := (tb_false (fun hh => by have := inB_true.2 hh.1; rw [h1] at this; cases this)).symm
  go_enter Tryz.func60, Tryz.ntmps60
  go_wp2_with fail
  generalize hW : w.alloc _ = wr
  have hB : Below w.heap.size w wr := hW ▸ bA
  clear hW
  have cS : ∀ d os, Calls Tryz.prog 80 #[.int .i64 s] (grow (redrawn wr d) os) fun e w'' => e = .returned (.bool (inB s 1 4)) ∧ ∃ p : Regrown, w'' = grow (redrawn wr p.d) p.os := fun d os =>
   Calls.regrown_of (pure_below (isSize_any _ _))
  rw [h1] at cS
  refine wp_region_quiet_below (by kernel_rfl) (by kernel_rfl) ?_
  repeat (go_big_quiet_step (exact cS _ _))
  refine wpQuiet_nil ?_
  rintro w2 ⟨p, rfl⟩
  have hb2 := below_regrown wr p.d p.os
  go_wp2_with fail
  go_ret
  exact ⟨ret_bool HR.out, bthen hB hb2⟩
 have hs := inB_true.1 h1
 cases h2 : inB f.1 1 3
 ·have HR : Hid (false = tb (opOk s f)) := (tb_false (fun hh => by have := inB_true.2 hh.2.1; rw [h2] at this; cases this)).symm
  go_enter Tryz.func60, Tryz.ntmps60
  go_wp2_with fail
  generalize hW : w.alloc _ = wr
  have hB : Below w.heap.size w wr := hW ▸ bA
  have e0 : wr.cell? ⟨w.heap.size, 0, none⟩ = some (.int .i64 f.1) := by rw [← hW]; simp
  clear hW
  have k0 := cell_regrown e0
  have cS : ∀ d os, Calls Tryz.prog 80 #[.int .i64 s] (grow (redrawn wr d) os) fun e w'' => e = .returned (.bool (inB s 1 4)) ∧ ∃ p : Regrown, w'' = grow (redrawn wr p.d) p.os := fun d os =>
   Calls.regrown_of (pure_below (isSize_any _ _))
  have cA : ∀ d os, Calls Tryz.prog 131 #[.int .i64 f.1] (grow (redrawn wr d) os) fun e w'' => e = .returned (.bool (inB f.1 1 3)) ∧ ∃ p : Regrown, w'' = grow (redrawn wr p.d) p.os := fun d os =>
   Calls.regrown_of (pure_below (isOpArity_any _ _))
  rw [h1] at cS
  rw [h2] at cA
  refine wp_region_quiet_below (by kernel_rfl) (by kernel_rfl) ?_
  repeat (go_big_quiet_step (first | exact cS _ _ | exact cA _ _))
  refine wpQuiet_nil ?_
  rintro w2 ⟨p, rfl⟩
  have hb2 := below_regrown wr p.d p.os
  go_wp2_with fail
  go_ret
  exact ⟨ret_bool HR.out, bthen hB hb2⟩
 have ha := inB_true.1 h2
 have HR : Hid (tb (rowOk s (s ^ f.1.toNat) f.2) = tb (opOk s f)) := tb_congr ⟨fun hh => ⟨hs, ha, hh⟩, fun hh => hh.2.2⟩
 go_enter Tryz.func60, Tryz.ntmps60
 go_wp2_with fail
 generalize hW : w.alloc _ = wr
 have hB : Below w.heap.size w wr := hW ▸ bA
 have e0 : wr.cell? ⟨w.heap.size, 0, none⟩ = some (.int .i64 f.1) := by rw [← hW]; simp
 have e1 : wr.cell? ⟨w.heap.size, 1, none⟩ = some (.slice ad f.2.length cap) := by rw [← hW]; simp
 have hxr := hx.below hB
 clear hW
 have k0 := cell_regrown e0
 have k1 := cell_regrown e1
 have cS : ∀ d os, Calls Tryz.prog 80 #[.int .i64 s] (grow (redrawn wr d) os) fun e w'' => e = .returned (.bool (inB s 1 4)) ∧ ∃ p : Regrown, w'' = grow (redrawn wr p.d) p.os := fun d os =>
  Calls.regrown_of (pure_below (isSize_any _ _))
 have cA : ∀ d os, Calls Tryz.prog 131 #[.int .i64 f.1] (grow (redrawn wr d) os) fun e w'' => e = .returned (.bool (inB f.1 1 3)) ∧ ∃ p : Regrown, w'' = grow (redrawn wr p.d) p.os := fun d os =>
  Calls.regrown_of (pure_below (isOpArity_any _ _))
 have cP : ∀ d os, Calls Tryz.prog 63 #[.int .i64 s, .int .i64 f.1] (grow (redrawn wr d) os) fun e w'' => e = .returned (.int .i64 (s ^ f.1.toNat)) ∧ ∃ p : Regrown, w'' = grow (redrawn wr p.d) p.os := fun d os =>
  Calls.regrown_of (pure_below (power_any _ _ _ (by omega) (by omega) (by omega)))
 have cV : ∀ d os, Calls Tryz.prog 84 #[.int .i64 s, .slice ad f.2.length cap, .int .i64 (s ^ f.1.toNat)] (grow (redrawn wr d) os) fun e w'' => e = .returned (.bool (tb (rowOk s (s ^ f.1.toNat) f.2))) ∧ ∃ p : Regrown, w'' = grow (redrawn wr p.d) p.os := fun d os =>
  Calls.regrown_of (areValues_any _ (hxr.below (below_regrown wr d os)) _ _ (by omega) (by omega))
 rw [h1] at cS
 rw [h2] at cA
 refine wp_region_quiet_below (by kernel_rfl) (by kernel_rfl) ?_
 repeat (go_big_quiet_step (first | exact cS _ _ | exact cA _ _ | exact cP _ _ | exact cV _ _))
 refine wpQuiet_nil ?_
 rintro w2 ⟨p, rfl⟩
 have hb2 := below_regrown wr p.d p.os
 go_wp2_with fail
 go_ret
 exact ⟨ret_bool HR.out, bthen hB hb2⟩
end Go.Proofs.YtajmjfbejfiipaaGreat
namespace Go.Proofs.YtajmjfbejfiipaaGreat
open Go.RowKit Go.Sort
/-- the values of tuples at a place -/
def colL (ts : List (List Int)) (p : Nat) : List Int := ts.map fun t => t.getD p 0
def madeV (s : Int) (tab : List Int) (ts : List (List Int)) (p : Nat) : Int := tab.getD (idxL s 0 (colL ts p)).toNat 0
def madeL (s : Int) (tab : List Int) (ts : List (List Int)) (m : Nat) : List Int := (List.range m).map fun p => madeV s tab ts p
theorem colL_len {ts : List (List Int)} {p : Nat} : (colL ts p).length = ts.length := by simp [colL]
theorem colL_get {ts : List (List Int)} {p k : Nat} (h : k < ts.length) (hp : p < (ts[k]).length) (h' : k < (colL ts p).length) : (colL ts p)[k] = (ts[k])[p] := by
 simp [colL, List.getD_eq_getElem?_getD, hp]
theorem madeL_len {s : Int} {tab : List Int} {ts : List (List Int)} {m : Nat} : (madeL s tab ts m).length = m := by simp [madeL]
/-- tuples that an operation may be applied to -/
def tupsOk (s ar : Int) (m : Nat) (ts : List (List Int)) : Prop := (ts.length : Int) = ar ∧ ∀ t ∈ ts, t.length = m ∧ ∀ a ∈ t, 0 ≤ a ∧ a ≤ s - 1
theorem colL_in {s ar : Int} {m p : Nat} {ts : List (List Int)} (h : tupsOk s ar m ts) (hp : p < m) : ∀ a ∈ colL ts p, 0 ≤ a ∧ a ≤ s - 1 := by
 intro a ha
 obtain ⟨t, ht, rfl⟩ := List.mem_map.1 ha
 obtain ⟨h1, h2⟩ := h.2 t ht
 have hl : p < t.length := by omega
 rw [List.getD_eq_getElem?_getD, List.getElem?_eq_getElem hl]
 exact h2 _ (List.getElem_mem hl)
/-- the index lies in the table, and what stands there -/
theorem madeV_get {s : Int} {f : Int × List Int} {ts : List (List Int)} {m p : Nat} (hf : opOk s f) (ht : tupsOk s f.1 m ts) (hp : p < m) :
  ∃ k : Nat, idxL s 0 (colL ts p) = k ∧ ∃ h : k < f.2.length, madeV s f.2 ts p = f.2[k] := by
 obtain ⟨⟨h1, h2⟩, ⟨h3, h4⟩, h5, h6⟩ := hf
 have hb := idx_bd h1 (colL_in ht hp) (colL ts p).length (Nat.le_refl _)
 rw [List.take_length, colL_len] at hb
 have hl := ht.1
 have he : s ^ ts.length = f.2.length := by rw [h5, ← hl, Int.toNat_natCast]
 rw [he] at hb
 refine ⟨(idxL s 0 (colL ts p)).toNat, by omega, by omega, ?_⟩
 have hk : (idxL s 0 (colL ts p)).toNat < f.2.length := by omega
 rw [madeV, List.getD_eq_getElem?_getD, List.getElem?_eq_getElem hk]
 rfl
set_option maxHeartbeats 1600000 in
set_option maxRecDepth 100000 in
theorem made_any (w : World) {cs : Array Value} {f : Int × List Int} (h : opT.Rd w cs.toList f) {v : Value} {ts : List (List Int)} (h' : rowsT.Rd w [v] ts) {s : Int} {m : Nat} (hf : opOk s f) (ht : tupsOk s f.1 m ts) (hm : m ≤ 1000) :
  Calls Tryz.prog 91 #[.int .i64 s, .agg cs, v] w fun e w' => ∃ g, e = .returned (.slice (some ⟨g, 0, none⟩) m m) ∧ intsT.Fr w.heap.size w' [.slice (some ⟨g, 0, none⟩) m m] (madeL s f.2 ts m) ∧ Below w.heap.size w w' := by
 obtain ⟨u, hv, hI, hx⟩ := pair_ex h
 obtain rfl := agg_of hv
 obtain ⟨tad, tcap, htv, -, -, htc⟩ := ints_ex hx
 obtain rfl : u = _ := by simpa using htv
 obtain ⟨ad, cap, hvv, -, hL, hcell⟩ := slices_ex h'
 obtain rfl : v = _ := by simpa using hvv
 have hn : (ts.length : Int) = f.1 := ht.1
 have hs := hf.1
 have ha := hf.2.1
 unfold sizeOk at hs
 have h0 : 0 < ts.length := by omega
 obtain ⟨b, o, rfl, hb, hce⟩ := hcell h0
 obtain ⟨u0, hu0, hc0⟩ := hce 0 h0
 obtain ⟨a0, c0, rfl⟩ := rd_slice hu0
 have hm0 : (ts[0]).length = m := (ht.2 _ (List.getElem_mem h0)).1
 rw [hm0] at hc0
 have hc0' : w.cell? ⟨b, o, none⟩ = some (.slice a0 m c0) := hc0
 have HF := Lib.hid hf
 have HT := Lib.hid ht
 have HC := Lib.hid hce
 have HTC := Lib.hid htc
 clear h h' hv htv hvv hf ht hcell hce htc hu0 hx hc0
 go_enter Tryz.func91, Tryz.ntmps91
 go_wp2_with (refine wpList_mkI _ rfl _ _ 38 2 rfl Tryz.underlying38 infoInt (w.heap.size + 1) m rfl rfl (by omega) (by decide) (by simp) ?_; intro w1 hA hg1 hs1)
 have hA' : IR 2 (w.heap.size + 1) w1 (w.heap.size + 1) m m (List.replicate m 0) := by simpa using hA
 have hb1 : Below w.heap.size w w1 := bthen bA (below_of_grown hg1)
 have x1 : w1.cell? ⟨w.heap.size, 1, none⟩ = some (.slice tad f.2.length tcap) := ((below_of_grown hg1).cell (by simp)).trans (by simp)
 have hsz1 : w1.heap.size = w.heap.size + 2 := by simpa using hs1
 clear hA hg1 hs1
 go_loopw [19] (fun i wr => ∃ (p : Nat) (L : List Int), p ≤ m ∧ i = .int .i64 p ∧ IR 2 (w.heap.size + 1) wr (w.heap.size + 1) m m L ∧ (∀ (j : Nat) (h : j < L.length), j < p → L[j] = madeV s f.2 ts j) ∧ Below w.heap.size w wr ∧ wr.cell? ⟨w.heap.size, 1, none⟩ = some (.slice tad f.2.length tcap)) (fun i _ => m - (intOf i).toNat)
 case atStart => exact ⟨0, _, Nat.zero_le _, rfl, hA', fun j h hj => absurd hj (Nat.not_lt_zero j), hb1, x1⟩
 case round =>
  obtain ⟨p, L, hp, rfl, hIR, hL, hbel, y1⟩ := hrel
  have hLl := hIR.1
  have HIR := Lib.hid hIR
  have HLL := Lib.hid hL
  clear hIR hL hA'
  by_cases hpl : p < m
  ·obtain ⟨kk, hkk, hkl2, hmv⟩ := madeV_get HF.out HT.out hpl
   obtain ⟨tb0, to0, rfl, htb, hte⟩ := HTC.out (by omega)
   have t0 := (hbel.cell htb).trans (hte kk hkl2).2
   have hIv := (hte kk hkl2).1
   obtain ⟨w0, d0⟩ := HIR.out.cell hpl
   have d1 := HIR.out.free p
   have hg := HIR.out.lt
   have HIS := Lib.hid (HIR.out.set p hIv)
   have HKK := Lib.hid hkk
   have HMV := Lib.hid hmv
   have HTE := Lib.hid hte
   clear hte hkk hmv
   go_wp2_with fail
   go_loop [24, 9] (fun i q => ∃ k : Nat, k ≤ ts.length ∧ i = .int .i64 k ∧ q = .int .i64 (idxL s 0 ((colL ts p).take k))) (fun i _ => ts.length - (intOf i).toNat)
   case atStart => exact ⟨0, Nat.zero_le _, rfl, by simp [idxL]⟩
   case round =>
    obtain ⟨k, hk, rfl, rfl⟩ := hrel
    by_cases hkl : k < ts.length
    ·obtain ⟨uk, huk, hck⟩ := HC.out k hkl
     obtain ⟨ak, ck, huv, -, -, hkc⟩ := ints_ex huk
     obtain rfl : uk = _ := by simpa using huv
     have hlk : (ts[k]).length = m := (HT.out.2 _ (List.getElem_mem hkl)).1
     obtain ⟨bk, ok, rfl, hbk, hkce⟩ := hkc (by omega)
     have e0 := (hbel.cell hb).trans hck
     have e1 := (hbel.cell hbk).trans (hkce p (by omega)).2
     have hpk : p < (ts[k]).length := by omega
     have hcl : k < (colL ts p).length := by rw [colL_len]; exact hkl
     have hin := colL_in HT.out hpl
     have b0 := idx_bd (by omega) hin k (by omega)
     have b1 := idx_bd (by omega) hin (k + 1) hcl
     have p0 := pow_le (s := s) (by omega) (by omega) (k := k + 1) (by omega)
     have hr := idxL_take (s := s) hcl
     rw [colL_get hkl hpk hcl] at hr
     have HM : Hid (wrap64 (wrap64 (idxL s 0 ((colL ts p).take k) * s) + (ts[k])[p]) = idxL s 0 ((colL ts p).take (k + 1))) := by
      unfold Hid
      have hq := Int.mul_nonneg b0.1 (show (0 : Int) ≤ s by omega)
      have hxx := hin _ (List.getElem_mem hcl)
      rw [colL_get hkl hpk hcl] at hxx
      rw [hr] at b1 ⊢
      generalize s ^ (k + 1) = P at *
      generalize idxL s 0 ((colL ts p).take k) * s = Q at *
      rw [wrap64_id (n := Q) (by omega) (by omega), wrap64_id (by omega) (by omega)]
     clear hkc hkce huv huk hck b0 b1 p0 hr hin
     go_wp2_with fail
     go_round
     case rel => exact ⟨k + 1, by omega, by go_num, by first | exact congrArg _ HM.out | (rw [← HM.out]; go_num)⟩
     case measure => simp [intOf]; omega
    ·obtain rfl : k = ts.length := by omega
     have hfull : idxL s 0 ((colL ts p).take ts.length) = kk := by rw [List.take_of_length_le (by rw [colL_len]; exact Nat.le_refl _)]; exact HKK.out
     rw [hfull]
     go_wp2_with fail
     refine ⟨⟨p + 1, L.set p (f.2[kk]), by omega, congrArg _ (by omega), HIS.out, fun j h hj => ?_, hbel.setCell (by simp) _, (World.cell?_setCell_other _ _ _ _ (by simp)).trans y1⟩, by simp [intOf]; omega⟩
     by_cases e : p = j
     ·subst e
      rw [List.getElem_set_self]
      exact HMV.out.symm
     ·rw [List.getElem_set_ne e]
      exact HLL.out j (by simpa using h) (by omega)
  ·obtain rfl : p = m := by omega
   have hfr := Lib.hid (HIR.out.fr (by unfold capMax; omega))
   have HE : Hid (L = madeL s f.2 ts p) := List.ext_getElem (by rw [hLl, madeL_len]) fun j h h' => by rw [HLL.out j h (by omega)]; simp [madeL]
   go_wp2_with fail
   go_ret
   exact ⟨w.heap.size + 1, rfl, by rw [← HE.out]; exact hfr.out.mono (by omega), hbel⟩
end Go.Proofs.YtajmjfbejfiipaaGreat
namespace Go.Proofs.YtajmjfbejfiipaaGreat
open Go.RowKit Go.Sort
theorem cmpI_neg {x y : Int} : cmpI x y < 0 ↔ x < y := by
 unfold cmpI
 split
 ·simpa
 ·split <;> omega
theorem ltL_trans : ∀ {a b c : List Int}, ltL a b → ltL b c → ltL a c
 | [], [], _, h, _ => by simp [ltL, cmpL] at h
 | _ :: _, [], _, h, _ => by simp [ltL, cmpL] at h
 | _, _ :: _, [], _, h => by simp [ltL, cmpL] at h
 | [], _ :: _, _ :: _, _, _ => by simp [ltL, cmpL]
 | x :: a, y :: b, z :: c, h, h' => by
  unfold ltL at h h' ⊢
  simp only [cmpL] at h h' ⊢
  by_cases e1 : x = y
  ·by_cases e2 : y = z
   ·subst e1; subst e2
    simp only [if_true] at h h' ⊢
    exact ltL_trans h h'
   ·subst e1
    rw [if_neg e2] at h' ⊢
    exact h'
  ·rw [if_neg e1] at h
   rw [cmpI_neg] at h
   by_cases e2 : y = z
   ·subst e2
    rw [if_neg e1, cmpI_neg]; exact h
   ·rw [if_neg e2, cmpI_neg] at h'
    rw [if_neg (by omega), cmpI_neg]; omega
theorem cmpL_zero : ∀ {a b : List Int}, cmpL a b = 0 → a = b
 | [], [], _ => rfl
 | [], _ :: _, h => by simp [cmpL] at h
 | _ :: _, [], h => by simp [cmpL] at h
 | x :: a, y :: b, h => by
  simp only [cmpL] at h
  by_cases e : x = y
  ·subst e
   rw [if_pos rfl] at h
   rw [cmpL_zero h]
  ·rw [if_neg e] at h
   unfold cmpI at h
   split at h
   ·omega
   ·split at h <;> omega
/-- sorted in the order of lists -/
def sortedL (xs : List (List Int)) : Prop := ∀ i (h : i < xs.length), 0 < i → ltL (xs[i - 1]'(by omega)) xs[i]
theorem sortedL_lt {xs : List (List Int)} (hs : sortedL xs) : ∀ {a b : Nat} (hb : b < xs.length) (hab : a < b), ltL (xs[a]'(by omega)) xs[b] := by
 intro a b hb hab
 induction b with
 | zero => omega
 | succ b ih =>
  have h1 := hs (b + 1) hb (by omega)
  simp only [Nat.add_sub_cancel] at h1
  by_cases e : a = b
  ·subst e; exact h1
  ·exact ltL_trans (ih (by omega) (by omega)) h1
theorem relOk_sorted {size : Int} {r : Int × List (List Int)} (h : relOk size r) : sortedL r.2 := fun i hi h0 => (h.2.2 i hi).2 h0
/-- the elements of a list at places -/
def atL (l places : List Int) : List Int := places.map fun p => l.getD p.toNat 0
theorem atL_len {l places : List Int} : (atL l places).length = places.length := by simp [atL]
theorem atL_take {l places : List Int} {k j : Nat} (hk : k < places.length) (hj : places[k] = (j : Int)) (hl : j < l.length) : atL l (places.take k) ++ [l[j]] = atL l (places.take (k + 1)) := by
 rw [← take_snoc hk]
 simp [atL, hj, hl]
theorem Bl.own {α : Type} {E : Ty α} {e base top : Nat} {w : World} {v : Value} {ys : List α} (h : Bl E e base top w v ys) {g : Nat} (hg : v.ownBlock = some g) : base ≤ g := by
 obtain ⟨L, fps, h1, _⟩ := h
 exact (h1.lt g hg).1
theorem news1 {w : World} {u : Value} {T : TypeId} : ∀ j x, [u][j]? = some x → (w.alloc (.cells #[u] T)).cell? ((⟨w.heap.size, 0, none⟩ : Addr).add j) = some x := by
 intro j x h
 match j with
 | 0 => simp at h; subst h; simp [Addr.add]
 | j + 1 => simp at h
set_option maxHeartbeats 1600000 in
set_option maxRecDepth 100000 in
theorem chosen_any (w : World) {v u : Value} {xs ps : List Int} (h : intsT.Rd w [v] xs) (h' : intsT.Rd w [u] ps) (hin : ∀ p ∈ ps, 0 ≤ p ∧ p < (xs.length : Int)) (hlen : ps.length ≤ 1000000) :
  Calls Tryz.prog 256 #[v, u] w (RetS intsT w (atL xs ps)) := by
 obtain ⟨ad, cap, hv, hl, hc, hcell⟩ := ints_ex h
 obtain rfl : v = _ := by simpa using hv
 obtain ⟨ad', cap', hv', hl', hc', hcell'⟩ := ints_ex h'
 obtain rfl : u = _ := by simpa using hv'
 have HIN := Lib.hid hin
 clear h hv h' hv' hin
 go_enter Tryz.func256, Tryz.ntmps256
 go_wp2_with fail
 go_loopw [11, 5] (fun i o wr => ∃ k : Nat, k ≤ ps.length ∧ i = .int .i64 k ∧ Bl Ty.int 2 w.heap.size wr.heap.size wr o (atL xs (ps.take k)) ∧ Below w.heap.size w wr) (fun i _ _ => ps.length - (intOf i).toNat)
 case atStart => exact ⟨0, Nat.zero_le _, rfl, by simpa [atL] using Bl.lit0 (E := Ty.int) (e := 2) (w := w) (Nat.le_refl _), bA⟩
 case round =>
  obtain ⟨k, hk, rfl, hBl, hbel⟩ := hrel
  have HB := Lib.hid hBl
  clear hBl
  by_cases hkl : k < ps.length
  ·obtain ⟨b', o', rfl, hb', hce'⟩ := hcell' (by omega)
   have hin := HIN.out ps[k] (List.getElem_mem hkl)
   obtain ⟨j, hj⟩ : ∃ j : Nat, ps[k] = j := ⟨ps[k].toNat, by omega⟩
   have hjl : j < xs.length := by omega
   obtain ⟨b, o, rfl, hb, hce⟩ := hcell (by omega)
   have e0 := (hbel.cell hb').trans (hce' k hkl).2
   rw [hj] at e0
   have e1 := (hbel.cell hb).trans (hce j hjl).2
   have hI := (hce j hjl).1
   clear hcell hcell' hce hce' hin
   have hrec := atL_take hkl hj hjl
   have HR := Lib.hid hrec
   clear hrec
   go_wp2_with (refine wpList_push (E := Ty.int) _ rfl _ _ 38 2 rfl elInt rfl (HB.out.below bA (Nat.le_refl _)) rfl news1 (fr_int hI) (by rw [atL_len, take_len hk]; omega) (by decide) hbel.size (by simp) ?_; intro v1 w1 hB1 hg1 _)
   have hbel1 : Below w.heap.size w w1 := (hbel.alloc hbel.size _).grown hg1 (by have := hbel.size; simp; omega) (fun k hk => HB.out.own hk)
   rw [HR.out] at hB1
   have HB1 := Lib.hid hB1
   clear hB1
   go_wp2_with fail
   go_roundw
   case rel => exact ⟨k + 1, by omega, by go_num, HB1.out, hbel1⟩
   case measure => simp [intOf]; omega
  ·obtain rfl : k = ps.length := by omega
   go_wp2_with fail
   go_ret
   rw [List.take_length] at HB
   exact ⟨_, rfl, HB.out.fr (by rw [atL_len]; unfold capMax; omega), hbel⟩
theorem bs_found {xs : List (List Int)} {ys : List Int} {i : Nat} (hi : i ≤ xs.length) (h1 : ∀ a (h : a < xs.length), a < i → cmpL xs[a] ys < 0) (h2 : ∀ a (h : a < xs.length), i ≤ a → ¬ cmpL xs[a] ys < 0) (hs : sortedL xs) :
  (ys ∈ xs) ↔ ∃ h : i < xs.length, cmpL xs[i] ys = 0 := by
 constructor
 ·intro hm
  obtain ⟨a, ha, rfl⟩ := List.getElem_of_mem hm
  have h3 : ¬ a < i := fun hlt => by have := h1 a ha hlt; rw [cmpL_self] at this; omega
  have h4 : i = a := by
   rcases Nat.lt_or_ge i a with hlt | hge
   ·exact absurd (sortedL_lt hs ha hlt) (h2 i (by omega) (Nat.le_refl _))
   ·omega
  subst h4
  exact ⟨ha, cmpL_self _⟩
 ·rintro ⟨h, he⟩
  rw [← cmpL_zero he]
  exact List.getElem_mem h
theorem ret_ib {i : Int} {b d : Bool} (h : b = d) : Ending.returned (.tuple #[.int .i64 i, .bool b]) = .returned (.tuple #[.int .i64 i, .bool d]) := by rw [h]
set_option maxHeartbeats 1600000 in
set_option maxRecDepth 100000 in
theorem BSearch_any (w : World) {v u : Value} {xs : List (List Int)} {ys : List Int} (h : rowsT.Rd w [v] xs) (_h' : intsT.Rd w [u] ys) (hs : sortedL xs) (g : Nat) (eg : ∀ args w, (callFunc g args).run Tryz.prog w = .ok (.enter g args) w)
  (hp : Hid (∀ k (h : k < xs.length) (c : Value), intsT.Rd w [c] xs[k] → Calls Tryz.prog g #[c, u] w fun e w' => e = .returned (.int .i64 (cmpL xs[k] ys)) ∧ w = w')) :
  Calls Tryz.prog 143 #[v, u, .func (.func g) #[] #[]] w fun e w' => (∃ i : Int, e = .returned (.tuple #[.int .i64 i, .bool (tb (ys ∈ xs))])) ∧ w = w' := by
 obtain ⟨ad, cap, hv, hl, hc, hcell⟩ := slices_ex h
 obtain rfl : v = _ := by simpa using hv
 have HS := Lib.hid hs
 clear h hv hs
 go_enter Tryz.func143, Tryz.ntmps143
 go_wp2_with fail
 go_loop [9, 10, 11] (fun i j _ => ∃ a b : Nat, a ≤ b ∧ b ≤ xs.length ∧ i = .int .i64 a ∧ j = .int .i64 b ∧ (∀ c (h : c < xs.length), c < a → cmpL xs[c] ys < 0) ∧ (∀ c (h : c < xs.length), b ≤ c → 0 ≤ cmpL xs[c] ys)) (fun i j _ => (intOf j).toNat - (intOf i).toNat)
 case atStart => exact ⟨0, xs.length, Nat.zero_le _, Nat.le_refl _, rfl, rfl, fun c _ h => absurd h (Nat.not_lt_zero c), fun c h h' => by omega⟩
 case round =>
  obtain ⟨a, b, hab, hbl, rfl, rfl, h1, h2⟩ := hrel
  have H1 := Lib.hid h1
  have H2 := Lib.hid h2
  clear h1 h2
  by_cases hlt : a < b
  ·obtain ⟨m, hm⟩ : ∃ m : Nat, ((a : Int) + b) / 2 = m := ⟨(a + b) / 2, by omega⟩
   have ham : a ≤ m := by omega
   have hmb : m < b := by omega
   have hml : m < xs.length := by omega
   obtain ⟨bk, o, rfl, hb, hce⟩ := hcell (by omega)
   obtain ⟨c, hc0, hcc⟩ := hce m hml
   clear hcell hce
   cases hq : decide (cmpL xs[m] ys < 0)
   ·have HQ := Lib.hid hq
    go_wp2_with fail
    refine (hp.out m hml c hc0).mono ?_
    rintro e w' ⟨rfl, rfl⟩
    go_wp2_with fail
    go_round
    case rel =>
     refine ⟨a, m, ham, by omega, rfl, rfl, H1.out, fun c h hmc => Int.not_lt.1 fun hlt => ?_⟩
     have h3 : ¬ cmpL xs[m] ys < 0 := by simpa using HQ.out
     by_cases e : m = c
     ·subst e; exact h3 hlt
     ·exact h3 (ltL_trans (sortedL_lt HS.out h (show m < c by omega)) hlt)
    case measure => simp [intOf]; omega
   ·have HQ := Lib.hid hq
    go_wp2_with fail
    refine (hp.out m hml c hc0).mono ?_
    rintro e w' ⟨rfl, rfl⟩
    go_wp2_with fail
    go_round
    case rel =>
     refine ⟨m + 1, b, by omega, hbl, by go_num, rfl, fun c h hmc => ?_, H2.out⟩
     have h3 : cmpL xs[m] ys < 0 := by simpa using HQ.out
     by_cases e : c = m
     ·subst e; exact h3
     ·exact ltL_trans (sortedL_lt HS.out hml (show c < m by omega)) h3
    case measure => simp [intOf]; omega
  ·obtain rfl : a = b := by omega
   have HF := Lib.hid (bs_found hbl H1.out (fun c h h4 => Int.not_lt.2 (H2.out c h h4)) HS.out)
   by_cases hn : a < xs.length
   ·obtain ⟨bk, o, rfl, hb, hce⟩ := hcell (by omega)
    obtain ⟨c, hc0, hcc⟩ := hce a hn
    clear hcell hce
    have HR : Hid ((cmpL xs[a] ys == 0) = tb (ys ∈ xs)) := by
     unfold Hid
     rw [Bool.eq_iff_iff, tb_iff, HF.out]
     simp [hn]
    go_wp2_with fail
    refine (hp.out a hn c hc0).mono ?_
    rintro e w' ⟨rfl, rfl⟩
    go_wp2_with fail
    go_ret2
    exact ⟨⟨a, ret_ib HR.out⟩, rfl⟩
   ·have HR : Hid (false = tb (ys ∈ xs)) := (tb_false (fun hh => hn (HF.out.1 hh).1)).symm
    clear hcell
    go_wp2_with fail
    go_ret2
    exact ⟨⟨a, ret_ib HR.out⟩, rfl⟩
theorem has1_any (w : World) {v u : Value} {xs ys : List Int} (h : intsT.Rd w [v] xs) (h' : intsT.Rd w [u] ys) :
  Calls Tryz.prog 144 #[v, u] w fun e w' => e = .returned (.int .i64 (cmpL xs ys)) ∧ w = w' := by
 go_enter Tryz.func144, Tryz.ntmps144
 go_wp2_with fail
 refine (Compare_any _ h h').mono ?_
 rintro e w' ⟨rfl, rfl⟩
 go_wp2_with fail
 go_ret
 exact ⟨rfl, rfl⟩
theorem has_any (w : World) {cs : Array Value} {r : Int × List (List Int)} (h : relT.Rd w cs.toList r) {u : Value} {ys : List Int} (h' : intsT.Rd w [u] ys) (hs : sortedL r.2) :
  Calls Tryz.prog 54 #[.agg cs, u] w fun e w' => e = .returned (.bool (tb (ys ∈ r.2))) ∧ Below w.heap.size w w' := by
 obtain ⟨v, hv, hI, hx⟩ := pair_ex h
 obtain rfl := agg_of hv
 obtain ⟨ad, cap, rfl⟩ := rd_slice hx
 obtain ⟨ad', cap', rfl⟩ := rd_slice h'
 clear h hv
 go_enter Tryz.func54, Tryz.ntmps54
 go_wp2_with fail
 refine (BSearch_any _ (hx.below bA) (h'.below bA) hs 144 (enters Tryz.func144 (by kernel_rfl) rfl) (fun k hk c hc => has1_any _ hc (h'.below bA))).mono ?_
 rintro e w' ⟨⟨i, rfl⟩, rfl⟩
 go_wp2_with fail
 go_ret
 exact ⟨rfl, (by repeat (first | exact Below.refl _ _ | exact bA | assumption | refine Below.setCell ?_ (by first | omega | (simp; try omega)) _ | refine Below.alloc ?_ (by first | omega | (simp; try omega)) _ | refine Below.drew ?_ | refine bDN ?_ | refine bthen ?_ (by assumption)))⟩
end Go.Proofs.YtajmjfbejfiipaaGreat
namespace Go.Proofs.YtajmjfbejfiipaaGreat
open Go.RowKit Go.Sort
end Go.Proofs.YtajmjfbejfiipaaGreat
namespace Go.Proofs.YtajmjfbejfiipaaGreat
open Go.RowKit
/-- a value as it is: for rows whose elements point into older memory -/
def Ty.val : Ty Value where
 sz := 1
 rd := fun _ cs x fp => cs = [x] ∧ x.oneCell' = true ∧ fp = []
 len := by rintro _ _ _ _ ⟨rfl, _, _⟩; rfl
 same := fun h _ => h
 lt := by rintro _ _ _ _ ⟨rfl, _, rfl⟩ k hk; cases hk
 one := by rintro _ _ _ _ ⟨rfl, h, _⟩ u hu; simp at hu; subst hu; exact h
theorem fr_val {base : Nat} {w : World} {x : Value} (h : x.oneCell' = true) : Ty.val.Fr base w [x] x := ⟨[], ⟨rfl, h, rfl⟩, List.nodup_nil, by simp, fun b hb => by cases hb⟩
/-- a number and a value -/
abbrev pvT : Ty (Int × Value) := Ty.cons Ty.val
theorem fr_pv {base : Nat} {w : World} {n : Int} {x : Value} (hn : I64 n) (h : x.oneCell' = true) : pvT.Fr base w [.int .i64 n, x] (n, x) := ⟨[], ⟨[x], rfl, hn, rfl, h, rfl⟩, List.nodup_nil, by simp, fun b hb => by cases hb⟩
/-- the cells of a row of structs, as they stand -/
theorem rd_vals {w : World} {u : Value} {xs : List (Int × List Int)} (h : opsT.Rd w [u] xs) :
  ∃ VS : List (Int × Value), VS.length = xs.length ∧ (∀ i (h : i < VS.length) (h' : i < xs.length), (VS[i]).1 = (xs[i]).1 ∧ I64 (VS[i]).1 ∧ intsT.Rd w [(VS[i]).2] (xs[i]).2) ∧
   ∃ ad cap, u = .slice ad xs.length cap ∧ (0 < xs.length → ∃ b o, ad = some ⟨b, o, none⟩ ∧ b < w.heap.size ∧ ∀ i (h : i < VS.length), w.cell? ⟨b, o + i * 2, none⟩ = some (.int .i64 (VS[i]).1) ∧ w.cell? ⟨b, o + i * 2 + 1, none⟩ = some (VS[i]).2) := by
 obtain ⟨ad, cap, hu, -, -, hc⟩ := pairs_ex h
 obtain rfl : u = _ := by simpa using hu
 rcases Nat.eq_zero_or_pos xs.length with h0 | h0
 ·refine ⟨[], by simp [h0], fun i h => by simp at h, ad, cap, rfl, fun h => by omega⟩
 ·obtain ⟨b, o, rfl, hb, hce⟩ := hc h0
  have key : ∀ i, ∃ v, ∀ (h : i < xs.length), intsT.Rd w [v] (xs[i]).2 ∧ I64 (xs[i]).1 ∧ w.cell? ⟨b, o + i * 2, none⟩ = some (.int .i64 (xs[i]).1) ∧ w.cell? ⟨b, o + i * 2 + 1, none⟩ = some v := fun i => by
   by_cases hi : i < xs.length
   ·obtain ⟨v, hv⟩ := hce i hi
    exact ⟨v, fun _ => hv⟩
   ·exact ⟨undef, fun h => absurd h hi⟩
  obtain ⟨F, hF⟩ := Classical.axiomOfChoice key
  refine ⟨(List.range xs.length).map fun i => ((xs.getD i (0, [])).1, F i), by simp, fun i h h' => ?_, _, cap, rfl, fun _ => ⟨b, o, rfl, hb, fun i h => ?_⟩⟩
  ·obtain ⟨g1, g2, -, -⟩ := hF i h'
   simp [List.getD_eq_getElem?_getD, h', g1, g2]
  ·have h' : i < xs.length := by simpa using h
   obtain ⟨-, -, g3, g4⟩ := hF i h'
   simp [List.getD_eq_getElem?_getD, h', g3, g4]
end Go.Proofs.YtajmjfbejfiipaaGreat
namespace Go.Proofs.YtajmjfbejfiipaaGreat
open Go.RowKit Go.Sort
/-- a row of slices reads as rows do, if each of its slices reads so -/
theorem rows_of_vals {w : World} {v : Value} {vs : List Value} {ts : List (List Int)} (h : (Ty.slice Ty.val).Rd w [v] vs) (hl : vs.length = ts.length) (hr : ∀ i (h : i < vs.length) (h' : i < ts.length), intsT.Rd w [vs[i]] ts[i]) : rowsT.Rd w [v] ts := by
 obtain ⟨fp, ad, cap, hv, h1, h2, h3⟩ := h
 obtain rfl : v = _ := by simpa using hv
 rcases h3 with ⟨h3, _⟩ | ⟨h3, b, o, fps, rfl, hb, _, h4⟩
 ·exact ⟨[], ad, cap, by rw [hl], by omega, by omega, .inl ⟨by omega, rfl⟩⟩
 ·have hch : ∀ i, ∃ fp, (h : i < ts.length) → intsT.rd w [vs[i]'(by omega)] ts[i] fp := fun i => by
   by_cases hi : i < ts.length
   ·obtain ⟨fp, hfp⟩ := hr i (by omega) hi
    exact ⟨fp, fun _ => hfp⟩
   ·exact ⟨[], fun h => absurd h hi⟩
  refine ⟨_, some ⟨b, o, none⟩, cap, by rw [hl], by omega, by omega, .inr ⟨by omega, b, o, fun i => (hch i).choose, rfl, hb, rfl, fun i hi => ?_⟩⟩
  obtain ⟨cs, ⟨rfl, _, _⟩, h6⟩ := h4 i (by omega)
  exact ⟨_, (hch i).choose_spec hi, h6⟩

/-- a row of truth values of the call's own -/
def BR (e base : Nat) (w : World) (g n cap : Nat) (L : List Bool) : Prop := L.length = n ∧ base ≤ g ∧ w.ownsRow base e 1 (.slice (some ⟨g, 0, none⟩) n cap) n (L.map Value.bool)
section
variable {e base g n cap : Nat} {w w' : World} {L : List Bool}
theorem BR.cell (h : BR e base w g n cap L) {j : Nat} (hj : j < L.length) : w.cell? ⟨g, j, none⟩ = some (.bool L[j]) := by
 rw [World.ownsRow.cellAt h.2.2 j (by have := h.1; omega)]
 simp [hj]
theorem BR.free (h : BR e base w g n cap L) (j : Nat) : w.frozen? ⟨g, j, none⟩ = false := World.ownsRow.frozenAt h.2.2 j
theorem BR.lt (h : BR e base w g n cap L) : g < w.heap.size := (h.2.2.lt g rfl).2
theorem BR.set (h : BR e base w g n cap L) (j : Nat) (a : Bool) : BR e base (w.setCell ⟨g, j, none⟩ (.bool a)) g n cap (L.set j a) := by
 refine ⟨by rw [List.length_set]; exact h.1, h.2.1, ?_⟩
 rw [List.map_set]
 exact (h.2.2.stored j _).1
theorem BR.below {B : Nat} (h : BR e base w g n cap L) (hb : Below B w w') (hg : g < B) : BR e base w' g n cap L := by
 refine ⟨h.1, h.2.1, h.2.2.1, ?_⟩
 rcases h.2.2.2 with ⟨h', _⟩ | ⟨g', cap', cur, hg', hbg, hh, r⟩
 ·simp at h'
 ·simp only [Value.slice.injEq, Option.some.injEq, Addr.mk.injEq, and_true, true_and] at hg'
  obtain ⟨rfl, rfl⟩ := hg'
  exact .inr ⟨g, _, cur, rfl, hbg, by rw [hb.block g hg]; exact hh, r⟩
end
theorem wpList_mkB {P : Program} (w : World) {ops : Array Oper} {rest : List Oper} {o : Oper} {a : Act} {Q : Exit → Act → World → Prop} (hg : o.guard = none) (l c : Operand) (t e : TypeId) {bytes : Nat}
  (hop : o.op = Op.makeSlice t l c) (ht : P.underlying t = some (.slice e)) (hinfo : (P.info? e).map (fun i => (i.zero, i.size, i.bytes)) = some (some (.bool false), 1, bytes)) (base : Nat) (n : Nat) (hl : a.eval l = .int .i64 (n : Int)) (hc : a.eval c = .int .i64 (n : Int)) (hn : n ≤ 1000000000) (hby : bytes ≤ 100000) (hb : base ≤ w.heap.size)
  (hK : ∀ w', BR e base w' w.heap.size n n (List.replicate n false) → w.grownBy w' none → w'.heap.size = w.heap.size + 1 → wpList P ops Q rest (a.put o.dst (.slice (some ⟨w.heap.size, 0, none⟩) n n)) w') :
  wpList P ops Q (o :: rest) a w := by
 obtain ⟨i, hi, hz, hsz, hbt'⟩ := info_parts hinfo
 have hlen' : bytes * n ≤ 281474976710656 := Nat.le_trans (Nat.mul_le_mul hby hn) (by decide)
 refine wpList_plain hg fun K hK' => ?_
 have hb48 : (i.bytes : Int) * (n : Int) ≤ 281474976710656 := by
  have h : ((bytes * n : Nat) : Int) ≤ 281474976710656 := by omega
  rw [hbt']
  rwa [Int.natCast_mul] at h
 have hr := run_make (P := P) w t e i (.bool false) ht hi hz .i64 .i64 (n : Int) (n : Int) (by omega) (Int.le_refl _) hb48 (by omega)
 simp only [Int.toNat_natCast] at hr
 unfold Oper.wp
 simp only [execOp, hop, hl, hc, hr, Result.andThen_ok, Sem.run_bind, Sem.run_pure]
 have hown := World.ownsRow_lit (base := base) (e := e) (size := 1) w (madeCells (Value.bool false).cells (n * i.size)) n hb (by unfold maxLen; omega) (by rw [size_madeCells, hsz])
 refine hK' _ _ (hK _ ⟨by simp, hb, ?_⟩ (World.grownBy_alloc w _ none) (by simp))
 have e1 : (madeCells (Value.bool false).cells (n * i.size)).toList = (List.replicate n false).map Value.bool := by
  have hc0 : (Value.bool false).cells = #[.bool false] := by simp [Value.cells]
  rw [hsz, Nat.mul_one, List.map_replicate, hc0]
  exact toList_madeCells_one (.bool false) n
 rw [← e1]
 exact hown

/-- lists of one length with the same index are the same -/
theorem idxL_inj {s : Int} (hs : 1 ≤ s) : ∀ (n : Nat) {xs ys : List Int}, xs.length = n → ys.length = n → (∀ a ∈ xs, 0 ≤ a ∧ a ≤ s - 1) → (∀ a ∈ ys, 0 ≤ a ∧ a ≤ s - 1) → idxL s 0 xs = idxL s 0 ys → xs = ys
 | 0, xs, ys, hx, hy, _, _, _ => by rw [List.eq_nil_of_length_eq_zero hx, List.eq_nil_of_length_eq_zero hy]
 | n + 1, xs, ys, hx, hy, hxi, hyi, he => by
  have hx1 : n < xs.length := by omega
  have hy1 : n < ys.length := by omega
  have ex := idxL_take (s := s) hx1
  have ey := idxL_take (s := s) hy1
  rw [List.take_of_length_le (by omega)] at ex ey
  rw [ex, ey] at he
  have ax := hxi _ (List.getElem_mem hx1)
  have ay := hyi _ (List.getElem_mem hy1)
  have h1 : (idxL s 0 (xs.take n) * s + xs[n]) % s = xs[n] := by
   rw [Int.add_comm, Int.add_mul_emod_self_right]; exact Int.emod_eq_of_lt ax.1 (by omega)
  have h2 : (idxL s 0 (ys.take n) * s + ys[n]) % s = ys[n] := by
   rw [Int.add_comm, Int.add_mul_emod_self_right]; exact Int.emod_eq_of_lt ay.1 (by omega)
  have hn : xs[n] = ys[n] := by rw [← h1, ← h2, he]
  have hq : idxL s 0 (xs.take n) = idxL s 0 (ys.take n) := by
   have h3 : idxL s 0 (xs.take n) * s = idxL s 0 (ys.take n) * s := by omega
   exact Int.eq_of_mul_eq_mul_right (by omega) h3
  have ih := idxL_inj hs n (xs := xs.take n) (ys := ys.take n) (by rw [List.length_take]; omega) (by rw [List.length_take]; omega) (fun a ha => hxi a (List.mem_of_mem_take ha)) (fun a ha => hyi a (List.mem_of_mem_take ha)) hq
  rw [← List.take_of_length_le (l := xs) (i := n + 1) (by omega), ← List.take_of_length_le (l := ys) (i := n + 1) (by omega), List.take_succ_eq_append_getElem hx1, List.take_succ_eq_append_getElem hy1, ih, hn]
end Go.Proofs.YtajmjfbejfiipaaGreat
namespace Go.Proofs.YtajmjfbejfiipaaGreat
open Go.RowKit Go.Sort
theorem nodup_lt_len : ∀ (N : Nat) (L : List Nat), L.Nodup → (∀ x ∈ L, x < N) → L.length ≤ N
 | 0, L, _, h => by
  cases L with
  | nil => exact Nat.le_refl _
  | cons x r => exact absurd (h x (List.mem_cons_self ..)) (Nat.not_lt_zero _)
 | N + 1, L, hn, h => by
  by_cases hm : N ∈ L
  ·have h1 := nodup_lt_len N (L.erase N) (hn.erase N) fun x hx => by
    have h2 := h x (List.mem_of_mem_erase hx)
    have h3 : x ≠ N := fun e => by subst e; exact hn.not_mem_erase hx
    omega
   have h4 := List.length_erase_of_mem hm
   omega
  ·have := nodup_lt_len N L hn fun x hx => by
    have h2 := h x hx
    have h3 : x ≠ N := fun e => by subst e; exact hm hx
    omega
   omega
/-- a list that rises has nothing twice -/
theorem sortedL_nodup {ts : List (List Int)} (h : sortedL ts) : ts.Nodup := by
 rw [List.Nodup, List.pairwise_iff_getElem]
 intro i j hi hj hij e
 have := sortedL_lt h hj hij
 rw [e] at this
 unfold ltL at this
 rw [cmpL_self] at this
 omega
theorem idx_lt {s : Int} (hs : 1 ≤ s) {xs : List Int} {m : Nat} (hl : xs.length = m) (h : ∀ a ∈ xs, 0 ≤ a ∧ a ≤ s - 1) : 0 ≤ idxL s 0 xs ∧ idxL s 0 xs ≤ s ^ m - 1 := by
 have := idx_bd hs h xs.length (Nat.le_refl _)
 rwa [List.take_length, hl] at this
/-- as many tuples as there can be: all of them -/
theorem full_mem {s : Int} (hs : 1 ≤ s) {m : Nat} {ts : List (List Int)} (hn : ts.Nodup) (hts : ∀ t ∈ ts, t.length = m ∧ ∀ a ∈ t, 0 ≤ a ∧ a ≤ s - 1) (hl : (ts.length : Int) = s ^ m) {t : List Int} (ht : t.length = m) (hti : ∀ a ∈ t, 0 ≤ a ∧ a ≤ s - 1) : t ∈ ts := by
 apply Classical.byContradiction
 intro hno
 have hN : (((t :: ts).map fun x => (idxL s 0 x).toNat)).Nodup := by
  have hn2 : (t :: ts).Nodup := List.nodup_cons.2 ⟨hno, hn⟩
  have hall : ∀ x ∈ t :: ts, x.length = m ∧ ∀ a ∈ x, 0 ≤ a ∧ a ≤ s - 1 := fun x hx => by
   rcases List.mem_cons.1 hx with rfl | hx
   ·exact ⟨ht, hti⟩
   ·exact hts x hx
  rw [List.Nodup, List.pairwise_map]
  refine List.Pairwise.imp_of_mem ?_ hn2
  intro a b ha hb hab e
  obtain ⟨a1, a2⟩ := hall a ha
  obtain ⟨b1, b2⟩ := hall b hb
  have ha3 := idx_lt hs a1 a2
  have hb3 := idx_lt hs b1 b2
  exact hab (idxL_inj hs m a1 b1 a2 b2 (by omega))
 have := nodup_lt_len ts.length _ hN fun x hx => by
  obtain ⟨y, hy, rfl⟩ := List.mem_map.1 hx
  have hall : y.length = m ∧ ∀ a ∈ y, 0 ≤ a ∧ a ≤ s - 1 := by
   rcases List.mem_cons.1 hy with rfl | hy
   ·exact ⟨ht, hti⟩
   ·exact hts y hy
  have h3 := idx_lt hs hall.1 hall.2
  rw [← hl] at h3
  omega
 simp at this
 omega
/-- the tuples of a relation that an index picks -/
def picks (ts : List (List Int)) (ar : Nat) (i : Int) : List (List Int) := (digL ts.length i ar).map fun k => ts.getD k.toNat []
/-- what the operation makes of them -/
def makes (s : Int) (f : Int × List Int) (r : Int × List (List Int)) (i : Int) : List Int := madeL s f.2 (picks r.2 f.1.toNat i) r.1.toNat
def keepsP (s : Int) (f : Int × List Int) (r : Int × List (List Int)) : Prop := ∀ i : Nat, (i : Int) < (r.2.length : Int) ^ f.1.toNat → makes s f r i ∈ r.2
theorem picks_len {ts : List (List Int)} {ar : Nat} {i : Int} : (picks ts ar i).length = ar := by simp [picks, digL_len]
theorem dig_mem {n i : Int} {ar : Nat} (hn : 1 ≤ n) {k : Int} (h : k ∈ digL n i ar) : 0 ≤ k ∧ k < n := by
 obtain ⟨j, _, rfl⟩ := List.mem_map.1 h
 exact dig_nn hn _
theorem picks_ok {s : Int} {f : Int × List Int} {r : Int × List (List Int)} (hr : relOk s r) (hf : opOk s f) (h0 : 0 < r.2.length) (i : Int) : tupsOk s f.1 r.1.toNat (picks r.2 f.1.toNat i) := by
 have ha := hf.2.1
 refine ⟨by rw [picks_len]; omega, fun t ht => ?_⟩
 obtain ⟨k, hk, rfl⟩ := List.mem_map.1 ht
 obtain ⟨k1, k2⟩ := dig_mem (by omega) hk
 have hkl : k.toNat < r.2.length := by omega
 rw [List.getD_eq_getElem?_getD, List.getElem?_eq_getElem hkl]
 obtain ⟨h1, h2⟩ := (hr.2.2 _ hkl).1
 refine ⟨?_, h2⟩
 show (r.2[k.toNat]).length = r.1.toNat
 omega
theorem makes_in {s : Int} {f : Int × List Int} {r : Int × List (List Int)} (hr : relOk s r) (hf : opOk s f) (h0 : 0 < r.2.length) (i : Int) : (makes s f r i).length = r.1.toNat ∧ ∀ a ∈ makes s f r i, 0 ≤ a ∧ a ≤ s - 1 := by
 refine ⟨madeL_len, fun a ha => ?_⟩
 obtain ⟨p, hp, rfl⟩ := List.mem_map.1 ha
 obtain ⟨k, _, hk, he⟩ := madeV_get hf (picks_ok hr hf h0 i) (by simpa using hp)
 show 0 ≤ madeV s f.2 (picks r.2 f.1.toNat i) p ∧ madeV s f.2 (picks r.2 f.1.toNat i) p ≤ s - 1
 rw [he]
 exact hf.2.2.2 _ (List.getElem_mem hk)
/-- a relation with all tuples is kept -/
theorem keeps_full {s : Int} {f : Int × List Int} {r : Int × List (List Int)} (hr : relOk s r) (hf : opOk s f) (hl : (r.2.length : Int) = s ^ r.1.toNat) : keepsP s f r := by
 intro i hi
 have hs := hr.1
 unfold sizeOk at hs
 have h0 : 0 < r.2.length := by
  have : 0 < s ^ r.1.toNat := Int.pow_pos (by omega)
  omega
 obtain ⟨h1, h2⟩ := makes_in hr hf h0 i
 have hso := relOk_sorted hr
 refine full_mem (by omega) (sortedL_nodup hso) (fun t ht => ?_) hl h1 h2
 obtain ⟨k, hk, rfl⟩ := List.mem_iff_getElem.1 ht
 obtain ⟨g1, g2⟩ := (hr.2.2 _ hk).1
 exact ⟨by omega, g2⟩
end Go.Proofs.YtajmjfbejfiipaaGreat
namespace Go.Proofs.YtajmjfbejfiipaaGreat
open Go.RowKit Go.Sort
/-- a set of tuples in new memory: a box whose third cell is a row of truth values -/
def SetAt (e base : Nat) (w : World) (bx g n : Nat) (L : List Bool) : Prop := base ≤ bx ∧ bx < w.heap.size ∧ g ≠ bx ∧ w.cell? ⟨bx, 2, none⟩ = some (.slice (some ⟨g, 0, none⟩) n n) ∧ BR e base w g n n L
theorem SetAt.below {e base bx g n B : Nat} {w w' : World} {L : List Bool} (h : SetAt e base w bx g n L) (hb : Below B w w') (hB : w.heap.size ≤ B) : SetAt e base w' bx g n L :=
 let ⟨h1, h2, h3, h4, h5⟩ := h
 ⟨h1, Nat.lt_of_lt_of_le h2 hb.size, h3, (hb.cell (p := ⟨bx, 2, none⟩) (Nat.lt_of_lt_of_le h2 hB)).trans h4, h5.below hb (Nat.lt_of_lt_of_le h5.lt hB)⟩
theorem infoBool : (Tryz.prog.info? 4).map (fun i => (i.zero, i.size, i.bytes)) = some (some (.bool false), 1, 1) := by kernel_rfl
set_option maxHeartbeats 800000 in
set_option maxRecDepth 100000 in
theorem l01Empty_any (w : World) (s m : Int) (hs : 1 ≤ s) (hs1 : s ≤ 1000) (hm : m ≤ 5) (N : Nat) (hN : s ^ m.toNat = N) (hN1 : N ≤ 1000000) :
  Calls Tryz.prog 178 #[.int .i64 s, .int .i64 m] w fun e w' => ∃ bx g, e = .returned (.pointer (some ⟨bx, 0, none⟩)) ∧ SetAt 4 w.heap.size w' bx g N (List.replicate N false) ∧ Below w.heap.size w w' := by
 go_enter Tryz.func178, Tryz.ntmps178
 go_wp2_with fail
 refine (l01Power_any _ s m (by omega) hs1 hm).mono ?_
 rintro e _ ⟨rfl, rfl⟩
 rw [hN]
 go_wp2_with (refine wpList_mkB _ rfl _ _ 187 4 rfl Tryz.underlying187 infoBool w.heap.size N rfl rfl (by omega) (by decide) (by simp) ?_; intro w1 hA hg1 hs1)
 have hb1 := below_of_grown hg1
 have HA := Lib.hid hA
 clear hA
 go_wp2_with fail
 go_ret
 exact ⟨w.heap.size + 1, w.heap.size, rfl, ⟨by omega, by simp; omega, by omega, by rw [← hs1]; simp, HA.out.below (bA (w := w1)) HA.out.lt⟩, hb1.alloc hb1.size _⟩
/-- the indices that have come up among the first k tuples -/
def seenL (s : Int) (N : Nat) (ts : List (List Int)) : List Bool := (List.range N).map fun j : Nat => ts.any fun t => idxL s 0 t == (j : Int)
theorem seenL_len {s : Int} {N : Nat} {ts : List (List Int)} : (seenL s N ts).length = N := by simp [seenL]
theorem seenL_nil {s : Int} {N : Nat} : seenL s N [] = List.replicate N false := by
 apply List.ext_getElem
 ·simp [seenL]
 ·intro i h1 h2; simp [seenL]
theorem seenL_set {s : Int} {N : Nat} {ts : List (List Int)} {k j : Nat} (hk : k < ts.length) (hj : idxL s 0 ts[k] = (j : Int)) (_hjN : j < N) : (seenL s N (ts.take k)).set j true = seenL s N (ts.take (k + 1)) := by
 apply List.ext_getElem
 ·simp [seenL]
 ·intro i h1 h2
  have hi : i < N := by simpa [seenL] using h2
  have htk : ts.take (k + 1) = ts.take k ++ [ts[k]] := List.take_succ_eq_append_getElem hk
  by_cases e : j = i
  ·subst e
   rw [List.getElem_set_self]
   simp only [seenL, List.getElem_map, List.getElem_range, htk, List.any_append, List.any_cons, List.any_nil, hj, beq_self_eq_true, Bool.or_true, Bool.true_or]
  ·rw [List.getElem_set_ne e]
   have : ((j : Int) == (i : Int)) = false := by simp; omega
   simp only [seenL, List.getElem_map, List.getElem_range, htk, List.any_append, List.any_cons, List.any_nil, hj, this, Bool.or_false]
theorem seenL_get {s : Int} (hs : 1 ≤ s) {m N : Nat} {ts : List (List Int)} (hts : ∀ t ∈ ts, t.length = m ∧ ∀ a ∈ t, 0 ≤ a ∧ a ≤ s - 1) {t : List Int} (ht : t.length = m) (hti : ∀ a ∈ t, 0 ≤ a ∧ a ≤ s - 1) {j : Nat} (hj : idxL s 0 t = (j : Int)) (h : j < (seenL s N ts).length) : (seenL s N ts)[j] = tb (t ∈ ts) := by
 rw [Bool.eq_iff_iff, tb_iff]
 simp only [seenL, List.getElem_map, List.getElem_range, List.any_eq_true, beq_iff_eq]
 constructor
 ·rintro ⟨x, hx, he⟩
  obtain ⟨x1, x2⟩ := hts x hx
  have := idxL_inj hs m x1 ht x2 hti (by rw [he, hj])
  rwa [← this]
 ·intro hm
  exact ⟨t, hm, hj⟩
end Go.Proofs.YtajmjfbejfiipaaGreat
namespace Go.Proofs.YtajmjfbejfiipaaGreat
open Go.RowKit Go.Sort
set_option maxHeartbeats 1600000 in
set_option maxRecDepth 100000 in
theorem l01SetOf_any (w : World) {v : Value} {r : Int × List (List Int)} (h : relT.Pt w v r) {s : Int} (hr : relOk s r) (N : Nat) (hN : s ^ r.1.toNat = N) :
  Calls Tryz.prog 98 #[.int .i64 s, v] w fun e w' => ∃ bx g, e = .returned (.pointer (some ⟨bx, 0, none⟩)) ∧ SetAt 4 w.heap.size w' bx g N (seenL s N r.2) ∧ w.heap.size ≤ g ∧ Below w.heap.size w w' := by
 obtain ⟨b, o, ad, cap, rfl, hb, hI, c0, c1, hx⟩ := pt_pair h
 obtain ⟨_, _, e1, hle, hle2, hcell⟩ := slices_ex hx
 simp only [List.cons.injEq, Value.slice.injEq, and_true, true_and] at e1
 obtain ⟨rfl, rfl⟩ := e1
 have hs := hr.1
 have hm := hr.2.1
 unfold sizeOk at hs hm
 have HRO := Lib.hid hr
 have hNle : N ≤ 1000000 := by
  have h1 : s ^ r.1.toNat ≤ 1000000 := by
   refine Int.le_trans (pow_mono' (by omega) (show s ≤ 4 by omega) r.1.toNat) ?_
   rcases (show r.1.toNat = 1 ∨ r.1.toNat = 2 ∨ r.1.toNat = 3 ∨ r.1.toNat = 4 by omega) with e | e | e | e <;> rw [e] <;> decide
  omega
 have HN := Lib.hid hN
 clear h hx hr hN
 go_enter Tryz.func98, Tryz.ntmps98
 go_wp2_with fail
 refine (l01Empty_any _ s r.1 (by omega) (by omega) (by omega) N HN.out hNle).mono ?_
 rintro e w1 ⟨bx, g, rfl, hset, hb1⟩
 have HS1 := Lib.hid hset
 clear hset
 go_wp2_with fail
 go_loopw [6] (fun i wr => ∃ k : Nat, k ≤ r.2.length ∧ i = .int .i64 k ∧ SetAt 4 w.heap.size wr bx g N (seenL s N (r.2.take k)) ∧ Below w.heap.size w wr) (fun i _ => r.2.length - (intOf i).toNat)
 case atStart => exact ⟨0, Nat.zero_le _, rfl, by rw [List.take_zero, seenL_nil]; exact HS1.out, hb1⟩
 case round =>
  obtain ⟨k, hk, rfl, hset, hbel⟩ := hrel
  have d1 := (hbel.cell hb).trans c1
  obtain ⟨s1, s2, s3, s4, s5⟩ := id hset
  have HS := Lib.hid hset
  have hgl := s5.2.1
  clear hset
  by_cases hkl : k < r.2.length
  ·obtain ⟨a, q, rfl, haa, hce⟩ := hcell (by omega)
   obtain ⟨u, hu, hcu⟩ := hce k hkl
   obtain ⟨au, cu, rfl⟩ := rd_slice hu
   have d2 := (hbel.cell haa).trans hcu
   obtain ⟨t1, t2⟩ := (HRO.out.2.2 k hkl).1
   have htl : (r.2[k]).length = r.1.toNat := by omega
   obtain ⟨i0, i1⟩ := idx_lt (s := s) (by omega) htl t2
   obtain ⟨j, hj⟩ : ∃ j : Nat, idxL s 0 r.2[k] = j := ⟨(idxL s 0 r.2[k]).toNat, by omega⟩
   have hjN : j < N := by have := HN.out; rw [this, hj] at i1; omega
   have e0 := s5.cell (j := j) (by rw [seenL_len]; exact hjN)
   have e1 := s5.free j
   have hgs := s5.lt
   have HST := Lib.hid (seenL_set hkl hj hjN)
   have HBS := Lib.hid (s5.set j true)
   have HU := Lib.hid (hu.below hbel)
   have HT2 := Lib.hid t2
   have HJ := Lib.hid hj
   have hlen5 : (r.2[k]).length ≤ 5 := by omega
   have q1 : 1 ≤ s := hs.1
   have q2 : s ≤ 1000 := by omega
   have n1 : g ≠ b := by omega
   have n2 : g ≠ a := by omega
   have f0 : wr.drew.cell? ⟨g, j, none⟩ = some (.bool ((seenL s N (r.2.take k))[j]'(by rw [seenL_len]; exact hjN))) := e0
   have f1 : wr.drew.frozen? ⟨g, j, none⟩ = false := e1
   clear hce hcell hu hcu t1 t2 htl hj i0 i1 s5 c0 c1
   go_wp2_with fail
   go_region_held_law (fun w' => w'.cell? ⟨bx, 2, none⟩ = some (.slice (some ⟨g, 0, none⟩) N N) ∧ w'.cell? ⟨b, o + 1, none⟩ = some (.slice (some ⟨a, q, none⟩) r.2.length cap) ∧ w'.cell? ⟨a, q + k, none⟩ = some (.slice au (r.2[k]).length cu)) (first | exact ⟨s4, d1, d2⟩ | go_keep)
    (first
     | (go_simp; go_at_call 75; refine (l01Code_any _ s (HU.out.below bD) q1 q2 hlen5 HT2.out).mono ?_; rintro e _ ⟨rfl, rfl⟩; rw [HJ.out]; dsimp only))
   go_wp2_with fail
   go_roundw
   case rel => exact ⟨k + 1, by omega, by go_num, ⟨s1, by simpa [World.setCell] using s2, s3, (World.cell?_setCell_other _ _ _ _ (by first | (simp; done) | (simp; omega))).trans s4, by rw [← HST.out]; exact HBS.out⟩, (hbel.trans bD').setCell (by first | (simp; done) | (simp; omega)) _⟩
   case measure => simp [intOf]; omega
  ·obtain rfl : k = r.2.length := by omega
   rw [List.take_length] at HS
   clear hcell
   go_wp2_with fail
   go_ret
   exact ⟨bx, g, rfl, HS.out, hgl, hbel⟩
end Go.Proofs.YtajmjfbejfiipaaGreat
namespace Go.Proofs.YtajmjfbejfiipaaGreat
open Go.RowKit Go.Sort
set_option maxHeartbeats 1600000 in
set_option maxRecDepth 100000 in
theorem l01At_any (w : World) {v u : Value} {xs ps : List Int} (h : intsT.Rd w [v] xs) (h' : intsT.Rd w [u] ps) (hin : ∀ p ∈ ps, 0 ≤ p ∧ p < (xs.length : Int)) (hlen : ps.length ≤ 1000000) :
  Calls Tryz.prog 255 #[v, u] w (RetS intsT w (atL xs ps)) := by
 obtain ⟨ad, cap, hv, hl, hc, hcell⟩ := ints_ex h
 obtain rfl : v = _ := by simpa using hv
 obtain ⟨ad', cap', hv', hl', hc', hcell'⟩ := ints_ex h'
 obtain rfl : u = _ := by simpa using hv'
 have HIN := Lib.hid hin
 clear h hv h' hv' hin
 go_enter Tryz.func255, Tryz.ntmps255
 go_wp2_with fail
 go_loopw [6, 5] (fun i o wr => ∃ k : Nat, k ≤ ps.length ∧ i = .int .i64 k ∧ Bl Ty.int 2 w.heap.size wr.heap.size wr o (atL xs (ps.take k)) ∧ Below w.heap.size w wr) (fun i _ _ => ps.length - (intOf i).toNat)
 case atStart => exact ⟨0, Nat.zero_le _, rfl, by simpa [atL] using Bl.lit0 (E := Ty.int) (e := 2) (w := w) (Nat.le_refl _), bA⟩
 case round =>
  obtain ⟨k, hk, rfl, hBl, hbel⟩ := hrel
  have HB := Lib.hid hBl
  clear hBl
  by_cases hkl : k < ps.length
  ·obtain ⟨b', o', rfl, hb', hce'⟩ := hcell' (by omega)
   have hin := HIN.out ps[k] (List.getElem_mem hkl)
   obtain ⟨j, hj⟩ : ∃ j : Nat, ps[k] = j := ⟨ps[k].toNat, by omega⟩
   have hjl : j < xs.length := by omega
   obtain ⟨b, o, rfl, hb, hce⟩ := hcell (by omega)
   have e0 := (hbel.cell hb').trans (hce' k hkl).2
   rw [hj] at e0
   have e1 := (hbel.cell hb).trans (hce j hjl).2
   have hI := (hce j hjl).1
   clear hcell hcell' hce hce' hin
   have hrec := atL_take hkl hj hjl
   have HR := Lib.hid hrec
   clear hrec
   go_wp2_with (refine wpList_push (E := Ty.int) _ rfl _ _ 38 2 rfl elInt rfl (HB.out.below bA (Nat.le_refl _)) rfl news1 (fr_int hI) (by rw [atL_len, take_len hk]; omega) (by decide) hbel.size (by simp) ?_; intro v1 w1 hB1 hg1 _)
   have hbel1 : Below w.heap.size w w1 := (hbel.alloc hbel.size _).grown hg1 (by have := hbel.size; simp; omega) (fun k hk => HB.out.own hk)
   rw [HR.out] at hB1
   have HB1 := Lib.hid hB1
   clear hB1
   go_wp2_with fail
   go_roundw
   case rel => exact ⟨k + 1, by omega, by go_num, HB1.out, hbel1⟩
   case measure => simp [intOf]; omega
  ·obtain rfl : k = ps.length := by omega
   go_wp2_with fail
   go_ret
   rw [List.take_length] at HB
   exact ⟨_, rfl, HB.out.fr (by rw [atL_len]; unfold capMax; omega), hbel⟩
/-- the relation with a number; a constraint holds for values -/
def relAt (t : Int × List (Int × List (List Int))) (k : Int) : Int × List (List Int) := t.2.getD k.toNat (0, [])
def holdsC (t : Int × List (Int × List (List Int))) (vals : List Int) (c : Int × List Int) : Prop := atL vals c.2 ∈ (relAt t c.1).2
theorem relAt_nat {t : Int × List (Int × List (List Int))} {k : Nat} (h : k < t.2.length) : relAt t (k : Int) = t.2[k] := by simp [relAt, h]
end Go.Proofs.YtajmjfbejfiipaaGreat
namespace Go.Proofs.YtajmjfbejfiipaaGreat
open Go.RowKit

/-- all blocks but some are as before -/
structure TchF (fp : List Nat) (w w' : World) : Prop where
 os : w'.os = w.os
 tape : w'.tape = w.tape
 output : w'.output = w.output
 size : w.heap.size ≤ w'.heap.size
 block : ∀ k, k < w.heap.size → k ∉ fp → w'.heap[k]? = w.heap[k]?
theorem TchF.refl (fp : List Nat) (w : World) : TchF fp w w := ⟨rfl, rfl, rfl, Nat.le_refl _, fun _ _ _ => rfl⟩
theorem TchF.trans {fp : List Nat} {w w' w'' : World} (h : TchF fp w w') (k : TchF fp w' w'') : TchF fp w w'' :=
 ⟨k.os.trans h.os, k.tape.trans h.tape, k.output.trans h.output, Nat.le_trans h.size k.size, fun i hi hb => (k.block i (Nat.lt_of_lt_of_le hi h.size) hb).trans (h.block i hi hb)⟩
theorem TchF.mono {fp fp' : List Nat} {w w' : World} (h : TchF fp w w') (hs : ∀ k ∈ fp, k ∈ fp') : TchF fp' w w' := ⟨h.os, h.tape, h.output, h.size, fun k hk hn => h.block k hk fun hm => hn (hs k hm)⟩
theorem Below.tchF {w w' : World} (h : Below w.heap.size w w') (fp : List Nat) : TchF fp w w' := ⟨h.os, h.tape, h.output, h.size, fun k hk _ => h.block k hk⟩
theorem TchF.setCell {fp : List Nat} {b : Nat} (hb : b ∈ fp) (o : Nat) (w : World) (u : Value) : TchF fp w (w.setCell ⟨b, o, none⟩ u) :=
 ⟨rfl, rfl, rfl, by simp [World.setCell], fun k _ hk => Below.heap_setCell _ _ _ _ (fun e => hk (by rw [e]; exact hb))⟩
theorem TchF.same {fp g : List Nat} {w w' : World} (h : TchF fp w w') (hg : ∀ k ∈ g, k < w.heap.size ∧ k ∉ fp) : Same g w w' := fun k hk => h.block k (hg k hk).1 (hg k hk).2
theorem TchF.cell {fp : List Nat} {w w' : World} (h : TchF fp w w') {b o : Nat} (hb : b < w.heap.size) (hn : b ∉ fp) : w'.cell? ⟨b, o, none⟩ = w.cell? ⟨b, o, none⟩ := World.cell?_of_block (w := w) (h.block b hb hn)
theorem TchF.frozen {fp : List Nat} {w w' : World} (h : TchF fp w w') {b o : Nat} (hb : b < w.heap.size) (hn : b ∉ fp) : w'.frozen? ⟨b, o, none⟩ = w.frozen? ⟨b, o, none⟩ := World.frozen?_of_block (w := w) (h.block b hb hn)

section
variable {α : Type} {f : Int → α → α} {c : α → Int} {k : Int} {xs : List α} {i : Nat}
end
theorem rowRd.put {α : Type} {E : Ty α} {w w' : World} {b o : Nat} {xs : List α} {fps : Nat → List Nat} {i : Nat} {y : α} (h : rowRd E w b o xs fps) (_hi : i < xs.length)
  (hother : ∀ j, j < xs.length → j ≠ i → Same (fps j) w w' ∧ ∀ q, q < E.sz → w'.cell? ⟨b, o + j * E.sz + q, none⟩ = w.cell? ⟨b, o + j * E.sz + q, none⟩)
  (hthis : ∃ cs, E.rd w' cs y (fps i) ∧ ∀ j (hj : j < cs.length), w'.cell? ⟨b, o + i * E.sz + j, none⟩ = some cs[j]) : rowRd E w' b o (xs.set i y) fps := by
 intro j hj
 by_cases e : i = j
 ·subst e
  simpa using hthis
 ·have hj' : j < xs.length := by simpa using hj
  obtain ⟨cs, h1, h2⟩ := h j hj'
  obtain ⟨h3, h4⟩ := hother j hj' (fun e' => e e'.symm)
  refine ⟨cs, by rw [List.getElem_set_ne e]; exact E.same h1 h3, fun q hq => ?_⟩
  rw [h4 q (by rw [← E.len h1]; exact hq)]
  exact h2 q hq

theorem rd_pair {α : Type} {E : Ty α} {w : World} {cs : List Value} {x : Int × List α} {fp : List Nat} (h : (Ty.cons (Ty.slice E)).rd w cs x fp) :
  ∃ u, cs = [.int .i64 x.1, u] ∧ (Ty.slice E).rd w [u] x.2 fp ∧ ∀ w' y, (Ty.slice E).rd w' [u] y fp → (Ty.cons (Ty.slice E)).rd w' [.int .i64 x.1, u] (x.1, y) fp := by
 obtain ⟨cs', rfl, hI, h1⟩ := h
 obtain ⟨_, _, rfl, _⟩ := id h1
 exact ⟨_, rfl, h1, fun w' y hy => ⟨_, rfl, hI, hy⟩⟩
/-! memory between two numbers -/
/-- reads so in blocks from lo up to hi, each once, none frozen -/
def Ty.Fx {α : Type} (E : Ty α) (lo hi : Nat) (w : World) (cs : List Value) (x : α) : Prop := ∃ fp, E.rd w cs x fp ∧ fp.Nodup ∧ (∀ b ∈ fp, lo ≤ b ∧ b < hi) ∧ Unf w fp
theorem Ty.Fx.rd {α : Type} {E : Ty α} {lo hi : Nat} {w : World} {cs : List Value} {x : α} (h : E.Fx lo hi w cs x) : E.Rd w cs x := let ⟨fp, h, _⟩ := h; ⟨fp, h⟩
theorem Ty.Fr.fx {α : Type} {E : Ty α} {lo : Nat} {w : World} {cs : List Value} {x : α} (h : E.Fr lo w cs x) : E.Fx lo w.heap.size w cs x :=
 let ⟨fp, h1, h2, h3, h4⟩ := h; ⟨fp, h1, h2, fun b hb => ⟨h3 b hb, E.lt h1 b hb⟩, h4⟩
theorem Ty.Fx.below {α : Type} {E : Ty α} {lo hi : Nat} {w w' : World} {cs : List Value} {x : α} (h : E.Fx lo hi w cs x) (hb : Below w.heap.size w w') : E.Fx lo hi w' cs x :=
 let ⟨fp, h1, h2, h3, h4⟩ := h
 have hs : Same fp w w' := Same.below hb (E.lt h1)
 ⟨fp, E.same h1 hs, h2, h3, h4.same hs⟩
/-- all old blocks but those from lo up to hi are as before -/
structure Tch (lo hi : Nat) (w w' : World) : Prop where
 os : w'.os = w.os
 tape : w'.tape = w.tape
 output : w'.output = w.output
 size : w.heap.size ≤ w'.heap.size
 block : ∀ k, k < w.heap.size → (k < lo ∨ hi ≤ k) → w'.heap[k]? = w.heap[k]?
theorem TchF.tch {fp : List Nat} {lo hi : Nat} {w w' : World} (h : TchF fp w w') (hf : ∀ b ∈ fp, lo ≤ b ∧ b < hi) : Tch lo hi w w' :=
 ⟨h.os, h.tape, h.output, h.size, fun k hk hn => h.block k hk fun hm => by have := hf k hm; omega⟩
theorem Tch.cell {lo hi : Nat} {w w' : World} (h : Tch lo hi w w') {b o : Nat} (hb : b < w.heap.size) (hn : b < lo ∨ hi ≤ b) : w'.cell? ⟨b, o, none⟩ = w.cell? ⟨b, o, none⟩ := World.cell?_of_block (w := w) (h.block b hb hn)
theorem Ty.Fx.tch {α : Type} {E : Ty α} {lo hi lo' hi' : Nat} {w w' : World} {cs : List Value} {x : α} (h : E.Fx lo hi w cs x) (ht : Tch lo' hi' w w') (hd : hi ≤ lo' ∨ hi' ≤ lo) : E.Fx lo hi w' cs x :=
 let ⟨fp, h1, h2, h3, h4⟩ := h
 have hs : Same fp w w' := fun k hk => ht.block k (E.lt h1 k hk) (by have := h3 k hk; omega)
 ⟨fp, E.same h1 hs, h2, h3, h4.same hs⟩
/-- an append at a step of a region that draws its order -/
theorem step_push {P : Program} {K : Act → World → Prop} {Ee : Prop} {α : Type} {E : Ty α} (w : World) {ops : Array Oper} {o : Oper} {a : Act} {Q : Exit → Act → World → Prop} (hgd : o.guard = none) (s x : Operand) (t e : TypeId) {bytes : Nat}
  (ho : o.op = .call { callee := .builtin .append, args := #[s, x], argTypes := #[t, t] }) (hT : ElT P t e E.sz bytes)
  {base top : Nat} {v : Value} {ys : List α} (hs : a.eval s = v) (hB : Bl E e base top w v ys)
  {ad : Addr} {c : Nat} {cs : List Value} {y : α} (hx : a.eval x = .slice (some ad) 1 c) (hnews : ∀ j u, cs[j]? = some u → w.cell? (ad.add j) = some u) (hy : E.Fr top w cs y)
  (hlen : ys.length ≤ 1000000000) (hby : bytes ≤ 100000) (hbt : base ≤ top) (htop : top ≤ w.heap.size)
  (h : ∀ v' w', Bl E e base w'.heap.size w' v' (ys ++ [y]) → w.grownBy w' v.ownBlock → (v'.ownBlock = v.ownBlock ∨ v'.ownBlock = some w.heap.size) → K (a.put o.dst v') w') : if Region.wanted o (yielded ops a.tmps) = true then Oper.wp P o a w K Q else Ee := by
 rw [if_pos (by simp [Region.wanted, hgd])]
 obtain ⟨L, fps, g1, g2, g3, g4, g5, g6⟩ := hB
 obtain ⟨fp, k1, k2, k3, k4⟩ := hy
 obtain ⟨i, z, ht, hi, hz, hsz, hbt', hzs, hp⟩ := id hT
 have hcl := E.len k1
 have hlen' : (ys.length + 1) * bytes ≤ 140737488355328 := Nat.le_trans (Nat.mul_le_mul (show ys.length + 1 ≤ 1000000001 by omega) hby) (by decide)
 have hbase : base ≤ w.heap.size := Nat.le_trans hbt htop
 obtain ⟨v', w', hr, h2, h3, h4⟩ := run_append_own (P := P) w base t o.type e i z E.sz bytes ht hi hz hsz hbt' hzs hp v ys.length L g1 ad 1 c cs (by omega) hnews (E.one k1) (by unfold maxLen; omega) hlen' hbase
 have hblk := run_push_block w base t o.type e hT v ys.length L g1 ad 1 c cs (by omega) hnews (E.one k1) (by unfold maxLen; omega) hlen' (by omega) v' w' hr
 have hS : ∀ k, v.ownBlock ≠ some k → k < w.heap.size → w'.heap[k]? = w.heap[k]? := fun k hk hlt => h3.block k hlt (fun he => hk he.symm)
 have hlt1 : ∀ b ∈ flat fps ys.length, b < w.heap.size := fun b hb => Nat.lt_of_lt_of_le (g4 b hb).2.1 htop
 have hlt2 : ∀ b ∈ fp, b < w.heap.size := E.lt k1
 have hS1 : Same (flat fps ys.length) w w' := fun k hk => hS k (g4 k hk).2.2 (hlt1 k hk)
 have hne : ∀ b ∈ fp, v.ownBlock ≠ some b := fun b hb he => by have := g5 b he; have := k3 b hb; omega
 have hS2 : Same fp w w' := fun k hk => hS k (hne k hk) (hlt2 k hk)
 have hBl : Bl E e base w'.heap.size w' v' (ys ++ [y]) := by
  refine ⟨L ++ cs, fun i => if i = ys.length then fp else fps i, by simpa using h2, el_add (fun i hi => ?_) g1.1 (E.same k1 hS2), ?_, ?_, ?_, ?_⟩
  ·obtain ⟨cs', h7, h8⟩ := g2 i hi
   exact ⟨cs', E.same h7 (fun k hk => hS1 k (List.mem_flatMap.2 ⟨i, by simpa using hi, hk⟩)), h8⟩
  ·rw [List.length_append, List.length_singleton, flat_add]
   exact List.nodup_append.2 ⟨g3, k2, fun a ha b hb he => by subst he; have := (g4 a ha).2.1; have := k3 a hb; omega⟩
  ·rw [List.length_append, List.length_singleton, flat_add]
   intro b hb
   have hsz' := h3.size
   rcases List.mem_append.1 hb with hb | hb
   ·refine ⟨(g4 b hb).1, by have := hlt1 b hb; omega, ?_⟩
    rcases hblk with e1 | e1 <;> rw [e1]
    ·exact (g4 b hb).2.2
    ·intro he; have := hlt1 b hb; simp at he; omega
   ·refine ⟨by have := k3 b hb; omega, by have := hlt2 b hb; omega, ?_⟩
    rcases hblk with e1 | e1 <;> rw [e1]
    ·exact hne b hb
    ·intro he; have := hlt2 b hb; simp at he; omega
  ·intro g hg
   exact (h2.lt g hg).2
  ·rw [List.length_append, List.length_singleton, flat_add]
   intro b hb
   rcases List.mem_append.1 hb with hb | hb
   ·exact g6.same hS1 b hb
   ·exact k4.same hS2 b hb
 unfold Oper.wp execOp
 simp only [ho, resolve, invoke, builtin, Sem.run_bind, Sem.run_pure, Result.andThen_ok, List.map_toArray, List.map_cons, List.map_nil, hs, hx, hr]
 exact h v' w' hBl h3 hblk
end Go.Proofs.YtajmjfbejfiipaaGreat
namespace Go.Proofs.YtajmjfbejfiipaaGreat
open Go.RowKit Go.Sort

/-- a struct in new memory, and a code -/
def RetAC {α : Type} (E : Ty α) (w : World) (x : α) (c : Int) (e : Ending) (w' : World) : Prop := ∃ cs : List Value, e = .returned (.tuple #[.agg cs.toArray, .int .i64 c]) ∧ E.Fr w.heap.size w' cs x ∧ Below w.heap.size w w'
/-- a slice in new memory, and a code -/
def RetSC {α : Type} (E : Ty α) (w : World) (x : α) (c : Int) (e : Ending) (w' : World) : Prop := ∃ u, e = .returned (.tuple #[u, .int .i64 c]) ∧ E.Fr w.heap.size w' [u] x ∧ Below w.heap.size w w'
def frm0 : Int × Int × List (Int × List Int) := (0, 0, [])
theorem fr_frm0 {base : Nat} {w : World} : frmT.Fr base w [.int .i64 0, .int .i64 0, .slice none 0 0] frm0 := fr_cons (I64.small (by omega) (by omega)) (fr_cons (I64.small (by omega) (by omega)) fr_nil)
/-- a result of three cells, stored -/
abbrev set3 (w : World) (b : Nat) (x y z : Value) : World := ((w.setCell ⟨b, 0, none⟩ x).setCell ⟨b, 1, none⟩ y).setCell ⟨b, 2, none⟩ z
theorem set3_cells {w : World} {b : Nat} {x y z x' y' z' : Value} (h0 : w.cell? ⟨b, 0, none⟩ = some x') (h1 : w.cell? ⟨b, 1, none⟩ = some y') (h2 : w.cell? ⟨b, 2, none⟩ = some z') :
  (set3 w b x y z).cell? ⟨b, 0, none⟩ = some x ∧ (set3 w b x y z).cell? ⟨b, 1, none⟩ = some y ∧ (set3 w b x y z).cell? ⟨b, 2, none⟩ = some z := by
 have e1 : (w.setCell ⟨b, 0, none⟩ x).cell? ⟨b, 1, none⟩ = some y' := (World.cell?_setCell_other _ _ _ _ (by simp)).trans h1
 have e2 : ((w.setCell ⟨b, 0, none⟩ x).setCell ⟨b, 1, none⟩ y).cell? ⟨b, 2, none⟩ = some z' := (World.cell?_setCell_other _ _ _ _ (by simp)).trans ((World.cell?_setCell_other _ _ _ _ (by simp)).trans h2)
 exact ⟨(World.cell?_setCell_other _ _ _ _ (by simp)).trans ((World.cell?_setCell_other _ _ _ _ (by simp)).trans (World.cell?_setCell_same _ _ _ h0)), (World.cell?_setCell_other _ _ _ _ (by simp)).trans (World.cell?_setCell_same _ _ _ e1), World.cell?_setCell_same _ _ _ e2⟩
theorem Ty.Fr.set3 {α : Type} {E : Ty α} {base : Nat} {w : World} {cs : List Value} {v : α} {b : Nat} {x y z : Value} (h : E.Fr base w cs v) (hb : b < base) : E.Fr base (set3 w b x y z) cs v := ((h.set hb).set hb).set hb
theorem set3_below {B : Nat} {a w : World} {b : Nat} {x y z : Value} (h : Below B a w) (hb : B ≤ b) : Below B a (set3 w b x y z) := ((h.setCell hb _).setCell hb _).setCell hb _

section
variable {t : Int × List (Int × List (List Int))} {rel : Int}
end
end Go.Proofs.YtajmjfbejfiipaaGreat
namespace Go.Proofs.YtajmjfbejfiipaaGreat
open Go.RowKit Go.Sort
theorem news2 {w : World} {u u' : Value} {T : TypeId} : ∀ j x, [u, u'][j]? = some x → (w.alloc (.cells #[u, u'] T)).cell? ((⟨w.heap.size, 0, none⟩ : Addr).add j) = some x := by
 intro j x h
 match j with
 | 0 => simp at h; subst h; simp [Addr.add]
 | 1 => simp at h; subst h; simp [Addr.add]
 | j + 2 => simp at h
end Go.Proofs.YtajmjfbejfiipaaGreat
namespace Go.Proofs.YtajmjfbejfiipaaGreat
open Go.RowKit Go.Sort
section
variable (t : Int × List (Int × List (List Int))) (f : Int × Int × List (Int × List Int)) (v : Int)
end
section
variable {t : Int × List (Int × List (List Int))} {f : Int × Int × List (Int × List Int)} {v : Int}
end
theorem wrap_small {n : Int} (h0 : -1000000000000000000 ≤ n) (h1 : n ≤ 1000000000000000000) : IntKind.i64.wrap n = n := by
 simp [IntKind.wrap, IntKind.signed, IntKind.bits]
 omega
end Go.Proofs.YtajmjfbejfiipaaGreat
namespace Go.Proofs.YtajmjfbejfiipaaGreat
open Go.RowKit Go.Sort
theorem size_set {w : World} {a : Addr} {u : Value} : (w.setCell a u).heap.size = w.heap.size := by simp [World.setCell]
theorem ex_slice {α : Type} {E : Ty α} {base : Nat} {w : World} {u : Value} {x : List α} (h : (Ty.slice E).Fr base w [u] x) : ∃ ad n cap, u = .slice ad n cap := let ⟨a, c, h⟩ := fr_slice h; ⟨a, _, c, h⟩
theorem rd_sl {α : Type} {E : Ty α} {w : World} {u : Value} {x : List α} (h : (Ty.slice E).Rd w [u] x) : ∃ ad n cap, u = .slice ad n cap := let ⟨a, c, h⟩ := rd_slice h; ⟨a, _, c, h⟩
end Go.Proofs.YtajmjfbejfiipaaGreat
namespace Go.Proofs.YtajmjfbejfiipaaGreat
open Go.RowKit Go.Sort
end Go.Proofs.YtajmjfbejfiipaaGreat
namespace Go.Proofs.YtajmjfbejfiipaaGreat
open Go.RowKit Go.Sort
theorem flat_nil (n : Nat) : flat (fun _ => []) n = [] := List.eq_nil_iff_forall_not_mem.2 fun x hx => by obtain ⟨_, _, h⟩ := List.mem_flatMap.1 hx; cases h
theorem wpList_appI {P : Program} (w : World) {ops : Array Oper} {rest : List Oper} {o : Oper} {a : Act} {Q : Exit → Act → World → Prop} (hgd : o.guard = none) (s x : Operand) (t e : TypeId) {bytes : Nat}
  (ho : o.op = .call { callee := .builtin .append, args := #[s, x], argTypes := #[t, t] }) (hT : ElT P t e 1 bytes)
  {base top : Nat} {v : Value} {ys : List Int} (hs : a.eval s = v) (hB : Bl Ty.int e base top w v ys)
  {u : Value} {xs : List Int} (hx : a.eval x = u) (hr : intsT.Rd w [u] xs) (h0 : 0 < xs.length)
  (hlen : ys.length + xs.length ≤ 1000000000) (hby : bytes ≤ 100000) (hbt : base ≤ top) (htop : top ≤ w.heap.size)
  (h : ∀ v' w', Bl Ty.int e base w'.heap.size w' v' (ys ++ xs) → w.grownBy w' v.ownBlock → (v'.ownBlock = v.ownBlock ∨ v'.ownBlock = some w.heap.size) → wpList P ops Q rest (a.put o.dst v') w') : wpList P ops Q (o :: rest) a w := by
 obtain ⟨L, fps, g1, g2, g3, g4, g5, g6⟩ := hB
 obtain ⟨ad', cap', hu, hl, hc, hcell⟩ := ints_ex hr
 obtain ⟨b, o', rfl, hb, hce⟩ := hcell h0
 obtain rfl : u = .slice (some ⟨b, o', none⟩) xs.length cap' := by simpa using hu
 obtain ⟨i, z, ht, hi, hz, hsz, hbt', hzs, hp⟩ := id hT
 have hnews : ∀ (j : Nat) (u : Value), (xs.map (Value.int .i64))[j]? = some u → w.cell? ((⟨b, o', none⟩ : Addr).add j) = some u := by
  intro j u hj
  rw [List.getElem?_map] at hj
  by_cases hjl : j < xs.length
  ·rw [List.getElem?_eq_getElem hjl] at hj
   simp only [Option.map_some, Option.some.injEq] at hj
   subst hj
   have := (hce j hjl).2
   by_cases hj0 : j = 0
   ·subst hj0
    simpa [Addr.add] using this
   ·simpa [Addr.add, hj0] using this
  ·rw [List.getElem?_eq_none (by omega)] at hj
   simp at hj
 have hone : ∀ u ∈ xs.map (Value.int .i64), u.oneCell' = true := by
  intro u hu
  obtain ⟨n, _, rfl⟩ := List.mem_map.1 hu
  rfl
 have hnl : (xs.map (Value.int .i64)).length = xs.length * 1 := by simp
 have hlen' : (ys.length + xs.length) * bytes ≤ 140737488355328 := Nat.le_trans (Nat.mul_le_mul hlen hby) (by decide)
 have hbase : base ≤ w.heap.size := Nat.le_trans hbt htop
 have hLl : L.length = ys.length := by have := g1.1; simpa [Ty.int] using this
 refine wpList_plain hgd fun K hK => ?_
 obtain ⟨v', w', hr', h2, h3, h4⟩ := run_append_own (P := P) w base t o.type e i z 1 bytes ht hi hz hsz hbt' hzs hp v ys.length L g1 ⟨b, o', none⟩ xs.length cap' _ hnl hnews hone (by unfold maxLen; omega) hlen' hbase
 have hblk := run_push_block w base t o.type e hT v ys.length L g1 ⟨b, o', none⟩ xs.length cap' _ hnl hnews hone (by unfold maxLen; omega) hlen' h0 v' w' hr'
 have hBl : Bl Ty.int e base w'.heap.size w' v' (ys ++ xs) := by
  refine ⟨L ++ xs.map (Value.int .i64), fun _ => [], by simpa [Ty.int] using h2, fun j hj => ?_, by rw [flat_nil]; exact List.nodup_nil, by rw [flat_nil]; simp, fun g hg => (h2.lt g hg).2, by rw [flat_nil]; intro b hb; cases hb⟩
  by_cases hjy : j < ys.length
  ·obtain ⟨cs, ⟨rfl, hI, _⟩, hk⟩ := g2 j hjy
   refine ⟨[.int .i64 (ys ++ xs)[j]], ⟨rfl, by rw [List.getElem_append_left hjy]; exact hI, rfl⟩, fun q hq => ?_⟩
   obtain rfl : q = 0 := by simpa using hq
   have := hk 0 (by simp)
   rw [List.getElem?_append_left (by rw [hLl]; simp [Ty.int]; exact hjy)]
   simpa [List.getElem_append_left hjy] using this
  ·have hj' : j - ys.length < xs.length := by rw [List.length_append] at hj; omega
   have hge : (ys ++ xs)[j] = xs[j - ys.length] := List.getElem_append_right (by omega)
   refine ⟨[.int .i64 (ys ++ xs)[j]], ⟨rfl, by rw [hge]; exact (hce _ hj').1, rfl⟩, fun q hq => ?_⟩
   obtain rfl : q = 0 := by simpa using hq
   rw [List.getElem?_append_right (by rw [hLl]; simp [Ty.int]; omega), hLl]
   simp [Ty.int, hge, hj']
 unfold Oper.wp execOp
 simp only [ho, resolve, invoke, builtin, Sem.run_bind, Sem.run_pure, Result.andThen_ok, List.map_toArray, List.map_cons, List.map_nil, hs, hx, hr']
 exact hK _ _ (h v' w' hBl h3 hblk)
set_option maxHeartbeats 800000 in
theorem l00Own_any (w : World) {v : Value} {xs : List Int} (h : intsT.Rd w [v] xs) (hlen : xs.length ≤ 1000000) :
  Calls Tryz.prog 108 #[v] w fun e w' => ∃ u, e = .returned u ∧ Bl Ty.int 2 w.heap.size w'.heap.size w' u xs ∧ Below w.heap.size w w' := by
 have hx := h
 obtain ⟨ad, cap, rfl⟩ := rd_slice h
 have HX := Lib.hid hx
 rcases Nat.eq_zero_or_pos xs.length with h0 | h0
 ·obtain rfl := List.eq_nil_of_length_eq_zero h0
  clear h hx h0 HX
  cases ad
  all_goals
   go_enter Tryz.func108, Tryz.ntmps108
   go_wp2_with fail
   go_ret
   exact ⟨_, rfl, by simpa using Bl.lit0 (E := Ty.int) (e := 2) (w := w) (Nat.le_refl _), bA⟩
 ·clear h hx
  have HB := Lib.hid (Bl.lit0 (E := Ty.int) (e := 2) (base := w.heap.size) (w := w) (Nat.le_refl _))
  go_enter Tryz.func108, Tryz.ntmps108
  go_wp2_with (refine wpList_appI _ rfl _ _ 38 2 rfl elInt rfl HB.out rfl (HX.out.below bA) h0 (by simp; omega) (by decide) (by omega) (by simp) ?_; intro v1 w1 hB1 hg1 _)
  have HB1 := Lib.hid hB1
  have hb1 : Below w.heap.size w w1 := (bA (w := w)).grown hg1 (by simp) (fun k hk => HB.out.own hk)
  clear hB1
  go_wp2_with fail
  go_ret
  exact ⟨_, rfl, HB1.out, hb1⟩
noncomputable def limV (f : Int × Int × List (Int × List Int)) : Int × Int × List (Int × List Int) := match tb (f.2.1 ≤ 8 ∧ f.2.2.length ≤ 16) with
 | true => f
 | false => frm0
noncomputable def limC (f : Int × Int × List (Int × List Int)) : Int := match tb (f.2.1 ≤ 8 ∧ f.2.2.length ≤ 16) with
 | true => 0
 | false => 3
theorem lim_yes {f : Int × Int × List (Int × List Int)} (h : f.2.1 ≤ 8 ∧ f.2.2.length ≤ 16) : limV f = f ∧ limC f = 0 := by simp only [limV, limC, tb_true h]; exact ⟨trivial, trivial⟩
theorem lim_no {f : Int × Int × List (Int × List Int)} (h : ¬ (f.2.1 ≤ 8 ∧ f.2.2.length ≤ 16)) : limV f = frm0 ∧ limC f = 3 := by simp only [limV, limC, tb_false h]; exact ⟨trivial, trivial⟩
set_option maxHeartbeats 1600000 in
set_option maxRecDepth 100000 in
theorem limited_any (w : World) {base : Nat} {cs : Array Value} {f : Int × Int × List (Int × List Int)} (h : frmT.Fr base w cs.toList f) (_hb : base ≤ w.heap.size) :
  Calls Tryz.prog 72 #[.agg cs] w fun e w' => ∃ cs' : List Value, e = .returned (.tuple #[.agg cs'.toArray, .int .i64 (limC f)]) ∧ frmT.Fr base w' cs' (limV f) ∧ Below w.heap.size w w' := by
 have hf := h
 obtain ⟨u, hv, hI, hI2, hx⟩ := trip_ex h.rd
 obtain rfl := agg_of hv
 obtain ⟨_, _, -, -, hle2, -⟩ := Ty.slice_ex hx
 obtain ⟨ad, cap, rfl⟩ := rd_slice hx
 have HF := Lib.hid hf
 clear h hv hf hx
 by_cases hl : f.2.1 ≤ 8 ∧ f.2.2.length ≤ 16
 ·have HR := Lib.hid (lim_yes hl)
  obtain ⟨hl1, hl2⟩ := hl
  go_enter Tryz.func72, Tryz.ntmps72
  go_wp2_with fail
  refine bodyPost_ret (v := .tuple #[.agg #[.int .i64 f.1, .int .i64 f.2.1, .slice ad f.2.2.length cap], .int .i64 0]) (by simp [results, Tryz.results72, go_sem]) rfl ⟨[.int .i64 f.1, .int .i64 f.2.1, .slice ad f.2.2.length cap], by rw [HR.out.2], ?_, (by repeat (first | exact Below.refl _ _ | exact bA | assumption | refine Below.setCell ?_ (by first | omega | (simp; try omega)) _ | refine Below.alloc ?_ (by first | omega | (simp; try omega)) _ | refine Below.drew ?_ | refine bDN ?_ | refine bthen ?_ (by assumption)))⟩
  rw [HR.out.1]
  exact HF.out.below (by repeat (first | exact Below.refl _ _ | exact bA | assumption | refine Below.setCell ?_ (by first | omega | (simp; try omega)) _ | refine Below.alloc ?_ (by first | omega | (simp; try omega)) _ | refine Below.drew ?_ | refine bDN ?_ | refine bthen ?_ (by assumption)))
 ·have HR := Lib.hid (lim_no hl)
  rcases ilt 8 f.2.1 with h8 | h8
  ·clear hl
   go_enter Tryz.func72, Tryz.ntmps72
   go_wp2_with fail
   refine bodyPost_ret (v := .tuple #[.agg #[.int .i64 0, .int .i64 0, .slice none 0 0], .int .i64 3]) (by simp [results, Tryz.results72, go_sem]) rfl ⟨[.int .i64 0, .int .i64 0, .slice none 0 0], by rw [HR.out.2], by rw [HR.out.1]; exact fr_frm0, (by repeat (first | exact Below.refl _ _ | exact bA | assumption | refine Below.setCell ?_ (by first | omega | (simp; try omega)) _ | refine Below.alloc ?_ (by first | omega | (simp; try omega)) _ | refine Below.drew ?_ | refine bDN ?_ | refine bthen ?_ (by assumption)))⟩
  ·have hl2 : 16 < f.2.2.length := by omega
   clear hl
   go_enter Tryz.func72, Tryz.ntmps72
   go_wp2_with fail
   refine bodyPost_ret (v := .tuple #[.agg #[.int .i64 0, .int .i64 0, .slice none 0 0], .int .i64 3]) (by simp [results, Tryz.results72, go_sem]) rfl ⟨[.int .i64 0, .int .i64 0, .slice none 0 0], by rw [HR.out.2], by rw [HR.out.1]; exact fr_frm0, (by repeat (first | exact Below.refl _ _ | exact bA | assumption | refine Below.setCell ?_ (by first | omega | (simp; try omega)) _ | refine Below.alloc ?_ (by first | omega | (simp; try omega)) _ | refine Below.drew ?_ | refine bDN ?_ | refine bthen ?_ (by assumption)))⟩
end Go.Proofs.YtajmjfbejfiipaaGreat
