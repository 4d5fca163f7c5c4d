/-
Contracts: hiding a variable of a formula: the program's.
Contracts: hiding a variable of a formula: the program's.
Contracts: a copy of a list by append, the limits of formulas; the law of an append of many numbers.
A region that draws its order, with loads ahead of writes: one condition on the world lets the loads be taken first; it need hold no more once one of the last writes ('tail') has come up. Every load waits for none of these, and these wait for every load. No program is named here.
Contracts: slices.Clone, an instance in new memory.
Contracts: atoms that hold; the greatest number of a row.
Rows whose elements point into older memory of the call's own: they read as new data. No program is named here.
Plain mathematics of the search: the lists of values that begin with some and go all the way, in order; what a listener is told of them. No program is named here.
Readings that avoid some blocks; a search's own data; what a listener keeps and touches; an append to a full row. No program is named here.
Contracts: whether the atoms that are due hold.
-/
import Derived.Test.YtnhdohednekhjaaGreatDoorQAB
import Derived.Deep.RegionLaw
import Derived.Deep.RegionHeld
import Derived.Below
import Derived.Test.YtnhdohednekhjaaGreatDoorQAA
namespace Go.Proofs.YtnhdohednekhjaaGreatDoor
open Go.RowKit Go.Sort
theorem rnL_take {g : Int → Int} {xs : List (Int × List Int)} {k : Nat} (h : k < xs.length) : rnL g (xs.take k) ++ [((xs[k]).1, (xs[k]).2.map g)] = rnL g (xs.take (k + 1)) := by
 simp only [rnL]
 rw [List.take_succ_eq_append_getElem h, List.map_append]
 rfl
theorem rnL_len {g : Int → Int} {xs : List (Int × List Int)} : (rnL g xs).length = xs.length := by simp [rnL]
theorem map_take {g : Int → Int} {xs : List Int} {k : Nat} (h : k < xs.length) : (xs.take k).map g ++ [g xs[k]] = (xs.take (k + 1)).map g := by
 rw [List.take_succ_eq_append_getElem h, List.map_append]
 rfl
theorem size_set {w : World} {a : Addr} {u : Value} : (w.setCell a u).heap.size = w.heap.size := by simp [World.setCell]
theorem ex_slice {α : Type} {E : Ty α} {base : Nat} {w : World} {u : Value} {x : List α} (h : (Ty.slice E).Fr base w [u] x) : ∃ ad n cap, u = .slice ad n cap := let ⟨a, c, h⟩ := fr_slice h; ⟨a, _, c, h⟩
theorem rd_sl {α : Type} {E : Ty α} {w : World} {u : Value} {x : List α} (h : (Ty.slice E).Rd w [u] x) : ∃ ad n cap, u = .slice ad n cap := let ⟨a, c, h⟩ := rd_slice h; ⟨a, _, c, h⟩
set_option maxHeartbeats 3200000 in
set_option maxRecDepth 100000 in
theorem renamed_bl (w : World) {v : Value} {xs : List (Int × List Int)} (h : opsT.Rd w [v] xs) (g : Nat) (caps : Array Value) (eg : ∀ args w, (callFunc g args).run Tryz.prog w = .ok (.enter g args) w) (G : Int → Int)
  (hto : Hid (∀ W a, Below w.heap.size w W → (∃ c ∈ xs, a ∈ c.2) → Calls Tryz.prog g (#[.int .i64 a] ++ caps) W fun e w' => e = .returned (.int .i64 (G a)) ∧ W = w'))
  (hG : ∀ c ∈ xs, (∀ a ∈ c.2, I64 (G a)) ∧ c.2.length ≤ 1000000) (hlen : xs.length ≤ 1000000) :
  Calls Tryz.prog 75 #[v, .func (.func g) #[] caps] w fun e w' => ∃ u, e = .returned u ∧ Bl opT 98 w.heap.size w'.heap.size w' u (rnL G xs) ∧ Below w.heap.size w w' := by
 obtain ⟨ad, cap, hv, hl, hc, hcell⟩ := pairs_ex h
 obtain rfl : v = _ := by simpa using hv
 have HG := Lib.hid hG
 clear h hv hG
 go_enter Tryz.func75, Tryz.ntmps75
 go_wp2_with fail
 go_loopw [14, 5] (fun i o wr => ∃ k : Nat, k ≤ xs.length ∧ i = .int .i64 k ∧ Bl opT 98 w.heap.size wr.heap.size wr o (rnL G (xs.take k)) ∧ Below w.heap.size w wr) (fun i _ _ => xs.length - (intOf i).toNat)
 case atStart => exact ⟨0, Nat.zero_le _, rfl, by simpa [rnL] using Bl.lit0 (E := opT) (e := 98) (w := w) (Nat.le_refl _), bA⟩
 case round =>
  obtain ⟨k, hk, rfl, hBl, hbel⟩ := hrel
  have HB := Lib.hid hBl
  clear hBl
  by_cases hkl : k < xs.length
  ·obtain ⟨b, o, rfl, hb, hce⟩ := hcell (by omega)
   obtain ⟨uk, huk, hIk, g0, g1⟩ := hce k hkl
   obtain ⟨ak, ck, huv, hkl2, hkl3, hkc⟩ := ints_ex huk
   obtain rfl : uk = _ := by simpa using huv
   have d0 := (hbel.cell hb).trans g0
   have d1 := (hbel.cell hb).trans g1
   have hgk := HG.out xs[k] (List.getElem_mem hkl)
   have hsz := hbel.size
   have HR := Lib.hid (rnL_take (g := G) hkl)
   clear hcell hce huk huv g0 g1
   obtain ⟨wo, rfl⟩ : ∃ wo : World, wo = wr := ⟨_, rfl⟩
   go_wp2_with fail
   generalize hW2 : (wo.alloc _).alloc _ = W2
   have hbW : Below wo.heap.size wo W2 := hW2 ▸ bAA
   have hs2 : W2.heap.size = wo.heap.size + 2 := by rw [← hW2]; simp
   have x0 : W2.cell? ⟨wo.heap.size + 1, 0, none⟩ = some (.int .i64 (xs[k]).1) := by rw [← hW2]; simp
   have x1 : W2.cell? ⟨wo.heap.size + 1, 1, none⟩ = some (.slice none 0 0) := by rw [← hW2]; simp
   have x2 : W2.frozen? ⟨wo.heap.size + 1, 1, none⟩ = false := by rw [← hW2]; simp
   clear hW2
   go_loopw [24] (fun i wr => ∃ (j : Nat) (v : Value), j ≤ (xs[k]).2.length ∧ i = .int .i64 j ∧ Bl Ty.int 2 (wo.heap.size + 2) wr.heap.size wr v (((xs[k]).2.take j).map G) ∧ wr.cell? ⟨wo.heap.size + 1, 1, none⟩ = some v ∧ wr.cell? ⟨wo.heap.size + 1, 0, none⟩ = some (.int .i64 (xs[k]).1) ∧ wr.frozen? ⟨wo.heap.size + 1, 1, none⟩ = false ∧ Below (wo.heap.size + 1) W2 wr ∧ wo.heap.size + 2 ≤ wr.heap.size) (fun i _ => (xs[k]).2.length - (intOf i).toNat)
   case atStart => exact ⟨0, _, Nat.zero_le _, rfl, by simpa using Bl.nil, x1, x0, x2, Below.refl _ _, by omega⟩
   case round =>
    obtain ⟨j, v, hj, rfl, hBv, y1, y0, y2, hbe, hse⟩ := hrel
    have hbo : Below wo.heap.size wo wr := hbW.trans (hbe.mono (by omega))
    have hbw : Below w.heap.size w wr := bthen hbel hbo
    by_cases hjl : j < (xs[k]).2.length
    ·obtain ⟨bk, ok, rfl, hbk, hck⟩ := hkc (by omega)
     have e0 := (hbw.cell hbk).trans (hck j hjl).2
     have hGI := hgk.1 _ (List.getElem_mem hjl)
     obtain ⟨av0, nv0, cv0, rfl⟩ := ex_slice (hBv.fr (by rw [List.length_map, take_len hj]; unfold capMax; omega))
     have HBv := Lib.hid hBv
     have HMT := Lib.hid (map_take (g := G) hjl)
     have hin : ∃ c ∈ xs, (xs[k]).2[j] ∈ c.2 := ⟨_, List.getElem_mem hkl, List.getElem_mem hjl⟩
     have HIN := Lib.hid hin
     have HGI := Lib.hid hGI
     have hgl := hgk.2
     clear hkc hck hBv hin hGI hgk
     go_wp2_with fail
     have z1 : wr.drew.cell? ⟨wo.heap.size + 1, 1, none⟩ = some (.slice av0 nv0 cv0) := y1
     have z2 : wr.drew.frozen? ⟨wo.heap.size + 1, 1, none⟩ = false := y2
     have z9 : wo.heap.size + 1 < wr.heap.size := by omega
     go_region_law
      (first
       | (refine step_push (E := Ty.int) _ rfl _ _ 48 2 rfl elInt rfl (HBv.out.below (bD.alloc (by simp) _) (Nat.le_refl _)) rfl news1 (fr_int HGI.out) (by rw [List.length_map, take_len hj]; omega) (by decide) hse (by simp) ?_; intro v1 wz hB1 hg1 _; obtain ⟨a1, n1, c1, rfl⟩ := ex_slice (hB1.fr (by rw [List.length_append, List.length_map, take_len hj]; unfold capMax; simp; omega)); have hbz : Below (wo.heap.size + 2) wr wz := (((bD (w := wr)).alloc (by simp) _).mono hse).grown hg1 (by simp; omega) (fun q hq => HBv.out.own hq); have z3 := (hbz.cell (show wo.heap.size + 1 < wo.heap.size + 2 by omega)).trans y1; have z4 := (hbz.frozen (show wo.heap.size + 1 < wo.heap.size + 2 by omega)).trans y2; have z5 := (hbz.cell (show wo.heap.size + 1 < wo.heap.size + 2 by omega)).trans y0; have HB1 := Lib.hid hB1; clear hB1)
       | (go_simp; refine (hto.out _ _ (hbw.trans (bD.mono hbw.size)) HIN.out).mono ?_; rintro e w' ⟨rfl, rfl⟩; dsimp only))
     all_goals
      have hbl := HB1.out
      rw [HMT.out] at hbl
      have HBL := Lib.hid hbl
      have hz5 := hbz.size
      clear hbl HB1
      go_simp
      go_wp2_with fail
      go_roundw
      case rel => exact ⟨j + 1, _, by omega, by go_num, by rw [size_set]; exact HBL.out.sameB (fun q hq1 hq2 => Below.heap_setCell _ _ _ _ (by simp; omega)), World.cell?_setCell_same _ _ _ z3, (World.cell?_setCell_other _ _ _ _ (by simp)).trans z5, (World.frozen?_setCell _ _ _ _).trans z4, (hbe.trans (hbz.mono (by omega))).setCell (by simp) _, by rw [size_set]; omega⟩
      case measure => simp [intOf]; omega
    ·obtain rfl : j = (xs[k]).2.length := by omega
     rw [List.take_length] at hBv
     have hgl := hgk.2
     have hfv := hBv.fr (by rw [List.length_map]; unfold capMax; omega)
     obtain ⟨av, nv, cv, rfl⟩ := ex_slice hfv
     have HF := Lib.hid hfv
     have hzo := hbo.size
     clear hfv hBv hkc hgk
     go_wp2_with (refine wpList_push (E := opT) _ rfl _ _ 29 98 rfl elAtomS rfl (HB.out.below (hbo.alloc hbo.size _) (Nat.le_refl _)) rfl news2 ((fr_cons hIk (HF.out.below bA)).mono (by omega)) (by rw [rnL_len (g := G), take_len hk]; omega) (by decide) hsz (by simp; omega) ?_; intro v1 w2 hB1 hg1 _)
     have hbel1 : Below w.heap.size w w2 := (hbw.alloc hbw.size _).grown hg1 (by have := hbw.size; simp; omega) (fun k hk => HB.out.own hk)
     have hB1' : Bl opT 98 w.heap.size w2.heap.size w2 v1 (rnL G (xs.take k) ++ [((xs[k]).1, (xs[k]).2.map G)]) := hB1
     rw [HR.out] at hB1'
     have HB1 := Lib.hid hB1'
     clear hB1 hB1'
     go_wp2_with fail
     go_roundw
     case rel => exact ⟨k + 1, by omega, by go_num, HB1.out, hbel1⟩
     case measure => simp [intOf]; omega
  ·obtain rfl : k = xs.length := by omega
   go_wp2_with fail
   go_ret
   rw [List.take_length] at HB
   exact ⟨_, rfl, HB.out, hbel⟩
theorem renamed_any (w : World) {v : Value} {xs : List (Int × List Int)} (h : opsT.Rd w [v] xs) (g : Nat) (caps : Array Value) (eg : ∀ args w, (callFunc g args).run Tryz.prog w = .ok (.enter g args) w) (G : Int → Int)
  (hto : Hid (∀ W a, Below w.heap.size w W → (∃ c ∈ xs, a ∈ c.2) → Calls Tryz.prog g (#[.int .i64 a] ++ caps) W fun e w' => e = .returned (.int .i64 (G a)) ∧ W = w'))
  (hG : ∀ c ∈ xs, (∀ a ∈ c.2, I64 (G a)) ∧ c.2.length ≤ 1000000) (hlen : xs.length ≤ 1000000) :
  Calls Tryz.prog 75 #[v, .func (.func g) #[] caps] w (RetS opsT w (rnL G xs)) :=
 (renamed_bl w h g caps eg G hto hG hlen).mono fun _ _ ⟨u, he, hB, hb⟩ => ⟨u, he, hB.fr (by rw [rnL_len]; unfold capMax; omega), hb⟩
end Go.Proofs.YtnhdohednekhjaaGreatDoor
namespace Go.Proofs.YtnhdohednekhjaaGreatDoor
open Go.RowKit Go.Sort
theorem HideVariable1_any (w : World) (a n vars : Int) (b1 b2 : Nat) (h1 : w.cell? ⟨b1, 0, none⟩ = some (.int .i64 n)) (h2 : w.cell? ⟨b2, 1, none⟩ = some (.int .i64 vars)) (h3 : 0 ≤ a ∧ a ≤ 1000) (h4 : 0 ≤ vars ∧ vars ≤ 1000) :
  Calls Tryz.prog 85 #[.int .i64 a, .pointer (some ⟨b1, 0, none⟩), .pointer (some ⟨b2, 0, none⟩)] w fun e w' => e = .returned (.int .i64 (hideTo vars n a)) ∧ w = w' := by
 rcases Int.lt_trichotomy a n with hc | hc | hc
 ·have HE := Lib.hid (hideTo_lt (vars := vars) hc)
  go_enter Tryz.func85, Tryz.ntmps85
  go_wp2_with fail
  go_ret
  exact ⟨ret_int HE.out.symm, rfl⟩
 ·have HE := Lib.hid (hideTo_eq (vars := vars) hc)
  go_enter Tryz.func85, Tryz.ntmps85
  go_wp2_with fail
  go_ret
  exact ⟨ret_int HE.out.symm, rfl⟩
 ·have HE := Lib.hid (hideTo_gt (vars := vars) hc)
  go_enter Tryz.func85, Tryz.ntmps85
  go_wp2_with fail
  go_ret
  exact ⟨ret_int HE.out.symm, rfl⟩
set_option maxHeartbeats 3200000 in
set_option maxRecDepth 100000 in
theorem HideVariable_any (w : World) {cs cs' : Array Value} {t : Int × List (Int × List (List Int))} {x : Int × Int × List (Int × List Int)} (h : tplT.Rd w cs.toList t) (h' : frmT.Rd w cs'.toList x) {n : Int} :
  Calls Tryz.prog 19 #[.agg cs, .agg cs', .int .i64 n] w (RetAC frmT w (hideV t x n) (hideC t x n)) := by
 have ht := h
 have hf0 := h'
 obtain ⟨u, hv, hI, -⟩ := pair_ex h
 obtain rfl := agg_of hv
 obtain ⟨u', hv', hI', hI2, hxx⟩ := trip_ex h'
 obtain rfl := agg_of hv'
 obtain ⟨ax, cx, rfl⟩ := rd_slice hxx
 clear h hv h' hv'
 cases hT : tb (frmOk t x)
 ·have HR := Lib.hid (hide_1 (v := n) hT)
  go_enter Tryz.func19, Tryz.ntmps19
  go_wp2_with fail
  refine (ValidFormula_any _ (ht.below (by repeat (first | exact Below.refl _ _ | exact bA | assumption | refine Below.setCell ?_ (by first | omega | (simp; try omega)) _ | refine Below.alloc ?_ (by first | omega | (simp; try omega)) _ | refine Below.drew ?_ | refine bDN ?_ | refine bthen ?_ (by assumption)))) (hf0.below (by repeat (first | exact Below.refl _ _ | exact bA | assumption | refine Below.setCell ?_ (by first | omega | (simp; try omega)) _ | refine Below.alloc ?_ (by first | omega | (simp; try omega)) _ | refine Below.drew ?_ | refine bDN ?_ | refine bthen ?_ (by assumption))))).mono ?_
  rintro e w1 ⟨rfl, hb1⟩
  rw [hT]
  obtain ⟨q1, q2⟩ := bcell hb1
  have hz1 : w.heap.size + 4 ≤ w1.heap.size := by have := hb1.size; simp at this; omega
  go_wp2_with fail
  refine bodyPost_ret (v := .tuple #[.agg #[.int .i64 0, .int .i64 0, .slice none 0 0], .int .i64 1]) (by simp [results, Tryz.results19, go_sem, q1]) rfl ⟨[.int .i64 0, .int .i64 0, .slice none 0 0], by rw [HR.out.2], by rw [HR.out.1]; exact fr_frm0, (by repeat (first | exact Below.refl _ _ | exact bA | assumption | refine Below.setCell ?_ (by first | omega | (simp; try omega)) _ | refine Below.alloc ?_ (by first | omega | (simp; try omega)) _ | refine Below.drew ?_ | refine bDN ?_ | refine bthen ?_ (by assumption)))⟩
 obtain ⟨k1, k2, k3, k4, k5⟩ := frm_bd hT
 cases hA : inB n 0 (x.1 - 1)
 ·have HR := Lib.hid (hide_2 hT hA)
  go_enter Tryz.func19, Tryz.ntmps19
  go_wp2_with fail
  refine (ValidFormula_any _ (ht.below (by repeat (first | exact Below.refl _ _ | exact bA | assumption | refine Below.setCell ?_ (by first | omega | (simp; try omega)) _ | refine Below.alloc ?_ (by first | omega | (simp; try omega)) _ | refine Below.drew ?_ | refine bDN ?_ | refine bthen ?_ (by assumption)))) (hf0.below (by repeat (first | exact Below.refl _ _ | exact bA | assumption | refine Below.setCell ?_ (by first | omega | (simp; try omega)) _ | refine Below.alloc ?_ (by first | omega | (simp; try omega)) _ | refine Below.drew ?_ | refine bDN ?_ | refine bthen ?_ (by assumption))))).mono ?_
  rintro e w1 ⟨rfl, hb1⟩
  rw [hT]
  obtain ⟨q1, q2⟩ := bcell hb1
  have hz1 : w.heap.size + 4 ≤ w1.heap.size := by have := hb1.size; simp at this; omega
  go_wp2_with fail
  refine (within_any _ _ _ _).mono ?_
  rintro e _ ⟨rfl, rfl⟩
  rw [hA]
  go_wp2_with fail
  refine bodyPost_ret (v := .tuple #[.agg #[.int .i64 0, .int .i64 0, .slice none 0 0], .int .i64 2]) (by simp [results, Tryz.results19, go_sem, q1]) rfl ⟨[.int .i64 0, .int .i64 0, .slice none 0 0], by rw [HR.out.2], by rw [HR.out.1]; exact fr_frm0, (by repeat (first | exact Below.refl _ _ | exact bA | assumption | refine Below.setCell ?_ (by first | omega | (simp; try omega)) _ | refine Below.alloc ?_ (by first | omega | (simp; try omega)) _ | refine Below.drew ?_ | refine bDN ?_ | refine bthen ?_ (by assumption)))⟩
 cases hO : (x.1 == 1)
 rotate_left
 ·have HR := Lib.hid (hide_4 hT hA hO)
  have HO := Lib.hid hO
  clear hO
  go_enter Tryz.func19, Tryz.ntmps19
  go_wp2_with fail
  refine (ValidFormula_any _ (ht.below (by repeat (first | exact Below.refl _ _ | exact bA | assumption | refine Below.setCell ?_ (by first | omega | (simp; try omega)) _ | refine Below.alloc ?_ (by first | omega | (simp; try omega)) _ | refine Below.drew ?_ | refine bDN ?_ | refine bthen ?_ (by assumption)))) (hf0.below (by repeat (first | exact Below.refl _ _ | exact bA | assumption | refine Below.setCell ?_ (by first | omega | (simp; try omega)) _ | refine Below.alloc ?_ (by first | omega | (simp; try omega)) _ | refine Below.drew ?_ | refine bDN ?_ | refine bthen ?_ (by assumption))))).mono ?_
  rintro e w1 ⟨rfl, hb1⟩
  rw [hT]
  obtain ⟨q1, q2⟩ := bcell hb1
  have hz1 : w.heap.size + 4 ≤ w1.heap.size := by have := hb1.size; simp at this; omega
  go_wp2_with fail
  refine (within_any _ _ _ _).mono ?_
  rintro e _ ⟨rfl, rfl⟩
  rw [hA]
  have hO' : x.1 = 1 := by simpa using HO.out
  go_wp2_with fail
  refine bodyPost_ret (v := .tuple #[.agg #[.int .i64 0, .int .i64 0, .slice none 0 0], .int .i64 4]) (by simp [results, Tryz.results19, go_sem, q1]) rfl ⟨[.int .i64 0, .int .i64 0, .slice none 0 0], by rw [HR.out.2], by rw [HR.out.1]; exact fr_frm0, (by repeat (first | exact Below.refl _ _ | exact bA | assumption | refine Below.setCell ?_ (by first | omega | (simp; try omega)) _ | refine Below.alloc ?_ (by first | omega | (simp; try omega)) _ | refine Below.drew ?_ | refine bDN ?_ | refine bthen ?_ (by assumption)))⟩
 have HR := Lib.hid (hide_0 hT hA hO)
 have hO' : ¬ x.1 = 1 := by simpa using hO
 have hA2 := inB_true.1 hA
 have K5 := Lib.hid k5
 clear k5
 go_enter Tryz.func19, Tryz.ntmps19
 go_wp2_with fail
 refine (ValidFormula_any _ (ht.below (by repeat (first | exact Below.refl _ _ | exact bA | assumption | refine Below.setCell ?_ (by first | omega | (simp; try omega)) _ | refine Below.alloc ?_ (by first | omega | (simp; try omega)) _ | refine Below.drew ?_ | refine bDN ?_ | refine bthen ?_ (by assumption)))) (hf0.below (by repeat (first | exact Below.refl _ _ | exact bA | assumption | refine Below.setCell ?_ (by first | omega | (simp; try omega)) _ | refine Below.alloc ?_ (by first | omega | (simp; try omega)) _ | refine Below.drew ?_ | refine bDN ?_ | refine bthen ?_ (by assumption))))).mono ?_
 rintro e w1 ⟨rfl, hb1⟩
 rw [hT]
 obtain ⟨q1, q2⟩ := bcell hb1
 have hz1 : w.heap.size + 4 ≤ w1.heap.size := by have := hb1.size; simp at this; omega
 have hB1 : Below w.heap.size w w1 := bthen (by repeat (first | exact Below.refl _ _ | exact bA | assumption | refine Below.setCell ?_ (by first | omega | (simp; try omega)) _ | refine Below.alloc ?_ (by first | omega | (simp; try omega)) _ | refine Below.drew ?_ | refine bDN ?_ | refine bthen ?_ (by assumption))) hb1
 have c0 : w1.cell? ⟨w.heap.size + 1, 0, none⟩ = some (.int .i64 x.1) := (hb1.cell (by simp [go_sem]; try omega)).trans (by simp [go_sem])
 have c1 : w1.cell? ⟨w.heap.size + 1, 1, none⟩ = some (.int .i64 x.2.1) := (hb1.cell (by simp [go_sem]; try omega)).trans (by simp [go_sem])
 have c2 : w1.cell? ⟨w.heap.size + 1, 2, none⟩ = some (.slice ax x.2.2.length cx) := (hb1.cell (by simp [go_sem]; try omega)).trans (by simp [go_sem])
 have r0 : w1.cell? ⟨w.heap.size + 3, 0, none⟩ = some (.int .i64 0) := (hb1.cell (by simp [go_sem])).trans (by simp [go_sem])
 have r1 : w1.cell? ⟨w.heap.size + 3, 1, none⟩ = some (.int .i64 0) := (hb1.cell (by simp [go_sem])).trans (by simp [go_sem])
 have r2 : w1.cell? ⟨w.heap.size + 3, 2, none⟩ = some (.slice none 0 0) := (hb1.cell (by simp [go_sem])).trans (by simp [go_sem])
 have m0 : w1.frozen? ⟨w.heap.size + 3, 0, none⟩ = false := (hb1.frozen (by simp [go_sem])).trans (by simp [go_sem])
 have m1 : w1.frozen? ⟨w.heap.size + 3, 1, none⟩ = false := (hb1.frozen (by simp [go_sem])).trans (by simp [go_sem])
 have m2 : w1.frozen? ⟨w.heap.size + 3, 2, none⟩ = false := (hb1.frozen (by simp [go_sem])).trans (by simp [go_sem])
 have hx1 : opsT.Rd w1 [.slice ax x.2.2.length cx] x.2.2 := hxx.below hB1
 have n0 : w1.cell? ⟨w.heap.size + 2, 0, none⟩ = some (.int .i64 n) := (hb1.cell (by simp [go_sem])).trans (by simp [go_sem])
 clear hb1 q1 q2 hxx
 go_wp2_with fail
 refine (within_any _ _ _ _).mono ?_
 rintro e _ ⟨rfl, rfl⟩
 rw [hA]
 go_wp2_with fail
 have hto : Hid (∀ W a, Below w1.heap.size w1 W → (∃ c ∈ x.2.2, a ∈ c.2) → Calls Tryz.prog 85 (#[.int .i64 a] ++ #[.pointer (some ⟨w.heap.size + 2, 0, none⟩), .pointer (some ⟨w.heap.size + 1, 0, none⟩)]) W fun e w' => e = .returned (.int .i64 (hideTo x.2.1 n a)) ∧ W = w') := by
  intro W a hW ⟨c, hc, ha⟩
  have h5 := (K5.out c hc).1 a ha
  exact HideVariable1_any W a n x.2.1 _ _ ((hW.cell (show w.heap.size + 2 < w1.heap.size by omega)).trans n0) ((hW.cell (show w.heap.size + 1 < w1.heap.size by omega)).trans c1) (by omega) (by omega)
 have hG : ∀ c ∈ x.2.2, (∀ a ∈ c.2, I64 (hideTo x.2.1 n a)) ∧ c.2.length ≤ 1000000 := fun c hc => ⟨fun a ha => hideTo_I (by have := (K5.out c hc).1 a ha; omega) (by omega), by have := (K5.out c hc).2; omega⟩
 have HGH := Lib.hid hG
 have hlt0 : w.heap.size + 3 < w1.heap.size := by omega
 have hlt1 : w.heap.size + 1 < w1.heap.size := by omega
 clear hG
 refine (renamed_any _ hx1 85 _ (enters Tryz.func85 (by kernel_rfl) rfl) (hideTo x.2.1 n) hto HGH.out (by omega)).mono ?_
 rintro e w2 ⟨u2, rfl, hf, hb2⟩
 obtain ⟨ad2, nv2, cap2, rfl⟩ := ex_slice hf
 have HF := Lib.hid hf
 have s0 := (hb2.cell hlt0).trans r0
 have s1 := (hb2.cell hlt0).trans r1
 have s2 := (hb2.cell hlt0).trans r2
 have t0 := (hb2.frozen hlt0).trans m0
 have t1 := (hb2.frozen hlt0).trans m1
 have t2 := (hb2.frozen hlt0).trans m2
 have d0 := (hb2.cell hlt1).trans c0
 have d1 := (hb2.cell hlt1).trans c1
 have hz2 := hb2.size
 have hlt3 : w.heap.size + 3 < w2.heap.size := by omega
 have hlt4 : w.heap.size + 1 < w2.heap.size := by omega
 clear hf hto hx1 r0 r1 r2 m0 m1 m2 c0 c1 c2 n0
 go_wp2_with fail
 obtain ⟨g0, g1, g2⟩ := set3_cells (x := .int .i64 (x.1 - 1)) (y := .int .i64 x.2.1) (z := .slice ad2 nv2 cap2) s0 s1 s2
 refine bodyPost_ret (v := .tuple #[.agg #[.int .i64 (x.1 - 1), .int .i64 x.2.1, .slice ad2 nv2 cap2], .int .i64 0]) (by simp [results, Tryz.results19, go_sem, g0, g1, g2]) rfl ⟨[.int .i64 (x.1 - 1), .int .i64 x.2.1, .slice ad2 nv2 cap2], by rw [HR.out.2], ?_, ?_⟩
 ·rw [HR.out.1]
  exact (fr_cons (I64.small (by omega) (by omega)) (fr_cons hI2 (HF.out.set3 (by omega)))).mono (by omega)
 ·exact set3_below (bthen hB1 hb2) (by omega)
end Go.Proofs.YtnhdohednekhjaaGreatDoor
namespace Go.Proofs.YtnhdohednekhjaaGreatDoor
open Go.RowKit Go.Sort
theorem flat_nil (n : Nat) : flat (fun _ => []) n = [] := List.eq_nil_iff_forall_not_mem.2 fun x hx => by obtain ⟨_, _, h⟩ := List.mem_flatMap.1 hx; cases h
theorem wpList_appI {P : Program} (w : World) {ops : Array Oper} {rest : List Oper} {o : Oper} {a : Act} {Q : Exit → Act → World → Prop} (hgd : o.guard = none) (s x : Operand) (t e : TypeId) {bytes : Nat}
  (ho : o.op = .call { callee := .builtin .append, args := #[s, x], argTypes := #[t, t] }) (hT : ElT P t e 1 bytes)
  {base top : Nat} {v : Value} {ys : List Int} (hs : a.eval s = v) (hB : Bl Ty.int e base top w v ys)
  {u : Value} {xs : List Int} (hx : a.eval x = u) (hr : intsT.Rd w [u] xs) (h0 : 0 < xs.length)
  (hlen : ys.length + xs.length ≤ 1000000000) (hby : bytes ≤ 100000) (hbt : base ≤ top) (htop : top ≤ w.heap.size)
  (h : ∀ v' w', Bl Ty.int e base w'.heap.size w' v' (ys ++ xs) → w.grownBy w' v.ownBlock → (v'.ownBlock = v.ownBlock ∨ v'.ownBlock = some w.heap.size) → wpList P ops Q rest (a.put o.dst v') w') : wpList P ops Q (o :: rest) a w := by
 obtain ⟨L, fps, g1, g2, g3, g4, g5, g6⟩ := hB
 obtain ⟨ad', cap', hu, hl, hc, hcell⟩ := ints_ex hr
 obtain ⟨b, o', rfl, hb, hce⟩ := hcell h0
 obtain rfl : u = .slice (some ⟨b, o', none⟩) xs.length cap' := by simpa using hu
 obtain ⟨i, z, ht, hi, hz, hsz, hbt', hzs, hp⟩ := id hT
 have hnews : ∀ (j : Nat) (u : Value), (xs.map (Value.int .i64))[j]? = some u → w.cell? ((⟨b, o', none⟩ : Addr).add j) = some u := by
  intro j u hj
  rw [List.getElem?_map] at hj
  by_cases hjl : j < xs.length
  ·rw [List.getElem?_eq_getElem hjl] at hj
   simp only [Option.map_some, Option.some.injEq] at hj
   subst hj
   have := (hce j hjl).2
   by_cases hj0 : j = 0
   ·subst hj0
    simpa [Addr.add] using this
   ·simpa [Addr.add, hj0] using this
  ·rw [List.getElem?_eq_none (by omega)] at hj
   simp at hj
 have hone : ∀ u ∈ xs.map (Value.int .i64), u.oneCell' = true := by
  intro u hu
  obtain ⟨n, _, rfl⟩ := List.mem_map.1 hu
  rfl
 have hnl : (xs.map (Value.int .i64)).length = xs.length * 1 := by simp
 have hlen' : (ys.length + xs.length) * bytes ≤ 140737488355328 := Nat.le_trans (Nat.mul_le_mul hlen hby) (by decide)
 have hbase : base ≤ w.heap.size := Nat.le_trans hbt htop
 have hLl : L.length = ys.length := by have := g1.1; simpa [Ty.int] using this
 refine wpList_plain hgd fun K hK => ?_
 obtain ⟨v', w', hr', h2, h3, h4⟩ := run_append_own (P := P) w base t o.type e i z 1 bytes ht hi hz hsz hbt' hzs hp v ys.length L g1 ⟨b, o', none⟩ xs.length cap' _ hnl hnews hone (by unfold maxLen; omega) hlen' hbase
 have hblk := run_push_block w base t o.type e hT v ys.length L g1 ⟨b, o', none⟩ xs.length cap' _ hnl hnews hone (by unfold maxLen; omega) hlen' h0 v' w' hr'
 have hBl : Bl Ty.int e base w'.heap.size w' v' (ys ++ xs) := by
  refine ⟨L ++ xs.map (Value.int .i64), fun _ => [], by simpa [Ty.int] using h2, fun j hj => ?_, by rw [flat_nil]; exact List.nodup_nil, by rw [flat_nil]; simp, fun g hg => (h2.lt g hg).2, by rw [flat_nil]; intro b hb; cases hb⟩
  by_cases hjy : j < ys.length
  ·obtain ⟨cs, ⟨rfl, hI, _⟩, hk⟩ := g2 j hjy
   refine ⟨[.int .i64 (ys ++ xs)[j]], ⟨rfl, by rw [List.getElem_append_left hjy]; exact hI, rfl⟩, fun q hq => ?_⟩
   obtain rfl : q = 0 := by simpa using hq
   have := hk 0 (by simp)
   rw [List.getElem?_append_left (by rw [hLl]; simp [Ty.int]; exact hjy)]
   simpa [List.getElem_append_left hjy] using this
  ·have hj' : j - ys.length < xs.length := by rw [List.length_append] at hj; omega
   have hge : (ys ++ xs)[j] = xs[j - ys.length] := List.getElem_append_right (by omega)
   refine ⟨[.int .i64 (ys ++ xs)[j]], ⟨rfl, by rw [hge]; exact (hce _ hj').1, rfl⟩, fun q hq => ?_⟩
   obtain rfl : q = 0 := by simpa using hq
   rw [List.getElem?_append_right (by rw [hLl]; simp [Ty.int]; omega), hLl]
   simp [Ty.int, hge, hj']
 unfold Oper.wp execOp
 simp only [ho, resolve, invoke, builtin, Sem.run_bind, Sem.run_pure, Result.andThen_ok, List.map_toArray, List.map_cons, List.map_nil, hs, hx, hr']
 exact hK _ _ (h v' w' hBl h3 hblk)
set_option maxHeartbeats 800000 in
theorem l00Own_any (w : World) {v : Value} {xs : List Int} (h : intsT.Rd w [v] xs) (hlen : xs.length ≤ 1000000) :
  Calls Tryz.prog 159 #[v] w fun e w' => ∃ u, e = .returned u ∧ Bl Ty.int 2 w.heap.size w'.heap.size w' u xs ∧ Below w.heap.size w w' := by
 have hx := h
 obtain ⟨ad, cap, rfl⟩ := rd_slice h
 have HX := Lib.hid hx
 rcases Nat.eq_zero_or_pos xs.length with h0 | h0
 ·obtain rfl := List.eq_nil_of_length_eq_zero h0
  clear h hx h0 HX
  cases ad
  all_goals
   go_enter Tryz.func159, Tryz.ntmps159
   go_wp2_with fail
   go_ret
   exact ⟨_, rfl, by simpa using Bl.lit0 (E := Ty.int) (e := 2) (w := w) (Nat.le_refl _), bA⟩
 ·clear h hx
  have HB := Lib.hid (Bl.lit0 (E := Ty.int) (e := 2) (base := w.heap.size) (w := w) (Nat.le_refl _))
  go_enter Tryz.func159, Tryz.ntmps159
  go_wp2_with (refine wpList_appI _ rfl _ _ 48 2 rfl elInt rfl HB.out rfl (HX.out.below bA) h0 (by simp; omega) (by decide) (by omega) (by simp) ?_; intro v1 w1 hB1 hg1 _)
  have HB1 := Lib.hid hB1
  have hb1 : Below w.heap.size w w1 := (bA (w := w)).grown hg1 (by simp) (fun k hk => HB.out.own hk)
  clear hB1
  go_wp2_with fail
  go_ret
  exact ⟨_, rfl, HB1.out, hb1⟩
noncomputable def limV (f : Int × Int × List (Int × List Int)) : Int × Int × List (Int × List Int) := match tb (f.2.1 ≤ 8 ∧ f.2.2.length ≤ 16) with
 | true => f
 | false => frm0
noncomputable def limC (f : Int × Int × List (Int × List Int)) : Int := match tb (f.2.1 ≤ 8 ∧ f.2.2.length ≤ 16) with
 | true => 0
 | false => 3
theorem lim_yes {f : Int × Int × List (Int × List Int)} (h : f.2.1 ≤ 8 ∧ f.2.2.length ≤ 16) : limV f = f ∧ limC f = 0 := by simp only [limV, limC, tb_true h]; exact ⟨trivial, trivial⟩
theorem lim_no {f : Int × Int × List (Int × List Int)} (h : ¬ (f.2.1 ≤ 8 ∧ f.2.2.length ≤ 16)) : limV f = frm0 ∧ limC f = 3 := by simp only [limV, limC, tb_false h]; exact ⟨trivial, trivial⟩
set_option maxHeartbeats 1600000 in
set_option maxRecDepth 100000 in
theorem limited_any (w : World) {base : Nat} {cs : Array Value} {f : Int × Int × List (Int × List Int)} (h : frmT.Fr base w cs.toList f) (_hb : base ≤ w.heap.size) :
  Calls Tryz.prog 77 #[.agg cs] w fun e w' => ∃ cs' : List Value, e = .returned (.tuple #[.agg cs'.toArray, .int .i64 (limC f)]) ∧ frmT.Fr base w' cs' (limV f) ∧ Below w.heap.size w w' := by
 have hf := h
 obtain ⟨u, hv, hI, hI2, hx⟩ := trip_ex h.rd
 obtain rfl := agg_of hv
 obtain ⟨_, _, -, -, hle2, -⟩ := Ty.slice_ex hx
 obtain ⟨ad, cap, rfl⟩ := rd_slice hx
 have HF := Lib.hid hf
 clear h hv hf hx
 by_cases hl : f.2.1 ≤ 8 ∧ f.2.2.length ≤ 16
 ·have HR := Lib.hid (lim_yes hl)
  obtain ⟨hl1, hl2⟩ := hl
  go_enter Tryz.func77, Tryz.ntmps77
  go_wp2_with fail
  refine bodyPost_ret (v := .tuple #[.agg #[.int .i64 f.1, .int .i64 f.2.1, .slice ad f.2.2.length cap], .int .i64 0]) (by simp [results, Tryz.results77, go_sem]) rfl ⟨[.int .i64 f.1, .int .i64 f.2.1, .slice ad f.2.2.length cap], by rw [HR.out.2], ?_, (by repeat (first | exact Below.refl _ _ | exact bA | assumption | refine Below.setCell ?_ (by first | omega | (simp; try omega)) _ | refine Below.alloc ?_ (by first | omega | (simp; try omega)) _ | refine Below.drew ?_ | refine bDN ?_ | refine bthen ?_ (by assumption)))⟩
  rw [HR.out.1]
  exact HF.out.below (by repeat (first | exact Below.refl _ _ | exact bA | assumption | refine Below.setCell ?_ (by first | omega | (simp; try omega)) _ | refine Below.alloc ?_ (by first | omega | (simp; try omega)) _ | refine Below.drew ?_ | refine bDN ?_ | refine bthen ?_ (by assumption)))
 ·have HR := Lib.hid (lim_no hl)
  rcases ilt 8 f.2.1 with h8 | h8
  ·clear hl
   go_enter Tryz.func77, Tryz.ntmps77
   go_wp2_with fail
   refine bodyPost_ret (v := .tuple #[.agg #[.int .i64 0, .int .i64 0, .slice none 0 0], .int .i64 3]) (by simp [results, Tryz.results77, go_sem]) rfl ⟨[.int .i64 0, .int .i64 0, .slice none 0 0], by rw [HR.out.2], by rw [HR.out.1]; exact fr_frm0, (by repeat (first | exact Below.refl _ _ | exact bA | assumption | refine Below.setCell ?_ (by first | omega | (simp; try omega)) _ | refine Below.alloc ?_ (by first | omega | (simp; try omega)) _ | refine Below.drew ?_ | refine bDN ?_ | refine bthen ?_ (by assumption)))⟩
  ·have hl2 : 16 < f.2.2.length := by omega
   clear hl
   go_enter Tryz.func77, Tryz.ntmps77
   go_wp2_with fail
   refine bodyPost_ret (v := .tuple #[.agg #[.int .i64 0, .int .i64 0, .slice none 0 0], .int .i64 3]) (by simp [results, Tryz.results77, go_sem]) rfl ⟨[.int .i64 0, .int .i64 0, .slice none 0 0], by rw [HR.out.2], by rw [HR.out.1]; exact fr_frm0, (by repeat (first | exact Below.refl _ _ | exact bA | assumption | refine Below.setCell ?_ (by first | omega | (simp; try omega)) _ | refine Below.alloc ?_ (by first | omega | (simp; try omega)) _ | refine Below.drew ?_ | refine bDN ?_ | refine bthen ?_ (by assumption)))⟩
end Go.Proofs.YtnhdohednekhjaaGreatDoor
namespace Go.Proofs.YtnhdohednekhjaaGreatDoor
theorem cellB {B b o : Nat} {w w' : World} (hb : RowKit.Below B w w') (h : b < B) : w'.cell? ⟨b, o, none⟩ = w.cell? ⟨b, o, none⟩ := hb.cell (p := ⟨b, o, none⟩) h
theorem frozenB {B b o : Nat} {w w' : World} (hb : RowKit.Below B w w') (h : b < B) : w'.frozen? ⟨b, o, none⟩ = w.frozen? ⟨b, o, none⟩ := hb.frozen (p := ⟨b, o, none⟩) h


section
variable {P : Program} {ops : Array Oper} {Q : Exit → Act → World → Prop} {md : Region.Mode} {S : World → Prop} {tail : List Nat}

/-- one of the last writes has come up -/
def pastB (tail : List Nat) (listed : Array Bool) : Bool := tail.any fun t => listed.getD t false

def wpAnyT (P : Program) (md : Region.Mode) (ops : Array Oper) (Q : Exit → Act → World → Prop) (S : World → Prop) (tail : List Nat) : Nat → Array Bool → Act → World → Prop
 | 0, listed, a, w => Region.ready md ops listed = [] ∧ Q .normal a w
 | fuel + 1, listed, a, w =>
  (Region.ready md ops listed = [] → Q .normal a w) ∧
  ∀ i ∈ Region.ready md ops listed, wpOp P ops Q i (fun a' w' => (pastB tail (listed.setIfInBounds i true) = false → S w') ∧ wpAnyT P md ops Q S tail fuel (listed.setIfInBounds i true) a' w') a w

theorem wpAny_of_T : ∀ (fuel : Nat) (listed : Array Bool) (a : Act) (w : World), wpAnyT P md ops Q S tail fuel listed a w → wpAny P md ops Q fuel listed a w
 | 0, _, _, _, h => h
 | fuel + 1, _, _, _, h => ⟨h.1, fun i hi => wpOp_mono (fun a' w' h' => wpAny_of_T fuel _ a' w' h'.2) (h.2 i hi)⟩

/-- what can come up while number i has not: all that are in R -/
def lowB (md : Region.Mode) (ops : Array Oper) (i : Nat) (listed R : Array Bool) (tail : List Nat) : Bool :=
 ((List.range ops.size).all fun k => k == i || R.getD k false || match ops[k]? with
  | some o => o.after.any fun e => Region.binds md e && !R.getD e.on false
  | none => true) && ((List.range ops.size).all fun k => !listed.getD k false || R.getD k false) && tail.all fun t => !R.getD t false && decide (t < ops.size) && t != i
/-- these -/
def grow1 (md : Region.Mode) (ops : Array Oper) (i : Nat) (R : Array Bool) : Array Bool :=
 (Array.range ops.size).map fun k => R.getD k false || (k != i && match ops[k]? with
  | some o => o.after.all fun e => !Region.binds md e || R.getD e.on false
  | none => false)
def lowSet (md : Region.Mode) (ops : Array Oper) (i : Nat) (listed : Array Bool) : Nat → Array Bool
 | 0 => listed
 | n + 1 => grow1 md ops i (lowSet md ops i listed n)
def lateB (md : Region.Mode) (ops : Array Oper) (i : Nat) (listed : Array Bool) (tail : List Nat) : Bool := lowB md ops i listed (lowSet md ops i listed ops.size) tail

structure Low (md : Region.Mode) (ops : Array Oper) (i : Nat) (R : Array Bool) (tail : List Nat) : Prop where
 up : ∀ (k : Nat) (o : Oper), ops[k]? = some o → k ≠ i → (∀ e ∈ o.after, Region.binds md e = true → R.getD e.on false = true) → R.getD k false = true
 out : ∀ t ∈ tail, R.getD t false = false
 ne : ∀ t ∈ tail, t ≠ i
theorem lowB_spec {i : Nat} {listed R : Array Bool} (h : lowB md ops i listed R tail = true) : Low md ops i R tail ∧ ∀ k, k < ops.size → listed.getD k false = true → R.getD k false = true := by
 unfold lowB at h
 simp only [Bool.and_eq_true, List.all_eq_true, List.mem_range] at h
 obtain ⟨⟨h1, h2⟩, h3⟩ := h
 refine ⟨⟨fun k o ho hk hd => ?_, fun t ht => by have := (h3 t ht).1.1; simpa using this, fun t ht => by have := (h3 t ht).2; simpa using this⟩, fun k hk hl => ?_⟩
 ·have hks : k < ops.size := by
   rcases Nat.lt_or_ge k ops.size with h' | h'
   ·exact h'
   ·rw [Array.getElem?_eq_none h'] at ho; cases ho
  have := h1 k hks
  rw [ho] at this
  simp only [Bool.or_eq_true, beq_iff_eq] at this
  rcases this with (rfl | h') | h'
  ·exact absurd rfl hk
  ·exact h'
  ·simp only [Array.any_eq_true, Bool.and_eq_true, Bool.not_eq_true'] at h'
   obtain ⟨x, hx, hb⟩ := h'
   rw [hd _ (Array.getElem_mem hx) hb.1] at hb
   cases hb.2
 ·have := h2 k hk
  rw [hl] at this
  simpa using this

theorem low_step {i j : Nat} {listed R : Array Bool} (hL : Low md ops i R tail) (hsub : ∀ k, k < ops.size → listed.getD k false = true → R.getD k false = true) (hbd : ∀ (k : Nat) (o : Oper), ops[k]? = some o → ∀ e ∈ o.after, Region.binds md e = true → e.on < ops.size)
  (hj : j ∈ Region.ready md ops listed) (hji : j ≠ i) : R.getD j false = true ∧ ∀ k, k < ops.size → (listed.setIfInBounds j true).getD k false = true → R.getD k false = true := by
 obtain ⟨-, oj, hoj, hall⟩ := mem_ready.1 hj
 have hR : R.getD j false = true := hL.up j oj hoj hji fun e he hb => hsub e.on (hbd j oj hoj e he hb) (hall e he hb)
 refine ⟨hR, fun k hk hl => ?_⟩
 by_cases e : j = k
 ·subst e; exact hR
 ·rw [getD_set_ne false e] at hl; exact hsub k hk hl

theorem past_false {R listed : Array Bool} {i : Nat} (hL : Low md ops i R tail) (ht : ∀ t ∈ tail, t < ops.size) (hsub : ∀ k, k < ops.size → listed.getD k false = true → R.getD k false = true) : pastB tail listed = false := by
 unfold pastB
 rw [List.any_eq_false]
 intro t htl hh
 have := hsub t (ht t htl) hh
 rw [hL.out t htl] at this
 cases this

theorem wpAnyT_first {i : Nat} {oi : Oper} {v : Value} (hi : ops[i]? = some oi) (hsel : ∀ (j : Nat) (o : Oper) cs b, ops[j]? = some o → o.op ≠ .select cs b)
  (hQ : ∀ c a w, Q (.panic c) (a.put oi.dst v) w → Q (.panic c) a w) {R : Array Bool} (hL : Low md ops i R tail) (ht : ∀ t ∈ tail, t < ops.size) (hbd : ∀ (k : Nat) (o : Oper), ops[k]? = some o → ∀ e ∈ o.after, Region.binds md e = true → e.on < ops.size) :
  ∀ (fuel : Nat) (listed : Array Bool) (a : Act) (w : World),
   (∀ j oj, ops[j]? = some oj → j ≠ i → listed.getD j true = false → (∀ e ∈ oj.after, Region.binds md e = true → e.on ≠ i) → oi.apart ops oj = true) →
   i ∈ Region.ready md ops listed → YieldsIf P ops S oi v a → S w → (∀ k, k < ops.size → listed.getD k false = true → R.getD k false = true) →
   wpAnyT P md ops Q S tail fuel (listed.setIfInBounds i true) (a.put oi.dst v) w → wpAnyT P md ops Q S tail (fuel + 1) listed a w := by
 intro fuel
 induction fuel with
 | zero =>
  intro listed a w _ hr hy hS hsub H
  refine ⟨fun h => (by rw [h] at hr; cases hr), fun j hj => ?_⟩
  by_cases hji : j = i
  ·subst hji; exact hy.wpOp hi hS ⟨fun _ => hS, H⟩
  ·have := ready_mono hj hji
   rw [H.1] at this
   cases this
 | succ fuel ih =>
  intro listed a w hfree hr hy hS hsub H
  refine ⟨fun h => (by rw [h] at hr; cases hr), fun j hj => ?_⟩
  by_cases hji : j = i
  ·subst hji; exact hy.wpOp hi hS ⟨fun _ => hS, H⟩
  ·have h1 := H.2 j (ready_mono hj hji)
   obtain ⟨hjun, oj, hoj, hall⟩ := mem_ready.1 hj
   have hnot : ∀ e ∈ oj.after, Region.binds md e = true → e.on ≠ i := fun e he hb heq => by
    have h1 := hall e he hb
    have h0 := (mem_ready.1 hr).1
    rw [heq] at h1
    rcases Nat.lt_or_ge i listed.size with h' | h'
    ·simp [h'] at h0 h1; rw [h0] at h1; cases h1
    ·simp [Array.getElem?_eq_none h'] at h1
   have h2 := wpOp_putIf hoj (hfree j oj hoj hji hjun hnot) (fun cs b => hsel i oi cs b hi) (fun cs b => hsel j oj cs b hoj) hQ hy h1
   have hfree' : ∀ k ok, ops[k]? = some ok → k ≠ i → (listed.setIfInBounds j true).getD k true = false →
     (∀ e ∈ ok.after, Region.binds md e = true → e.on ≠ i) → oi.apart ops ok = true := fun k ok hk hki hun hno => by
    refine hfree k ok hk hki ?_ hno
    by_cases hjk : j = k
    ·subst hjk; exact hjun
    ·rw [getD_set_ne true hjk] at hun; exact hun
   obtain ⟨-, hsub'⟩ := low_step hL hsub hbd hj hji
   have hp : pastB tail ((listed.setIfInBounds i true).setIfInBounds j true) = false := by
    have h0 := past_false hL ht hsub'
    rw [Array.setIfInBounds_comm _ _ (Ne.symm hji)]
    unfold pastB at h0 ⊢
    rw [List.any_eq_false] at h0 ⊢
    intro t htl hh
    rw [getD_set_ne false (Ne.symm (hL.ne t htl))] at hh
    exact h0 t htl hh
   refine wpOp_mono (fun a' w' h3 => ⟨fun _ => h3.2.1 hp, ih (listed.setIfInBounds j true) a' w' hfree' (ready_mono hr (Ne.symm hji)) h3.1 (h3.2.1 hp) hsub' ?_⟩) h2
   rw [Array.setIfInBounds_comm _ _ hji]
   exact h3.2.2

/-- every edge leads to an operation -/
def edgesB (md : Region.Mode) (ops : Array Oper) : Bool := ops.all fun o => o.after.all fun e => !Region.binds md e || decide (e.on < ops.size)
theorem edgesB_spec (h : edgesB md ops = true) : ∀ (k : Nat) (o : Oper), ops[k]? = some o → ∀ e ∈ o.after, Region.binds md e = true → e.on < ops.size := by
 intro k o ho e he hb
 have h1 := Array.all_eq_true_iff_forall_mem.1 h o (Array.mem_of_getElem? ho)
 have h2 := Array.all_eq_true_iff_forall_mem.1 h1 e he
 simpa [hb] using h2

/-- take number i first -/
theorem wpAnyT_take {i : Nat} {oi : Oper} {v : Value} {fuel : Nat} {listed : Array Bool} {a : Act} {w : World} (hi : ops[i]? = some oi)
  (hs : (Region.noSelect ops && edgesB md ops && Region.free md ops listed i && (Region.ready md ops listed).contains i && lateB md ops i listed tail) = true)
  (hQ : ∀ c a w, Q (.panic c) (a.put oi.dst v) w → Q (.panic c) a w) (hy : YieldsIf P ops S oi v a) (hS : S w)
  (h : wpAnyT P md ops Q S tail fuel (listed.setIfInBounds i true) (a.put oi.dst v) w) : wpAnyT P md ops Q S tail (fuel + 1) listed a w := by
 simp only [Bool.and_eq_true] at hs
 obtain ⟨⟨⟨⟨s1, s2⟩, s3⟩, s4⟩, s5⟩ := hs
 obtain ⟨hL, hsub⟩ := lowB_spec s5
 have ht : ∀ t ∈ tail, t < ops.size := fun t ht => by
  unfold lateB lowB at s5
  simp only [Bool.and_eq_true, List.all_eq_true] at s5
  simpa using (s5.2 t ht).1.2
 exact wpAnyT_first hi (Region.noSelect_spec s1) hQ hL ht (edgesB_spec s2) fuel listed a w (Region.free_spec hi s3) (by simpa using s4) hy hS hsub h

/-- what yields in whatever world: taken first, also where the condition holds no more -/
theorem wpAnyT_free {i : Nat} {oi : Oper} {v : Value} (hi : ops[i]? = some oi) (hsel : ∀ (j : Nat) (o : Oper) cs b, ops[j]? = some o → o.op ≠ .select cs b)
  (hQ : ∀ c a w, Q (.panic c) (a.put oi.dst v) w → Q (.panic c) a w) (hti : i ∉ tail) :
  ∀ (fuel : Nat) (listed : Array Bool) (a : Act) (w : World),
   (∀ j oj, ops[j]? = some oj → j ≠ i → listed.getD j true = false → (∀ e ∈ oj.after, Region.binds md e = true → e.on ≠ i) → oi.apart ops oj = true) →
   i ∈ Region.ready md ops listed → YieldsIf P ops (fun _ => True) oi v a → (pastB tail listed = false → S w) →
   wpAnyT P md ops Q S tail fuel (listed.setIfInBounds i true) (a.put oi.dst v) w → wpAnyT P md ops Q S tail (fuel + 1) listed a w := by
 have hpi : ∀ L : Array Bool, pastB tail (L.setIfInBounds i true) = pastB tail L := fun L => by
  unfold pastB
  rw [Bool.eq_iff_iff]
  simp only [List.any_eq_true]
  constructor
  ·rintro ⟨t, h1, h2⟩; exact ⟨t, h1, by rwa [getD_set_ne false (show i ≠ t from fun e => hti (by rw [e]; exact h1))] at h2⟩
  ·rintro ⟨t, h1, h2⟩; exact ⟨t, h1, by rwa [getD_set_ne false (show i ≠ t from fun e => hti (by rw [e]; exact h1))]⟩
 intro fuel
 induction fuel with
 | zero =>
  intro listed a w _ hr hy hS H
  refine ⟨fun h => (by rw [h] at hr; cases hr), fun j hj => ?_⟩
  by_cases hji : j = i
  ·subst hji; exact hy.wpOp hi trivial ⟨fun hp => hS (by rw [← hpi]; exact hp), H⟩
  ·have := ready_mono hj hji
   rw [H.1] at this
   cases this
 | succ fuel ih =>
  intro listed a w hfree hr hy hS H
  refine ⟨fun h => (by rw [h] at hr; cases hr), fun j hj => ?_⟩
  by_cases hji : j = i
  ·subst hji; exact hy.wpOp hi trivial ⟨fun hp => hS (by rw [← hpi]; exact hp), H⟩
  ·have h1 := H.2 j (ready_mono hj hji)
   obtain ⟨hjun, oj, hoj, hall⟩ := mem_ready.1 hj
   have hnot : ∀ e ∈ oj.after, Region.binds md e = true → e.on ≠ i := fun e he hb heq => by
    have h1 := hall e he hb
    have h0 := (mem_ready.1 hr).1
    rw [heq] at h1
    rcases Nat.lt_or_ge i listed.size with h' | h'
    ·simp [h'] at h0 h1; rw [h0] at h1; cases h1
    ·simp [Array.getElem?_eq_none h'] at h1
   have h2 := wpOp_putIf hoj (hfree j oj hoj hji hjun hnot) (fun cs b => hsel i oi cs b hi) (fun cs b => hsel j oj cs b hoj) hQ hy h1
   have hfree' : ∀ k ok, ops[k]? = some ok → k ≠ i → (listed.setIfInBounds j true).getD k true = false →
     (∀ e ∈ ok.after, Region.binds md e = true → e.on ≠ i) → oi.apart ops ok = true := fun k ok hk hki hun hno => by
    refine hfree k ok hk hki ?_ hno
    by_cases hjk : j = k
    ·subst hjk; exact hjun
    ·rw [getD_set_ne true hjk] at hun; exact hun
   refine wpOp_mono (fun a' w' h3 => ⟨fun hp => h3.2.1 (by rw [Array.setIfInBounds_comm _ _ (Ne.symm hji), hpi]; exact hp), ih (listed.setIfInBounds j true) a' w' hfree' (ready_mono hr (Ne.symm hji)) h3.1 (fun hp => h3.2.1 (by rw [Array.setIfInBounds_comm _ _ (Ne.symm hji), hpi]; exact hp)) ?_⟩) h2
   rw [Array.setIfInBounds_comm _ _ hji]
   exact h3.2.2
theorem wpAnyT_any {i : Nat} {oi : Oper} {v : Value} {fuel : Nat} {listed : Array Bool} {a : Act} {w : World} (hi : ops[i]? = some oi)
  (hs : (Region.noSelect ops && Region.free md ops listed i && (Region.ready md ops listed).contains i && !tail.contains i) = true)
  (hQ : ∀ c a w, Q (.panic c) (a.put oi.dst v) w → Q (.panic c) a w) (hy : YieldsIf P ops (fun _ => True) oi v a) (hS : pastB tail listed = false → S w)
  (h : wpAnyT P md ops Q S tail fuel (listed.setIfInBounds i true) (a.put oi.dst v) w) : wpAnyT P md ops Q S tail (fuel + 1) listed a w := by
 simp only [Bool.and_eq_true] at hs
 obtain ⟨⟨⟨s1, s2⟩, s3⟩, s4⟩ := hs
 exact wpAnyT_free hi (Region.noSelect_spec s1) hQ (by simpa using s4) fuel listed a w (Region.free_spec hi s2) (by simpa using s3) hy hS h

/-- one alone may come up: not one of the last -/
theorem wpAnyT_one {i : Nat} {o : Oper} {fuel : Nat} {listed : Array Bool} {a : Act} {w : World} (ho : ops[i]? = some o) (hr : Region.ready md ops listed = [i])
  (h : ∀ K' : Act → World → Prop, Shut (∀ a w, S w → (S w → wpAnyT P md ops Q S tail fuel (listed.setIfInBounds i true) a w) → K' a w) → if Region.wanted o (yielded ops a.tmps) = true then Oper.wp P o a w K' Q else K' (a.put o.dst undef) w) :
  wpAnyT P md ops Q S tail (fuel + 1) listed a w := by
 refine ⟨fun h0 => (by rw [h0] at hr; cases hr), fun j hj => ?_⟩
 rw [hr] at hj
 obtain rfl : j = i := by simpa using hj
 exact wpOp_step ho (fun K' hK => h K' (fun a w hS hW => hK a w ⟨fun _ => hS, hW hS⟩))
/-- one alone may come up: one of the last, or behind them -/
theorem wpAnyT_last {i : Nat} {o : Oper} {fuel : Nat} {listed : Array Bool} {a : Act} {w : World} (ho : ops[i]? = some o) (hr : Region.ready md ops listed = [i]) (hp : pastB tail (listed.setIfInBounds i true) = true)
  (h : ∀ K' : Act → World → Prop, Shut (∀ a w, wpAnyT P md ops Q S tail fuel (listed.setIfInBounds i true) a w → K' a w) → if Region.wanted o (yielded ops a.tmps) = true then Oper.wp P o a w K' Q else K' (a.put o.dst undef) w) :
  wpAnyT P md ops Q S tail (fuel + 1) listed a w := by
 refine ⟨fun h0 => (by rw [h0] at hr; cases hr), fun j hj => ?_⟩
 rw [hr] at hj
 obtain rfl : j = i := by simpa using hj
 exact wpOp_step ho (fun K' hK => h K' (fun a w hW => hK a w ⟨fun h => (by rw [hp] at h; cases h), hW⟩))
theorem wpAnyT_done {listed : Array Bool} {a : Act} {w : World} (hr : Region.ready md ops listed = []) (h : Q .normal a w) :
  ∀ fuel, wpAnyT P md ops Q S tail fuel listed a w
 | 0 => ⟨hr, h⟩
 | _ + 1 => ⟨fun _ => h, by rw [hr]; simp⟩
theorem wp_region_T (S : World → Prop) (tail : List Nat) {id : Nat} {a : Act} {w : World} (hm : P.follows .mixedOrders = true) (hS : S w.drew)
  (h : S w.drew → wpAnyT P .any ops Q S tail ops.size (Array.replicate ops.size false) a w.drew) : (Code.region id ops true).wp P Q a w :=
 wp_region_any hm (wpAny_of_T _ _ _ _ (h hS))
end
end Go.Proofs.YtnhdohednekhjaaGreatDoor
namespace Go.Proofs.YtnhdohednekhjaaGreatDoor
open Go.RowKit Go.Sort
set_option maxHeartbeats 800000 in
theorem Clone_any (w : World) {v : Value} {xs : List Int} (h : intsT.Rd w [v] xs) (hlen : xs.length ≤ 1000000) :
  Calls Tryz.prog 98 #[v] w (RetS intsT w xs) := by
 have hx := h
 obtain ⟨ad, cap, rfl⟩ := rd_slice h
 have HX := Lib.hid hx
 have hnil := fun w o m c => Lib.run_eql_slice_nil (P := Tryz.prog) w 48 2 o m c 0 0 Tryz.underlying48
 rcases Nat.eq_zero_or_pos xs.length with h0 | h0
 ·obtain rfl := List.eq_nil_of_length_eq_zero h0
  clear h hx h0 HX
  cases ad
  ·go_enter Tryz.func98, Tryz.ntmps98
   go_wp2_with fail
   go_ret
   exact ⟨_, rfl, fr_nil, Below.refl _ _⟩
  ·go_enter Tryz.func98, Tryz.ntmps98
   go_wp2_with fail
   go_ret
   exact ⟨_, rfl, fr_nil, bA⟩
 ·obtain ⟨_, _, e1, -, -, hc⟩ := ints_ex h
  simp only [List.cons.injEq, Value.slice.injEq, and_true, true_and] at e1
  obtain ⟨rfl, rfl⟩ := e1
  obtain ⟨b, o, rfl, -⟩ := hc h0
  clear h hx hc
  have HB := Lib.hid (Bl.lit0 (E := Ty.int) (e := 2) (base := w.heap.size) (w := w) (Nat.le_refl _))
  go_enter Tryz.func98, Tryz.ntmps98
  go_wp2_with (refine wpList_appI _ rfl _ _ 48 2 rfl elInt rfl HB.out rfl (HX.out.below bA) h0 (by simp; omega) (by decide) (by omega) (by simp) ?_; intro v1 w1 hB1 hg1 _)
  have HB1 := Lib.hid (hB1.fr (by unfold capMax; simp; omega))
  have hb1 : Below w.heap.size w w1 := (bA (w := w)).grown hg1 (by simp) (fun k hk => HB.out.own hk)
  clear hB1
  go_wp2_with fail
  go_ret
  exact ⟨_, rfl, HB1.out, hb1⟩
theorem set2_cells {w : World} {b : Nat} {x y u v : Value} (h0 : w.cell? ⟨b, 0, none⟩ = some u) (h1 : w.cell? ⟨b, 1, none⟩ = some v) :
  ((w.setCell ⟨b, 0, none⟩ x).setCell ⟨b, 1, none⟩ y).cell? ⟨b, 0, none⟩ = some x ∧ ((w.setCell ⟨b, 0, none⟩ x).setCell ⟨b, 1, none⟩ y).cell? ⟨b, 1, none⟩ = some y :=
 ⟨(World.cell?_setCell_other _ _ _ _ (by simp)).trans (World.cell?_setCell_same _ _ _ h0), World.cell?_setCell_same _ _ _ ((World.cell?_setCell_other _ _ _ _ (by simp)).trans h1)⟩
theorem fr_set2 {α : Type} {E : Ty α} {base : Nat} {w : World} {cs : List Value} {x : α} {b : Nat} {u v : Value} (h : E.Fr base w cs x) (ha : b < base) : E.Fr base ((w.setCell ⟨b, 0, none⟩ u).setCell ⟨b, 1, none⟩ v) cs x := (h.set (a := ⟨b, 0, none⟩) ha).set (a := ⟨b, 1, none⟩) ha
end Go.Proofs.YtnhdohednekhjaaGreatDoor
namespace Go.Proofs.YtnhdohednekhjaaGreatDoor
open Go.RowKit Go.Sort
def topI (xs : List Int) : Int := xs.foldl max 0
theorem topI_take {xs : List Int} {k : Nat} (h : k < xs.length) : topI (xs.take (k + 1)) = max (topI (xs.take k)) xs[k] := by
 unfold topI
 rw [List.take_succ_eq_append_getElem h, List.foldl_append]
 rfl
theorem foldl_max_ge : ∀ {xs : List Int} {a : Int}, a ≤ xs.foldl max a ∧ ∀ x ∈ xs, x ≤ xs.foldl max a
 | [], a => ⟨Int.le_refl _, fun x hx => by cases hx⟩
 | y :: r, a => by
  obtain ⟨h1, h2⟩ := foldl_max_ge (xs := r) (a := max a y)
  rw [List.foldl_cons]
  refine ⟨by omega, fun x hx => ?_⟩
  rcases List.mem_cons.1 hx with rfl | hx
  ·omega
  ·exact h2 x hx
theorem topI_ge {xs : List Int} {x : Int} (h : x ∈ xs) : x ≤ topI xs := foldl_max_ge.2 x h
theorem topI_nn {xs : List Int} : 0 ≤ topI xs := foldl_max_ge.1
theorem foldl_max_le {c : Int} : ∀ {xs : List Int} {a : Int}, a ≤ c → (∀ x ∈ xs, x ≤ c) → xs.foldl max a ≤ c
 | [], _, h, _ => h
 | y :: r, a, h, h2 => by
  rw [List.foldl_cons]
  exact foldl_max_le (by have := h2 y (List.mem_cons_self ..); omega) fun x hx => h2 x (List.mem_cons_of_mem _ hx)
theorem topI_le {xs : List Int} {c : Int} (h0 : 0 ≤ c) (h : ∀ x ∈ xs, x ≤ c) : topI xs ≤ c := foldl_max_le h0 h
/-- does an atom hold for values? -/
noncomputable def holdsA (t : Int × List (Int × List (List Int))) (vals : List Int) (a : Int × List Int) : Bool := match (a.1 == -1) with
 | true => (atL vals a.2).getD 0 0 == (atL vals a.2).getD 1 0
 | false => tb (holdsC t vals a)
theorem holdsA_eq {t : Int × List (Int × List (List Int))} {vals : List Int} {a : Int × List Int} (h : (a.1 == -1) = true) : holdsA t vals a = ((atL vals a.2).getD 0 0 == (atL vals a.2).getD 1 0) := by simp only [holdsA, h]
theorem holdsA_rel {t : Int × List (Int × List (List Int))} {vals : List Int} {a : Int × List Int} (h : (a.1 == -1) = false) : holdsA t vals a = tb (holdsC t vals a) := by simp only [holdsA, h]
/-- an atom of a template: what it needs -/
theorem atom_len {t : Int × List (Int × List (List Int))} (hT : tplOk t) {vars : Int} {a : Int × List Int} (h : atomOk t vars a) : 1 ≤ a.2.length ∧ a.2.length ≤ 4 ∧ (a.1 = -1 → a.2.length = 2) ∧ (a.1 ≠ -1 → 0 ≤ a.1 ∧ a.1.toNat < t.2.length) := by
 obtain ⟨h1, h2, -⟩ := h
 by_cases he : a.1 = -1
 ·rw [he, arOf_eq] at h2
  exact ⟨by omega, by omega, fun _ => by omega, fun h => absurd he h⟩
 ·have hin : 0 ≤ a.1 ∧ a.1.toNat < t.2.length := by
   by_cases hin : inB a.1 0 ((t.2.length : Int) - 1) = true
   ·have := inB_true.1 hin; omega
   ·exact absurd (arOf_no he (by simpa using hin)) h1
  obtain ⟨k, hk⟩ : ∃ k : Nat, a.1 = k := ⟨a.1.toNat, by omega⟩
  have hkl : k < t.2.length := by omega
  have h3 := hT.2.2 _ (List.getElem_mem hkl)
  rw [hk, arOf_nat hkl] at h2
  have := h3.2.1
  unfold sizeOk at this
  exact ⟨by omega, by omega, fun h => absurd h he, fun _ => hin⟩
theorem tplT_rd {w : World} {t : Int × List (Int × List (List Int))} {v : Value} (h : tplT.Rd w [.int .i64 t.1, v] t) {k : Nat} (hk : k < t.2.length) :
  ∃ a q cap u, v = .slice (some ⟨a, q, none⟩) t.2.length cap ∧ a < w.heap.size ∧ w.cell? ⟨a, q + k * 2, none⟩ = some (.int .i64 (t.2[k]).1) ∧ w.cell? ⟨a, q + k * 2 + 1, none⟩ = some u ∧ relT.Rd w [.int .i64 (t.2[k]).1, u] t.2[k] := by
 obtain ⟨v', hv, -, hx⟩ := pair_ex h
 obtain rfl : v = v' := by simpa using hv
 obtain ⟨ad, cap, hv2, -, -, hc⟩ := pairs_ex hx
 obtain rfl : v = _ := by simpa using hv2
 obtain ⟨a, q, rfl, ha, hce⟩ := hc (by omega)
 obtain ⟨u, hu, hI, c0, c1⟩ := hce k hk
 exact ⟨a, q, cap, u, rfl, ha, c0, c1, pair_mk hI hu⟩
set_option maxHeartbeats 1600000 in
set_option maxRecDepth 100000 in
theorem holds_any (w : World) {ct ca : Array Value} {t : Int × List (Int × List (List Int))} {a : Int × List Int} {v : Value} {vals : List Int} (ht : tplT.Rd w ct.toList t) (ha : opT.Rd w ca.toList a) (hv : intsT.Rd w [v] vals)
  (hT : tplOk t) {vars : Int} (hA : atomOk t vars a) (hin : ∀ p ∈ a.2, 0 ≤ p ∧ p < (vals.length : Int)) :
  Calls Tryz.prog 229 #[.agg ct, .agg ca, v] w fun e w' => e = .returned (.bool (holdsA t vals a)) ∧ Below w.heap.size w w' := by
 obtain ⟨h1, h4, h5, h6⟩ := atom_len hT hA
 obtain ⟨vt, hct, -, -⟩ := pair_ex ht
 obtain rfl := agg_of hct
 obtain ⟨va, hca, -, hxa⟩ := pair_ex ha
 obtain rfl := agg_of hca
 obtain ⟨xa, xn, xc, rfl⟩ := rd_sl hxa
 have HT := Lib.hid ht
 have HX := Lib.hid hxa
 have HV := Lib.hid hv
 have HIN := Lib.hid hin
 have HTO := Lib.hid hT
 clear ht ha hct hca hxa hv hin hT hA
 go_enter Tryz.func229, Tryz.ntmps229
 go_wp2_with fail
 generalize hW : World.alloc _ _ = W
 have hbW : Below w.heap.size w W := hW ▸ bAA
 have hsW : W.heap.size = w.heap.size + 2 := by rw [← hW]; simp
 have t1 : W.cell? ⟨w.heap.size, 1, none⟩ = some vt := by rw [← hW]; simp [go_sem]
 have a0 : W.cell? ⟨w.heap.size + 1, 0, none⟩ = some (.int .i64 a.1) := by rw [← hW]; simp [go_sem]
 have a1 : W.cell? ⟨w.heap.size + 1, 1, none⟩ = some (.slice xa xn xc) := by rw [← hW]; simp [go_sem]
 clear hW
 refine (chosen_any _ (HV.out.below hbW) (HX.out.below hbW) HIN.out (by omega)).mono ?_
 rintro e w1 ⟨u, rfl, hf, hb1⟩
 obtain ⟨ua, uc, rfl⟩ := fr_slice hf
 have HF := Lib.hid hf.rd
 have hz1 := hb1.size
 have hbw1 := bthen hbW hb1
 replace t1 := (cellB hb1 (by omega)).trans t1
 replace a0 := (cellB hb1 (by omega)).trans a0
 replace a1 := (cellB hb1 (by omega)).trans a1
 clear hf
 cases hq : (a.1 == -1)
 ·have hne : a.1 ≠ -1 := by simpa using hq
  obtain ⟨h7, h8⟩ := h6 hne
  obtain ⟨k, hk⟩ : ∃ k : Nat, a.1 = k := ⟨a.1.toNat, by omega⟩
  have hkl : k < t.2.length := by omega
  obtain ⟨ba, bq, cap, ur, rfl, hba, c0, c1, hr⟩ := tplT_rd HT.out hkl
  have HR := Lib.hid (hr.below hbw1)
  have HSR := Lib.hid (relOk_sorted (HTO.out.2.2 _ (List.getElem_mem hkl)))
  have d0 := (hbw1.cell hba).trans c0
  have d1 := (hbw1.cell hba).trans c1
  have HE : Hid (tb (atL vals a.2 ∈ (t.2[k]).2) = holdsA t vals a) := by
   unfold Hid
   rw [holdsA_rel hq]
   unfold holdsC
   rw [hk, relAt_nat hkl]
  rw [hk] at a0 hq
  clear hr c0 c1 hk hne h5 h6
  go_wp2_with fail
  refine (has_any (cs := #[.int .i64 (t.2[k]).1, ur]) _ HR.out HF.out HSR.out).mono ?_
  rintro e w2 ⟨rfl, hb2⟩
  go_wp2_with fail
  go_ret
  exact ⟨ret_bool HE.out, bthen hbw1 hb2⟩
 ·have he : a.1 = -1 := by simpa using hq
  have h7 := h5 he
  obtain ⟨_, _, e1, -, -, hce⟩ := ints_ex HF.out
  simp only [List.cons.injEq, Value.slice.injEq, and_true, true_and] at e1
  obtain ⟨rfl, rfl⟩ := e1
  have hal : (atL vals a.2).length = 2 := by rw [atL_len]; exact h7
  obtain ⟨b, o, rfl, hb, hcc⟩ := hce (by omega)
  have i0 := (hcc 0 (by omega)).2
  have i1 := (hcc 1 (by omega)).2
  rw [Nat.add_zero] at i0
  have HE : Hid (((atL vals a.2)[0]'(by omega) == (atL vals a.2)[1]'(by omega)) = holdsA t vals a) := by
   unfold Hid
   rw [holdsA_eq hq]
   simp [List.getD_eq_getElem?_getD, hal]
  clear hcc hce h5 h6 he
  rw [hal]
  go_wp2_with fail
  go_quiet (fail)
  go_wp2_with fail
  go_ret
  exact ⟨ret_bool HE.out, bthen hbw1 (Quiet.drewN _ _).below⟩
set_option maxHeartbeats 1600000 in
set_option maxRecDepth 100000 in
theorem MaxI_any (w : World) {v : Value} {xs : List Int} (h : intsT.Rd w [v] xs) (h0 : 1 ≤ xs.length) (hnn : ∀ x ∈ xs, 0 ≤ x) :
  Calls Tryz.prog 169 #[v] w fun e w' => e = .returned (.int .i64 (topI xs)) ∧ w = w' := by
 obtain ⟨ad, cap, hv, -, hcl, hcell⟩ := ints_ex h
 obtain rfl : v = _ := by simpa using hv
 obtain ⟨b, o, rfl, hb, hce⟩ := hcell (by omega)
 have HCE := Lib.hid hce
 have HN := Lib.hid hnn
 have c0 := (hce 0 (by omega)).2
 have ht1 : topI (xs.take 1) = xs[0] := by rw [topI_take (show 0 < xs.length by omega)]; have := hnn _ (List.getElem_mem (show 0 < xs.length by omega)); simp [topI]; omega
 have HT1 := Lib.hid ht1
 have h01 : 1 ≤ (xs.length : Int) := by omega
 rw [Nat.add_zero] at c0
 clear h hv hcell hce hnn ht1
 go_enter Tryz.func169, Tryz.ntmps169
 go_wp2_with fail
 go_loop [3, 4] (fun m i => ∃ k : Nat, 1 ≤ k ∧ k ≤ xs.length ∧ i = .int .i64 k ∧ m = .int .i64 (topI (xs.take k))) (fun _ i => xs.length - (intOf i).toNat)
 case atStart => exact ⟨1, Nat.le_refl _, h0, rfl, by rw [HT1.out]⟩
 case round =>
  obtain ⟨k, hk1, hk, rfl, rfl⟩ := hrel
  by_cases hkl : k < xs.length
  ·have e0 := (HCE.out k hkl).2
   have HT := Lib.hid (topI_take hkl)
   go_wp2_with fail
   go_round
   case rel => exact ⟨k + 1, by omega, by omega, by go_num, by rw [HT.out]; congr 1; split <;> omega⟩
   case measure => simp [intOf]; omega
  ·obtain rfl : k = xs.length := by omega
   rw [List.take_length]
   go_wp2_with fail
   go_ret
   exact ⟨rfl, rfl⟩
end Go.Proofs.YtnhdohednekhjaaGreatDoor
namespace Go.Proofs.YtnhdohednekhjaaGreatDoor
open Go.RowKit
/-- a value as it is: for rows whose elements point into older memory -/
def Ty.val : Ty Value where
 sz := 1
 rd := fun _ cs x fp => cs = [x] ∧ x.oneCell' = true ∧ fp = []
 len := by rintro _ _ _ _ ⟨rfl, _, _⟩; rfl
 same := fun h _ => h
 lt := by rintro _ _ _ _ ⟨rfl, _, rfl⟩ k hk; cases hk
 one := by rintro _ _ _ _ ⟨rfl, h, _⟩ u hu; simp at hu; subst hu; exact h
/-- a number and a value -/
abbrev pvT : Ty (Int × Value) := Ty.cons Ty.val
theorem fr_pv {base : Nat} {w : World} {n : Int} {x : Value} (hn : I64 n) (h : x.oneCell' = true) : pvT.Fr base w [.int .i64 n, x] (n, x) := ⟨[], ⟨[x], rfl, hn, rfl, h, rfl⟩, List.nodup_nil, by simp, fun b hb => by cases hb⟩
/-- a row of these values reads as the data do -/
theorem ops_of_vals {w : World} {v : Value} {VS : List (Int × Value)} {xs : List (Int × List Int)} (h : (Ty.slice pvT).Rd w [v] VS) (hl : VS.length = xs.length)
  (hr : ∀ i (h : i < VS.length) (h' : i < xs.length), (VS[i]).1 = (xs[i]).1 ∧ I64 (VS[i]).1 ∧ intsT.Rd w [(VS[i]).2] (xs[i]).2) : opsT.Rd w [v] xs := by
 obtain ⟨fp, ad, cap, hv, h1, h2, h3⟩ := h
 obtain rfl : v = _ := by simpa using hv
 rcases h3 with ⟨h3, _⟩ | ⟨h3, b, o, fps, rfl, hb, _, h4⟩
 ·exact ⟨[], ad, cap, by rw [hl], by omega, by omega, .inl ⟨by omega, rfl⟩⟩
 ·have hch : ∀ i, ∃ fp, (h : i < xs.length) → intsT.rd w [(VS[i]'(by omega)).2] (xs[i]).2 fp := fun i => by
   by_cases hi : i < xs.length
   ·obtain ⟨fp, hfp⟩ := (hr i (by omega) hi).2.2
    exact ⟨fp, fun _ => hfp⟩
   ·exact ⟨[], fun h => absurd h hi⟩
  refine ⟨_, some ⟨b, o, none⟩, cap, by rw [hl], by omega, by omega, .inr ⟨by omega, b, o, fun i => (hch i).choose, rfl, hb, rfl, fun i hi => ?_⟩⟩
  obtain ⟨cs, ⟨cs', rfl, _, rfl, _, _⟩, h6⟩ := h4 i (by omega)
  obtain ⟨e1, e2, -⟩ := hr i (by omega) hi
  exact ⟨_, ⟨_, by rw [← e1], by rw [← e1]; exact e2, (hch i).choose_spec hi⟩, h6⟩
end Go.Proofs.YtnhdohednekhjaaGreatDoor
namespace Go.Proofs.YtnhdohednekhjaaGreatDoor
/-- all lists of m more values that go, in order -/
def solsL (s : Nat) (sure : List Int → Bool) : Nat → List Int → List (List Int)
 | 0, vals => [vals]
 | m + 1, vals => (List.range s).flatMap fun a : Nat => if sure (vals ++ [(a : Int)]) then solsL s sure m (vals ++ [(a : Int)]) else []
/-- those of the first k values at the next place -/
def solsTo (s : Nat) (sure : List Int → Bool) (m : Nat) (vals : List Int) (k : Nat) : List (List Int) :=
 (List.range k).flatMap fun a : Nat => if sure (vals ++ [(a : Int)]) then solsL s sure m (vals ++ [(a : Int)]) else []
section
variable {s m k : Nat} {sure : List Int → Bool} {vals : List Int}
theorem solsL_zero : solsL s sure 0 vals = [vals] := rfl
theorem solsL_succ : solsL s sure (m + 1) vals = solsTo s sure m vals s := rfl
theorem solsTo_zero : solsTo s sure m vals 0 = [] := by simp [solsTo]
theorem solsTo_yes (h : sure (vals ++ [(k : Int)]) = true) : solsTo s sure m vals (k + 1) = solsTo s sure m vals k ++ solsL s sure m (vals ++ [(k : Int)]) := by simp [solsTo, List.range_succ, h]
theorem solsTo_no (h : sure (vals ++ [(k : Int)]) = false) : solsTo s sure m vals (k + 1) = solsTo s sure m vals k := by simp [solsTo, List.range_succ, h]
theorem solsTo_append {s m k : Nat} {sure : List Int → Bool} {vals : List Int} : ∀ {j : Nat}, k ≤ j → ∃ r, solsTo s sure m vals j = solsTo s sure m vals k ++ r
 | 0, h => by
  obtain rfl : k = 0 := by omega
  exact ⟨[], by simp⟩
 | j + 1, h => by
  by_cases e : k = j + 1
  ·subst e; exact ⟨[], by simp⟩
  ·obtain ⟨r, hr⟩ := solsTo_append (s := s) (m := m) (k := k) (sure := sure) (vals := vals) (j := j) (by omega)
   cases hs : sure (vals ++ [(j : Int)])
   ·exact ⟨r, by rw [solsTo_no hs, hr]⟩
   ·exact ⟨r ++ solsL s sure m (vals ++ [(j : Int)]), by rw [solsTo_yes hs, hr, List.append_assoc]⟩
end
theorem flat_len {α β : Type} (f : α → List β) (c : Nat) : ∀ {xs : List α}, (∀ x ∈ xs, (f x).length ≤ c) → (xs.flatMap f).length ≤ xs.length * c
 | [], _ => by simp
 | x :: r, h => by
  rw [List.flatMap_cons, List.length_append, List.length_cons, Nat.add_mul]
  have h1 := h x (List.mem_cons_self ..)
  have h2 := flat_len f c (xs := r) fun y hy => h y (List.mem_cons_of_mem _ hy)
  omega
/-- there are not more than that -/
theorem solsL_len {s : Nat} {sure : List Int → Bool} : ∀ {m : Nat} {vals : List Int}, (solsL s sure m vals).length ≤ s ^ m
 | 0, vals => by simp [solsL]
 | m + 1, vals => by
  have h := flat_len (fun a : Nat => if sure (vals ++ [(a : Int)]) then solsL s sure m (vals ++ [(a : Int)]) else []) (s ^ m) (xs := List.range s) fun a _ => by
   cases hs : sure (vals ++ [(a : Int)])
   ·simp
   ·simpa using solsL_len
  rw [List.length_range] at h
  rw [Nat.pow_succ, Nat.mul_comm]
  exact h
/-- what a listener has been told when it has said no, or all has been told; has it said yes to all? -/
def tellL (go : List (List Int) → Bool) : List (List Int) → List (List Int) → List (List Int) × Bool
 | told, [] => (told, true)
 | told, x :: r => if go (told ++ [x]) then tellL go (told ++ [x]) r else (told ++ [x], false)
section
variable {go : List (List Int) → Bool} {told xs ys : List (List Int)} {x : List Int}
theorem tellL_nil : tellL go told [] = (told, true) := rfl
theorem tellL_one : tellL go told [x] = (told ++ [x], go (told ++ [x])) := by
 simp only [tellL]
 cases go (told ++ [x]) <;> rfl
theorem tellL_append : ∀ {xs told : List (List Int)}, tellL go told (xs ++ ys) = if (tellL go told xs).2 then tellL go (tellL go told xs).1 ys else tellL go told xs
 | [], told => by simp [tellL]
 | x :: r, told => by
  simp only [List.cons_append, tellL]
  by_cases hg : go (told ++ [x]) = true
  ·simp only [if_pos hg]
   exact tellL_append (xs := r) (told := told ++ [x])
  ·simp [hg]
theorem tellL_yes (h : (tellL go told xs).2 = true) : tellL go told (xs ++ ys) = tellL go (tellL go told xs).1 ys := by rw [tellL_append, if_pos h]
theorem tellL_no (h : (tellL go told xs).2 = false) : tellL go told (xs ++ ys) = tellL go told xs := by rw [tellL_append, if_neg (by simp [h])]
theorem tellL_stop (h : (tellL go told xs).2 = false) (hy : ∃ r, ys = xs ++ r) : tellL go told ys = tellL go told xs := by
 obtain ⟨r, rfl⟩ := hy
 exact tellL_no h
end
/-- a listener that never says yes is told one -/
theorem tellL_first {told : List (List Int)} : ∀ {xs : List (List Int)}, tellL (fun _ => false) told xs = match xs with | [] => (told, true) | x :: _ => (told ++ [x], false)
 | [] => rfl
 | _ :: _ => rfl
end Go.Proofs.YtnhdohednekhjaaGreatDoor
namespace Go.Proofs.YtnhdohednekhjaaGreatDoor
open Go.RowKit
/-- read in blocks for which something is so -/
def Ty.RdP {α : Type} (E : Ty α) (ok : Nat → Prop) (w : World) (cs : List Value) (x : α) : Prop := ∃ fp, E.rd w cs x fp ∧ ∀ k ∈ fp, ok k
section
variable {α : Type} {E : Ty α} {ok ok' : Nat → Prop} {w w' : World} {cs : List Value} {x : α}
theorem Ty.RdP.rd (h : E.RdP ok w cs x) : E.Rd w cs x := let ⟨fp, h, _⟩ := h; ⟨fp, h⟩
theorem Ty.RdP.mono (h : E.RdP ok w cs x) (hk : ∀ k, k < w.heap.size → ok k → ok' k) : E.RdP ok' w cs x := let ⟨fp, h, hf⟩ := h; ⟨fp, h, fun k hk' => hk k (E.lt h k hk') (hf k hk')⟩
theorem Ty.Rd.P (h : E.Rd w cs x) : E.RdP (fun k => k < w.heap.size) w cs x := let ⟨fp, h⟩ := h; ⟨fp, h, E.lt h⟩
theorem Ty.RdP.tch {O : List Nat} (h : E.RdP ok w cs x) (ht : TchF O w w') (hO : ∀ k, k < w.heap.size → ok k → k ∉ O) : E.RdP ok w' cs x :=
 let ⟨fp, h, hf⟩ := h; ⟨fp, E.same h (ht.same fun k hk => ⟨E.lt h k hk, hO k (E.lt h k hk) (hf k hk)⟩), hf⟩
theorem Ty.RdP.below (h : E.RdP ok w cs x) (hb : Below w.heap.size w w') : E.RdP ok w' cs x := h.tch (O := []) (Below.tchF hb []) (fun _ _ _ => List.not_mem_nil)
theorem Ty.rd.below {fp : List Nat} (h : E.rd w cs x fp) (hb : Below w.heap.size w w') : E.rd w' cs x fp := E.same h (Same.below hb (E.lt h))
theorem Ty.rd.tch {fp O : List Nat} (h : E.rd w cs x fp) (ht : TchF O w w') (hO : ∀ k ∈ fp, k ∉ O) : E.rd w' cs x fp := E.same h (ht.same fun k hk => ⟨E.lt h k hk, hO k hk⟩)
end
theorem TchF.then {O O' : List Nat} {a b c : World} (h : TchF O a b) (h' : TchF O' b c) (hO : ∀ k ∈ O', k ∈ O ∨ a.heap.size ≤ k) : TchF O a c :=
 ⟨h'.os.trans h.os, h'.tape.trans h.tape, h'.output.trans h.output, Nat.le_trans h.size h'.size, fun k hk hn => (h'.block k (Nat.lt_of_lt_of_le hk h.size) fun hm => by
  rcases hO k hm with hm | hm
  ·exact hn hm
  ·omega).trans (h.block k hk hn)⟩
theorem TchF.below {O : List Nat} {a b : World} {B : Nat} (h : TchF O a b) (hB : B ≤ a.heap.size) (hO : ∀ k ∈ O, B ≤ k) : Below B a b :=
 ⟨h.os, h.tape, h.output, h.size, fun k hk => h.block k (Nat.lt_of_lt_of_le hk hB) fun hm => Nat.not_lt.2 (hO k hm) hk⟩
abbrev duesT : Ty (List (List (Int × List Int))) := Ty.slice opsT
/-- a search's data, at block bs: the template, how many variables, the atoms that are due at each -/
def Sv (ok : Nat → Prop) (w : World) (bs : Nat) (t : Int × List (Int × List (List Int))) (vars : Int) (due : List (List (Int × List Int))) : Prop :=
 bs < w.heap.size ∧ ok bs ∧ ∃ v1 v3, w.cell? ⟨bs, 0, none⟩ = some (.int .i64 t.1) ∧ w.cell? ⟨bs, 1, none⟩ = some v1 ∧ w.cell? ⟨bs, 2, none⟩ = some (.int .i64 vars) ∧ w.cell? ⟨bs, 3, none⟩ = some v3 ∧ tplT.RdP ok w [.int .i64 t.1, v1] t ∧ duesT.RdP ok w [v3] due
section
variable {ok ok' : Nat → Prop} {w w' : World} {bs : Nat} {t : Int × List (Int × List (List Int))} {vars : Int} {due : List (List (Int × List Int))}
theorem Sv.tch {O : List Nat} (h : Sv ok w bs t vars due) (ht : TchF O w w') (hO : ∀ k, k < w.heap.size → ok k → k ∉ O) : Sv ok w' bs t vars due := by
 obtain ⟨h1, h2, v1, v3, c0, c1, c2, c3, h3, h4⟩ := h
 have hn := hO bs h1 h2
 exact ⟨Nat.lt_of_lt_of_le h1 ht.size, h2, v1, v3, (ht.cell h1 hn).trans c0, (ht.cell h1 hn).trans c1, (ht.cell h1 hn).trans c2, (ht.cell h1 hn).trans c3, h3.tch ht hO, h4.tch ht hO⟩
theorem Sv.below (h : Sv ok w bs t vars due) (hb : Below w.heap.size w w') : Sv ok w' bs t vars due := h.tch (O := []) (Below.tchF hb []) (fun _ _ _ => List.not_mem_nil)
theorem Sv.mono (h : Sv ok w bs t vars due) (hk : ∀ k, k < w.heap.size → ok k → ok' k) : Sv ok' w bs t vars due := by
 obtain ⟨h1, h2, v1, v3, c0, c1, c2, c3, h3, h4⟩ := h
 exact ⟨h1, hk _ h1 h2, v1, v3, c0, c1, c2, c3, h3.mono hk, h4.mono hk⟩
end
/-- a listener of lists of values: what it keeps (I), and the blocks that it may write (O) -/
structure Yl (P : Program) (g : FuncId) (caps : Array Value) (go : List (List Int) → Bool) (I : List (List Int) → List Nat → World → Prop) : Prop where
 stable : ∀ {told O w w'}, I told O w → Below w.heap.size w w' → I told O w'
 lt : ∀ {told O w}, I told O w → ∀ k ∈ O, k < w.heap.size
 step : ∀ {told O w0 w u x}, I told O w0 → Below w0.heap.size w0 w → intsT.Fr w0.heap.size w [u] x → x.length ≤ 10 → told.length ≤ 2000000 →
  Calls P g (#[u] ++ caps) w fun e w' => e = .returned (.bool (go (told ++ [x]))) ∧ ∃ O', I (told ++ [x]) O' w' ∧ TchF O w w' ∧ ∀ k ∈ O', k ∈ O ∨ w0.heap.size ≤ k
theorem tellL_len {go : List (List Int) → Bool} : ∀ {xs told : List (List Int)}, (tellL go told xs).1.length ≤ told.length + xs.length
 | [], told => by simp [tellL]
 | x :: r, told => by
  simp only [tellL]
  by_cases hg : go (told ++ [x]) = true
  ·rw [if_pos hg]
   have := tellL_len (go := go) (xs := r) (told := told ++ [x])
   simp at this ⊢
   omega
  ·rw [if_neg hg]
   simp
theorem flatN (n : Nat) : flat (fun _ => []) n = [] := List.eq_nil_iff_forall_not_mem.2 fun x hx => by obtain ⟨_, _, h⟩ := List.mem_flatMap.1 hx; cases h
/-- an append of a number to a row that is full -/
theorem wpList_appFull {P : Program} (w : World) {ops : Array Oper} {rest : List Oper} {o : Oper} {a : Act} {Q : Exit → Act → World → Prop} (hgd : o.guard = none) (s x : Operand) (t e : TypeId) {bytes : Nat}
  (ho : o.op = .call { callee := .builtin .append, args := #[s, x], argTypes := #[t, t] }) (hT : ElT P t e 1 bytes)
  {ad : Option Addr} {n : Nat} {xs : List Int} (hs : a.eval s = .slice ad n n) (hR : intsT.Rd w [.slice ad n n] xs)
  {ad2 : Addr} {c : Nat} {k : Int} (hx : a.eval x = .slice (some ad2) 1 c) (hnews : ∀ j u, [Value.int .i64 k][j]? = some u → w.cell? (ad2.add j) = some u) (hI : I64 k)
  (hlen : n ≤ 1000000) (hby : bytes ≤ 100000)
  (h : ∀ v' w', intsT.Fr w.heap.size w' [v'] (xs ++ [k]) → Below w.heap.size w w' → wpList P ops Q rest (a.put o.dst v') w') : wpList P ops Q (o :: rest) a w := by
 obtain ⟨i, z, ht, hi, hz, hsz, hbt', hzs, hp⟩ := id hT
 obtain ⟨ad', cap', hv, -, hcl, hcell⟩ := ints_ex hR
 obtain ⟨rfl, rfl, rfl⟩ : ad = ad' ∧ n = xs.length ∧ n = cap' := by simpa using hv
 have hlen' : (xs.length + 1) * bytes ≤ 140737488355328 := Nat.le_trans (Nat.mul_le_mul (show xs.length + 1 ≤ 1000000001 by omega) hby) (by decide)
 have hIx : ∀ q (hq : q < xs.length), I64 xs[q] := fun q hq => by
  obtain ⟨b, o, _, _, h5⟩ := hcell (by omega)
  exact (h5 q hq).1
 have key : ∃ v' w', (Builtin.append_ #[t, t] o.type #[.slice ad xs.length xs.length, .slice (some ad2) 1 c]).run P w = .ok v' w' ∧ w'.ownsRow w.heap.size e 1 v' (xs.length + 1) ((xs ++ [k]).map (Value.int .i64)) ∧ Below w.heap.size w w' := by
  have hfit : Builtin.nextslicecap (xs.length + 1) xs.length * i.bytes ≤ 281474976710656 := growslice_fits (by omega) (by rw [hbt']; exact hlen')
  have grown : ∀ old : Nat, (w.drew.alloc (.cells ((xs.map (Value.int .i64)).toArray ++ [Value.int .i64 k].toArray ++ Builtin.zeroCells z.cells (grownCap w (xs.length + 1) old e - (xs.length + 1))) e)).ownsRow w.heap.size e 1
    (.slice (some ⟨w.heap.size, 0, none⟩) (xs.length + 1) (grownCap w (xs.length + 1) old e)) (xs.length + 1) ((xs ++ [k]).map (Value.int .i64)) := by
   intro old
   have hge := grownCap_ge w (xs.length + 1) old e
   refine ⟨by simp, .inr ⟨w.heap.size, _, _, rfl, Nat.le_refl _, heap_alloc_new w.drew _, hge, grownCap_le_maxLen w (xs.length + 1) old e (by unfold maxLen; omega), ?_, ?_⟩⟩
   ·simp only [Array.size_append, List.size_toArray, size_zeroCells, hzs, List.length_map, List.length_singleton]
    omega
   ·rw [show xs.length + 1 = ((xs.map (Value.int .i64)) ++ [Value.int .i64 k]).length * 1 by simp, Nat.mul_one]
    simp only [Array.toList_append, List.map_append, List.map_cons, List.map_nil, Nat.mul_one]
    exact List.take_left
  have hbel : ∀ ob : Obj, Below w.heap.size w (w.drew.alloc ob) := fun ob => (Below.refl _ w).drew.alloc (by simp) _
  rcases ad with _ | b
  ·have h0 : xs.length = 0 := by
    rcases Nat.eq_zero_or_pos xs.length with h0 | h0
    ·exact h0
    ·obtain ⟨b, o, hb, _⟩ := hcell h0
     cases hb
   obtain rfl : xs = [] := List.eq_nil_of_length_eq_zero h0
   have hr := run_append_nil (P := P) w t o.type e i z ht hi hz ad2 1 c [Value.int .i64 k] (by rw [hsz]; rfl) hnews (by omega) (by omega) (by rw [hbt']; simp only [List.length_nil, Nat.zero_add] at hlen'; omega)
   have hg := grown 0
   refine ⟨_, _, hr, ?_, hbel _⟩
   simpa using hg
  ·have holds : ∀ (j : Nat) (v : Value), (xs.map (Value.int .i64))[j]? = some v → w.cell? (b.add j) = some v := by
    intro j u hj
    rw [List.getElem?_map] at hj
    by_cases hjl : j < xs.length
    ·rw [List.getElem?_eq_getElem hjl] at hj
     simp only [Option.map_some, Option.some.injEq] at hj
     subst hj
     obtain ⟨b', o', hb, _, h5⟩ := hcell (by omega)
     obtain rfl : b = _ := by simpa using hb
     have := (h5 j hjl).2
     by_cases hj0 : j = 0
     ·subst hj0
      simpa [Addr.add] using this
     ·simpa [Addr.add, hj0] using this
    ·rw [List.getElem?_eq_none (by omega)] at hj
     simp at hj
   have hr := run_append_grow (P := P) w t o.type e i z ht hi hz b xs.length xs.length (xs.map (Value.int .i64)) (by rw [hsz]; simp) holds ad2 1 c [Value.int .i64 k] (by rw [hsz]; rfl) hnews (by omega) (by omega) hfit
   exact ⟨_, _, hr, grown xs.length, hbel _⟩
 obtain ⟨v', w', hr, hown, hb⟩ := key
 have hFr : intsT.Fr w.heap.size w' [v'] (xs ++ [k]) := by
  refine Bl.fr (E := Ty.int) (e := e) (top := w'.heap.size) ⟨(xs ++ [k]).map (Value.int .i64), fun _ => [], by simpa [Ty.int] using hown, fun j hj => ⟨[.int .i64 (xs ++ [k])[j]], ⟨rfl, ?_, rfl⟩, fun q hq => ?_⟩, by rw [flatN]; exact List.nodup_nil, by rw [flatN]; simp, fun g hg => (hown.lt g hg).2, fun b hb => by rw [flatN] at hb; cases hb⟩ (by rw [List.length_append]; unfold capMax; simp only [List.length_singleton]; omega)
  ·by_cases hj' : j < xs.length
   ·rw [List.getElem_append_left hj']; exact hIx j hj'
   ·rw [List.getElem_append_right (by omega)]; simpa using hI
  ·obtain rfl : q = 0 := by simpa using hq
   simp only [Ty.int, Nat.mul_one, Nat.add_zero, List.getElem?_map, List.getElem?_eq_getElem hj]
   rfl
 refine wpList_plain hgd fun K hK => ?_
 unfold Oper.wp execOp
 simp only [ho, resolve, invoke, builtin, Sem.run_bind, Sem.run_pure, Result.andThen_ok, List.map_toArray, List.map_cons, List.map_nil, hs, hx, hr]
 exact hK _ _ (h v' w' hFr hb)
end Go.Proofs.YtnhdohednekhjaaGreatDoor
namespace Go.Proofs.YtnhdohednekhjaaGreatDoor
open Go.RowKit Go.Sort
/-- do all atoms hold that are due when so many values are there? -/
noncomputable def goesB (t : Int × List (Int × List (List Int))) (due : List (List (Int × List Int))) (vals : List Int) : Bool := !anyB (fun a => !holdsA t vals a) (due.getD (vals.length - 1) [])
theorem goesB_at {t : Int × List (Int × List (List Int))} {due : List (List (Int × List Int))} {vals : List Int} {k : Nat} (h : vals.length = k + 1) (hk : k < due.length) : goesB t due vals = !anyB (fun a => !holdsA t vals a) due[k] := by
 unfold goesB
 rw [h, Nat.add_sub_cancel, List.getD_eq_getElem?_getD, List.getElem?_eq_getElem hk]
 rfl
/-- the atoms that are due are right -/
def dueOk (t : Int × List (Int × List (List Int))) (vars : Int) (due : List (List (Int × List Int))) : Prop := ∀ k (h : k < due.length), ∀ a ∈ due[k], atomOk t vars a ∧ ∀ p ∈ a.2, 0 ≤ p ∧ p < (k : Int) + 1
set_option maxHeartbeats 1600000 in
set_option maxRecDepth 100000 in
theorem goes1_any (w : World) {ca : Array Value} {a : Int × List Int} (ha : opT.Rd w ca.toList a) {ok : Nat → Prop} {bs : Nat} {t : Int × List (Int × List (List Int))} {vars : Int} {due : List (List (Int × List Int))} (hS : Sv ok w bs t vars due) {b1 b2 : Nat} {v : Value} {vals : List Int}
  (s0 : w.cell? ⟨b1, 0, none⟩ = some (.pointer (some ⟨bs, 0, none⟩))) (v0 : w.cell? ⟨b2, 0, none⟩ = some v) (hv : intsT.Rd w [v] vals) (hT : tplOk t) (hA : atomOk t vars a) (hin : ∀ p ∈ a.2, 0 ≤ p ∧ p < (vals.length : Int)) :
  Calls Tryz.prog 228 #[.agg ca, .pointer (some ⟨b1, 0, none⟩), .pointer (some ⟨b2, 0, none⟩)] w fun e w' => e = .returned (.bool (!holdsA t vals a)) ∧ Below w.heap.size w w' := by
 have HA := Lib.hid ha
 obtain ⟨hbs, -, v1, v3, c0, c1, -, -, ht, -⟩ := hS
 obtain ⟨va, hca, -, -⟩ := pair_ex ha
 obtain rfl := agg_of hca
 have HTR := Lib.hid ht.rd
 have HV := Lib.hid hv
 have HT := Lib.hid hT
 have HAO := Lib.hid hA
 have HIN := Lib.hid hin
 clear ha hca ht hv hT hA hin
 go_enter Tryz.func228, Tryz.ntmps228
 go_wp2_with fail
 generalize hW : World.alloc _ _ = W
 have hbW : Below w.heap.size w W := hW ▸ bA
 have a0 : W.cell? ⟨w.heap.size, 0, none⟩ = some (.int .i64 a.1) := by rw [← hW]; simp
 have a1 : W.cell? ⟨w.heap.size, 1, none⟩ = some va := by rw [← hW]; simp
 have k0 := (hbW.cell (cell_lt c0)).trans c0
 have k1 := (hbW.cell (cell_lt c1)).trans c1
 have k2 := (hbW.cell (cell_lt s0)).trans s0
 have k3 := (hbW.cell (cell_lt v0)).trans v0
 have hlW : w.heap.size < W.heap.size := by rw [← hW]; simp
 clear hW c0 c1 s0 v0
 refine wp_region_T (fun w' => w'.cell? ⟨w.heap.size, 0, none⟩ = some (.int .i64 a.1) ∧ w'.cell? ⟨w.heap.size, 1, none⟩ = some va ∧ w'.cell? ⟨bs, 0, none⟩ = some (.int .i64 t.1) ∧ w'.cell? ⟨bs, 1, none⟩ = some v1 ∧ w'.cell? ⟨b1, 0, none⟩ = some (.pointer (some ⟨bs, 0, none⟩)) ∧ w'.cell? ⟨b2, 0, none⟩ = some v) [6, 8] (by kernel_rfl) ⟨a0, a1, k0, k1, k2, k3⟩ (fun hHeld => ?_)
 refine wpAnyT_take (i := 0) (v := ?_) rfl (by kernel_rfl) (fun _ _ _ h => h) (Or.inl ⟨by rfl, ?_⟩) (by assumption) ?_
 rotate_left
 ·(intro w hSw; (try dsimp only at hSw); go_simp <;> with_reducible rfl)
 try simp only [Act.put]
 refine wpAnyT_take (i := 1) (v := ?_) rfl (by kernel_rfl) (fun _ _ _ h => h) (Or.inl ⟨by rfl, ?_⟩) (by assumption) ?_
 rotate_left
 ·(intro w hSw; (try dsimp only at hSw); go_simp <;> with_reducible rfl)
 try simp only [Act.put]
 refine wpAnyT_take (i := 2) (v := ?_) rfl (by kernel_rfl) (fun _ _ _ h => h) (Or.inl ⟨by rfl, ?_⟩) (by assumption) ?_
 rotate_left
 ·(intro w hSw; (try dsimp only at hSw); go_simp <;> with_reducible rfl)
 try simp only [Act.put]
 refine wpAnyT_take (i := 3) (v := ?_) rfl (by kernel_rfl) (fun _ _ _ h => h) (Or.inl ⟨by rfl, ?_⟩) (by assumption) ?_
 rotate_left
 ·(intro w hSw; (try dsimp only at hSw); go_simp <;> with_reducible rfl)
 try simp only [Act.put]
 refine wpAnyT_take (i := 4) (v := ?_) rfl (by kernel_rfl) (fun _ _ _ h => h) (Or.inl ⟨by rfl, ?_⟩) (by assumption) ?_
 rotate_left
 ·(intro w hSw; (try dsimp only at hSw); go_simp <;> with_reducible rfl)
 try simp only [Act.put]
 refine wpAnyT_take (i := 5) (v := ?_) rfl (by kernel_rfl) (fun _ _ _ h => h) (Or.inl ⟨by rfl, ?_⟩) (by assumption) ?_
 rotate_left
 ·(intro w hSw; (try dsimp only at hSw); go_simp <;> with_reducible rfl)
 try simp only [Act.put]
 refine wpAnyT_last (i := 6) rfl (by kernel_rfl) (by kernel_rfl) (fun K hK => ?_)
 go_simp
 go_at_call 229
 refine (holds_any (ct := #[.int .i64 t.1, v1]) (ca := #[.int .i64 a.1, va]) _ ((HTR.out.below hbW).below bD) ((HA.out.below hbW).below bD) ((HV.out.below hbW).below bD) HT.out HAO.out HIN.out).mono ?_
 rintro e w2 ⟨rfl, hb2⟩
 have hb2' : Below W.heap.size W w2 := bthen bD hb2
 dsimp only
 refine hK.out _ _ ?_
 clear hK K
 refine wpAnyT_any (i := 7) (v := ?_) rfl (by kernel_rfl) (fun _ _ _ h => h) (Or.inl ⟨by rfl, ?_⟩) (by first | exact fun _ => by assumption | (intro hp; exact absurd hp (by rw [show pastB _ _ = true by kernel_rfl]; simp))) ?_
 rotate_left
 ·(intro w hSw; (try dsimp only at hSw); go_simp <;> with_reducible rfl)
 try simp only [Act.put]
 refine wpAnyT_last (i := 8) rfl (by kernel_rfl) (by kernel_rfl) (fun K hK => ?_)
 go_simp
 refine hK.out _ _ ?_
 clear hK K
 refine wpAnyT_done (by kernel_rfl) ?_ _
 go_simp
 go_wp2_with fail
 go_ret
 exact ⟨rfl, bthen hbW hb2'⟩
set_option maxHeartbeats 1600000 in
set_option maxRecDepth 100000 in
theorem goes_any (w : World) {ok : Nat → Prop} {bs : Nat} {t : Int × List (Int × List (List Int))} {vars : Int} {due : List (List (Int × List Int))} (hS : Sv ok w bs t vars due) {v : Value} {vals : List Int} (hv : intsT.Rd w [v] vals) (hT : tplOk t) (hD : dueOk t vars due) (h1 : 1 ≤ vals.length) (h2 : vals.length ≤ due.length) :
  Calls Tryz.prog 185 #[.pointer (some ⟨bs, 0, none⟩), v] w fun e w' => e = .returned (.bool (goesB t due vals)) ∧ Below w.heap.size w w' := by
 have HS := Lib.hid hS
 obtain ⟨hbs, -, v1, v3, -, -, -, c3, -, hd⟩ := hS
 obtain ⟨k, hk⟩ : ∃ k, vals.length = k + 1 := ⟨vals.length - 1, by omega⟩
 have hkd : k < due.length := by omega
 have HG := Lib.hid (goesB_at (t := t) hk hkd)
 obtain ⟨da, dc, hdv, -, hdl, hdce⟩ := slices_ex hd.rd
 obtain rfl : v3 = _ := by simpa using hdv
 obtain ⟨g, go0, rfl, hg, hce⟩ := hdce (by omega)
 obtain ⟨u, hu, hcu⟩ := hce k hkd
 obtain ⟨ua, un, uc, rfl⟩ := rd_sl hu
 obtain ⟨va, vc, rfl⟩ := rd_slice hv
 have HU := Lib.hid hu
 have HV := Lib.hid hv
 have HT := Lib.hid hT
 have HD := Lib.hid hD
 have HK := Lib.hid hk
 have hwr : IntKind.i64.wrap (k : Int) = k := wrap_small (by omega) (by omega)
 rw [hk]
 clear hd hdv hdce hce hu hv hT hD hk h1 h2
 go_enter Tryz.func185, Tryz.ntmps185
 go_wp2_with fail
 generalize hW : World.alloc _ _ = W
 have hbW : Below w.heap.size w W := hW ▸ bAA
 have hsW : W.heap.size = w.heap.size + 2 := by rw [← hW]; simp
 have p0 : W.cell? ⟨w.heap.size, 0, none⟩ = some (.pointer (some ⟨bs, 0, none⟩)) := by rw [← hW]; simp [go_sem]
 have p1 : W.cell? ⟨w.heap.size + 1, 0, none⟩ = some (.slice va (k + 1) vc) := by rw [← hW]; simp [go_sem]
 have d3 := (cellB hbW hbs).trans c3
 have du := (cellB hbW hg).trans hcu
 clear hW c3 hcu
 refine wp_region_T (fun w' => w'.cell? ⟨w.heap.size, 0, none⟩ = some (.pointer (some ⟨bs, 0, none⟩)) ∧ w'.cell? ⟨w.heap.size + 1, 0, none⟩ = some (.slice va (k + 1) vc) ∧ w'.cell? ⟨bs, 3, none⟩ = some (.slice (some ⟨g, go0, none⟩) due.length dc) ∧ w'.cell? ⟨g, go0 + k, none⟩ = some (.slice ua un uc)) [10, 12] (by kernel_rfl) ⟨p0, p1, d3, du⟩ (fun hHeld => ?_)
 refine wpAnyT_take (i := 0) (v := ?_) rfl (by kernel_rfl) (fun _ _ _ h => h) (Or.inl ⟨by rfl, ?_⟩) (by assumption) ?_
 rotate_left
 ·(intro w hSw; (try dsimp only at hSw); go_simp <;> with_reducible rfl)
 try simp only [Act.put]
 refine wpAnyT_take (i := 1) (v := ?_) rfl (by kernel_rfl) (fun _ _ _ h => h) (Or.inl ⟨by rfl, ?_⟩) (by assumption) ?_
 rotate_left
 ·(intro w hSw; (try dsimp only at hSw); go_simp <;> with_reducible rfl)
 try simp only [Act.put]
 refine wpAnyT_take (i := 2) (v := ?_) rfl (by kernel_rfl) (fun _ _ _ h => h) (Or.inl ⟨by rfl, ?_⟩) (by assumption) ?_
 rotate_left
 ·(intro w hSw; (try dsimp only at hSw); go_simp <;> with_reducible rfl)
 try simp only [Act.put]
 refine wpAnyT_take (i := 3) (v := ?_) rfl (by kernel_rfl) (fun _ _ _ h => h) (Or.inl ⟨by rfl, ?_⟩) (by assumption) ?_
 rotate_left
 ·(intro w hSw; (try dsimp only at hSw); go_simp <;> with_reducible rfl)
 try simp only [Act.put]
 refine wpAnyT_take (i := 4) (v := ?_) rfl (by kernel_rfl) (fun _ _ _ h => h) (Or.inl ⟨by rfl, ?_⟩) (by assumption) ?_
 rotate_left
 ·(intro w hSw; (try dsimp only at hSw); go_simp <;> with_reducible rfl)
 try simp only [Act.put]
 refine wpAnyT_take (i := 5) (v := ?_) rfl (by kernel_rfl) (fun _ _ _ h => h) (Or.inl ⟨by rfl, ?_⟩) (by assumption) ?_
 rotate_left
 ·(intro w hSw; (try dsimp only at hSw); go_simp <;> with_reducible rfl)
 try simp only [Act.put]
 refine wpAnyT_take (i := 6) (v := ?_) rfl (by kernel_rfl) (fun _ _ _ h => h) (Or.inl ⟨by rfl, ?_⟩) (by assumption) ?_
 rotate_left
 ·(intro w hSw; (try dsimp only at hSw); go_simp <;> with_reducible rfl)
 try simp only [Act.put]
 refine wpAnyT_take (i := 7) (v := ?_) rfl (by kernel_rfl) (fun _ _ _ h => h) (Or.inl ⟨by rfl, ?_⟩) (by assumption) ?_
 rotate_left
 ·(intro w hSw; (try dsimp only at hSw); go_simp <;> with_reducible rfl)
 try simp only [Act.put]
 refine wpAnyT_take (i := 8) (v := ?_) rfl (by kernel_rfl) (fun _ _ _ h => h) (Or.inl ⟨by rfl, ?_⟩) (by assumption) ?_
 rotate_left
 ·(intro w hSw; (try dsimp only at hSw); go_simp <;> with_reducible rfl)
 try simp only [Act.put]
 refine wpAnyT_take (i := 9) (v := ?_) rfl (by kernel_rfl) (fun _ _ _ h => h) (Or.inl ⟨by rfl, ?_⟩) (by assumption) ?_
 rotate_left
 ·(intro w hSw; (try dsimp only at hSw); go_simp <;> with_reducible rfl)
 try simp only [Act.put]
 refine wpAnyT_last (i := 10) rfl (by kernel_rfl) (by kernel_rfl) (fun K hK => ?_)
 go_simp
 go_at_call 63
 have hbD : Below W.heap.size W W.drew := bD
 refine (ContainsFuncAtom_any _ ((HU.out.below hbW).below hbD) (fun a => !holdsA t vals a) 228 #[.pointer (some ⟨w.heap.size, 0, none⟩), .pointer (some ⟨w.heap.size + 1, 0, none⟩)] (enters Tryz.func228 (by kernel_rfl) rfl) (fun W' hW' q hq cs hcs => goes1_any W' hcs (((HS.out.below hbW).below hbD).below hW') ((hW'.cell (cell_lt hHeld.1)).trans hHeld.1) ((hW'.cell (cell_lt hHeld.2.1)).trans hHeld.2.1) (by have := ((HV.out.below hbW).below hbD).below hW'; rw [HK.out] at this; exact this) HT.out ((HD.out k hkd _ (List.getElem_mem hq)).1) (by have := (HD.out k hkd _ (List.getElem_mem hq)).2; rw [HK.out]; exact this))).mono ?_
 rintro e w2 ⟨rfl, hb2⟩
 have hb2' : Below W.heap.size W w2 := bthen hbD hb2
 dsimp only
 refine hK.out _ _ ?_
 clear hK K
 refine wpAnyT_any (i := 11) (v := ?_) rfl (by kernel_rfl) (fun _ _ _ h => h) (Or.inl ⟨by rfl, ?_⟩) (by first | exact fun _ => by assumption | (intro hp; exact absurd hp (by rw [show pastB _ _ = true by kernel_rfl]; simp))) ?_
 rotate_left
 ·(intro w hSw; (try dsimp only at hSw); go_simp <;> with_reducible rfl)
 try simp only [Act.put]
 refine wpAnyT_last (i := 12) rfl (by kernel_rfl) (by kernel_rfl) (fun K hK => ?_)
 go_simp
 refine hK.out _ _ ?_
 clear hK K
 refine wpAnyT_done (by kernel_rfl) ?_ _
 go_simp
 go_wp2_with fail
 go_ret
 exact ⟨ret_bool HG.out.symm, bthen hbW hb2'⟩
end Go.Proofs.YtnhdohednekhjaaGreatDoor
