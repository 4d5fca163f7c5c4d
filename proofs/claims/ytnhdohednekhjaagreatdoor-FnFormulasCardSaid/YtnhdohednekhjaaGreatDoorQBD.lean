/-
Contracts: whether two formulas say the same, both sides.
Contracts: the parts of a formula made simpler: the program's closures; the least of two numbers.
Contracts: the reference's parts of a formula made simpler: the first atom to be merged; the atoms that say something.
Contracts: the numbers from one on, as a row of the call's own; such a row beside a box.
-/
import Derived.Test.YtnhdohednekhjaaGreatDoorQBC
import Derived.Test.YtnhdohednekhjaaGreatDoorQAG
import Derived.Test.YtnhdohednekhjaaGreatDoorQAA
import Derived.Test.YtnhdohednekhjaaGreatDoorQAH
import Derived.Test.YtnhdohednekhjaaGreatDoorQAC
import Derived.Deep.CutRange
import Derived.Test.YtnhdohednekhjaaGreatDoorQAD
namespace Go.Proofs.YtnhdohednekhjaaGreatDoor
open Go.RowKit Go.Sort
set_option maxHeartbeats 3200000 in
set_option maxRecDepth 100000 in
theorem AreEquivalent_any (w : World) {cs cf cg : Array Value} {t : Int × List (Int × List (List Int))} {f g : Int × Int × List (Int × List Int)} (h : tplT.Rd w cs.toList t) (hf : frmT.Rd w cf.toList f) (hg : frmT.Rd w cg.toList g) :
  Calls Tryz.prog 25 #[.agg cs, .agg cf, .agg cg] w fun e w' => e = .returned (.tuple #[.bool (aeB t f g), .int .i64 (twoC t f g)]) ∧ Below w.heap.size w w' := by
 have HT := Lib.hid h
 have HF := Lib.hid hf
 have HG := Lib.hid hg
 obtain ⟨v1, hv1, hI, -⟩ := pair_ex h
 obtain rfl := agg_of hv1
 obtain ⟨v2, hv2, hIf, hIf2, -⟩ := trip_ex hf
 obtain rfl := agg_of hv2
 obtain ⟨v3, hv3, hIg, hIg2, -⟩ := trip_ex hg
 obtain rfl := agg_of hv3
 clear h hf hg hv1 hv2 hv3
 go_enter Tryz.func25, Tryz.ntmps25
 go_wp2_with fail
 generalize hW : World.alloc _ _ = W
 have hbW : Below w.heap.size w W := hW ▸ ((bAA (w := w)).alloc (by simp; omega) _)
 clear hW
 refine (FirstApart_any _ (cs := #[.int .i64 t.1, v1]) (cf := #[.int .i64 f.1, .int .i64 f.2.1, v2]) (cg := #[.int .i64 g.1, .int .i64 g.2.1, v3]) (HT.out.below hbW) (HF.out.below hbW) (HG.out.below hbW)).mono ?_
 rintro e w1 ⟨u, rfl, hf1, hb1⟩
 obtain ⟨ua, un, uc, rfl⟩ := ex_slice hf1
 have hB1 := bthen hbW hb1
 clear hf1
 cases hc : (twoC t f g == 0)
 ·have hc' : twoC t f g ≠ 0 := by simpa using hc
  have HR := Lib.hid (fa_no hc')
  have hc6 : (twoC t f g == 6) = false := by
   have : twoC t f g ≠ 6 := by
    intro h6
    cases h1 : tb (frmOk t f)
    ·rw [two_1 h1] at h6; omega
    cases h2 : tb (frmOk t g)
    ·rw [two_2 h1 h2] at h6; omega
    cases h3 : (f.1 != g.1)
    ·rw [two_0 h1 h2 h3] at h6; omega
    ·rw [two_4 h1 h2 h3] at h6; omega
   exact beq_false_of_ne this
  rw [HR.out.2.1]
  clear hc hc'
  go_wp2_with fail
  go_ret2
  exact ⟨by rw [HR.out.2.2]; rfl, hB1⟩
 ·have hc' : twoC t f g = 0 := by simpa using hc
  have HC := Lib.hid hc'
  clear hc
  cases hh : headB (apL t f g)
  ·have HR := Lib.hid (fa_none hc' hh)
   rw [HR.out.2.1]
   clear hc' hh
   go_wp2_with fail
   go_ret2
   exact ⟨by rw [HR.out.2.2, HC.out]; rfl, hB1⟩
  ·have HR := Lib.hid (fa_yes hc' hh)
   rw [HR.out.2.1]
   clear hc' hh
   go_wp2_with fail
   go_ret2
   exact ⟨by rw [HR.out.2.2, HC.out]; rfl, hB1⟩
end Go.Proofs.YtnhdohednekhjaaGreatDoor
namespace Go.Proofs.YtnhdohednekhjaaGreatDoor
open Go.RowKit Go.Sort
theorem topI_two {x y : Int} (hx : 0 ≤ x) (hy : 0 ≤ y) : topI [x, y] = max x y := by simp [topI]; omega
set_option maxHeartbeats 1600000 in
set_option maxRecDepth 100000 in
theorem MinI_any (w : World) {v : Value} {x y : Int} (h : intsT.Rd w [v] [x, y]) :
  Calls Tryz.prog 168 #[v] w fun e w' => e = .returned (.int .i64 (min x y)) ∧ w = w' := by
 obtain ⟨ad, cap, hv, -, hcl, hcell⟩ := ints_ex h
 obtain rfl : v = _ := by simpa using hv
 obtain ⟨b, o, rfl, hb, hce⟩ := hcell (by simp)
 have c0 := (hce 0 (by simp)).2
 have c1 := (hce 1 (by simp)).2
 simp only [Nat.add_zero, List.getElem_cons_zero, List.getElem_cons_succ] at c0 c1 ⊢
 clear h hv hcell hce hcl
 go_enter Tryz.func168, Tryz.ntmps168
 go_wp2_with fail
 go_loop [3, 4] (fun m i => (i = .int .i64 1 ∧ m = .int .i64 x) ∨ (i = .int .i64 2 ∧ m = .int .i64 (min x y))) (fun _ i => 2 - (intOf i).toNat)
 case atStart => exact .inl ⟨rfl, rfl⟩
 case round =>
  rcases hrel with ⟨rfl, rfl⟩ | ⟨rfl, rfl⟩
  ·go_wp2_with fail
   go_round
   case rel => exact .inr ⟨rfl, by first | rfl | (congr 1; done) | (congr 1; first | rfl | (split <;> omega) | omega)⟩
   case measure => simp [intOf]
  ·go_wp2_with fail
   go_ret
   exact ⟨rfl, rfl⟩
set_option maxHeartbeats 1600000 in
set_option maxRecDepth 100000 in
theorem simp1_any (w : World) {cs : Array Value} {a : Int × List Int} {bf : Nat} {fr : Int} (h : opT.Rd w cs.toList a) (h2 : a.1 = -1 → a.2.length = 2) (f0 : w.cell? ⟨bf, 0, none⟩ = some (.int .i64 fr)) :
  Calls Tryz.prog 167 #[.agg cs, .pointer (some ⟨bf, 0, none⟩)] w fun e w' => e = .returned (.bool (mrgB fr a)) ∧ Below w.heap.size w w' := by
 obtain ⟨v, hv, hI, hx⟩ := pair_ex h
 obtain rfl := agg_of hv
 have hbf : bf < w.heap.size := cell_lt f0
 cases hq : (a.1 == -1)
 ·have HE : Hid (mrgB fr a = false) := by unfold Hid mrgB; rw [hq]; rfl
  clear h hv hI hx h2
  go_enter Tryz.func167, Tryz.ntmps167
  go_wp2_with fail
  go_quiet (fail)
  go_wp2_with fail
  go_ret
  exact ⟨ret_bool HE.out.symm, (by repeat (first | exact Below.refl _ _ | exact bA | assumption | refine Below.setCell ?_ (by first | omega | (simp; try omega)) _ | refine Below.alloc ?_ (by first | omega | (simp; try omega)) _ | refine Below.drew ?_ | refine bDN ?_ | refine bthen ?_ (by assumption)))⟩
 ·have he : a.1 = -1 := by simpa using hq
  obtain ⟨x, y, hxy⟩ := len_two (h2 he)
  rw [hxy] at hx
  obtain ⟨ad, cap, hv, -, -, hcell⟩ := ints_ex hx
  obtain rfl : v = _ := by simpa using hv
  obtain ⟨b, o, rfl, hb, hce⟩ := hcell (by simp)
  have c0 := (hce 0 (by simp)).2
  have c1 := (hce 1 (by simp)).2
  simp only [Nat.add_zero, List.getElem_cons_zero, List.getElem_cons_succ] at c0 c1 ⊢
  have HE : Hid (mrgB fr a = ((x != y) && decide (fr ≤ max x y))) := by unfold Hid mrgB hiA mrgX mrgY; rw [hq, hxy]; rfl
  clear h hv hcell hce hxy he h2 hI hx
  cases hn : (x != y)
  ·go_enter Tryz.func167, Tryz.ntmps167
   go_wp2_with fail
   go_quiet (fail)
   go_wp2_with fail
   go_ret
   exact ⟨ret_bool (by rw [HE.out, hn]; rfl), (by repeat (first | exact Below.refl _ _ | exact bA | assumption | refine Below.setCell ?_ (by first | omega | (simp; try omega)) _ | refine Below.alloc ?_ (by first | omega | (simp; try omega)) _ | refine Below.drew ?_ | refine bDN ?_ | refine bthen ?_ (by assumption)))⟩
  ·have HR : Hid (mrgB fr a = decide (fr ≤ max x y)) := by unfold Hid; rw [HE.out, hn]; rfl
   go_enter Tryz.func167, Tryz.ntmps167
   go_wp2_with fail
   go_quiet (fail)
   go_wp2_with fail
   all_goals
    go_ret
    exact ⟨ret_bool (by first | (rw [HR.out]; done) | (rw [HR.out]; exact decide_eq_decide.2 (by omega))), (by repeat (first | exact Below.refl _ _ | exact bA | assumption | refine Below.setCell ?_ (by first | omega | (simp; try omega)) _ | refine Below.alloc ?_ (by first | omega | (simp; try omega)) _ | refine Below.drew ?_ | refine bDN ?_ | refine bthen ?_ (by assumption)))⟩
theorem simp2_any (w : World) (v lo hi : Int) (b1 b2 : Nat) (h1 : w.cell? ⟨b1, 0, none⟩ = some (.int .i64 hi)) (h2 : w.cell? ⟨b2, 0, none⟩ = some (.int .i64 lo)) :
  Calls Tryz.prog 170 #[.int .i64 v, .pointer (some ⟨b1, 0, none⟩), .pointer (some ⟨b2, 0, none⟩)] w fun e w' => e = .returned (.int .i64 (subTo lo hi v)) ∧ w = w' := by
 cases hc : (v == hi)
 ·have HE : Hid (subTo lo hi v = v) := by unfold Hid subTo; rw [hc]
  go_enter Tryz.func170, Tryz.ntmps170
  go_wp2_with fail
  go_ret
  exact ⟨ret_int HE.out.symm, rfl⟩
 ·have HE : Hid (subTo lo hi v = lo) := by unfold Hid subTo; rw [hc]
  go_enter Tryz.func170, Tryz.ntmps170
  go_wp2_with fail
  go_ret
  exact ⟨ret_int HE.out.symm, rfl⟩
set_option maxHeartbeats 1600000 in
theorem simp3_any (w : World) {cs : Array Value} {a b : Int × List Int} {ba : Nat} {u : Value} (h : opT.Rd w cs.toList b) (ha : opT.Rd w [.int .i64 a.1, u] a) (a0 : w.cell? ⟨ba, 0, none⟩ = some (.int .i64 a.1)) (a1 : w.cell? ⟨ba, 1, none⟩ = some u) :
  Calls Tryz.prog 171 #[.agg cs, .pointer (some ⟨ba, 0, none⟩)] w fun e w' => e = .returned (.bool (eqB a b)) ∧ Below w.heap.size w w' := by
 obtain ⟨v, hv, hI, hx⟩ := pair_ex h
 obtain rfl := agg_of hv
 have HB := Lib.hid h
 have HA := Lib.hid ha
 have hba : ba < w.heap.size := cell_lt a0
 clear h hv hx hI ha
 go_enter Tryz.func171, Tryz.ntmps171
 go_wp2_with fail
 refine (sameAtom_any _ (cs := #[.int .i64 a.1, u]) (cs' := #[.int .i64 b.1, v]) (HA.out.below bA) (HB.out.below bA)).mono ?_
 rintro e w1 ⟨rfl, hb1⟩
 go_wp2_with fail
 go_ret
 exact ⟨rfl, bthen bA hb1⟩
set_option maxHeartbeats 1600000 in
theorem simp4_any (w : World) {cs : Array Value} {b : Int × List Int} {bv : Nat} {n : Int} (h : opT.Rd w cs.toList b) (v0 : w.cell? ⟨bv, 0, none⟩ = some (.int .i64 n)) :
  Calls Tryz.prog 173 #[.agg cs, .pointer (some ⟨bv, 0, none⟩)] w fun e w' => e = .returned (.bool (hasI b.2 n)) ∧ Below w.heap.size w w' := by
 obtain ⟨v, hv, hI, hx⟩ := pair_ex h
 obtain rfl := agg_of hv
 have HX := Lib.hid hx
 have hbv : bv < w.heap.size := cell_lt v0
 clear h hv hx hI
 go_enter Tryz.func173, Tryz.ntmps173
 go_wp2_with fail
 refine (ContainsI_any _ (HX.out.below bA) n).mono ?_
 rintro e w1 ⟨rfl, rfl⟩
 go_wp2_with fail
 go_ret
 exact ⟨rfl, (by repeat (first | exact Below.refl _ _ | exact bA | assumption | refine Below.setCell ?_ (by first | omega | (simp; try omega)) _ | refine Below.alloc ?_ (by first | omega | (simp; try omega)) _ | refine Below.drew ?_ | refine bDN ?_ | refine bthen ?_ (by assumption)))⟩
set_option maxHeartbeats 1600000 in
theorem simp5_any (w : World) (n : Int) {bv : Nat} {u : Value} {xs : List Int} (h : intsT.Rd w [u] xs) (v0 : w.cell? ⟨bv, 0, none⟩ = some u) :
  Calls Tryz.prog 175 #[.int .i64 n, .pointer (some ⟨bv, 0, none⟩)] w fun e w' => e = .returned (.int .i64 (firstI (fun a => n == a) xs)) ∧ w = w' := by
 obtain ⟨ua, un, uc, rfl⟩ := rd_sl h
 have HX := Lib.hid h
 clear h
 go_enter Tryz.func175, Tryz.ntmps175
 go_wp2_with fail
 refine (IndexI_any _ HX.out n).mono ?_
 rintro e _ ⟨rfl, rfl⟩
 go_wp2_with fail
 go_ret
 exact ⟨rfl, rfl⟩
end Go.Proofs.YtnhdohednekhjaaGreatDoor
namespace Go.Proofs.YtnhdohednekhjaaGreatDoor
open Go.RowKit Go.Sort
/-- values of a row that stands for atoms in older memory -/
def VRd (w : World) (VS : List (Int × Value)) (xs : Atoms) : Prop := VS.length = xs.length ∧ ∀ i (h : i < VS.length) (h' : i < xs.length), (VS[i]).1 = (xs[i]).1 ∧ I64 (VS[i]).1 ∧ intsT.Rd w [(VS[i]).2] (xs[i]).2
theorem VRd.nil {w : World} : VRd w [] [] := ⟨rfl, fun i h => by simp at h⟩
theorem VRd.snoc {w : World} {VS : List (Int × Value)} {xs : Atoms} {a : Int × List Int} {u : Value} (h : VRd w VS xs) (hI : I64 a.1) (hu : intsT.Rd w [u] a.2) : VRd w (VS ++ [(a.1, u)]) (xs ++ [a]) := by
 obtain ⟨h1, h2⟩ := h
 refine ⟨by simp [h1], fun i hi hi' => ?_⟩
 rcases Nat.lt_or_ge i VS.length with hc | hc
 ·rw [List.getElem_append_left hc, List.getElem_append_left (by omega)]
  exact h2 i hc (by omega)
 ·obtain rfl : i = VS.length := by simp at hi; omega
  have e1 : (VS ++ [(a.1, u)])[VS.length]'hi = (a.1, u) := by simp
  have e2 : (xs ++ [a])[VS.length]'hi' = a := by simp [h1]
  rw [e1, e2]
  exact ⟨rfl, hI, hu⟩
theorem VRd.ops {w w' : World} {VS : List (Int × Value)} {xs : Atoms} {v : Value} (h : VRd w VS xs) (hv : (Ty.slice pvT).Rd w' [v] VS) (hb : Below w.heap.size w w') : opsT.Rd w' [v] xs :=
 ops_of_vals hv h.1 (fun i hi hi' => let ⟨a, b, c⟩ := h.2 i hi hi'; ⟨a, b, c.below hb⟩)
end Go.Proofs.YtnhdohednekhjaaGreatDoor
namespace Go.Proofs.YtnhdohednekhjaaGreatDoor
open Go.RowKit Go.Sort
/-- a row of numbers hangs on its own block alone -/
theorem int_same {e base top top' : Nat} {w w' : World} {v : Value} {ys : List Int} (h : Bl Ty.int e base top w v ys) (hs : ∀ b, v.ownBlock = some b → w'.heap[b]? = w.heap[b]?) (ht : top ≤ top') : Bl Ty.int e base top' w' v ys := by
 obtain ⟨L, fps, h1, h2, h3, h4, h5, h6⟩ := h
 have hnil : ∀ b, b ∉ flat fps ys.length := by
  intro b hb
  obtain ⟨i, hi, hb⟩ := List.mem_flatMap.1 hb
  obtain ⟨cs, ⟨_, _, hf⟩, _⟩ := h2 i (by simpa using hi)
  rw [hf] at hb
  cases hb
 refine ⟨L, fps, ⟨h1.1, ?_⟩, fun i hi => ?_, h3, fun b hb => absurd hb (hnil b), fun g hg => Nat.lt_of_lt_of_le (h5 g hg) ht, fun b hb => absurd hb (hnil b)⟩
 ·rcases h1.2 with h | ⟨g, cap, cur, rfl, hg, hh, r⟩
  ·exact .inl h
  ·exact .inr ⟨g, cap, cur, rfl, hg, by rw [hs g rfl]; exact hh, r⟩
 ·obtain ⟨cs, h7, h8⟩ := h2 i hi
  exact ⟨cs, h7, h8⟩
theorem num_I {fr : Nat} {left : Atoms} {v : Int} (_ : 0 ≤ v) (h1 : v ≤ 8) (_ : fr ≤ 8) : I64 (numTo fr left v) := by
 rcases ilt v fr with h | h
 ·rw [num_lt h]; exact I64.small (by omega) (by omega)
 ·obtain ⟨k, rfl⟩ : ∃ k : Nat, v = ((fr + k : Nat) : Int) := ⟨(v - fr).toNat, by omega⟩
  rw [num_ge]
  have := (var_len (fr := fr) (left := left) (k := k)).2
  exact I64.small (by omega) (by omega)
theorem var_yes' {fr n : Nat} {left : Atoms} (hn : fr ≤ n) (h : usB left (n : Int) = true) : varS fr left (n - fr) ++ [(n : Int)] = varS fr left (n + 1 - fr) := by
 have e : fr + (n - fr) = n := by omega
 have h1 := var_yes (fr := fr) (left := left) (k := n - fr) (by rw [e]; exact h)
 rw [e] at h1
 rw [h1, show n - fr + 1 = n + 1 - fr by omega]
theorem var_no' {fr n : Nat} {left : Atoms} (hn : fr ≤ n) (h : usB left (n : Int) = false) : varS fr left (n - fr) = varS fr left (n + 1 - fr) := by
 have e : fr + (n - fr) = n := by omega
 have h1 := var_no (fr := fr) (left := left) (k := n - fr) (by rw [e]; exact h)
 rw [h1, show n - fr + 1 = n + 1 - fr by omega]
set_option maxHeartbeats 1600000 in
set_option maxRecDepth 100000 in
theorem upTo_bl (w : World) (from0 many : Int) (h0 : 0 ≤ from0) (h1 : from0 ≤ 1000000) (_ : many ≤ 1000000) :
  Calls Tryz.prog 172 #[.int .i64 from0, .int .i64 many] w fun e w' => ∃ u, e = .returned u ∧ Bl Ty.int 2 w.heap.size w'.heap.size w' u (upL from0 many.toNat) ∧ Below w.heap.size w w' := by
 go_enter Tryz.func172, Tryz.ntmps172
 go_wp2_with fail
 go_loopw [9, 5] (fun i o wr => ∃ k : Nat, k ≤ many.toNat ∧ i = .int .i64 k ∧ Bl Ty.int 2 w.heap.size wr.heap.size wr o (upL from0 k) ∧ Below w.heap.size w wr) (fun i _ _ => many.toNat - (intOf i).toNat)
 case atStart => exact ⟨0, Nat.zero_le _, rfl, by simpa [upL] using Bl.lit0 (E := Ty.int) (e := 2) (w := w) (Nat.le_refl _), bA⟩
 case round =>
  obtain ⟨k, hk, rfl, hBl, hbel⟩ := hrel
  have HB := Lib.hid hBl
  clear hBl
  by_cases hkl : (k : Int) < many
  ·have hI : I64 (from0 + (k : Int)) := I64.small (by omega) (by omega)
   go_wp2_with (refine wpList_push (E := Ty.int) _ rfl _ _ 48 2 rfl elInt rfl (HB.out.below bA (Nat.le_refl _)) rfl news1 (fr_int hI) (by rw [upL_len]; omega) (by decide) hbel.size (by simp) ?_; intro v1 w1 hB1 hg1 _)
   have hbel1 : Below w.heap.size w w1 := (hbel.alloc hbel.size _).grown hg1 (by have := hbel.size; simp; omega) (fun k hk => HB.out.own hk)
   rw [upL_succ] at hB1
   have HB1 := Lib.hid hB1
   clear hB1
   go_wp2_with fail
   go_roundw
   case rel => exact ⟨k + 1, by omega, by go_num, HB1.out, hbel1⟩
   case measure => simp [intOf]; omega
  ·obtain rfl : k = many.toNat := by omega
   go_wp2_with fail
   go_ret
   exact ⟨_, rfl, HB.out, hbel⟩
end Go.Proofs.YtnhdohednekhjaaGreatDoor
