/-
Contracts: the code of tuples of which there may be a hull, both sides.
Contracts: an operation applied to tuples, checked.
Contracts: the program's search, for any listener that leans on what the operations that it is told are.
Contracts: the first operation that a search finds for which a test is true, whatever the test.
Contracts: the first operation that a search finds for which a test is true: the function itself.
The library's contracts of slices.Sort and slices.Compact at []int64, laid at this seat's program. Written by the kit's lay-shelf and lay-plain: its numbers hold for that seat alone (shelf.py).
The kinds of operations, in plain words; symmetric by sorting, and by swapping neighbours.
Contracts: slices.Sort and slices.Compact on new rows of numbers; the different numbers of a row.
Contracts: something of all lists; whether an operation is symmetric, the program's.
Contracts: a row of one number so many times (slices.Repeat), whatever the number: the text of F6, turned.
Contracts: whether a tuple has equal values for places with the same variable.
Contracts: whether a number is one of a list's; whether a constraint leaves values of two variables.
Contracts: the program's tests of a kind: idempotent, conservative; the different numbers of a row.
Contracts: whether a constraint leaves values of two variables, the program's.
Contracts: the pairs that constraints tell, the program's.
Contracts: the pairs that constraints tell, the reference's.
Contracts: full domains.
Contracts: the pairs that constraints tell, all of them.
A region that draws its order and holds one alloc and one store into it besides loads and calls that make new memory: one account serves every order. The box's block is a ghost. No program is named here.
Contracts: the program's tests of a kind that build lists: associative; three orders of two values and a third.
Contracts: sameness of formulas and instances, in the program and in the reference.
Contracts: whether an operation is of a kind, the program's.
Contracts: whether an operation is of a kind, the program's, kind by kind.
Contracts: whether an operation is of a kind, the program's: projections, semilattices; whole.
Contracts: the first polymorphism of a kind, the program's.
Plain: the first operation of a kind, and the first one with a value at a list, in the list of all.
Plain: FirstPolymorphism and PolymorphismWith against the list of all operations.
Plain: when a polymorphism with given values is found: when there is one.
Some rows of new data that now stand in a newer row: it is new data, too. No program is named here.
-/
import Derived.Test.YtajmjfbejfiipaaGreatQBA
import Derived.Test.YtajmjfbejfiipaaGreatQAJ
import Derived.Test.YtajmjfbejfiipaaGreatQAC
import Derived.Test.YtajmjfbejfiipaaGreatQAE
import Derived.Test.YtajmjfbejfiipaaGreatQAD
import Derived.Test.YtajmjfbejfiipaaGreatQAI
import Derived.Test.YtajmjfbejfiipaaGreatQAA
namespace Go.Proofs.YtajmjfbejfiipaaGreat
open Go.RowKit Go.Sort
/-- how long the first tuple is -/
def huM (u : List (List Int)) : Nat := (u.headD []).length
noncomputable def huC (t : Tpl) (u : List (List Int)) : Int := match tb (tplOk t), inB (u.length : Int) 1 3, inB (huM u : Int) 1 4, u.all fun l => tb (rowOk t.1 (huM u) l) with
 | false, _, _, _ => 1
 | true, true, true, true => 0
 | _, _, _, _ => 2
section
variable {t : Tpl} {u : List (List Int)}
theorem huM_at (h : 0 < u.length) : huM u = (u[0]).length := by
 cases u with
 | nil => simp at h
 | cons a r => rfl
theorem hu_1 (h : tb (tplOk t) = false) : huC t u = 1 := by simp [huC, h]
theorem hu_2 (h : tb (tplOk t) = true) (h1 : inB (u.length : Int) 1 3 = false) : huC t u = 2 := by simp [huC, h, h1]
theorem hu_3 (h : tb (tplOk t) = true) (h1 : inB (huM u : Int) 1 4 = false) : huC t u = 2 := by simp [huC, h, h1]
theorem hu_4 (h : tb (tplOk t) = true) (h1 : (u.all fun l => tb (rowOk t.1 (huM u) l)) = false) : huC t u = 2 := by
 unfold huC
 rw [h, h1]
 cases inB (u.length : Int) 1 3 <;> cases inB (huM u : Int) 1 4 <;> rfl
theorem hu_0 (h : tb (tplOk t) = true) (h1 : inB (u.length : Int) 1 3 = true) (h2 : inB (huM u : Int) 1 4 = true) (h3 : (u.all fun l => tb (rowOk t.1 (huM u) l)) = true) : huC t u = 0 := by simp only [huC, h, h1, h2, h3]
theorem hu_ok (h : huC t u = 0) : tplOk t ∧ (1 ≤ u.length ∧ u.length ≤ 3) ∧ (1 ≤ huM u ∧ huM u ≤ 4) ∧ (∀ l ∈ u, l.length = huM u) ∧ ∀ l ∈ u, ∀ a ∈ l, 0 ≤ a ∧ a ≤ t.1 - 1 := by
 cases h1 : tb (tplOk t)
 ·rw [hu_1 h1] at h; cases h
 cases h2 : inB (u.length : Int) 1 3
 ·rw [hu_2 h1 h2] at h; cases h
 cases h3 : inB (huM u : Int) 1 4
 ·rw [hu_3 h1 h3] at h; cases h
 cases h4 : u.all fun l => tb (rowOk t.1 (huM u) l)
 ·rw [hu_4 h1 h4] at h; cases h
 have e2 := inB_true.1 h2
 have e3 := inB_true.1 h3
 rw [List.all_eq_true] at h4
 refine ⟨tb_iff.1 h1, by omega, by omega, fun l hl => ?_, fun l hl => (tb_iff.1 (h4 l hl)).2⟩
 have := (tb_iff.1 (h4 l hl)).1
 omega
theorem all_any {α : Type} {p : α → Bool} {xs : List α} : anyB (fun x => !p x) xs = !xs.all p := by
 unfold anyB
 rw [← Bool.not_not (b := xs.any _), List.not_any_eq_all_not]
 simp
end
set_option maxHeartbeats 800000 in
theorem hullFault1_any (w : World) {bt bu b o n k0 : Nat} {a0 : Option Addr} {c : Nat} {m : Nat} {s : Int} {u : Value} {x : List Int} (h : intsT.Rd w [u] x) (hs : 0 ≤ s ∧ s ≤ 1000) (hn : 0 < n) (t0 : w.cell? ⟨bt, 0, none⟩ = some (.int .i64 s)) (u0 : w.cell? ⟨bu, 0, none⟩ = some (.slice (some ⟨b, o, none⟩) n c)) (c0 : w.cell? ⟨b, o, none⟩ = some (.slice a0 m k0)) :
  Calls Tryz.prog 132 #[u, .pointer (some ⟨bt, 0, none⟩), .pointer (some ⟨bu, 0, none⟩)] w fun e w' => e = .returned (.bool (!(tb (rowOk s m x)))) ∧ Below w.heap.size w w' := by
 have HX := Lib.hid h
 obtain ⟨ad, cap, rfl⟩ := rd_slice h
 clear h
 go_enter Tryz.func132, Tryz.ntmps132
 go_wp2_with fail
 have k0 := cell_regrown t0
 have k1 := cell_regrown u0
 have k2 := cell_regrown c0
 have cV : ∀ d os, Calls Tryz.prog 84 #[.int .i64 s, .slice ad x.length cap, .int .i64 (m : Int)] (grow (redrawn w d) os) fun e w'' => e = .returned (.bool (tb (rowOk s m x))) ∧ ∃ p : Regrown, w'' = grow (redrawn w p.d) p.os := fun d os =>
  Calls.regrown_of (areValues_any _ (HX.out.below (below_regrown _ d os)) _ _ hs.1 (by omega))
 refine wp_region_quiet_below (by kernel_rfl) (by kernel_rfl) ?_
 repeat (go_big_quiet_step (exact cV _ _))
 refine wpQuiet_nil ?_
 rintro w2 ⟨p, rfl⟩
 have hb2 := below_regrown w p.d p.os
 go_wp2_with fail
 go_ret
 exact ⟨rfl, hb2⟩
set_option maxHeartbeats 1600000 in
set_option maxRecDepth 100000 in
theorem hullFault_any (w : World) {cs : Array Value} {t : Tpl} {v : Value} {u : List (List Int)} (h : tplT.Rd w cs.toList t) (hu : rowsT.Rd w [v] u) :
  Calls Tryz.prog 48 #[.agg cs, v] w fun e w' => e = .returned (.int .i64 (huC t u)) ∧ Below w.heap.size w w' := by
 have HT := Lib.hid h
 have HU := Lib.hid hu
 obtain ⟨v1, hv1, -, -⟩ := pair_ex h
 obtain rfl := agg_of hv1
 obtain ⟨la, lc, hv, -, -, hcell⟩ := slices_ex hu
 obtain rfl : v = _ := by simpa using hv
 have HC := Lib.hid hcell
 clear h hv1 hu hv hcell
 go_enter Tryz.func48, Tryz.ntmps48
 go_wp2_with fail
 generalize hW : World.alloc (World.alloc w _) _ = W
 have hbW : Below w.heap.size w W := hW ▸ bAA
 have hsW : w.heap.size + 2 ≤ W.heap.size := by rw [← hW]; simp
 have t0 : W.cell? ⟨w.heap.size, 0, none⟩ = some (.int .i64 t.1) := by rw [← hW]; simp [go_sem]
 have t1 : W.cell? ⟨w.heap.size, 1, none⟩ = some v1 := by rw [← hW]; simp [go_sem]
 have u0 : W.cell? ⟨w.heap.size + 1, 0, none⟩ = some (.slice la u.length lc) := by rw [← hW]; simp [go_sem]
 clear hW
 refine (ValidTemplate_any _ (HT.out.below hbW)).mono ?_
 rintro e w1 ⟨rfl, hb1⟩
 have hB1 := bthen hbW hb1
 have hz1 := hb1.size
 replace t0 := (cellB hb1 (by omega)).trans t0
 replace t1 := (cellB hb1 (by omega)).trans t1
 replace u0 := (cellB hb1 (by omega)).trans u0
 cases h1 : tb (tplOk t)
 ·have HA := Lib.hid (hu_1 (u := u) h1)
  clear h1
  go_wp2_with fail
  go_ret
  exact ⟨ret_int HA.out.symm, hB1⟩
 have hs4 := (tb_iff.1 h1).1
 unfold sizeOk at hs4
 have H1 := Lib.hid h1
 clear h1
 go_wp2_with fail
 refine (isOpArity_any (u.length : Int) _).mono ?_
 rintro e _ ⟨rfl, rfl⟩
 cases h2 : inB (u.length : Int) 1 3
 ·have HA := Lib.hid (hu_2 H1.out h2)
  clear h2
  go_wp2_with fail
  go_ret
  exact ⟨ret_int HA.out.symm, hB1⟩
 have h23 := inB_true.1 h2
 have h0 : 0 < u.length := by omega
 obtain ⟨b, o, rfl, hb, hce⟩ := HC.out h0
 obtain ⟨ux, hux, hc0⟩ := hce 0 h0
 obtain ⟨a0, k0, rfl⟩ := rd_slice hux
 rw [← huM_at h0, Nat.add_zero] at hc0
 have c0 := (cellB hB1 hb).trans hc0
 have H2 := Lib.hid h2
 clear h2 hce hux hc0 HC
 go_wp2_with fail
 refine (isArity_any (huM u : Int) _).mono ?_
 rintro e _ ⟨rfl, rfl⟩
 cases h3 : inB (huM u : Int) 1 4
 ·have HA := Lib.hid (hu_3 H1.out h3)
  clear h3
  go_wp2_with fail
  go_ret
  exact ⟨ret_int HA.out.symm, hB1⟩
 have H3 := Lib.hid h3
 clear h3
 have HPF : Hid (∀ W', Below w1.heap.size w1 W' → ∀ k (h : k < u.length) (x : Value), intsT.Rd W' [x] u[k] → Calls Tryz.prog 132 (#[x] ++ #[.pointer (some ⟨w.heap.size, 0, none⟩), .pointer (some ⟨w.heap.size + 1, 0, none⟩)]) W' fun e W'' => e = .returned (.bool ((fun l => !(tb (rowOk t.1 (huM u) l))) u[k])) ∧ Below W'.heap.size W' W'') := by
  intro W' hW' k hk x hx
  have hz := hW'.size
  exact hullFault1_any W' hx (by omega) h0 ((cellB hW' (by omega)).trans t0) ((cellB hW' (by omega)).trans u0) ((cellB hW' (by omega)).trans c0)
 go_wp2_with fail
 refine (ContainsFuncInts_any _ (HU.out.below hB1) (fun l => !(tb (rowOk t.1 (huM u) l))) 132 _ (enters Tryz.func132 (by kernel_rfl) rfl) HPF.out).mono ?_
 rintro e w3 ⟨rfl, hb3⟩
 have hB3 := bthen hB1 hb3
 rw [all_any]
 cases h4 : u.all fun l => tb (rowOk t.1 (huM u) l)
 ·have HA := Lib.hid (hu_4 H1.out h4)
  clear h4
  go_wp2_with fail
  go_ret
  exact ⟨ret_int HA.out.symm, hB3⟩
 ·have HA := Lib.hid (hu_0 H1.out H2.out H3.out h4)
  clear h4
  go_wp2_with fail
  go_ret
  exact ⟨ret_int HA.out.symm, hB3⟩
set_option maxHeartbeats 1600000 in
set_option maxRecDepth 100000 in
theorem l04Tuples_any (w : World) {vt v : Value} {t : Tpl} {u : List (List Int)} (h : tplT.Pt w vt t) (hu : rowsT.Rd w [v] u) :
  Calls Tryz.prog 50 #[vt, v] w fun e w' => e = .returned (.int .i64 (huC t u)) ∧ Quiet w w' := by
 have HT := Lib.hid h
 have HU := Lib.hid hu
 obtain ⟨tq, tf, ra, rc, rfl, htq, -, p0, p1, -⟩ := pt_pair h
 obtain ⟨la, lc, hv, -, -, hcell⟩ := slices_ex hu
 obtain rfl : v = _ := by simpa using hv
 have HC := Lib.hid hcell
 clear h hu hv hcell
 go_enter Tryz.func50, Tryz.ntmps50
 go_wp2_with fail
 refine (l01Template_quiet _ HT.out).mono ?_
 rintro e w1 ⟨rfl, hq1⟩
 have hB1 := hq1.below
 have hz1 := hB1.size
 cases h1 : tb (tplOk t)
 ·have HA := Lib.hid (hu_1 (u := u) h1)
  clear h1
  go_wp2_with fail
  go_ret
  exact ⟨ret_int HA.out.symm, hq1⟩
 have hs4 := (tb_iff.1 h1).1
 unfold sizeOk at hs4
 have H1 := Lib.hid h1
 clear h1
 go_wp2_with fail
 refine (l02Arity_any (u.length : Int) _).mono ?_
 rintro e _ ⟨rfl, rfl⟩
 cases h2 : inB (u.length : Int) 1 3
 ·have HA := Lib.hid (hu_2 H1.out h2)
  clear h2
  go_wp2_with fail
  go_ret
  exact ⟨ret_int HA.out.symm, hq1⟩
 have h23 := inB_true.1 h2
 have h0 : 0 < u.length := by omega
 obtain ⟨b, o, rfl, hb, hce⟩ := HC.out h0
 obtain ⟨ux, hux, hc0⟩ := hce 0 h0
 obtain ⟨a0, k0, rfl⟩ := rd_slice hux
 rw [← huM_at h0, Nat.add_zero] at hc0
 have c0 := (cellB hB1 hb).trans hc0
 have H2 := Lib.hid h2
 have HCE := Lib.hid hce
 clear h2 hce hux HC
 go_wp2_with fail
 refine (l01Arity_any (huM u : Int) _).mono ?_
 rintro e _ ⟨rfl, rfl⟩
 cases h3 : inB (huM u : Int) 1 4
 ·have HA := Lib.hid (hu_3 H1.out h3)
  clear h3
  go_wp2_with fail
  go_ret
  exact ⟨ret_int HA.out.symm, hq1⟩
 have H3 := Lib.hid h3
 clear h3
 go_wp2_with fail
 clear c0
 go_loopw [5] (fun i wr => ∃ k : Nat, k ≤ u.length ∧ i = .int .i64 k ∧ (∀ l ∈ u.take k, tb (rowOk t.1 (huM u) l) = true) ∧ Quiet w1 wr) (fun i _ => u.length - (intOf i).toNat)
 case atStart => exact ⟨0, Nat.zero_le _, rfl, fun l hl => by simp at hl, (by first | exact Quiet.refl _ | exact Quiet.drewN _ _ | exact (Quiet.drewN _ _).then (Quiet.drewN _ _) | exact ((Quiet.drewN _ _).then (Quiet.drewN _ _)).then (Quiet.drewN _ _))⟩
 case round =>
  obtain ⟨k, hk, rfl, hup, hqw⟩ := hrel
  have hBr := bthen hB1 hqw.below
  have HUP := Lib.hid hup
  have HQW := Lib.hid hqw
  have c0 := (cellB hBr hb).trans hc0
  have d0 := (cellB hBr htq).trans p0
  clear hup hqw
  by_cases hkl : k < u.length
  ·obtain ⟨ux, hux, hck⟩ := HCE.out k hkl
   obtain ⟨ak, ck, rfl⟩ := rd_slice hux
   have dk := (cellB hBr hb).trans hck
   have HX := Lib.hid (hux.below hBr)
   have cT : ∀ n, Calls Tryz.prog 138 #[.int .i64 t.1, .int .i64 (huM u : Int), .slice ak (u[k]).length ck] (wr.drewN n) fun e w'' => e = .returned (.bool (tb (rowOk t.1 (huM u) u[k]))) ∧ ∃ m, w'' = wr.drewN m := fun n => pure_drawn (l01Tuple_any _ _ _ (HX.out.below (Quiet.drewN wr n).below) (by omega) (by omega))
   clear hux hck
   cases h4 : tb (rowOk t.1 (huM u) u[k])
   ·have HA : Hid (huC t u = 2) := hu_4 H1.out (List.all_eq_false.2 ⟨_, List.getElem_mem hkl, by rw [h4]; simp⟩)
    rw [h4] at cT
    clear h4
    go_wp2_with fail
    go_quiet (exact cT _)
    clear cT
    go_wp2_with fail
    go_ret
    exact ⟨ret_int HA.out.symm, hq1.then (HQW.out.then (by first | exact Quiet.refl _ | exact Quiet.drewN _ _ | exact (Quiet.drewN _ _).then (Quiet.drewN _ _) | exact ((Quiet.drewN _ _).then (Quiet.drewN _ _)).then (Quiet.drewN _ _)))⟩
   ·have HE : Hid (∀ l ∈ u.take (k + 1), tb (rowOk t.1 (huM u) l) = true) := fun l hl => by
     rw [List.take_succ_eq_append_getElem hkl, List.mem_append] at hl
     rcases hl with hl | hl
     ·exact HUP.out l hl
     ·simp only [List.mem_singleton] at hl; rw [hl]; exact h4
    rw [h4] at cT
    clear h4
    go_wp2_with fail
    go_quiet (exact cT _)
    clear cT
    go_wp2_with fail
    go_roundw
    case rel => exact ⟨k + 1, by omega, by go_num, HE.out, HQW.out.then (by first | exact Quiet.refl _ | exact Quiet.drewN _ _ | exact (Quiet.drewN _ _).then (Quiet.drewN _ _) | exact ((Quiet.drewN _ _).then (Quiet.drewN _ _)).then (Quiet.drewN _ _))⟩
    case measure => simp [intOf]; omega
  ·obtain rfl : k = u.length := by omega
   have HA : Hid (huC t u = 0) := hu_0 H1.out H2.out H3.out (List.all_eq_true.2 fun l hl => HUP.out l (by rw [List.take_length]; exact hl))
   go_wp2_with fail
   go_ret
   exact ⟨ret_int HA.out.symm, hq1.then HQW.out⟩
end Go.Proofs.YtajmjfbejfiipaaGreat
namespace Go.Proofs.YtajmjfbejfiipaaGreat
open Go.RowKit Go.Sort
set_option maxHeartbeats 800000 in
theorem applyTo1_any (w : World) {bt bu b o n k0 : Nat} {a0 : Option Addr} {c : Nat} {m : Nat} {s : Int} {u : Value} {x : List Int} (h : intsT.Rd w [u] x) (hs : 0 ≤ s ∧ s ≤ 1000) (hn : 0 < n) (t0 : w.cell? ⟨bt, 0, none⟩ = some (.int .i64 s)) (u0 : w.cell? ⟨bu, 0, none⟩ = some (.slice (some ⟨b, o, none⟩) n c)) (c0 : w.cell? ⟨b, o, none⟩ = some (.slice a0 m k0)) :
  Calls Tryz.prog 90 #[u, .pointer (some ⟨bt, 0, none⟩), .pointer (some ⟨bu, 0, none⟩)] w fun e w' => e = .returned (.bool (!(tb (rowOk s m x)))) ∧ Below w.heap.size w w' := by
 have HX := Lib.hid h
 obtain ⟨ad, cap, rfl⟩ := rd_slice h
 clear h
 go_enter Tryz.func90, Tryz.ntmps90
 go_wp2_with fail
 have k0 := cell_regrown t0
 have k1 := cell_regrown u0
 have k2 := cell_regrown c0
 have cV : ∀ d os, Calls Tryz.prog 84 #[.int .i64 s, .slice ad x.length cap, .int .i64 (m : Int)] (grow (redrawn w d) os) fun e w'' => e = .returned (.bool (tb (rowOk s m x))) ∧ ∃ p : Regrown, w'' = grow (redrawn w p.d) p.os := fun d os =>
  Calls.regrown_of (areValues_any _ (HX.out.below (below_regrown _ d os)) _ _ hs.1 (by omega))
 refine wp_region_quiet_below (by kernel_rfl) (by kernel_rfl) ?_
 repeat (go_big_quiet_step (exact cV _ _))
 refine wpQuiet_nil ?_
 rintro w2 ⟨p, rfl⟩
 have hb2 := below_regrown w p.d p.os
 go_wp2_with fail
 go_ret
 exact ⟨rfl, hb2⟩
set_option maxHeartbeats 1600000 in
set_option maxRecDepth 100000 in
theorem ApplyToTuples_any (w : World) {cs : Array Value} {f : Int × List Int} (h : opT.Rd w cs.toList f) {v : Value} {u : List (List Int)} (hu : rowsT.Rd w [v] u) {s : Int} {m : Nat} (ho : opOk s f) (ht : tupsOk s f.1 m u) (hm : m ≤ 1000) :
  Calls Tryz.prog 23 #[.int .i64 s, .agg cs, v] w fun e w' => ∃ x, e = .returned (.tuple #[x, .int .i64 0]) ∧ intsT.Fr w.heap.size w' [x] (madeL s f.2 u m) ∧ Below w.heap.size w w' := by
 have hvo : tb (opOk s f) = true := tb_true ho
 have hlen : ((((u.length : Nat) : Int) != f.1) : Bool) = false := by simp [ht.1]
 have hs := ho.1
 unfold sizeOk at hs
 have h0 : 0 < u.length := by have := ho.2.1; have := ht.1; unfold sizeOk at *; omega
 have hno : anyB (fun l => !(tb (rowOk s (m : Int) l))) u = false := by
  unfold anyB
  rw [List.any_eq_false]
  intro l hl
  obtain ⟨g1, g2⟩ := ht.2 l hl
  rw [tb_true (show rowOk s (m : Int) l from ⟨by omega, g2⟩)]
  simp
 obtain ⟨v1, hv1, -, -⟩ := pair_ex h
 obtain rfl := agg_of hv1
 obtain ⟨la, lc, hv, -, -, hcell⟩ := slices_ex hu
 obtain rfl : v = _ := by simpa using hv
 obtain ⟨b, o, rfl, hb, hce⟩ := hcell h0
 obtain ⟨ux, hux, hc0⟩ := hce 0 h0
 obtain ⟨a0, k0, rfl⟩ := rd_slice hux
 rw [(ht.2 _ (List.getElem_mem h0)).1, Nat.add_zero] at hc0
 have HF := Lib.hid h
 have HU := Lib.hid hu
 have HO := Lib.hid ho
 have HT := Lib.hid ht
 clear h hv1 hu hv hcell hce hux ho ht
 go_enter Tryz.func23, Tryz.ntmps23
 go_wp2_with fail
 generalize hW : World.alloc (World.alloc (World.alloc w _) _) _ = W
 have hbW : Below w.heap.size w W := hW ▸ bthen bAA bA
 have hsW : w.heap.size + 3 ≤ W.heap.size := by rw [← hW]; simp
 have s0 : W.cell? ⟨w.heap.size, 0, none⟩ = some (.int .i64 s) := by rw [← hW]; simp [go_sem]
 have f0 : W.cell? ⟨w.heap.size + 1, 0, none⟩ = some (.int .i64 f.1) := by rw [← hW]; simp [go_sem]
 have f1 : W.cell? ⟨w.heap.size + 1, 1, none⟩ = some v1 := by rw [← hW]; simp [go_sem]
 have u0 : W.cell? ⟨w.heap.size + 1 + 1, 0, none⟩ = some (.slice (some ⟨b, o, none⟩) u.length lc) := by rw [← hW]; simp [go_sem]
 have c0 := (cellB hbW hb).trans hc0
 have hbl : b < W.heap.size := by omega
 clear hW hc0
 refine (ValidOp_any W (f := f) (HF.out.below hbW) s).mono ?_
 rintro e w1 ⟨rfl, hb1⟩
 rw [hvo]
 have hz1 := hb1.size
 have hbw1 := bthen hbW hb1
 replace s0 := (cellB hb1 (by omega)).trans s0
 replace f0 := (cellB hb1 (by omega)).trans f0
 replace f1 := (cellB hb1 (by omega)).trans f1
 replace u0 := (cellB hb1 (by omega)).trans u0
 replace c0 := (cellB hb1 (by omega)).trans c0
 clear hvo
 have HPF : Hid (∀ W', Below w1.heap.size w1 W' → ∀ k (h : k < u.length) (x : Value), intsT.Rd W' [x] u[k] → Calls Tryz.prog 90 (#[x] ++ #[.pointer (some ⟨w.heap.size, 0, none⟩), .pointer (some ⟨w.heap.size + 1 + 1, 0, none⟩)]) W' fun e W'' => e = .returned (.bool ((fun l => !(tb (rowOk s (m : Int) l))) u[k])) ∧ Below W'.heap.size W' W'') := by
  intro W' hW' k hk x hx
  exact applyTo1_any W' hx (by omega) h0 ((cellB hW' (by omega)).trans s0) ((cellB hW' (by omega)).trans u0) ((cellB hW' (by omega)).trans c0)
 go_wp2_with fail
 refine (ContainsFuncInts_any _ (HU.out.below hbw1) (fun l => !(tb (rowOk s (m : Int) l))) 90 _ (enters Tryz.func90 (by kernel_rfl) rfl) HPF.out).mono ?_
 rintro e w2 ⟨rfl, hb2⟩
 rw [hno]
 have hz2 := hb2.size
 have hbw2 := bthen hbw1 hb2
 replace s0 := (cellB hb2 (by omega)).trans s0
 replace f0 := (cellB hb2 (by omega)).trans f0
 replace f1 := (cellB hb2 (by omega)).trans f1
 replace u0 := (cellB hb2 (by omega)).trans u0
 clear hno HPF
 go_wp2_with fail
 refine (made_any w2 (f := f) (HF.out.below hbw2) (HU.out.below hbw2) HO.out HT.out hm).mono ?_
 rintro e w3 ⟨g, rfl, hf3, hb3⟩
 go_wp2_with fail
 go_ret2
 exact ⟨_, rfl, hf3.mono hbw2.size, bthen hbw2 hb3⟩
end Go.Proofs.YtajmjfbejfiipaaGreat
namespace Go.Proofs.YtajmjfbejfiipaaGreat
open Go.RowKit Go.Sort
/-- a listener of operations: what it keeps (I), and the blocks that are its own (O); it is told operations with the property V alone -/
structure YfV (P : Program) (ar : Int) (g : FuncId) (caps : Array Value) (yc : List (List Int) → Int) (V : List Int → Prop) (I : List (List Int) → (Nat → Prop) → World → Prop) : Prop where
 stable : ∀ {told O w w'}, I told O w → (∀ k, k < w.heap.size → O k → w'.heap[k]? = w.heap[k]?) → w.heap.size ≤ w'.heap.size → I told O w'
 lt : ∀ {told O w}, I told O w → ∀ k, O k → k < w.heap.size
 step : ∀ {told O w0 w u x}, I told O w0 → Below w0.heap.size w0 w → intsT.Fr w0.heap.size w [u] x → x.length ≤ 64 → told.length ≤ 2000000 → V x →
  Calls P g (#[.agg #[.int .i64 ar, u]] ++ caps) w fun e w' => e = .returned (.int .i64 (yc (told ++ [x]))) ∧ ∃ O', I (told ++ [x]) O' w' ∧ TchP O w w' ∧ ∀ k, O' k → O k ∨ w0.heap.size ≤ k
end Go.Proofs.YtajmjfbejfiipaaGreat
namespace Go.Proofs.YtajmjfbejfiipaaGreat
open Go.RowKit Go.Sort
/-- what the listener keeps: the operation told last, in box ob, where it passed; the test's box ib; what lay below b0 -/
def oneG (p : List Int → Bool) (ar : Int) (F : Value) (w0 : World) (b0 ib ob base : Nat) (told : List (List Int)) (O : Nat → Prop) (w : World) : Prop :=
 (∀ k, O k → k < w.heap.size ∧ (k < b0 ∨ base ≤ k)) ∧ (∀ k, k < b0 → O k ∧ w.heap[k]? = w0.heap[k]?) ∧ O ib ∧ O ob ∧ base ≤ ib ∧ base ≤ ob ∧ ib ≠ ob ∧ w.cell? ⟨ib, 0, none⟩ = some F ∧ w.frozen? ⟨ob, 0, none⟩ = false ∧ w.frozen? ⟨ob, 1, none⟩ = false ∧ ∃ n u, w.cell? ⟨ob, 0, none⟩ = some (.int .i64 n) ∧ w.cell? ⟨ob, 1, none⟩ = some u ∧ (told ≠ [] → p (told.getLastD []) = true → n = ar ∧ (intsT.on fun k => (O k ∧ base ≤ k) ∧ k ≠ ob).Fr base w [u] (told.getLastD []))
theorem oneG.stable {p : List Int → Bool} {ar : Int} {F : Value} {w0 : World} {b0 ib ob base : Nat} {told : List (List Int)} {O : Nat → Prop} {w w' : World} (h : oneG p ar F w0 b0 ib ob base told O w) (hs : ∀ k, k < w.heap.size → O k → w'.heap[k]? = w.heap[k]?) (hz : w.heap.size ≤ w'.heap.size) : oneG p ar F w0 b0 ib ob base told O w' := by
 obtain ⟨h1, hB, h2, h3, g1, g2, h4, c0, f0, f1, n, u, d0, d1, h5⟩ := h
 have hi := hs ib (h1 ib h2).1 h2
 have ho := hs ob (h1 ob h3).1 h3
 refine ⟨fun k hk => ⟨Nat.lt_of_lt_of_le (h1 k hk).1 hz, (h1 k hk).2⟩, fun k hk => ⟨(hB k hk).1, (hs k (h1 k (hB k hk).1).1 (hB k hk).1).trans (hB k hk).2⟩, h2, h3, g1, g2, h4, (World.cell?_of_block (a := ⟨ib, 0, none⟩) hi).trans c0, (World.frozen?_of_block (a := ⟨ob, 0, none⟩) ho).trans f0, (World.frozen?_of_block (a := ⟨ob, 1, none⟩) ho).trans f1, n, u, (World.cell?_of_block (a := ⟨ob, 0, none⟩) ho).trans d0, (World.cell?_of_block (a := ⟨ob, 1, none⟩) ho).trans d1, fun ht hp => ?_⟩
 obtain ⟨e1, fp, ⟨g1, g2⟩, g3, g4, g5⟩ := h5 ht hp
 have hS : ∀ k ∈ fp, w'.heap[k]? = w.heap[k]? := fun k hk => hs k (intsT.lt g1 k hk) (g2 k hk).1.1
 exact ⟨e1, fp, ⟨intsT.same g1 hS, g2⟩, g3, g4, g5.same hS⟩
end Go.Proofs.YtajmjfbejfiipaaGreat
namespace Go.Proofs.YtajmjfbejfiipaaGreat
open Go.RowKit Go.Sort
end Go.Proofs.YtajmjfbejfiipaaGreat

namespace Go.Proofs.YtajmjfbejfiipaaGreat
open Go.RowKit Go.Sort
/-- something is so of all numbers below n -/
def allK (p : Nat → Bool) : Nat → Bool
 | 0 => true
 | n + 1 => allK p n && p n
theorem allK_iff {p : Nat → Bool} : ∀ {n : Nat}, allK p n = true ↔ ∀ k, k < n → p k = true
 | 0 => ⟨fun _ k hk => absurd hk (Nat.not_lt_zero k), fun _ => rfl⟩
 | n + 1 => by
  rw [allK, Bool.and_eq_true, allK_iff]
  exact ⟨fun h k hk => (Nat.lt_succ_iff_lt_or_eq.1 hk).elim (h.1 k) (fun e => e ▸ h.2), fun h => ⟨fun k hk => h k (Nat.lt_succ_of_lt hk), h n (Nat.lt_succ_self n)⟩⟩
theorem allK_no {p : Nat → Bool} {n k : Nat} (hk : k < n) (h : p k = false) : allK p n = false := by
 cases h1 : allK p n
 ·rfl
 ·rw [allK_iff.1 h1 k hk] at h; cases h
section
variable {s : Int} {f : Int × List Int}
end
end Go.Proofs.YtajmjfbejfiipaaGreat
namespace Go.Proofs.YtajmjfbejfiipaaGreat
open Go.RowKit Go.Sort
end Go.Proofs.YtajmjfbejfiipaaGreat
namespace Go.Proofs.YtajmjfbejfiipaaGreat
open Go.RowKit Go.Sort
end Go.Proofs.YtajmjfbejfiipaaGreat
namespace Go.Proofs.YtajmjfbejfiipaaGreat
open Go.RowKit Go.Sort
end Go.Proofs.YtajmjfbejfiipaaGreat
namespace Go.Proofs.YtajmjfbejfiipaaGreat
open Go.RowKit Go.Sort
def agR (sc tu : List Int) (i k : Nat) : Prop := sc.getD k 0 = sc.getD i 0 → tu.getD k 0 = tu.getD i 0
def agIn (sc tu : List Int) (i m : Nat) : Prop := ∀ k, k < m → agR sc tu i k
def agTo (sc tu : List Int) (n : Nat) : Prop := ∀ i, i < n → agIn sc tu i i
end Go.Proofs.YtajmjfbejfiipaaGreat
namespace Go.Proofs.YtajmjfbejfiipaaGreat
open Go.RowKit Go.Sort
end Go.Proofs.YtajmjfbejfiipaaGreat
namespace Go.Proofs.YtajmjfbejfiipaaGreat
open Go.RowKit Go.Sort
end Go.Proofs.YtajmjfbejfiipaaGreat
namespace Go.Proofs.YtajmjfbejfiipaaGreat
open Go.RowKit Go.Sort
/-- the values of a tuple at the places of two variables are right, as far as place n -/
def okR (sc tu : List Int) (i j a b : Int) (q : Nat) : Prop := (sc.getD q 0 = i → tu.getD q 0 = a) ∧ (sc.getD q 0 = j → tu.getD q 0 = b)
def okTo (sc tu : List Int) (i j a b : Int) (n : Nat) : Prop := ∀ q, q < n → okR sc tu i j a b q
def okT (sc tu : List Int) (i j a b : Int) : Prop := okTo sc tu i j a b sc.length ∧ agTo sc tu sc.length
end Go.Proofs.YtajmjfbejfiipaaGreat
namespace Go.Proofs.YtajmjfbejfiipaaGreat
open Go.RowKit Go.Sort
theorem Bl.own_lt {α : Type} {E : Ty α} {e base top : Nat} {w : World} {v : Value} {ys : List α} (h : Bl E e base top w v ys) {g : Nat} (hg : v.ownBlock = some g) : g < top := by
 obtain ⟨L, fps, _, _, _, _, h5, _⟩ := h
 exact h5 g hg
theorem Bl.own_ne {α : Type} {E : Ty α} {e base top : Nat} {w : World} {v : Value} {ys : List α} (h : Bl E e base top w v ys) {b : Nat} (hb : top ≤ b) : v.ownBlock ≠ some b := fun hg => by have := h.own_lt hg; omega
/-- a cell beside the row that grew -/
theorem grown_cell {w w' : World} {row : Option Nat} {b i : Nat} (h : w.grownBy w' row) (hlt : b < w.heap.size) (hne : row ≠ some b) : w'.cell? ⟨b, i, none⟩ = w.cell? ⟨b, i, none⟩ := World.cell?_of_block (h.block b hlt fun e => hne e.symm)
theorem own_kept {row row' : Option Nat} {n b : Nat} (h : row' = row ∨ row' = some n) (hne : row ≠ some b) (hb : b < n) : row' ≠ some b := by
 rcases h with rfl | rfl
 ·exact hne
 ·intro e; cases e; omega
end Go.Proofs.YtajmjfbejfiipaaGreat
namespace Go.Proofs.YtajmjfbejfiipaaGreat
open Go.RowKit Go.Sort
end Go.Proofs.YtajmjfbejfiipaaGreat
namespace Go.Proofs.YtajmjfbejfiipaaGreat
open Go.RowKit Go.Sort
section
variable {t : Int × List (Int × List (List Int))} {x : Int × List (Int × List Int)}
end
end Go.Proofs.YtajmjfbejfiipaaGreat
namespace Go.Proofs.YtajmjfbejfiipaaGreat
open Go.RowKit Go.Sort
/-- two numbers, just made -/
theorem fr_ints2 {base : Nat} {w : World} {a b : Int} {e : TypeId} {g : Nat} (ha : I64 a) (hb : I64 b) (hg : w.heap.size = g) (hbs : base ≤ g) : intsT.Fr base (w.alloc (.cells #[.int .i64 a, .int .i64 b] e)) [.slice (some ⟨g, 0, none⟩) 2 2] [a, b] := by
 subst hg
 refine IR.fr (e := e) ⟨rfl, ?_, hbs, World.ownsRow_lit w #[.int .i64 a, .int .i64 b] 2 hbs (by decide) (by rfl)⟩ (by decide)
 intro x hx
 simp at hx
 rcases hx with rfl | rfl
 ·exact ha
 ·exact hb
end Go.Proofs.YtajmjfbejfiipaaGreat
namespace Go.Proofs.YtajmjfbejfiipaaGreat
open Go.RowKit

/-- a predicate of a value, told which block is the box -/
abbrev OP := Option Nat → VP
inductive Tag | plain | alloc | store
 deriving DecidableEq

/-- all blocks but one are as before -/
structure Bx (b : Nat) (w w' : World) : Prop where
 os : w'.os = w.os
 tape : w'.tape = w.tape
 output : w'.output = w.output
 size : w.heap.size ≤ w'.heap.size
 block : ∀ k, k < w.heap.size → k ≠ b → w'.heap[k]? = w.heap[k]?
 cells : ∀ j, (∃ u, w.cell? ⟨b, j, none⟩ = some u) → ∃ u, w'.cell? ⟨b, j, none⟩ = some u
 frozen : ∀ j, w'.frozen? ⟨b, j, none⟩ = w.frozen? ⟨b, j, none⟩
theorem Bx.setCell (b o : Nat) (w : World) (u : Value) : Bx b w (w.setCell ⟨b, o, none⟩ u) :=
 ⟨rfl, rfl, rfl, by simp [World.setCell], fun k _ hk => Below.heap_setCell _ _ _ _ hk, fun _ ⟨_, h⟩ => cell?_setCell_some h, fun _ => World.frozen?_setCell _ _ _ _⟩
theorem Bx.trans {b : Nat} {w w' w'' : World} (h : Bx b w w') (k : Bx b w' w'') : Bx b w w'' :=
 ⟨k.os.trans h.os, k.tape.trans h.tape, k.output.trans h.output, Nat.le_trans h.size k.size, fun i hi hb => (k.block i (Nat.lt_of_lt_of_le hi h.size) hb).trans (h.block i hi hb), fun j hj => k.cells j (h.cells j hj), fun j => (k.frozen j).trans (h.frozen j)⟩
theorem Bx.refl (b : Nat) (w : World) : Bx b w w := ⟨rfl, rfl, rfl, Nat.le_refl _, fun _ _ _ => rfl, fun _ h => h, fun _ => rfl⟩

/-- what an operation of a kind may do -/
def StepT : Tag → Option Nat → World → Option Nat → World → Prop
 | .plain, o, w, o', w' => o' = o ∧ Below w.heap.size w w'
 | .alloc, _, w, o', w' => o' = some w.heap.size ∧ w.heap.size < w'.heap.size ∧ Below w.heap.size w w'
 | .store, o, w, o', w' => ∃ b, o = some b ∧ o' = some b ∧ Bx b w w'

def boxUpon (P : Program) (g : Tag) (o : Option Nat) (w : World) (Φ : OP) : Result Next → Prop
 | .ok (.value v) w' => ∃ o', StepT g o w o' w' ∧ Φ o' v w'
 | .ok .skip w' => ∃ o', StepT g o w o' w' ∧ Φ o' undef w'
 | .ok (.enter f args) w' => g = .plain ∧ Below w.heap.size w w' ∧ Calls P f args w' fun e w'' => ∃ v, e = .returned v ∧ Below w'.heap.size w' w'' ∧ Φ o v w''
 | _ => False

def writer2 : List Oper → List (Tag × OP) → Tmp → Option OP
 | o :: l, Φ :: Φs, t => if o.dst = some t then some Φ.2 else writer2 l Φs t
 | _, _, _ => none

def slotP2 (l : List Oper) (Φs : List (Tag × OP)) (a : Act) (t : Tmp) : OP := match writer2 l Φs t with
 | some Φ => Φ
 | none => fun _ v _ => v = a.eval (.tmp t)

def JAt2 (P : Program) (l : List Oper) (Φs : List (Tag × OP)) (a : Act) (w : World) (q : Oper) (Φ : Tag × OP) : Prop :=
 ∀ (a' : Act) (w' : World) (o : Option Nat), Below w.heap.size w w' → (∀ b, o = some b → w.heap.size ≤ b ∧ b < w'.heap.size) → (Φ.1 = .alloc → o = none) →
  (∀ t, readsB q t = true → slotP2 l Φs a t o (a'.eval (.tmp t)) w') → boxUpon P Φ.1 o w' Φ.2 ((execOp a'.eval q).run P w')

def JAll2 (P : Program) (l : List Oper) (Φs : List (Tag × OP)) (a : Act) (w : World) : List Oper → List (Tag × OP) → Prop
 | o :: r, Φ :: Φr => JAt2 P l Φs a w o Φ ∧ JAll2 P l Φs a w r Φr
 | [], [] => True
 | _, _ => False

def HAll2 (w : World) (b : Option Nat) : List Oper → List (Tag × OP) → List Value → Prop
 | _ :: l, Φ :: Φs, v :: vs => Φ.2 b v w ∧ HAll2 w b l Φs vs
 | [], [], [] => True
 | _, _, _ => False

/-- predicates that outlast new memory, and the box's being made -/
def StabO (Φ : OP) : Prop := (∀ o v w1 w2, Φ o v w1 → Below w1.heap.size w1 w2 → Φ o v w2) ∧ (∀ v w1 w2, Φ none v w1 → Below w1.heap.size w1 w2 → Φ (some w1.heap.size) v w2)
/-- .. and a store into the box -/
def StabS (Φ : OP) : Prop := ∀ b v w1 w2, Φ (some b) v w1 → Bx b w1 w2 → Φ (some b) v w2
def Indep (Φ : OP) : Prop := ∀ o v v' w, Φ o v w → Φ o v' w
def StG : Tag → OP → Prop
 | .store, Φ => StabO Φ ∧ Indep Φ
 | _, Φ => StabO Φ ∧ StabS Φ
def SAll2 : List (Tag × OP) → Prop
 | Φ :: Φs => StG Φ.1 Φ.2 ∧ SAll2 Φs
 | [] => True
theorem SAll2_mem : ∀ {Φs : List (Tag × OP)}, SAll2 Φs → ∀ Φ ∈ Φs, StG Φ.1 Φ.2
 | _ :: _, h, Φ, hm => by
  rcases List.mem_cons.1 hm with rfl | hm
  ·exact h.1
  ·exact SAll2_mem h.2 Φ hm
theorem StG.o {g : Tag} {Φ : OP} (h : StG g Φ) : StabO Φ := by cases g <;> exact h.1
theorem StG.s {g : Tag} {Φ : OP} (h : StG g Φ) (hg : g ≠ .store) : StabS Φ := by
 cases g
 ·exact h.2
 ·exact h.2
 ·exact absurd rfl hg

def oneTag (g : Tag) : List Tag → Bool
 | [] => true
 | x :: r => if x = g then r.all (fun y => decide (y ≠ g)) else oneTag g r
theorem oneTag_spec {g : Tag} : ∀ {l : List Tag}, oneTag g l = true → ∀ i j : Nat, l[i]? = some g → l[j]? = some g → i = j
 | [], _, i, j, h, _ => by simp at h
 | x :: r, h, i, j, hi, hj => by
  unfold oneTag at h
  split at h
  ·rename_i hx
   have hno : ∀ k : Nat, r[k]? = some g → False := fun k hk => by
    have := List.all_eq_true.1 h g (List.mem_of_getElem? hk)
    simp at this
   match i, j with
   | 0, 0 => rfl
   | 0, j + 1 => exact (hno j (by simpa using hj)).elim
   | i + 1, _ => exact (hno i (by simpa using hi)).elim
  ·rename_i hx
   match i, j with
   | 0, _ => simp at hi; exact absurd hi hx
   | _ + 1, 0 => simp at hj; exact absurd hj hx
   | i + 1, j + 1 => rw [oneTag_spec h i j (by simpa using hi) (by simpa using hj)]
/-- what holds of the region's form -/
def boxB (l : List Oper) (gs : List Tag) (n : Nat) : Bool :=
 looseB l n && oneTag .alloc gs && oneTag .store gs && (l.zip gs).all (fun x => x.1.dst.isSome || decide (x.2 = .store))

theorem writer2_some {l : List Oper} {Φs : List (Tag × OP)} {t : Tmp} {Φ : OP} (h : writer2 l Φs t = some Φ) : ∃ (j : Nat) (o : Oper) (g : Tag), l[j]? = some o ∧ o.dst = some t ∧ Φs[j]? = some (g, Φ) := by
 induction l generalizing Φs with
 | nil => simp [writer2] at h
 | cons o l ih =>
  cases Φs with
  | nil => simp [writer2] at h
  | cons Φ' Φs =>
   simp only [writer2] at h
   split at h
   ·rename_i hd
    obtain rfl : Φ'.2 = Φ := by simpa using h
    exact ⟨0, o, Φ'.1, rfl, hd, rfl⟩
   ·obtain ⟨j, o', g, h1, h2, h3⟩ := ih h
    exact ⟨j + 1, o', g, h1, h2, h3⟩
theorem writer2_none {l : List Oper} {Φs : List (Tag × OP)} {t : Tmp} (hl : l.length = Φs.length) (h : writer2 l Φs t = none) : ∀ (j : Nat) (o : Oper), l[j]? = some o → o.dst ≠ some t := by
 induction l generalizing Φs with
 | nil => intro j o h; simp at h
 | cons q l ih =>
  cases Φs with
  | nil => simp at hl
  | cons Φ' Φs =>
   simp only [writer2] at h
   split at h
   ·cases h
   ·rename_i hd
    intro j o ho
    match j with
    | 0 => simp at ho; subst ho; exact hd
    | j + 1 => exact ih (by simpa using hl) h j o (by simpa using ho)
theorem JAll2_len {P : Program} {l : List Oper} {Φs : List (Tag × OP)} {a : Act} {w : World} : ∀ {r : List Oper} {Φr : List (Tag × OP)}, JAll2 P l Φs a w r Φr → r.length = Φr.length
 | [], [], _ => rfl
 | _ :: _, _ :: _, h => by simp [JAll2_len h.2]
 | [], _ :: _, h => by cases h
 | _ :: _, [], h => by cases h
theorem JAll2_get {P : Program} {l : List Oper} {Φs : List (Tag × OP)} {a : Act} {w : World} : ∀ {r : List Oper} {Φr : List (Tag × OP)}, JAll2 P l Φs a w r Φr → ∀ {i : Nat} {o : Oper} {Φ : Tag × OP}, r[i]? = some o → Φr[i]? = some Φ → JAt2 P l Φs a w o Φ
 | [], _, _, i, o, Φ, h, _ => by simp at h
 | q :: r, [], h, _, _, _, _, _ => by cases h
 | q :: r, Φ' :: Φr, hj, i, o, Φ, h, h' => by
  match i with
  | 0 => simp at h h'; subst h; subst h'; exact hj.1
  | i + 1 => exact JAll2_get hj.2 (by simpa using h) (by simpa using h')

/-- the value that an operation left, undef if it names no slot -/
def valD (a : Act) (q : Oper) : Value := match q.dst with | some d => a.eval (.tmp d) | none => undef

/-- where the region stands -/
structure BInv (l : List Oper) (Φs : List (Tag × OP)) (a : Act) (w : World) (listed : Array Bool) (a' : Act) (w' : World) (b : Option Nat) : Prop where
 below : Below w.heap.size w w'
 size : listed.size = l.length
 defers : a'.defers = a.defers
 tsize : a'.tmps.size = a.tmps.size
 old : ∀ t, (∀ (j : Nat) (o : Oper), l[j]? = some o → o.dst = some t → listed.getD j false = false) → a'.tmps[t]? = a.tmps[t]?
 new : ∀ (j : Nat) (o : Oper) (Φ : Tag × OP), l[j]? = some o → Φs[j]? = some Φ → listed.getD j false = true → Φ.2 b (valD a' o) w'
 box : ∀ k, b = some k → w.heap.size ≤ k ∧ k < w'.heap.size
 nob : ∀ (j : Nat) (Φ : Tag × OP), Φs[j]? = some Φ → Φ.1 = .alloc → listed.getD j false = false → b = none

theorem getD_set_self {listed : Array Bool} {i : Nat} (h : i < listed.size) : (listed.setIfInBounds i true).getD i false = true := by
 rw [Array.getD_eq_getD_getElem?, Array.getElem?_setIfInBounds_self_of_lt h]; rfl

theorem tag_get {Φs : List (Tag × OP)} {i : Nat} {Φ : Tag × OP} (h : Φs[i]? = some Φ) : (Φs.map Prod.fst)[i]? = some Φ.1 := by simp [h]

theorem boxB_spec {l : List Oper} {gs : List Tag} {n : Nat} (h : boxB l gs n = true) :
  looseB l n = true ∧ (∀ i j : Nat, gs[i]? = some Tag.alloc → gs[j]? = some Tag.alloc → i = j) ∧ (∀ i j : Nat, gs[i]? = some Tag.store → gs[j]? = some Tag.store → i = j) ∧
   ∀ (i : Nat) (q : Oper) (g : Tag), l[i]? = some q → gs[i]? = some g → q.dst = none → g = .store := by
 simp only [boxB, Bool.and_eq_true] at h
 obtain ⟨⟨⟨h1, h2⟩, h3⟩, h4⟩ := h
 refine ⟨h1, oneTag_spec h2, oneTag_spec h3, fun i q g hq hg hd => ?_⟩
 have hm : (q, g) ∈ l.zip gs := by
  apply List.mem_of_getElem? (i := i)
  rw [List.getElem?_zip_eq_some]
  exact ⟨hq, hg⟩
 have := List.all_eq_true.1 h4 _ hm
 simpa [hd] using this

theorem StepT.below {g : Tag} {w w' w'' : World} {o o' : Option Nat} (h : StepT g o w' o' w'') (hb : Below w.heap.size w w') (hk : ∀ k, o = some k → w.heap.size ≤ k ∧ k < w'.heap.size) : Below w.heap.size w w'' ∧ ∀ k, o' = some k → w.heap.size ≤ k ∧ k < w''.heap.size := by
 cases g with
 | plain =>
  obtain ⟨rfl, h⟩ := h
  exact ⟨bthen hb h, fun k he => ⟨(hk k he).1, Nat.lt_of_lt_of_le (hk k he).2 h.size⟩⟩
 | alloc =>
  obtain ⟨rfl, hs, h⟩ := h
  exact ⟨bthen hb h, fun k he => by simp at he; subst he; exact ⟨hb.size, hs⟩⟩
 | store =>
  obtain ⟨b, rfl, rfl, h⟩ := h
  have := hk b rfl
  exact ⟨hb.trans ⟨h.os, h.tape, h.output, h.size, fun k hlt => h.block k (Nat.lt_of_lt_of_le hlt hb.size) (by omega)⟩, fun k he => by simp at he; subst he; exact ⟨this.1, Nat.lt_of_lt_of_le this.2 h.size⟩⟩

theorem BInv.step {l : List Oper} {Φs : List (Tag × OP)} {a : Act} {w : World} {listed : Array Bool} {a' : Act} {w' w'' : World} {b b' : Option Nat} (hB : boxB l (Φs.map Prod.fst) a.tmps.size = true)
  (hst : SAll2 Φs) (h : BInv l Φs a w listed a' w' b) {i : Nat} {o : Oper} {Φ : Tag × OP} (hi : l[i]? = some o) (hΦ : Φs[i]? = some Φ) (hni : listed.getD i true = false) {v : Value} (hs : StepT Φ.1 b w' b' w'') (hv : Φ.2 b' v w'') :
  BInv l Φs a w (listed.setIfInBounds i true) (a'.put o.dst v) w'' b' := by
 have hlt : i < listed.size := by rw [h.size]; exact (List.getElem?_eq_some_iff.1 hi).1
 obtain ⟨hL, hone, hone', hdst⟩ := boxB_spec hB
 obtain ⟨_, _, hdn, hall⟩ := looseB_spec hL hi
 obtain ⟨hb1, hb2⟩ := hs.below h.below h.box
 refine ⟨hb1, by simpa using h.size, put_defers.trans h.defers, put_size.trans h.tsize, fun t ht => ?_, fun j q Ψ hj hΨ hl => ?_, hb2, fun j Ψ hΨ hg hl => ?_⟩
 ·have hne : o.dst ≠ some t := fun e => by
   have := ht i o hi e
   rw [getD_set_self hlt] at this
   cases this
  rw [put_other hne]
  refine h.old t fun j q hj hd => ?_
  have := ht j q hj hd
  by_cases e : i = j
  ·subst e; rw [getD_set_self hlt] at this; cases this
  ·rwa [getD_set_ne false e] at this
 ·by_cases e : i = j
  ·subst e
   rw [hi] at hj
   cases hj
   rw [hΦ] at hΨ
   cases hΨ
   cases hd : o.dst with
   | none =>
    have hg := hdst i o Φ.1 hi (tag_get hΦ) hd
    have hS := SAll2_mem hst Φ (List.mem_of_getElem? hΦ)
    rw [hg] at hS
    exact hS.2 _ v _ _ hv
   | some d =>
    simp only [valD, hd]
    rw [eval_put_self (by rw [h.tsize]; exact hdn d hd)]
    exact hv
  ·rw [getD_set_ne false e] at hl
   have hnew := h.new j q Ψ hj hΨ hl
   have hval : valD (a'.put o.dst v) q = valD a' q := by
    cases hd : q.dst with
    | none => simp [valD, hd]
    | some d => simp only [valD, hd]; exact eval_put_ne ((hall j q d hj hd).2 e)
   rw [hval]
   have hS := SAll2_mem hst Ψ (List.mem_of_getElem? hΨ)
   cases hg : Φ.1 with
   | plain =>
    rw [hg] at hs
    obtain ⟨rfl, hs⟩ := hs
    exact hS.o.1 _ _ _ _ hnew hs
   | alloc =>
    have hbn : b = none := h.nob i Φ hΦ hg (by
     rw [Array.getD_eq_getD_getElem?, Array.getElem?_eq_getElem hlt] at hni ⊢
     exact hni)
    rw [hg] at hs
    obtain ⟨rfl, _, hs⟩ := hs
    subst hbn
    exact hS.o.2 _ _ _ hnew hs
   | store =>
    rw [hg] at hs
    obtain ⟨k, rfl, rfl, hs⟩ := hs
    refine hS.s (fun hg' => e (hone' i j ?_ ?_)) _ _ _ _ hnew hs
    ·rw [← hg]; exact tag_get hΦ
    ·rw [← hg']; exact tag_get hΨ
 ·by_cases e : i = j
  ·subst e; rw [getD_set_self hlt] at hl; cases hl
  ·rw [getD_set_ne false e] at hl
   have hbn := h.nob j Ψ hΨ hg hl
   cases hg2 : Φ.1 with
   | plain => rw [hg2] at hs; obtain ⟨rfl, _⟩ := hs; exact hbn
   | alloc =>
    exfalso
    refine e (hone i j ?_ ?_)
    ·rw [← hg2]; exact tag_get hΦ
    ·rw [← hg]; exact tag_get hΨ
   | store => rw [hg2] at hs; obtain ⟨k, rfl, _⟩ := hs; cases hbn

theorem HAll2_of {w : World} {b : Option Nat} {f : Oper → Value} : ∀ {l : List Oper} {Φs : List (Tag × OP)}, l.length = Φs.length → (∀ (j : Nat) (o : Oper) (Φ : Tag × OP), l[j]? = some o → Φs[j]? = some Φ → Φ.2 b (f o) w) → HAll2 w b l Φs (l.map f)
 | [], [], _, _ => trivial
 | o :: l, Φ :: Φs, hl, h => ⟨h 0 o Φ rfl rfl, HAll2_of (by simpa using hl) fun j q Ψ hj hΨ => h (j + 1) q Ψ (by simpa using hj) (by simpa using hΨ)⟩
 | [], _ :: _, hl, _ => by simp at hl
 | _ :: _, [], hl, _ => by simp at hl

theorem wpAny_box {P : Program} {l : List Oper} {Φs : List (Tag × OP)} {a : Act} {w : World} {Q : Exit → Act → World → Prop} (hB : boxB l (Φs.map Prod.fst) a.tmps.size = true)
  (hst : SAll2 Φs) (hJ : JAll2 P l Φs a w l Φs)
  (hQ : ∀ vs w' b, Below w.heap.size w w' → (∀ k, b = some k → w.heap.size ≤ k ∧ k < w'.heap.size) → HAll2 w' b l Φs vs → Q .normal (putAll a l vs) w') :
  ∀ (fuel : Nat) (listed : Array Bool) (a' : Act) (w' : World) (b : Option Nat), (∃ s : List Nat, s.Nodup ∧ (∀ i ∈ s, i < l.length ∧ listed.getD i true = false) ∧ (∀ i, i < l.length → listed.getD i true = false → i ∈ s) ∧ s.length ≤ fuel) → BInv l Φs a w listed a' w' b → wpAny P .any l.toArray Q fuel listed a' w' := by
 have hlen := JAll2_len hJ
 have hBL := (boxB_spec hB).1
 have fin : ∀ (listed : Array Bool) (a' : Act) (w' : World) (b : Option Nat), BInv l Φs a w listed a' w' b → Region.ready .any l.toArray listed = [] → Q .normal a' w' := by
  intro listed a' w' b hI hr
  have hall := ready_nil hBL hI.size hr
  have hH : HAll2 w' b l Φs (l.map (valD a')) := HAll2_of hlen fun j o Φ hj hΦ =>
   hI.new j o Φ hj hΦ (hall j (List.getElem?_eq_some_iff.1 hj).1)
  have ha : a' = putAll a l (l.map (valD a')) := by
   obtain ⟨p1, p2, p3⟩ := putAll_frame (l := l) (vs := l.map (valD a')) (a := a)
   have e1 : a'.tmps = (putAll a l (l.map (valD a'))).tmps := by
    apply Array.ext_getElem?
    intro t
    by_cases ht : ∃ (j : Nat) (o : Oper), l[j]? = some o ∧ o.dst = some t
    ·obtain ⟨j, o, hj, hd⟩ := ht
     obtain ⟨_, _, hdn, _⟩ := looseB_spec hBL hj
     have hlt := hdn t hd
     rw [putAll_get (valD a') hj hd hlt (fun i q hne hq => ((looseB_spec hBL hq).2.2.2 j o t hj hd).2 hne)]
     have hlt' : t < a'.tmps.size := by rw [hI.tsize]; exact hlt
     simp [valD, hd, Act.eval, Array.getElem?_eq_getElem hlt']
    ·rw [p3 t (fun o ho hd => ?_)]
     ·exact hI.old t fun j o hj hd => absurd ⟨j, o, hj, hd⟩ ht
     ·obtain ⟨j, hj⟩ := List.getElem?_of_mem ho
      exact ht ⟨j, o, hj, hd⟩
   have e2 : a'.defers = (putAll a l (l.map (valD a'))).defers := hI.defers.trans p2.symm
   cases a'
   generalize putAll a l (l.map (valD _)) = q at e1 e2
   cases q
   simp only at e1 e2
   rw [e1, e2]
  rw [ha]
  exact hQ _ _ _ hI.below hI.box hH
 intro fuel
 induction fuel with
 | zero =>
  intro listed a' w' b ⟨s, _, _, hs2, hs3⟩ hI
  have hr : Region.ready .any l.toArray listed = [] := by
   rw [List.eq_nil_iff_forall_not_mem]
   intro i hi
   obtain ⟨h1, o, ho, _⟩ := mem_ready.1 hi
   have hlt : i < l.length := by simpa using (Array.getElem?_eq_some_iff.1 ho).1
   have := hs2 i hlt h1
   obtain rfl : s = [] := List.eq_nil_of_length_eq_zero (by omega)
   cases this
  exact ⟨hr, fin _ _ _ _ hI hr⟩
 | succ fuel ih =>
  intro listed a' w' b ⟨s, hs0, hs1, hs2, hs3⟩ hI
  refine ⟨fin _ _ _ _ hI, fun i hi => ?_⟩
  obtain ⟨h1, o, ho, hdeps⟩ := mem_ready.1 hi
  have hlt : i < l.length := by simpa using (Array.getElem?_eq_some_iff.1 ho).1
  have ho' : l[i]? = some o := by simpa using ho
  obtain ⟨Φ, hΦ⟩ : ∃ Φ, Φs[i]? = some Φ := ⟨_, List.getElem?_eq_getElem (by omega)⟩
  obtain ⟨hg, _, _, hall⟩ := looseB_spec hBL ho'
  have hJi : JAt2 P l Φs a w o Φ := JAll2_get hJ ho' hΦ
  have hlsz : i < listed.size := by rw [hI.size]; exact hlt
  have hj := hJi a' w' b hI.below hI.box (fun hga => hI.nob i Φ hΦ hga (by
    rw [Array.getD_eq_getD_getElem?, Array.getElem?_eq_getElem hlsz] at h1 ⊢
    exact h1)) (fun t ht0 => by
   have ht : Operand.tmp t ∈ o.op.operands.toList := by
    unfold readsB at ht0
    obtain ⟨x, hx, he⟩ := List.any_eq_true.1 ht0
    cases x <;> simp at he
    subst he
    exact hx
   unfold slotP2
   cases hwr : writer2 l Φs t with
   | some Ψ =>
    obtain ⟨j, q, g, hj, hd, hΨ⟩ := writer2_some hwr
    obtain ⟨e, he, hon, hbind⟩ := (hall j q t hj hd).1 ht
    have := hI.new j q (g, Ψ) hj hΨ (by rw [← hon]; exact hdeps e he hbind)
    simpa [valD, hd] using this
   | none =>
    have hno := writer2_none hlen hwr
    have := hI.old t fun j q hj hd => absurd hd (hno j q hj)
    simp [Act.eval, this])
  have hnext : ∀ v w'' b', StepT Φ.1 b w' b' w'' → Φ.2 b' v w'' → wpAny P .any l.toArray Q fuel (listed.setIfInBounds i true) (a'.put o.dst v) w'' := by
   intro v w'' b' hs hv
   refine ih _ _ _ _ ⟨s.erase i, hs0.erase i, fun j hj => ?_, fun j hj hl => ?_, ?_⟩ (hI.step hB hst ho' hΦ h1 hs hv)
   ·have hj' := List.mem_of_mem_erase hj
    have hne : j ≠ i := fun e => by subst e; exact (hs0.not_mem_erase) hj
    exact ⟨(hs1 j hj').1, by rw [getD_set_ne true (Ne.symm hne)]; exact (hs1 j hj').2⟩
   ·have hne : i ≠ j := fun e => by
     subst e
     rw [Array.getD_eq_getD_getElem?, Array.getElem?_setIfInBounds_self_of_lt hlsz] at hl
     cases hl
    rw [getD_set_ne true hne] at hl
    exact (List.mem_erase_of_ne (Ne.symm hne)).2 (hs2 j hj hl)
   ·rw [List.length_erase_of_mem (hs2 i hlt h1)]; omega
  unfold wpOp
  rw [ho]
  simp only [Region.wanted, hg, if_true]
  left
  unfold Oper.wp
  generalize (execOp a'.eval o).run P w' = r at hj
  cases r with
  | ok n w1 =>
   cases n with
   | value v => exact hnext v w1 hj.choose hj.choose_spec.1 hj.choose_spec.2
   | skip => exact hnext undef w1 hj.choose hj.choose_spec.1 hj.choose_spec.2
   | enter f args =>
    refine hj.2.2.mono fun e w2 ⟨v, he, hb2, hv⟩ => ?_
    subst he
    refine hnext v w2 b ?_ hv
    rw [hj.1]
    exact ⟨rfl, bthen hj.2.1 hb2⟩
   | _ => exact hj.elim
  | halt x w1 => exact hj.elim

theorem wp_region_box {P : Program} {id : Nat} {l : List Oper} {a : Act} {w : World} {Q : Exit → Act → World → Prop} (Φs : List (Tag × OP)) (hm : P.follows .mixedOrders = true) (hB : boxB l (Φs.map Prod.fst) a.tmps.size = true)
  (hst : SAll2 Φs) (hJ : JAll2 P l Φs a w l Φs)
  (hQ : ∀ vs w' b, Below w.heap.size w w' → (∀ k, b = some k → w.heap.size ≤ k ∧ k < w'.heap.size) → HAll2 w' b l Φs vs → Q .normal (putAll a l vs) w') : (Code.region id l.toArray true).wp P Q a w := by
 refine wp_region_any hm (wpAny_box hB hst hJ hQ _ _ _ _ none ⟨List.range l.length, List.nodup_range, fun i hi => ⟨by simpa using hi, ?_⟩, fun i hi _ => by simpa using hi, by simp⟩ ⟨⟨rfl, rfl, rfl, Nat.le_refl _, fun _ _ => rfl⟩, by simp, rfl, rfl, fun _ _ => rfl, fun j o Φ hj _ hl => ?_, fun k hk => (by simp at hk), fun _ _ _ _ _ => rfl⟩)
 ·simp at hi
  simp [hi]
 ·have hjl := (List.getElem?_eq_some_iff.1 hj).1
  simp [hjl] at hl

/-! the usual predicates -/
def exO (c : Value) : OP := fun _ v _ => v = c
def rdSO {α : Type} (E : Ty α) (x : α) : OP := fun o v W => ∃ fp, E.rd W [v] x fp ∧ ∀ k ∈ fp, o ≠ some k
/-- new memory that reads so -/
def frAO {α : Type} (E : Ty α) (base : Nat) (x : α) : OP := fun o v W => ∃ (cs : List Value) (fp : List Nat), v = .agg cs.toArray ∧ E.rd W cs x fp ∧ fp.Nodup ∧ (∀ k ∈ fp, base ≤ k) ∧ Unf W fp ∧ ∀ k ∈ fp, o ≠ some k
/-- a struct and a number: the results of a call -/
def frTO {α : Type} (E : Ty α) (base : Nat) (x : α) (n : Value) : OP := fun o v W => ∃ cs : List Value, v = .tuple #[.agg cs.toArray, n] ∧ frAO E base x o (.agg cs.toArray) W
def boxO (n : Nat) : OP := fun o v W => ∃ b, o = some b ∧ v = .pointer (some ⟨b, 0, none⟩) ∧ b < W.heap.size ∧ ∀ j, j < n → (∃ u, W.cell? ⟨b, j, none⟩ = some u) ∧ W.frozen? ⟨b, j, none⟩ = false
/-- the box holds it -/
def heldO {α : Type} (E : Ty α) (base : Nat) (x : α) : OP := fun o _ W => ∃ (b : Nat) (cs : List Value) (fp : List Nat), o = some b ∧ E.rd W cs x fp ∧ fp.Nodup ∧ (∀ k ∈ fp, base ≤ k) ∧ Unf W fp ∧ (∀ k ∈ fp, some b ≠ some k) ∧ ∀ j (hj : j < cs.length), W.cell? ⟨b, j, none⟩ = some cs[j]
theorem some_ne {a : Nat} {fp : List Nat} (h : ∀ k ∈ fp, k < a) : ∀ k ∈ fp, (some a : Option Nat) ≠ some k := fun k hk e => by have := h k hk; simp at e; omega
theorem Bx.same {b : Nat} {w w' : World} {fp : List Nat} (h : Bx b w w') (hl : ∀ k ∈ fp, k < w.heap.size) (hn : ∀ k ∈ fp, (some b : Option Nat) ≠ some k) : Same fp w w' := fun k hk => h.block k (hl k hk) fun e => hn k hk (by rw [e])
theorem st_exO {c : Value} : StG .plain (exO c) := ⟨⟨fun _ _ _ _ h _ => h, fun _ _ _ h _ => h⟩, fun _ _ _ _ h _ => h⟩
theorem st_frAO {α : Type} {E : Ty α} {base : Nat} {x : α} : StG .plain (frAO E base x) :=
 ⟨⟨fun _ _ _ _ ⟨cs, fp, h1, h2, h4, h5, h6, h3⟩ hb => ⟨cs, fp, h1, E.same h2 (Same.below hb (E.lt h2)), h4, h5, h6.same (Same.below hb (E.lt h2)), h3⟩,
  fun _ _ _ ⟨cs, fp, h1, h2, h4, h5, h6, _⟩ hb => ⟨cs, fp, h1, E.same h2 (Same.below hb (E.lt h2)), h4, h5, h6.same (Same.below hb (E.lt h2)), some_ne (E.lt h2)⟩⟩,
  fun _ _ _ _ ⟨cs, fp, h1, h2, h4, h5, h6, h3⟩ hb => ⟨cs, fp, h1, E.same h2 (hb.same (E.lt h2) h3), h4, h5, h6.same (hb.same (E.lt h2) h3), h3⟩⟩
theorem st_frTO {α : Type} {E : Ty α} {base : Nat} {x : α} {n : Value} : StG .plain (frTO E base x n) :=
 ⟨⟨fun _ _ _ _ ⟨cs, h1, h2⟩ hb => ⟨cs, h1, st_frAO.1.1 _ _ _ _ h2 hb⟩, fun _ _ _ ⟨cs, h1, h2⟩ hb => ⟨cs, h1, st_frAO.1.2 _ _ _ h2 hb⟩⟩, fun _ _ _ _ ⟨cs, h1, h2⟩ hb => ⟨cs, h1, st_frAO.2 _ _ _ _ h2 hb⟩⟩
theorem st_boxO {n : Nat} : StG .alloc (boxO n) :=
 ⟨⟨fun _ _ _ _ ⟨b, h1, h2, h3, h4⟩ hb => ⟨b, h1, h2, Nat.lt_of_lt_of_le h3 hb.size, fun j hj => ⟨let ⟨u, hu⟩ := (h4 j hj).1; ⟨u, (hb.cell (p := ⟨b, j, none⟩) h3).trans hu⟩, (hb.frozen (p := ⟨b, j, none⟩) h3).trans (h4 j hj).2⟩⟩, fun _ _ _ ⟨b, h1, _⟩ _ => by cases h1⟩,
  fun b' _ _ _ ⟨b, h1, h2, h3, h4⟩ hb => by
   obtain rfl : b' = b := by simpa using h1
   exact ⟨_, rfl, h2, Nat.lt_of_lt_of_le h3 hb.size, fun j hj => ⟨hb.cells j (h4 j hj).1, (hb.frozen j).trans (h4 j hj).2⟩⟩⟩
theorem st_heldO {α : Type} {E : Ty α} {base : Nat} {x : α} : StG .store (heldO E base x) :=
 ⟨⟨fun _ _ _ _ ⟨b, cs, fp, h1, h2, h4, h5, h6, h3, h7⟩ hb => ⟨b, cs, fp, h1, E.same h2 (Same.below hb (E.lt h2)), h4, h5, h6.same (Same.below hb (E.lt h2)), h3, fun j hj => (hb.cell (p := ⟨b, j, none⟩) (cell_lt (h7 j hj))).trans (h7 j hj)⟩, fun _ _ _ ⟨b, _, _, h1, _⟩ _ => by cases h1⟩, fun _ _ _ _ h => h⟩
theorem HAll2_cons {w : World} {b : Option Nat} {o : Oper} {l : List Oper} {Φ : Tag × OP} {Φs : List (Tag × OP)} {vs : List Value} (h : HAll2 w b (o :: l) (Φ :: Φs) vs) : ∃ v r, vs = v :: r ∧ Φ.2 b v w ∧ HAll2 w b l Φs r := by
 cases vs with
 | nil => cases h
 | cons v r => exact ⟨v, r, rfl, h.1, h.2⟩
theorem HAll2_nil {w : World} {b : Option Nat} {vs : List Value} (h : HAll2 w b [] [] vs) : vs = [] := by
 cases vs with
 | nil => rfl
 | cons v r => cases h
theorem slot_w2 {l : List Oper} {Φs : List (Tag × OP)} {a a' : Act} {w' : World} {o : Oper} {b : Option Nat} (hd : ∀ t, readsB o t = true → slotP2 l Φs a t b (a'.eval (.tmp t)) w') (t : Tmp) (Φ : OP) (hr : readsB o t = true) (hw : writer2 l Φs t = some Φ) : Φ b (a'.eval (.tmp t)) w' := by
 have h := hd t hr
 unfold slotP2 at h
 rw [hw] at h
 exact h
theorem slot_o2 {l : List Oper} {Φs : List (Tag × OP)} {a a' : Act} {w' : World} {o : Oper} {b : Option Nat} (hd : ∀ t, readsB o t = true → slotP2 l Φs a t b (a'.eval (.tmp t)) w') (t : Tmp) (hr : readsB o t = true) (hw : writer2 l Φs t = none) : a'.eval (.tmp t) = a.eval (.tmp t) := by
 have h := hd t hr
 unfold slotP2 at h
 rw [hw] at h
 exact h
theorem rdSO.rd {α : Type} {E : Ty α} {x : α} {W : World} {u : Value} {o : Option Nat} (h : rdSO E x o u W) : E.Rd W [u] x := let ⟨fp, h, _⟩ := h; ⟨fp, h⟩
theorem frTO_mk {α : Type} {E : Ty α} {x : α} {W : World} {cs : List Value} {o : Option Nat} {B L base : Nat} {n : Value} (hB : base ≤ B) (hf : E.Fr B W cs x) (hbo : ∀ k, o = some k → L ≤ k ∧ k < B) : frTO E base x n o (.tuple #[.agg cs.toArray, n]) W :=
 let ⟨fp, h1, h2, h3, h4⟩ := hf; ⟨cs, rfl, cs, fp, rfl, h1, h2, fun k hk => Nat.le_trans hB (h3 k hk), h4, fun k hk e => by have := hbo k e; have := h3 k hk; omega⟩
theorem set2_bx {b : Nat} {w : World} {x y : Value} : Bx b w ((w.setCell ⟨b, 0, none⟩ x).setCell ⟨b, 1, none⟩ y) := (Bx.setCell _ _ _ _).trans (Bx.setCell _ _ _ _)
theorem held2 {α : Type} {E : Ty α} {base : Nat} {x : α} {b : Nat} {w : World} {v0 v1 y0 y1 : Value} (h0 : w.cell? ⟨b, 0, none⟩ = some y0) (h1 : w.cell? ⟨b, 1, none⟩ = some y1) {fp : List Nat} (hr : E.rd w [v0, v1] x fp)
  (hn : fp.Nodup) (hb : ∀ k ∈ fp, base ≤ k) (hu : Unf w fp) (ho : ∀ k ∈ fp, (some b : Option Nat) ≠ some k) (v : Value) :
  ∃ o', StepT .store (some b) w o' ((w.setCell ⟨b, 0, none⟩ v0).setCell ⟨b, 1, none⟩ v1) ∧ heldO E base x o' v ((w.setCell ⟨b, 0, none⟩ v0).setCell ⟨b, 1, none⟩ v1) := by
 have hs := set2_bx (b := b) (w := w) (x := v0) (y := v1)
 have e1 : (w.setCell ⟨b, 0, none⟩ v0).cell? ⟨b, 1, none⟩ = some y1 := (World.cell?_setCell_other _ _ _ _ (by simp)).trans h1
 refine ⟨some b, ⟨b, rfl, rfl, hs⟩, b, [v0, v1], fp, rfl, E.same hr (hs.same (E.lt hr) ho), hn, hb, hu.same (hs.same (E.lt hr) ho), ho, fun j hj => ?_⟩
 rcases (show j = 0 ∨ j = 1 by simp at hj; omega) with rfl | rfl
 ·exact (World.cell?_setCell_other _ _ _ _ (by simp)).trans (World.cell?_setCell_same _ _ _ h0)
 ·exact World.cell?_setCell_same _ _ _ e1
theorem box2n {w : World} {x y : Value} {T : TypeId} : ∀ j, j < 2 → (∃ u, (w.alloc (.cells #[x, y] T)).cell? ⟨w.heap.size, j, none⟩ = some u) ∧ (w.alloc (.cells #[x, y] T)).frozen? ⟨w.heap.size, j, none⟩ = false := fun j hj => by
 rcases (show j = 0 ∨ j = 1 by omega) with rfl | rfl <;> exact ⟨by simp, by simp⟩
end Go.Proofs.YtajmjfbejfiipaaGreat
namespace Go.Proofs.YtajmjfbejfiipaaGreat
open Go.RowKit Go.Sort
theorem i64_in {s a : Int} (hs : 1 ≤ s ∧ s ≤ 4) (h : 0 ≤ a ∧ a ≤ s - 1) : I64 a := I64.small (by omega) (by omega)
end Go.Proofs.YtajmjfbejfiipaaGreat
namespace Go.Proofs.YtajmjfbejfiipaaGreat
open Go.RowKit Go.Sort
theorem sameAtom_any (w : World) {cs cs' : Array Value} {x y : Int × List Int} (h : opT.Rd w cs.toList x) (h' : opT.Rd w cs'.toList y) :
  Calls Tryz.prog 71 #[.agg cs, .agg cs'] w fun e w' => e = .returned (.bool (eqB x y)) ∧ Below w.heap.size w w' := by
 obtain ⟨v, hv, hI, hx⟩ := pair_ex h
 obtain rfl := agg_of hv
 obtain ⟨v', hv', hI', hx'⟩ := pair_ex h'
 obtain rfl := agg_of hv'
 clear h hv h' hv'
 cases hn : (x.1 == y.1)
 ·go_enter Tryz.func71, Tryz.ntmps71
  go_wp2_with fail
  go_ret
  exact ⟨ret_bool (eqB_fst (by simpa using hn)).symm, (by repeat (first | exact Below.refl _ _ | exact bA | assumption | refine Below.setCell ?_ (by first | omega | (simp; try omega)) _ | refine Below.alloc ?_ (by first | omega | (simp; try omega)) _ | refine Below.drew ?_ | refine bDN ?_ | refine bthen ?_ (by assumption)))⟩
 have HN : Hid (x.1 = y.1) := by simpa [Hid] using hn
 cases hq : eqB x.2 y.2
 all_goals
  go_enter Tryz.func71, Tryz.ntmps71
  go_wp2_with fail
  refine (Equal_quiet _ (hx.below (by repeat (first | exact Below.refl _ _ | exact bA | assumption | refine Below.setCell ?_ (by first | omega | (simp; try omega)) _ | refine Below.alloc ?_ (by first | omega | (simp; try omega)) _ | refine Below.drew ?_ | refine bDN ?_ | refine bthen ?_ (by assumption)))) (hx'.below (by repeat (first | exact Below.refl _ _ | exact bA | assumption | refine Below.setCell ?_ (by first | omega | (simp; try omega)) _ | refine Below.alloc ?_ (by first | omega | (simp; try omega)) _ | refine Below.drew ?_ | refine bDN ?_ | refine bthen ?_ (by assumption))))).mono ?_
  rintro e w1 ⟨rfl, n, rfl⟩
  rw [hq]
  go_wp2_with fail
  go_ret
  exact ⟨ret_bool (eqB_snd HN.out hq).symm, (by repeat (first | exact Below.refl _ _ | exact bA | assumption | refine Below.setCell ?_ (by first | omega | (simp; try omega)) _ | refine Below.alloc ?_ (by first | omega | (simp; try omega)) _ | refine Below.drew ?_ | refine bDN ?_ | refine bthen ?_ (by assumption)))⟩
theorem l03SameAtom_quiet (w : World) {v v' : Value} {x y : Int × List Int} (h : opT.Pt w v x) (h' : opT.Pt w v' y) :
  Calls Tryz.prog 150 #[v, v'] w fun e w' => e = .returned (.bool (eqB x y)) ∧ Quiet w w' := by
 obtain ⟨b, o, ad, cap, rfl, hb, hI, c0, c1, hx⟩ := pt_pair h
 obtain ⟨b', o', ad', cap', rfl, hb', hI', c0', c1', hx'⟩ := pt_pair h'
 clear h h'
 cases hn : (x.1 == y.1)
 ·go_enter Tryz.func150, Tryz.ntmps150
  go_wp2_with fail
  go_quiet (fail)
  go_wp2_with fail
  go_ret
  exact ⟨ret_bool (eqB_fst (by simpa using hn)).symm, (by first | exact Quiet.refl _ | exact Quiet.drewN _ _ | exact (Quiet.drewN _ _).then (Quiet.drewN _ _) | exact ((Quiet.drewN _ _).then (Quiet.drewN _ _)).then (Quiet.drewN _ _))⟩
 have HN : Hid (x.1 = y.1) := by simpa [Hid] using hn
 have cQ : ∀ n, Calls Tryz.prog 94 #[.slice ad x.2.length cap, .slice ad' y.2.length cap'] (w.drewN n) fun e w'' => e = .returned (.bool (eqB x.2 y.2)) ∧ ∃ m, w'' = w.drewN m := fun n =>
  quiet_call (l00Same_quiet _ (hx.below (Quiet.drewN w n).below) (hx'.below (Quiet.drewN w n).below))
 go_enter Tryz.func150, Tryz.ntmps150
 go_wp2_with fail
 go_quiet (exact cQ _)
 go_wp2_with fail
 go_ret
 exact ⟨ret_bool (eqB_snd HN.out rfl).symm, (by first | exact Quiet.refl _ | exact Quiet.drewN _ _ | exact (Quiet.drewN _ _).then (Quiet.drewN _ _) | exact ((Quiet.drewN _ _).then (Quiet.drewN _ _)).then (Quiet.drewN _ _))⟩
end Go.Proofs.YtajmjfbejfiipaaGreat
namespace Go.Proofs.YtajmjfbejfiipaaGreat
open Go.RowKit Go.Sort
end Go.Proofs.YtajmjfbejfiipaaGreat
namespace Go.Proofs.YtajmjfbejfiipaaGreat
open Go.RowKit Go.Sort
end Go.Proofs.YtajmjfbejfiipaaGreat
namespace Go.Proofs.YtajmjfbejfiipaaGreat
open Go.RowKit Go.Sort
end Go.Proofs.YtajmjfbejfiipaaGreat
namespace Go.Proofs.YtajmjfbejfiipaaGreat
open Go.RowKit Go.Sort
section
variable {t : Tpl} {ar k : Int}
end
end Go.Proofs.YtajmjfbejfiipaaGreat
namespace Go.Proofs.YtajmjfbejfiipaaGreat
open Go.RowKit Go.Sort
/-- the first one of a list for which p, or none -/
def FstR {α : Type} (p : α → Bool) (K : List α) (hit : List α → α → Prop) (miss : Prop) : Prop := (∃ K1 x K2, K = K1 ++ x :: K2 ∧ (∀ y ∈ K1, p y = false) ∧ p x = true ∧ hit K1 x) ∨ ((∀ y ∈ K, p y = false) ∧ miss)
theorem FstR.pre {α : Type} {p : α → Bool} {A B : List α} {hit hit' : List α → α → Prop} {miss miss' : Prop} (hA : ∀ y ∈ A, p y = false) (h : FstR p B hit miss) (h1 : ∀ K x, hit K x → hit' (A ++ K) x) (h2 : miss → miss') : FstR p (A ++ B) hit' miss' := by
 rcases h with ⟨K1, x, K2, rfl, g1, g2, g3⟩ | ⟨g1, g2⟩
 ·refine .inl ⟨A ++ K1, x, K2, by simp, fun y hy => (List.mem_append.1 hy).elim (hA y) (g1 y), g2, h1 _ _ g3⟩
 ·exact .inr ⟨fun y hy => (List.mem_append.1 hy).elim (hA y) (g1 y), h2 g2⟩
theorem FstR.post {α : Type} {p : α → Bool} {A B : List α} {hit' : List α → α → Prop} {K1 : List α} {x : α} {K2 : List α} {miss : Prop} (hA : A = K1 ++ x :: K2) (g1 : ∀ y ∈ K1, p y = false) (g2 : p x = true) (g3 : hit' K1 x) : FstR p (A ++ B) hit' miss :=
 .inl ⟨K1, x, K2 ++ B, by rw [hA]; simp, g1, g2, g3⟩
/-- a list is as some values that are laid down want it -/
def fitB (fx : List Int) (N : Nat) (y : List Int) : Bool := allK (fun i => !(skipB fx i (y.getD i 0))) N
theorem allF_at {s : Nat} {okT : List Int → Bool} {m : Nat} {vals y : List Int} (h : y ∈ allF s okT m vals) : ∀ i, i < vals.length → y.getD i 0 = vals.getD i 0 := fun i hi => by
 obtain ⟨z, rfl, -⟩ := allF_mem.1 h
 simp [List.getD_eq_getElem?_getD, List.getElem?_append_left hi]
theorem pruned {s : Nat} {okT : List Int → Bool} {fx : List Int} {N : Nat} : ∀ (m : Nat) (vals : List Int) (st : Nat) (L : List (List Int)), vals.length + m = N → (∀ i, i < vals.length → skipB fx i (vals.getD i 0) = false) →
  (srch s okT fx (fun _ => -1) m vals (0, st, L)).1 = 7 ∨ FstR (fitB fx N) (allF s okT m vals) (fun _ x => ∃ st', srch s okT fx (fun _ => -1) m vals (0, st, L) = (-1, st', L ++ [x])) (∃ st', srch s okT fx (fun _ => -1) m vals (0, st, L) = ((0 : Int), st', L))
 | 0, vals, st, L, hN, hv => by
  refine .inr (.inl ⟨[], vals, [], rfl, (fun y hy => by cases hy), ?_, st, rfl⟩)
  exact allK_iff.2 fun i hi => by rw [hv i (by omega)]; rfl
 | m + 1, vals, st, L, hN, hv => by
  have key : ∀ (l : List Nat) (st : Nat), (l.foldl (stepA (srch s okT fx (fun _ => -1) m) okT fx vals) (0, st, L)).1 = 7 ∨
    FstR (fitB fx N) (l.flatMap fun a : Nat => match okT (vals ++ [(a : Int)]) with
     | true => allF s okT m (vals ++ [(a : Int)])
     | false => []) (fun _ x => ∃ st', l.foldl (stepA (srch s okT fx (fun _ => -1) m) okT fx vals) (0, st, L) = (-1, st', L ++ [x]))
     (∃ st', l.foldl (stepA (srch s okT fx (fun _ => -1) m) okT fx vals) (0, st, L) = ((0 : Int), st', L)) := by
   intro l
   induction l with
   | nil => intro st; exact .inr (.inr ⟨fun y hy => by simp at hy, st, rfl⟩)
   | cons a l ih =>
    intro st
    rw [List.foldl_cons, List.flatMap_cons]
    cases h1 : skipB fx vals.length (a : Int)
    ·by_cases h2 : st = 6000
     ·rw [step_bud (r := (0, st, L)) rfl h1 h2, fold_stop (by show (7 : Int) ≠ 0; decide)]
      exact .inl rfl
     ·cases h3 : okT (vals ++ [(a : Int)])
      ·rw [step_no (r := (0, st, L)) rfl h1 h2 h3]
       exact ih (st + 1)
      ·rw [step_yes (r := (0, st, L)) rfl h1 h2 h3]
       simp only
       rcases pruned (N := N) m (vals ++ [(a : Int)]) (st + 1) L (by simp; omega) (fun i hi => by
        rcases Nat.lt_or_ge i vals.length with h | h
        ·rw [show (vals ++ [(a : Int)]).getD i 0 = vals.getD i 0 by simp [List.getD_eq_getElem?_getD, List.getElem?_append_left h]]
         exact hv i h
        ·obtain rfl : i = vals.length := by simp at hi; omega
         rw [show (vals ++ [(a : Int)]).getD vals.length 0 = (a : Int) by simp [List.getD_eq_getElem?_getD]]
         exact h1) with h7 | ⟨K1, x, K2, e1, g1, g2, st', g3⟩ | ⟨g1, st', g2⟩
       ·rw [fold_stop (by rw [h7]; decide)]
        exact .inl h7
       ·rw [g3, fold_stop (by show (-1 : Int) ≠ 0; decide)]
        exact .inr (FstR.post e1 g1 g2 ⟨st', rfl⟩)
       ·rw [g2]
        rcases ih st' with h7 | h8
        ·exact .inl h7
        ·exact .inr (FstR.pre g1 h8 (fun K x hx => hx) (fun hx => hx))
    ·rw [step_skip h1]
     rcases ih st with h7 | h8
     ·exact .inl h7
     ·refine .inr (FstR.pre (fun y hy => ?_) h8 (fun K x hx => hx) (fun hx => hx))
      cases h3 : okT (vals ++ [(a : Int)])
      ·rw [h3] at hy; cases hy
      ·rw [h3] at hy
       refine allK_no (k := vals.length) (by omega) ?_
       have := allF_at hy vals.length (by simp)
       rw [show (vals ++ [(a : Int)]).getD vals.length 0 = (a : Int) by simp [List.getD_eq_getElem?_getD]] at this
       rw [this, h1]
       rfl
  exact key _ st
end Go.Proofs.YtajmjfbejfiipaaGreat
namespace Go.Proofs.YtajmjfbejfiipaaGreat
open Go.RowKit Go.Sort
theorem FstR.map {α β : Type} {g : α → β} {p : α → Bool} {p' : β → Bool} {K : List α} {hit : List α → α → Prop} {hit' : β → Prop} {miss miss' : Prop} (hp : ∀ y, p' (g y) = p y) (h : FstR p K hit miss) (h1 : ∀ K1 x, hit K1 x → hit' (g x)) (h2 : miss → miss') : FstR p' (K.map g) (fun _ x => hit' x) miss' := by
 rcases h with ⟨K1, x, K2, rfl, g1, g2, g3⟩ | ⟨g1, g2⟩
 ·refine .inl ⟨K1.map g, g x, K2.map g, by simp, fun y hy => ?_, by rw [hp]; exact g2, h1 _ _ g3⟩
  obtain ⟨z, hz, rfl⟩ := List.mem_map.1 hy
  rw [hp]; exact g1 z hz
 ·refine .inr ⟨fun y hy => ?_, h2 g2⟩
  obtain ⟨z, hz, rfl⟩ := List.mem_map.1 hy
  rw [hp]; exact g1 z hz
theorem FstR.idx {α : Type} {p : α → Bool} {K : List α} {hit : α → Prop} {miss : Prop} (h : FstR p K (fun _ x => hit x) miss) :
  (∃ i, ∃ h : i < K.length, p K[i] = true ∧ (∀ j (hj : j < i), p (K[j]'(by omega)) = false) ∧ hit K[i]) ∨ ((∀ j (h : j < K.length), p K[j] = false) ∧ miss) := by
 rcases h with ⟨K1, x, K2, rfl, g1, g2, g3⟩ | ⟨g1, g2⟩
 ·refine .inl ⟨K1.length, by simp, ?_, fun j hj => ?_, ?_⟩
  ·simpa using g2
  ·rw [List.getElem_append_left hj]
   exact g1 _ (List.getElem_mem hj)
  ·simpa using g3
 ·exact .inr ⟨fun j hj => g1 _ (List.getElem_mem hj), g2⟩
section
variable {t : Tpl} {ar : Int}
end
end Go.Proofs.YtajmjfbejfiipaaGreat
namespace Go.Proofs.YtajmjfbejfiipaaGreat
open Go.RowKit Go.Sort
/-- the table of a polymorphism -/
def polyT (t : Tpl) (ar : Int) (x : List Int) : Prop := x.length = tabL t ar ∧ (∀ a ∈ x, 0 ≤ a ∧ a ≤ t.1 - 1) ∧ ∀ r ∈ t.2, keepsP t.1 (ar, x) r
theorem allF_poly {t : Tpl} {ar : Int} (hT : tplOk t) (har : 1 ≤ ar ∧ ar ≤ 3) {x : List Int} : x ∈ allF t.1.toNat (okF t ar) (tabL t ar) [] ↔ polyT t ar x := by
 have hs := hT.1
 unfold sizeOk at hs
 have hN := tabL_of (ar := ar) hT
 have h0 : 0 < tabL t ar := by
  have : 0 < t.1 ^ ar.toNat := Int.pow_pos (by omega)
  omega
 rw [allF_mem]
 constructor
 ·rintro ⟨y, rfl, hy, hr, hk⟩
  simp only [List.nil_append] at hk ⊢
  exact ⟨hy, fun a ha => by have := hr a ha; omega, (okF_all hT har hy h0).1 hk⟩
 ·rintro ⟨hy, hr, hk⟩
  exact ⟨x, by simp, hy, fun a ha => by have := hr a ha; omega, by simpa using (okF_all hT har hy h0).2 hk⟩
theorem fitB_iff {g : List Int} {N : Nat} {y : List Int} : fitB g N y = true ↔ ∀ i, i < N → 0 ≤ g.getD i 0 → g.getD i 0 = y.getD i 0 := by
 unfold fitB
 rw [allK_iff]
 refine forall_congr' fun i => forall_congr' fun _ => ?_
 unfold skipB
 generalize g.getD i 0 = a
 generalize y.getD i 0 = b
 by_cases h : 0 ≤ a
 ·simp [h]
 ·simp [h]
/-- a table has the values told -/
def hasV (s : Int) (ls : List (List Int)) (vs : List Int) (k : Nat) (y : List Int) : Prop := ∀ p, p < k → y.getD (idxL s 0 (ls.getD p [])).toNat 0 = vs.getD p 0
theorem hasV_succ {s : Int} {ls : List (List Int)} {vs : List Int} {k : Nat} {y : List Int} : hasV s ls vs (k + 1) y ↔ (hasV s ls vs k y ∧ y.getD (idxL s 0 (ls.getD k [])).toNat 0 = vs.getD k 0) :=
 ⟨fun h => ⟨fun p hp => h p (by omega), h k (by omega)⟩, fun h p hp => by
  rcases Nat.lt_or_ge p k with h1 | h1
  ·exact h.1 p h1
  ·obtain rfl : p = k := by omega
   exact h.2⟩
theorem telK_fit {s : Int} {ls : List (List Int)} {vs : List Int} {N : Nat} : ∀ (k : Nat), (∀ p, p < k → (idxL s 0 (ls.getD p [])).toNat < N) → (∀ p, p < k → 0 ≤ vs.getD p 0) →
  (telK s ls vs (List.replicate N (-1)) k = none ∧ ∀ y, ¬ hasV s ls vs k y) ∨ ∃ g, telK s ls vs (List.replicate N (-1)) k = some g ∧ g.length = N ∧ ∀ y, fitB g N y = true ↔ hasV s ls vs k y
 | 0, _, _ => by
  refine .inr ⟨_, rfl, by simp, fun y => ?_⟩
  rw [fitB_iff]
  refine ⟨fun _ p hp => by omega, fun _ i hi h => ?_⟩
  rw [List.getD_eq_getElem?_getD, List.getElem?_replicate] at h
  simp [hi] at h
 | k + 1, hid, hv => by
  have hi := hid k (by omega)
  have h0 := hv k (by omega)
  have hst : ∀ r, telK s ls vs (List.replicate N (-1)) k = r → telK s ls vs (List.replicate N (-1)) (k + 1) = r.bind (tellAt s (ls.getD k []) (vs.getD k 0)) := fun r h => by rw [← h]; rfl
  rcases telK_fit k (fun p hp => hid p (by omega)) (fun p hp => hv p (by omega)) with ⟨h1, h2⟩ | ⟨g, h1, hl, h2⟩
  ·exact .inl ⟨hst _ h1, fun y hy => h2 y (hasV_succ.1 hy).1⟩
  ·have h3 := hst _ h1
   simp only [Option.bind_some] at h3
   generalize hI : (idxL s 0 (ls.getD k [])).toNat = i at hi
   generalize hV : vs.getD k 0 = v at *
   have hsc : ∀ y, hasV s ls vs (k + 1) y ↔ (hasV s ls vs k y ∧ y.getD i 0 = v) := fun y => by rw [hasV_succ, hI, hV]
   unfold tellAt at h3
   rw [hI] at h3
   cases hc : (decide (0 ≤ g.getD i 0) && (g.getD i 0 != v))
   ·rw [hc] at h3
    refine .inr ⟨_, h3, by simpa using hl, fun y => ?_⟩
    rw [hsc, ← h2, fitB_iff, fitB_iff]
    have hset : ∀ j, (g.set i v).getD j 0 = if i = j then v else g.getD j 0 := fun j => by
     by_cases e : i = j
     ·subst e
      simp [List.getD_eq_getElem?_getD, hl, hi]
     ·simp [List.getD_eq_getElem?_getD, e]
    have hno : 0 ≤ g.getD i 0 → g.getD i 0 = v := fun h => by
     revert h hc
     generalize g.getD i 0 = a
     intro hc h
     simpa [h] using hc
    constructor
    ·intro h
     have hiv : v = y.getD i 0 := by have := h i hi; rw [hset, if_pos rfl] at this; exact this h0
     refine ⟨fun j hj hg => ?_, hiv.symm⟩
     by_cases e : i = j
     ·subst e
      rw [hno hg]; exact hiv
     ·have := h j hj
      rw [hset, if_neg e] at this
      exact this hg
    ·rintro ⟨h, hiv⟩ j hj
     rw [hset]
     by_cases e : i = j
     ·subst e
      rw [if_pos rfl]
      exact fun _ => hiv.symm
     ·rw [if_neg e]
      exact h j hj
   ·rw [hc] at h3
    refine .inl ⟨h3, fun y hy => ?_⟩
    obtain ⟨g1, g2⟩ := (hsc y).1 hy
    have g3 := fitB_iff.1 ((h2 y).2 g1) i hi
    simp at hc
    exact hc.2 ((g3 hc.1).trans g2)
section
variable {t : Tpl} {ar : Int} {ls : List (List Int)} {vs : List Int}
/-- what the search answers, where it comes to an end -/
theorem ph_ends (hT : tplOk t) (har : 1 ≤ ar ∧ ar ≤ 3) (hid : ∀ p, p < ls.length → (idxL t.1 0 (ls.getD p [])).toNat < tabL t ar) (hv : ∀ p, p < ls.length → 0 ≤ vs.getD p 0) (h7 : phC t ar ls vs ≠ 7) :
  (∃ x, phV t ar ls vs = (ar, x) ∧ phC t ar ls vs = 0 ∧ polyT t ar x ∧ hasV t.1 ls vs ls.length x) ∨ (phC t ar ls vs ≠ 0 ∧ ∀ x, polyT t ar x → ¬ hasV t.1 ls vs ls.length x) := by
 rcases telK_fit (s := t.1) (ls := ls) (vs := vs) (N := tabL t ar) ls.length hid hv with ⟨h1, h2⟩ | ⟨g, h1, hl, h2⟩
 ·have hC : phC t ar ls vs = 4 := by unfold phC wF; rw [h1]
  exact .inr ⟨by rw [hC]; decide, fun x _ hx => h2 x hx⟩
 ·have hC : phC t ar ls vs = foC (polyF t ar g fun _ => -1) := by unfold phC wF; rw [h1]
  have hV : phV t ar ls vs = foV ar (polyF t ar g fun _ => -1) := by unfold phV wF; rw [h1]
  rw [hC] at h7 ⊢
  rw [hV]
  rcases pruned (N := tabL t ar) (s := t.1.toNat) (okT := okF t ar) (fx := g) (tabL t ar) [] 0 [] (by simp) (fun i hi => by simp at hi) with h8 | h8
  ·exact absurd (fo_7 (ar := ar) h8).2 h7
  ·rcases h8 with ⟨K1, x, K2, e, g1, g2, st', g3⟩ | ⟨g1, st', g2⟩
   ·have hx : x ∈ allF t.1.toNat (okF t ar) (tabL t ar) [] := by rw [e]; simp
    obtain ⟨q1, q2⟩ := fo_m (ar := ar) (st := st') (x := x) (R := polyF t ar g fun _ => -1) (by simpa [polyF] using g3)
    exact .inl ⟨x, q1, q2, (allF_poly hT har).1 hx, (h2 x).1 g2⟩
   ·have q := (fo_0 (ar := ar) (R := polyF t ar g fun _ => -1) (by unfold polyF; rw [g2])).2
    refine .inr ⟨by rw [q]; decide, fun x hx hy => ?_⟩
    have := g1 x ((allF_poly hT har).2 hx)
    rw [(h2 x).2 hy] at this
    cases this
end
end Go.Proofs.YtajmjfbejfiipaaGreat
namespace Go.Proofs.YtajmjfbejfiipaaGreat
open Go.RowKit Go.Sort
theorem range_pick {n : Nat} {fps : Nat → List Nat} {js : List Nat} (hnd : ((List.range n).flatMap fps).Nodup) (hj : js.Nodup) (hl : ∀ j ∈ js, j < n) : ((List.range js.length).flatMap fun i => fps (js.getD i 0)).Nodup := by
 unfold List.Nodup at hnd hj ⊢
 rw [List.pairwise_flatMap] at hnd ⊢
 obtain ⟨h1, h2⟩ := hnd
 rw [List.pairwise_iff_getElem] at h2 hj
 have key : ∀ a b, a < n → b < n → a < b → ∀ x ∈ fps a, ∀ y ∈ fps b, x ≠ y := fun a b ha hb hab => by
  have := h2 a b (by simpa using ha) (by simpa using hb) hab
  simpa using this
 refine ⟨fun i hi => ?_, ?_⟩
 ·have hi' : i < js.length := by simpa using hi
  have := hl _ (List.getElem_mem hi')
  exact h1 _ (by simpa [List.getD_eq_getElem?_getD, hi'] using this)
 ·rw [List.pairwise_iff_getElem]
  intro a b ha hb hab
  have ha' : a < js.length := by simpa using ha
  have hb' : b < js.length := by simpa using hb
  have hne := hj a b ha' hb' hab
  have la := hl _ (List.getElem_mem ha')
  have lb := hl _ (List.getElem_mem hb')
  simp only [List.getElem_range, List.getD_eq_getElem?_getD, List.getElem?_eq_getElem ha', List.getElem?_eq_getElem hb', Option.getD_some]
  intro x hx y hy
  rcases Nat.lt_or_gt_of_ne hne with h | h
  ·exact key _ _ la lb h x hx y hy
  ·exact fun e => key _ _ lb la h y hy x hx e.symm
theorem fr_pick {base : Nat} {w : World} {u : Value} {xs : List (List Int)} (h : rowsT.Fr base w [u] xs) :
  ∃ VS : List Value, VS.length = xs.length ∧ (∀ i (h : i < VS.length) (h' : i < xs.length), (∃ a c, VS[i] = .slice a (xs[i]).length c) ∧ intsT.RdP (fun k => base ≤ k) w [VS[i]] xs[i]) ∧
   (∃ ad cap, u = .slice ad xs.length cap ∧ (0 < xs.length → ∃ b o, ad = some ⟨b, o, none⟩ ∧ b < w.heap.size ∧ base ≤ b ∧ ∀ i (h : i < VS.length), w.cell? ⟨b, o + i, none⟩ = some VS[i])) ∧
   ∀ w' v (js : List Nat), js.Nodup → (∀ j ∈ js, j < xs.length) → (∀ k, base ≤ k → k < w.heap.size → w'.heap[k]? = w.heap[k]?) → (Ty.slice Ty.val).Fr w.heap.size w' [v] (js.map fun j => VS.getD j undef) → base ≤ w.heap.size → rowsT.Fr base w' [v] (js.map fun j => xs.getD j []) := by
 obtain ⟨fp, hrd, hnd, hbs, hun⟩ := h
 have hlt := Ty.lt _ hrd
 obtain ⟨ad, cap, hu, h1, h2, h3⟩ := hrd
 obtain rfl : u = _ := by simpa using hu
 rcases h3 with ⟨h0, rfl⟩ | ⟨h0, b, o, fps, rfl, hb, rfl, h4⟩
 ·refine ⟨[], by simp [h0], fun i h => by simp at h, ⟨ad, cap, rfl, fun h => by omega⟩, fun w' v js _ hjl _ hf _ => ?_⟩
  obtain rfl : js = [] := List.eq_nil_iff_forall_not_mem.2 fun j hj => by have := hjl j hj; omega
  obtain ⟨a', c', rfl⟩ := fr_slice hf
  exact fr_nil
 ·have key : ∀ i, ∃ v, ∀ (h : i < xs.length), intsT.rd w [v] xs[i] (fps i) ∧ (∃ a c, v = .slice a (xs[i]).length c) ∧ w.cell? ⟨b, o + i, none⟩ = some v := fun i => by
   by_cases hi : i < xs.length
   ·obtain ⟨cs, hr, hc⟩ := h4 i hi
    obtain ⟨a', c', rfl, _⟩ := id hr
    exact ⟨_, fun _ => ⟨hr, ⟨_, _, rfl⟩, by simpa [Ty.slice] using hc 0 (by simp)⟩⟩
   ·exact ⟨undef, fun h => absurd h hi⟩
  obtain ⟨F, hF⟩ := Classical.axiomOfChoice key
  have hVl : ((List.range xs.length).map F).length = xs.length := by simp
  have hVg : ∀ i (h : i < ((List.range xs.length).map F).length), ((List.range xs.length).map F)[i] = F i := fun i h => by simp
  have hVd : ∀ i, i < xs.length → ((List.range xs.length).map F).getD i undef = F i := fun i h => by simp [List.getD_eq_getElem?_getD, h]
  refine ⟨(List.range xs.length).map F, hVl, fun i h h' => ?_, ⟨_, cap, rfl, fun _ => ⟨b, o, rfl, hb, hbs b (List.mem_cons_self ..), fun i h => ?_⟩⟩, fun w' v js hjn hjl hbe hf hbw => ?_⟩
  ·obtain ⟨g1, g2, -⟩ := hF i h'
   rw [hVg i h]
   exact ⟨g2, _, g1, fun q hq => hbs q (List.mem_cons_of_mem _ (List.mem_flatMap.2 ⟨i, by simpa using h', hq⟩))⟩
  ·have h' : i < xs.length := by simpa using h
   obtain ⟨-, -, g3⟩ := hF i h'
   rw [hVg i h]
   exact g3
  ·obtain ⟨fpv, ⟨ad', cap', hv, k1, k2, k3⟩, hnd', hbs', hun'⟩ := hf
   obtain rfl : v = _ := by simpa using hv
   rw [List.length_map] at k1 k2 k3
   rcases k3 with ⟨k0, _⟩ | ⟨k0, g, o', fps', rfl, hg, rfl, k4⟩
   ·obtain rfl := List.eq_nil_of_length_eq_zero k0
    exact fr_nil
   ·have hge : w.heap.size ≤ g := hbs' g (List.mem_cons_self ..)
    have hj : ∀ i (h : i < js.length), js.getD i 0 < xs.length := fun i h => by
     have := hjl _ (List.getElem_mem h)
     simpa [List.getD_eq_getElem?_getD, h] using this
    have hsub : ∀ k ∈ (List.range js.length).flatMap (fun i => fps (js.getD i 0)), k ∈ (List.range xs.length).flatMap fps := fun k hk => by
     obtain ⟨i, hi, hk⟩ := List.mem_flatMap.1 hk
     exact List.mem_flatMap.2 ⟨_, by simpa using hj i (by simpa using hi), hk⟩
    have hS : Same (b :: (List.range xs.length).flatMap fps) w w' := fun k hk => hbe k (hbs k hk) (hlt k hk)
    have hS2 : ∀ i, i < xs.length → Same (fps i) w w' := fun i hi k hk => hS k (List.mem_cons_of_mem _ (List.mem_flatMap.2 ⟨i, by simpa using hi, hk⟩))
    refine ⟨g :: (List.range js.length).flatMap (fun i => fps (js.getD i 0)), ⟨some ⟨g, o', none⟩, cap', by simp, by rw [List.length_map]; exact k1, by rw [List.length_map]; exact k2, .inr ⟨by rw [List.length_map]; exact k0, g, o', fun i => fps (js.getD i 0), rfl, hg, by rw [List.length_map], fun i hi => ?_⟩⟩, ?_, ?_, ?_⟩
    ·have hi' : i < js.length := by simpa using hi
     obtain ⟨cs, ⟨rfl, _, _⟩, h6⟩ := k4 i (by rw [List.length_map]; exact hi')
     have hji := hj i hi'
     obtain ⟨g1, g2, -⟩ := hF _ hji
     have e1 : (js.map fun j => ((List.range xs.length).map F).getD j undef)[i]'(by simpa using hi') = F (js.getD i 0) := by
      rw [List.getElem_map]
      have : js[i] = js.getD i 0 := by simp [List.getD_eq_getElem?_getD, hi']
      rw [this]
      exact hVd _ hji
     have e2 : (js.map fun j => xs.getD j [])[i] = xs[js.getD i 0] := by
      rw [List.getElem_map]
      have : js[i] = js.getD i 0 := by simp [List.getD_eq_getElem?_getD, hi']
      rw [this, List.getD_eq_getElem?_getD, List.getElem?_eq_getElem hji]
      rfl
     rw [e1] at h6
     refine ⟨_, ?_, h6⟩
     rw [e2]
     exact Ty.same _ g1 (hS2 _ hji)
    ·refine List.nodup_cons.2 ⟨fun hm => ?_, range_pick (List.nodup_cons.1 hnd).2 hjn hjl⟩
     have := hlt g (List.mem_cons_of_mem _ (hsub g hm))
     omega
    ·intro k hk
     rcases List.mem_cons.1 hk with rfl | hk
     ·omega
     ·exact hbs k (List.mem_cons_of_mem _ (hsub k hk))
    ·intro k hk q
     rcases List.mem_cons.1 hk with rfl | hk
     ·exact hun' k (List.mem_cons_self ..) q
     ·exact (hun.same hS) k (List.mem_cons_of_mem _ (hsub k hk)) q
end Go.Proofs.YtajmjfbejfiipaaGreat
