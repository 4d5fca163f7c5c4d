/-
What ClosureOf answers; contracts: whether operations are valid.
Contracts: a relation made of tuples, the reference's.
A map of the call's own from texts to truth values: a set of texts. No program is named here.
Plain: the program's closure: what is combined of lists of which one at least is the last; when all is closed.
The library's contracts, laid at this seat's program. Written by the kit's lay-shelf and lay-plain: its numbers hold for that seat alone (shelf2.py).
Texts: bytes joined; decimal numbers; rows of texts; the library's Join. Contracts of dec, digits, spaced, Decimal.
Memory: what an append keeps of the row that grows; the state of the closure's list: a set of texts, a row of lists, each told apart. No program is named here.
Contracts: a list put into the closure's list, if it is new.
-/
import Derived.Test.YtggelmbnliajeaaGreatDoorQAE
import Derived.Test.YtggelmbnliajeaaGreatDoorQAB
import Derived.Test.YtggelmbnliajeaaGreatDoorQAF
import Derived.Maps.OwnOps
import Derived.Maps.OwnSet
import Derived.Maps.Views
import Derived.StringKeys
import Derived.Test.YtggelmbnliajeaaGreatDoorQAC
import Derived.Shelf.Strconv.Itoa4
import Derived.Test.YtggelmbnliajeaaGreatDoorProg
import Derived.Test.YtggelmbnliajeaaGreatDoorQAA
namespace Go.Proofs.YtggelmbnliajeaaGreatDoor
open Go.RowKit Go.Sort
noncomputable def opsB (s : Int) (gs : List (Int × List Int)) : Bool := tb (sizeOk s ∧ ∀ g ∈ gs, opOk s g)
theorem opsB_yes {s : Int} {gs : List (Int × List Int)} (h : opsB s gs = true) : sizeOk s ∧ ∀ g ∈ gs, opOk s g := tb_iff.1 h
noncomputable def tupsB (s ar : Int) (ts : List (List Int)) : Bool := tb ((1 ≤ ar ∧ ar ≤ 4) ∧ ∀ l ∈ ts, rowOk s ar l)
/-- the code of ClosureOf -/
noncomputable def coC (s ar : Int) (ops : List (Int × List Int)) (ts : List (List Int)) : Int := match opsB s ops with
 | false => 1
 | true => match decide (64 < ops.length) with
  | true => 3
  | false => match tupsB s ar ts with
   | false => 2
   | true => 0
noncomputable def cloL (s : Int) (ar : Nat) (ops : List (Int × List Int)) (ts : List (List Int)) : List (List Int) := relL s ar (fun l => tb (Clo s ops ar ts l)) (s ^ ar).toNat
/-- the relation of ClosureOf -/
noncomputable def coV (s ar : Int) (ops : List (Int × List Int)) (ts : List (List Int)) : Int × List (List Int) := match coC s ar ops ts == 0 with
 | true => (ar, cloL s ar.toNat ops ts)
 | false => (0, [])
theorem coC_ok {s ar : Int} {ops : List (Int × List Int)} {ts : List (List Int)} (h1 : opsB s ops = true) (h2 : decide (64 < ops.length) = false) (h3 : tupsB s ar ts = true) : coC s ar ops ts = 0 := by simp only [coC, h1, h2, h3]
theorem coC_no1 {s ar : Int} {ops : List (Int × List Int)} {ts : List (List Int)} (h1 : opsB s ops = false) : coC s ar ops ts = 1 := by simp only [coC, h1]
theorem coC_no2 {s ar : Int} {ops : List (Int × List Int)} {ts : List (List Int)} (h1 : opsB s ops = true) (h2 : decide (64 < ops.length) = true) : coC s ar ops ts = 3 := by simp only [coC, h1, h2]
theorem coC_no3 {s ar : Int} {ops : List (Int × List Int)} {ts : List (List Int)} (h1 : opsB s ops = true) (h2 : decide (64 < ops.length) = false) (h3 : tupsB s ar ts = false) : coC s ar ops ts = 2 := by simp only [coC, h1, h2, h3]
theorem coV_ok {s ar : Int} {ops : List (Int × List Int)} {ts : List (List Int)} (h : coC s ar ops ts = 0) : coV s ar ops ts = (ar, cloL s ar.toNat ops ts) := by simp [coV, h]
theorem coV_no {s ar : Int} {ops : List (Int × List Int)} {ts : List (List Int)} (h : coC s ar ops ts ≠ 0) : coV s ar ops ts = (0, []) := by
 have : (coC s ar ops ts == 0) = false := by simpa using h
 simp [coV, this]
/-- a row in order with the closure's members is the closure -/
theorem cloL_eq {s : Int} {ar : Nat} {ops : List (Int × List Int)} {ts M : List (List Int)} (hs : sizeOk s) (har : 1 ≤ ar ∧ ar ≤ 4) (ho : ∀ f ∈ ops, opOk s f) (ht : ∀ l ∈ ts, tupP s ar l) (hP : M.Pairwise ltL) (hM : ∀ l, l ∈ M ↔ Clo s ops ar ts l) : M = cloL s ar ops ts := by
 have h1 := hs.1
 have hN : s ^ ar = ((s ^ ar).toNat : Int) := by have := pow_nn (s := s) (by omega) ar; omega
 have hr := relL_ok (p := fun l => tb (Clo s ops ar ts l)) hs har hN
 refine pw_ext hP (sortedL_pw (relOk_sorted hr)) fun a => ?_
 rw [hM]
 constructor
 ·intro h
  exact (relL_iff h1 hN (clo_in ho ht h)).2 (tb_true h)
 ·intro h
  exact tb_iff.1 ((relL_iff h1 hN (relL_tup h1 h)).1 h)
theorem areOpsN_any (w : World) {v : Value} {gs : List (Int × List Int)} (h : opsT.Rd w [v] gs) (s : Int) :
  Calls Tryz.prog 43 #[.int .i64 s, v] w fun e w' => e = .returned (.bool (opsB s gs)) ∧ Below w.heap.size w w' := by
 obtain ⟨va, vc, rfl⟩ := rd_slice h
 have H := Lib.hid h
 clear h
 cases b1 : inB s 1 4
 ·have HO : Hid (opsB s gs = false) := tb_false fun hh => by have := inB_true.2 hh.1; rw [b1] at this; cases this
  go_enter Tryz.func43, Tryz.ntmps43
  go_wp2_with (go_at_call 98; refine (isSize_any _ _).mono ?_; rintro e w' ⟨rfl, rfl⟩; rw [b1])
  go_ret
  exact ⟨ret_bool HO.out.symm, (by repeat (first | exact Below.refl _ _ | exact bA | assumption | refine Below.setCell ?_ (by first | omega | (simp; try omega)) _ | refine Below.alloc ?_ (by first | omega | (simp; try omega)) _ | refine Below.drew ?_ | refine bDN ?_ | refine bthen ?_ (by assumption)))⟩
 ·have HO : Hid (opsB s gs = !(anyB (fun g => !tb (opOk s g)) gs)) := by
   unfold Hid opsB anyB
   rw [Bool.eq_iff_iff, tb_iff]
   simp only [List.any_eq_false, Bool.not_eq_eq_eq_not, Bool.not_true]
   constructor
   ·rintro ⟨-, h⟩ x hx
    simp [tb_true (h x hx)]
   ·intro h
    refine ⟨inB_true.1 b1, fun g hg => ?_⟩
    have := h g hg
    simpa [tb_iff] using this
  go_enter Tryz.func43, Tryz.ntmps43
  go_wp2_with (go_at_call 98; refine (isSize_any _ _).mono ?_; rintro e w' ⟨rfl, rfl⟩; rw [b1])
  have hbA : Below w.heap.size w (w.alloc (.cells #[.int .i64 s] 2)) := bA
  refine (ContainsFuncOp_any _ (H.out.below hbA) (fun g => !tb (opOk s g)) 100 #[.pointer (some ⟨w.heap.size, 0, none⟩)] (enters Tryz.func100 (by kernel_rfl) rfl) (Lib.hid (fun W' hW' k hk cs hcs => areOps1_any W' hcs ((cellB hW' (by simp)).trans (by simp [go_sem]))))).mono ?_
  rintro e w2 ⟨rfl, hb2⟩
  cases hany : anyB (fun g => !tb (opOk s g)) gs
  ·rw [hany] at HO
   go_wp2_with fail
   go_ret
   exact ⟨ret_bool HO.out.symm, bthen hbA hb2⟩
  ·rw [hany] at HO
   go_wp2_with fail
   go_ret
   exact ⟨ret_bool HO.out.symm, bthen hbA hb2⟩
set_option maxHeartbeats 800000 in
theorem l02All_any (w : World) {v : Value} {gs : List (Int × List Int)} (h : opsT.Rd w [v] gs) (s : Int) :
  Calls Tryz.prog 37 #[.int .i64 s, v] w fun e w' => e = .returned (.bool (opsB s gs)) ∧ Quiet w w' := by
 obtain ⟨_, _, e1, hle, hle2, hcell⟩ := pairs_ex h
 obtain rfl : v = _ := by simpa using e1
 have H := Lib.hid h
 clear h e1
 go_enter Tryz.func37, Tryz.ntmps37
 go_wp2_with fail
 go_loopw [5] (fun i wr => ∃ k : Nat, k ≤ gs.length ∧ i = .int .i64 k ∧ noneB (fun r => !tb (opOk s r)) (gs.take k) ∧ Quiet w wr) (fun i _ => gs.length - (intOf i).toNat)
 case atStart => exact ⟨0, Nat.zero_le _, rfl, noneB_zero _ _, Quiet.refl _⟩
 case round =>
  obtain ⟨k, hk, rfl, ht, hqw⟩ := hrel
  have HT := Lib.hid ht
  clear ht
  by_cases hkl : k < gs.length
  ·obtain ⟨a, q, rfl, haa, -⟩ := hcell (by omega)
   have p := (pt_elem (E := opT) H.out hkl).below hqw.below
   cases hr : tb (opOk s gs[k])
   ·go_wp2_with fail
    refine (l02Ok_quiet wr p s).mono ?_
    rintro e w2 ⟨rfl, hq2⟩
    rw [hr]
    go_wp2_with fail
    go_ret
    exact ⟨ret_bool (tb_false (fun hh => by have := tb_true (hh.2 _ (List.getElem_mem hkl)); rw [hr] at this; cases this)).symm, hqw.then hq2⟩
   ·go_wp2_with fail
    refine (l02Ok_quiet wr p s).mono ?_
    rintro e w2 ⟨rfl, hq2⟩
    rw [hr]
    go_wp2_with fail
    go_roundw
    case rel => exact ⟨k + 1, by omega, by go_num, noneB_succ hkl HT.out (by rw [hr]; rfl), hqw.then hq2⟩
    case measure => simp [intOf]; omega
  ·obtain rfl : k = gs.length := by omega
   have HALL := Lib.hid (noneB_all HT.out)
   cases hs : inB s 1 4
   ·go_wp2_with (go_at_call 75; refine (l01Size_any _ _).mono ?_; rintro e w' ⟨rfl, rfl⟩)
    go_ret
    exact ⟨ret_bool ((tb_false (fun hr => by have := inB_true.2 hr.1; rw [hs] at this; cases this)).symm), hqw⟩
   have HR : Hid (opsB s gs = true) := tb_true ⟨inB_true.1 hs, HALL.out⟩
   go_wp2_with (go_at_call 75; refine (l01Size_any _ _).mono ?_; rintro e w' ⟨rfl, rfl⟩)
   go_ret
   exact ⟨ret_bool HR.out.symm, hqw⟩
end Go.Proofs.YtggelmbnliajeaaGreatDoor
namespace Go.Proofs.YtggelmbnliajeaaGreatDoor
open Go.RowKit Go.Sort
noncomputable def mrC (s ar : Int) (ts : List (List Int)) : Int := match tupsB s ar ts with
 | true => 0
 | false => 2
noncomputable def mrV (s ar : Int) (ts : List (List Int)) : Int × List (List Int) := match tupsB s ar ts with
 | true => (ar, setR s ar.toNat (s ^ ar.toNat).toNat ts)
 | false => (0, [])
theorem mr_yes {s ar : Int} {ts : List (List Int)} (h : tupsB s ar ts = true) : mrV s ar ts = (ar, setR s ar.toNat (s ^ ar.toNat).toNat ts) ∧ mrC s ar ts = 0 := by simp [mrV, mrC, h]
theorem mr_no {s ar : Int} {ts : List (List Int)} (h : tupsB s ar ts = false) : mrV s ar ts = (0, []) ∧ mrC s ar ts = 2 := by simp [mrV, mrC, h]
theorem tups_part {s ar : Int} {ts : List (List Int)} {k : Nat} (h : tupsB s ar (ts.take k) = false) : tupsB s ar ts = false := tb_false fun hh => by
 have := tb_true (p := (1 ≤ ar ∧ ar ≤ 4) ∧ ∀ l ∈ ts.take k, rowOk s ar l) ⟨hh.1, fun l hl => hh.2 l (List.mem_of_mem_take hl)⟩
 unfold tupsB at h
 rw [h] at this
 cases this
theorem tups_succ {s ar : Int} {ts : List (List Int)} {k : Nat} (hk : k < ts.length) (h : tupsB s ar (ts.take k) = true) : tupsB s ar (ts.take (k + 1)) = tb (rowOk s ar ts[k]) := by
 have h1 := tb_iff.1 h
 unfold tupsB
 rw [Bool.eq_iff_iff, tb_iff, tb_iff, ← take_snoc hk]
 constructor
 ·intro hh
  exact hh.2 _ (List.mem_append_right _ (List.mem_singleton.2 rfl))
 ·intro hh
  refine ⟨h1.1, fun l hl => ?_⟩
  rcases List.mem_append.1 hl with hl | hl
  ·exact h1.2 l hl
  ·rw [List.mem_singleton.1 hl]; exact hh
set_option maxHeartbeats 3200000 in
set_option maxRecDepth 100000 in
theorem specMakeRel_any (w : World) {v : Value} {ts : List (List Int)} (h : rowsT.Rd w [v] ts) (hts : ts.length ≤ 2000000) {s : Int} (hs : sizeOk s) (ar : Int) :
  Calls Tryz.prog 38 #[.int .i64 s, .int .i64 ar, v] w (RetAC relT w (mrV s ar ts) (mrC s ar ts)) := by
 obtain ⟨ad, cap, hv, -, -, hcell⟩ := slices_ex h
 obtain rfl : v = _ := by simpa using hv
 have HC := Lib.hid hcell
 have hs2 : inB s 1 4 = true := inB_true.2 hs
 have hs4 : 1 ≤ s ∧ s ≤ 4 := hs
 have HS := Lib.hid hs
 clear h hv hcell hs
 go_enter Tryz.func38, Tryz.ntmps38
 go_wp2_with fail
 generalize hW : World.alloc w _ = W
 have hbW : Below w.heap.size w W := hW ▸ bA
 have hsW : w.heap.size < W.heap.size := by rw [← hW]; simp
 have r0 : W.cell? ⟨w.heap.size, 0, none⟩ = some (.int .i64 0) := by rw [← hW]; simp [go_sem]
 have r1 : W.cell? ⟨w.heap.size, 1, none⟩ = some (.slice none 0 0) := by rw [← hW]; simp [go_sem]
 have q0 : W.frozen? ⟨w.heap.size, 0, none⟩ = false := by rw [← hW]; simp [go_sem]
 have q1 : W.frozen? ⟨w.heap.size, 1, none⟩ = false := by rw [← hW]; simp [go_sem]
 clear hW
 refine (l01Size_any s W).mono ?_
 rintro e _ ⟨rfl, rfl⟩
 rw [hs2]
 clear hs2
 go_wp2_with fail
 refine (l01Arity_any ar _).mono ?_
 rintro e _ ⟨rfl, rfl⟩
 have HT0 : Hid (inB ar 1 4 = tupsB s ar (ts.take 0)) := by
  unfold Hid tupsB
  rw [Bool.eq_iff_iff, tb_iff, inB_true]
  simp
 rw [HT0.out]
 go_wp2_with fail
 go_loop [9, 8] (fun i q => ∃ k : Nat, k ≤ ts.length ∧ i = .int .i64 k ∧ q = .bool (tupsB s ar (ts.take k))) (fun i _ => ts.length - (intOf i).toNat)
 case atStart => exact ⟨0, Nat.zero_le _, rfl, rfl⟩
 case round =>
  obtain ⟨k, hk, rfl, rfl⟩ := hrel
  cases hb : tupsB s ar (ts.take k)
  ·have HR := Lib.hid (mr_no (tups_part hb))
   have HZ0 := Lib.hid (fun (x y : Value) => res2_0 (x := x) (y := y) r0)
   have HZ1 := Lib.hid (fun (x y : Value) => res2_1 (x := x) (y := y) r1)
   by_cases hkl : k < ts.length
   ·have hd : decide ((k : Int) < (ts.length : Int)) = true := by simp; omega
    have hd' : decide (k < ts.length) = true := by simp; omega
    go_wp2_with fail
    refine bodyPost_ret (v := .tuple #[.agg #[.int .i64 0, .slice none 0 0], .int .i64 2]) (by simp [results, Tryz.results38, go_sem, HZ0.out, HZ1.out]) rfl ⟨[.int .i64 0, .slice none 0 0], by rw [HR.out.2], ?_, res2_b hbW (by omega)⟩
    rw [HR.out.1]
    exact fr_rel0
   ·have hd : decide ((k : Int) < (ts.length : Int)) = false := by simp; omega
    have hd' : decide (k < ts.length) = false := by simp; omega
    go_wp2_with fail
    refine bodyPost_ret (v := .tuple #[.agg #[.int .i64 0, .slice none 0 0], .int .i64 2]) (by simp [results, Tryz.results38, go_sem, HZ0.out, HZ1.out]) rfl ⟨[.int .i64 0, .slice none 0 0], by rw [HR.out.2], ?_, res2_b hbW (by omega)⟩
    rw [HR.out.1]
    exact fr_rel0
  ·by_cases hkl : k < ts.length
   ·obtain ⟨lb, lo, rfl, hlb, hlce⟩ := HC.out (by omega)
    obtain ⟨y, hry, hcy⟩ := hlce k hkl
    have e0 := (cellB hbW hlb).trans hcy
    have HSU := Lib.hid (tups_succ hkl hb)
    have HY := Lib.hid (hry.below hbW)
    obtain ⟨ya, yc, rfl⟩ := rd_slice hry
    have hd : decide ((k : Int) < (ts.length : Int)) = true := by simp; omega
    have hd' : decide (k < ts.length) = true := by simp; omega
    clear hlce hry hcy
    go_wp2_with fail
    refine (l01Tuple_any s ar _ HY.out (by omega) (by omega)).mono ?_
    rintro e _ ⟨rfl, rfl⟩
    rw [← HSU.out]
    go_wp2_with fail
    go_round
    case rel => exact ⟨k + 1, by omega, by go_num, rfl⟩
    case measure => simp [intOf]; omega
   ·obtain rfl : k = ts.length := by omega
    rw [List.take_length] at hb
    have hd : decide ((ts.length : Int) < (ts.length : Int)) = false := by simp
    have HR := Lib.hid (mr_yes hb)
    have HT := Lib.hid (tb_iff.1 hb)
    obtain ⟨an, han⟩ : ∃ an : Nat, ar = (an : Int) := ⟨ar.toNat, by have := HT.out.1; omega⟩
    subst han
    have han4 : 1 ≤ an ∧ an ≤ 4 := by have := HT.out.1; omega
    obtain ⟨N, hN⟩ : ∃ N : Nat, s ^ an = (N : Int) := ⟨(s ^ an).toNat, by have := pow_nn (s := s) (by omega) an; omega⟩
    have hN256 : N ≤ 256 := by
     have h1 : s ^ an ≤ 256 := by
      refine Int.le_trans (pow_mono' (by omega) (show s ≤ 4 by omega) an) ?_
      rcases (show an = 1 ∨ an = 2 ∨ an = 3 ∨ an = 4 by omega) with e | e | e | e <;> rw [e] <;> decide
     omega
    have HN := Lib.hid hN
    have HTP : Hid (∀ l ∈ ts, tupP s an l) := fun l hl => by
     obtain ⟨g1, g2⟩ := HT.out.2 l hl
     exact ⟨by omega, g2⟩
    clear hN hb HT
    go_wp2_with fail
    refine (l01Empty3_any _ s an (by omega) (by omega) (by omega) N HN.out (by omega)).mono ?_
    rintro e w1 ⟨bx, g, rfl, hset, hb1⟩
    have HS1 := Lib.hid hset
    have hg0 : W.heap.size ≤ g := hset.1.2.2.2.2.2.1
    have hbx0 := hset.1.1
    have hbW1 := bthen hbW hb1
    have hz1 := hb1.size
    clear hset
    go_wp2_with fail
    go_loopw [11] (fun i wr => ∃ k : Nat, k ≤ ts.length ∧ i = .int .i64 k ∧ Set3 wr W.heap.size bx g s an N (ts.take k) ∧ Below W.heap.size W wr) (fun i _ => ts.length - (intOf i).toNat)
    case atStart => exact ⟨0, Nat.zero_le _, rfl, by rw [List.take_zero]; exact HS1.out, hb1⟩
    case round =>
     obtain ⟨k, hk, rfl, hset, hbel⟩ := hrel
     have HS2 := Lib.hid hset
     have hbw := bthen hbW hbel
     have hz2 := hbel.size
     clear hset
     by_cases hkl : k < ts.length
     ·obtain ⟨lb, lo, rfl, hlb, hlce⟩ := HC.out (by omega)
      obtain ⟨y, hry, hcy⟩ := hlce k hkl
      have e0 := (cellB hbw hlb).trans hcy
      have HY := Lib.hid (hry.below hbw)
      have HTK := Lib.hid (HTP.out _ (List.getElem_mem hkl))
      have HTS : Hid (ts.take k ++ [ts[k]] = ts.take (k + 1)) := take_snoc hkl
      obtain ⟨ya, yc, rfl⟩ := rd_slice hry
      clear hlce hry hcy
      go_wp2_with fail
      refine (put_any wr HS2.out hs4 (by omega) HN.out HY.out HTK.out.1 HTK.out.2).mono ?_
      rintro e w2 ⟨rfl, hset2, hT2⟩
      rw [HTS.out] at hset2
      have HS3 := Lib.hid hset2
      have hb3 : Below W.heap.size W w2 := hbel.trans (hT2.below (by omega) (fun q hq e => by omega))
      clear hset2 hT2
      go_wp2_with fail
      go_roundw
      case rel => exact ⟨k + 1, by omega, by go_num, HS3.out, hb3⟩
      case measure => simp [intOf]; omega
     ·obtain rfl : k = ts.length := by omega
      rw [List.take_length] at HS2
      have f0 := (cellB hbel hsW).trans r0
      have f1 := (cellB hbel hsW).trans r1
      have f2 := (frozenB hbel hsW).trans q0
      have f3 := (frozenB hbel hsW).trans q1
      clear r0 r1 q0 q1
      go_wp2_with fail
      refine (rel_any wr HS2.out hs4 (by omega) HN.out (by omega) (fun l hl => HTP.out l hl)).mono ?_
      rintro e w3 ⟨cs3, rfl, hf3, hb3⟩
      have HV : Hid ((((an : Nat) : Int), relL s an (fun l => tb (l ∈ ts)) N) = mrV s an ts) := by
       unfold Hid
       rw [HR.out.1]
       unfold setR
       rw [Int.toNat_natCast, HN.out, Int.toNat_natCast]
      obtain ⟨R, hR⟩ : ∃ R, R = relL s an (fun l => tb (l ∈ ts)) N := ⟨_, rfl⟩
      rw [← hR] at hf3 HV
      obtain ⟨a3, c3, rfl⟩ := fr_pair hf3
      have HF3 := Lib.hid hf3
      have hz3 := hb3.size
      have hB3 := bthen hbw hb3
      have hlw : w.heap.size < wr.heap.size := by omega
      replace f0 := (cellB hb3 (by omega)).trans f0
      replace f1 := (cellB hb3 (by omega)).trans f1
      replace f2 := (frozenB hb3 (by omega)).trans f2
      replace f3 := (frozenB hb3 (by omega)).trans f3
      have HZ0 := Lib.hid (fun (x y : Value) => res2_0 (x := x) (y := y) f0)
      have HZ1 := Lib.hid (fun (x y : Value) => res2_1 (x := x) (y := y) f1)
      clear hf3 hR
      go_wp2_with fail
      refine bodyPost_ret (v := .tuple #[.agg #[.int .i64 (an : Int), .slice a3 R.length c3], .int .i64 0]) (by simp [results, Tryz.results38, go_sem, HZ0.out, HZ1.out]) rfl ⟨[.int .i64 (an : Int), .slice a3 R.length c3], by rw [HR.out.2], ?_, res2_b hB3 (by omega)⟩
      rw [← HV.out]
      exact (fr_set2 HF3.out hlw).mono (by omega)
end Go.Proofs.YtggelmbnliajeaaGreatDoor
namespace Go.Proofs.YtggelmbnliajeaaGreatDoor
open Go.RowKit Go.Maps Go.ChangeMaps Go.MapKept
theorem plainElem_bool_inv {H : Type} {P : Program} {e : TypeId} (he : P.underlying e = some .bool) {v : Value} {z : DataW H × List MemPlace} (h : plainElem P e v = some z) : ∃ a, v = .bool a ∧ z = (.lit (.bool a), []) := by
 unfold plainElem at h
 rw [he] at h
 cases v <;> simp at h
 exact ⟨_, rfl, h.symm⟩
/-- block b is a set of texts -/
def SeenM (P : Program) (k e : TypeId) (w : World) (b n : Nat) (Ks : List (List UInt8)) : Prop := ∃ D : DataW Unit, w.ownsMap P k (plainElem P e) b n D ∧ ∀ s : List UInt8, D.atKey (.string s) (.lit (.bool false)) = .lit (.bool (decide (s ∈ Ks)))
section
variable {P : Program} {k e : TypeId} {w w' : World} {b n : Nat} {Ks : List (List UInt8)}
theorem SeenM.made (w : World) : SeenM P k e (w.alloc (.map #[] 0)) w.heap.size 0 [] := ⟨_, World.ownsMap_made w P k _, fun s => by simp [DataW.atKey]⟩
theorem SeenM.lt (h : SeenM P k e w b n Ks) : b < w.heap.size := let ⟨_, h, _⟩ := h; h.lt
theorem SeenM.block (h : SeenM P k e w b n Ks) (hb : w'.heap[b]? = w.heap[b]?) : SeenM P k e w' b n Ks := by
 obtain ⟨D, ⟨es, clock, h1, h2, h3, h4⟩, h5⟩ := h
 exact ⟨D, ⟨es, clock, hb.trans h1, h2, h3, h4⟩, h5⟩
theorem SeenM.mono (h : SeenM P k e w b n Ks) {n' : Nat} (hn : n ≤ n') : SeenM P k e w b n' Ks := let ⟨D, h1, h2⟩ := h; ⟨D, h1.mono hn, h2⟩
theorem SeenM.look (h : SeenM P k e w b n Ks) (hk : P.underlying k = some .string) {t : TypeId} (ht : P.underlying t = some (.map k e)) (he : P.underlying e = some .bool) (hz : (zeroValue e).run P w = .ok (.bool false) w) {s : List UInt8} (hs : s.length ≤ 1000000) :
  (Instr.lookup t (.map (some b)) (.string ⟨s.toArray⟩) false).run P w = .ok (.bool (decide (s ∈ Ks))) w := by
 obtain ⟨D, h1, h2⟩ := h
 have hkey := WideMaps.keyOf_string_mk (P := P) (k := k) hk (s := ⟨s.toArray⟩) (by show s.toArray.size ≤ _; unfold maxLen; simp; omega)
 obtain ⟨v, ps, hrun, hv⟩ := h1.lookup (string_keyed hk) ht hz (plainElem_bool he false) hkey
 obtain ⟨c, rfl, hc⟩ := plainElem_bool_inv he hv
 simp only [Prod.mk.injEq] at hc
 have h3 := h2 s
 rw [show (.string s : Lit) = .string (⟨s.toArray⟩ : ByteArray).data.toList from rfl, hc.1] at h3
 simp only [DataW.lit.injEq, Lit.bool.injEq] at h3
 rw [hrun, h3]
theorem SeenM.put (h : SeenM P k e w b n Ks) (hk : P.underlying k = some .string) {t : TypeId} (ht : P.underlying t = some (.map k e)) (he : P.underlying e = some .bool) {s : List UInt8} (hs : s.length ≤ 1000000) (hn : n ≤ 1000000000) :
  ∃ w', (Instr.mapUpdate t (.map (some b)) (.string ⟨s.toArray⟩) (.bool true)).run P w = .ok () w' ∧ SeenM P k e w' b (n + 1) (s :: Ks) ∧ w.grownBy w' (some b) ∧ w'.heap.size = w.heap.size := by
 obtain ⟨D, h1, h2⟩ := h
 have hkey := WideMaps.keyOf_string_mk (P := P) (k := k) hk (s := ⟨s.toArray⟩) (by show s.toArray.size ≤ _; unfold maxLen; simp; omega)
 obtain ⟨w', hrun, h3, h4⟩ := h1.store (string_keyed hk) ht (by unfold maxLen; omega) hkey (plainElem_bool he true)
 refine ⟨w', hrun, ⟨_, h3, fun u => ?_⟩, h4.grown, ?_⟩
 ·by_cases e1 : u = s
  ·subst e1
   rw [show (.string u : Lit) = .string (⟨u.toArray⟩ : ByteArray).data.toList from rfl, atKey_put_same h1.isMap ((string_keyed hk).key hkey)]
   simp
  ·rw [atKey_put_other (fun e2 => e1 (by simpa using e2)), h2 u]
   simp [e1]
 ·obtain ⟨_, _, _, _, _, rfl⟩ := h4
  simp [setBlock]
end
end Go.Proofs.YtggelmbnliajeaaGreatDoor
namespace Go.Proofs.YtggelmbnliajeaaGreatDoor
open Go.RowKit Go.Sort
/-- the indices with one more, at a place -/
def insAt (rest : List Int) (p : Nat) (x : Int) : List Int := rest.take p ++ x :: rest.drop p
theorem insAt_len {rest : List Int} {p : Nat} {x : Int} : (insAt rest p x).length = rest.length + 1 := by
 unfold insAt
 simp only [List.length_append, List.length_cons, List.length_take, List.length_drop]
 omega
theorem insAt_mem {rest : List Int} {p : Nat} {x a : Int} (h : a ∈ insAt rest p x) : a = x ∨ a ∈ rest := by
 unfold insAt at h
 rcases List.mem_append.1 h with h | h
 ·exact .inr (List.mem_of_mem_take h)
 ·rcases List.mem_cons.1 h with h | h
  ·exact .inl h
  ·exact .inr (List.mem_of_mem_drop h)
/-- the lists at indices -/
def pickL (L : List (List Int)) (ks : List Int) : List (List Int) := ks.map fun k => L.getD k.toNat []
theorem pickL_len {L : List (List Int)} {ks : List Int} : (pickL L ks).length = ks.length := by simp [pickL]
theorem pickL_in {L : List (List Int)} {ks : List Int} (h : ∀ k ∈ ks, 0 ≤ k ∧ k < (L.length : Int)) : ∀ l ∈ pickL L ks, l ∈ L := fun l hl => by
 obtain ⟨k, hk, rfl⟩ := List.mem_map.1 hl
 have := h k hk
 have hkl : k.toNat < L.length := by omega
 rw [List.getD_eq_getElem?_getD, List.getElem?_eq_getElem hkl]
 exact List.getElem_mem hkl
/-- a list of lists of which one is the last: what indices it has, parted at the first place of the last one -/
theorem pick_ex {L : List (List Int)} (h0 : 0 < L.length) : ∀ {ts : List (List Int)}, (∀ l ∈ ts, l ∈ L) → L[L.length - 1]'(by omega) ∈ ts →
  ∃ (rest : List Int) (p : Nat), p ≤ rest.length ∧ rest.length + 1 = ts.length ∧ (∀ k ∈ rest, 0 ≤ k ∧ k ≤ (L.length : Int) - 1) ∧ ((L.length : Int) - 1) ∉ rest.take p ∧ pickL L (insAt rest p ((L.length : Int) - 1)) = ts
 | [], _, hm => by cases hm
 | t :: ts, hall, hm => by
  have hone : ∀ {us : List (List Int)}, (∀ l ∈ us, l ∈ L) → ∃ ks : List Int, ks.length = us.length ∧ (∀ k ∈ ks, 0 ≤ k ∧ k ≤ (L.length : Int) - 1) ∧ pickL L ks = us := fun {us} hus => by
   induction us with
   | nil => exact ⟨[], rfl, fun k hk => (by cases hk), rfl⟩
   | cons u us ih =>
    obtain ⟨ks, h1, h2, h3⟩ := ih (fun l hl => hus l (List.mem_cons_of_mem _ hl))
    obtain ⟨i, hi, e⟩ := List.mem_iff_getElem.1 (hus u (List.mem_cons_self ..))
    refine ⟨(i : Int) :: ks, by simp [h1], fun k hk => ?_, ?_⟩
    ·rcases List.mem_cons.1 hk with rfl | hk
     ·omega
     ·exact h2 k hk
    ·show L.getD ((i : Int)).toNat [] :: pickL L ks = u :: us
     rw [h3, Int.toNat_natCast, List.getD_eq_getElem?_getD, List.getElem?_eq_getElem hi, ← e]
     rfl
  by_cases e : t = L[L.length - 1]'(by omega)
  ·obtain ⟨ks, h1, h2, h3⟩ := hone (us := ts) (fun l hl => hall l (List.mem_cons_of_mem _ hl))
   refine ⟨ks, 0, Nat.zero_le _, by simp [h1], h2, by simp, ?_⟩
   show L.getD (((L.length : Int) - 1)).toNat [] :: pickL L (ks.drop 0) = t :: ts
   rw [List.drop_zero, h3, e, show (((L.length : Int) - 1)).toNat = L.length - 1 by omega, List.getD_eq_getElem?_getD, List.getElem?_eq_getElem (by omega)]
   rfl
  ·have hm' : L[L.length - 1]'(by omega) ∈ ts := by
    rcases List.mem_cons.1 hm with h | h
    ·exact absurd h.symm e
    ·exact h
   obtain ⟨rest, p, g1, g2, g3, g4, g5⟩ := pick_ex h0 (fun l hl => hall l (List.mem_cons_of_mem _ hl)) hm'
   obtain ⟨i, hi, ei⟩ := List.mem_iff_getElem.1 (hall t (List.mem_cons_self ..))
   have hne : (i : Int) ≠ (L.length : Int) - 1 := fun h => e (by
    have : i = L.length - 1 := by omega
    subst this
    exact ei.symm)
   refine ⟨(i : Int) :: rest, p + 1, by simp; omega, by simp; omega, fun k hk => ?_, fun hk => ?_, ?_⟩
   ·rcases List.mem_cons.1 hk with rfl | hk
    ·omega
    ·exact g3 k hk
   ·rw [List.take_succ_cons] at hk
    rcases List.mem_cons.1 hk with h | h
    ·exact hne h.symm
    ·exact g4 h
   ·show pickL L ((i : Int) :: insAt rest p ((L.length : Int) - 1)) = t :: ts
    show L.getD ((i : Int)).toNat [] :: pickL L (insAt rest p ((L.length : Int) - 1)) = t :: ts
    rw [g5, Int.toNat_natCast, List.getD_eq_getElem?_getD, List.getElem?_eq_getElem hi, ← ei]
    rfl
/-- what the operation has put in, as far as place p and index i -/
def CmbTo (s : Int) (f : Int × List Int) (ar : Nat) (L A : List (List Int)) (p i : Nat) : Prop :=
 ∀ (q j : Nat), q < f.1.toNat → (j : Int) < (L.length : Int) ^ (f.1.toNat - 1) → (q < p ∨ (q = p ∧ j < i)) → ((L.length : Int) - 1) ∉ (digL L.length j (f.1.toNat - 1)).take q → madeL s f.2 (pickL L (insAt (digL L.length j (f.1.toNat - 1)) q ((L.length : Int) - 1))) ar ∈ A
theorem cmb_zero {s : Int} {f : Int × List Int} {ar : Nat} {L A : List (List Int)} : CmbTo s f ar L A 0 0 := fun q j _ _ h _ => by omega
theorem cmb_skip {s : Int} {f : Int × List Int} {ar : Nat} {L A : List (List Int)} {p i : Nat} (h : CmbTo s f ar L A p i) (hs : ((L.length : Int) - 1) ∈ (digL L.length i (f.1.toNat - 1)).take p) : CmbTo s f ar L A p (i + 1) := fun q j h1 h2 h3 h4 => by
 rcases h3 with h3 | ⟨rfl, h3⟩
 ·exact h q j h1 h2 (.inl h3) h4
 ·by_cases e : j = i
  ·subst e; exact absurd hs h4
  ·exact h q j h1 h2 (.inr ⟨rfl, by omega⟩) h4
theorem cmb_put {s : Int} {f : Int × List Int} {ar : Nat} {L A A' : List (List Int)} {p i : Nat} (h : CmbTo s f ar L A p i) (hs : ∀ l ∈ A, l ∈ A') (hm : madeL s f.2 (pickL L (insAt (digL L.length i (f.1.toNat - 1)) p ((L.length : Int) - 1))) ar ∈ A') : CmbTo s f ar L A' p (i + 1) := fun q j h1 h2 h3 h4 => by
 rcases h3 with h3 | ⟨rfl, h3⟩
 ·exact hs _ (h q j h1 h2 (.inl h3) h4)
 ·by_cases e : j = i
  ·subst e; exact hm
  ·exact hs _ (h q j h1 h2 (.inr ⟨rfl, by omega⟩) h4)
theorem cmb_next {s : Int} {f : Int × List Int} {ar : Nat} {L A : List (List Int)} {p M : Nat} (h : CmbTo s f ar L A p M) (hM : (L.length : Int) ^ (f.1.toNat - 1) = M) : CmbTo s f ar L A (p + 1) 0 := fun q j h1 h2 h3 h4 => by
 rcases h3 with h3 | ⟨_, h3⟩
 ·refine h q j h1 h2 ?_ h4
  by_cases e : q = p
  ·exact .inr ⟨e, by omega⟩
  ·exact .inl (by omega)
 ·exact absurd h3 (Nat.not_lt_zero _)
/-- all that an operation makes of lists of which one at least is the last is there -/
def CmbP (s : Int) (f : Int × List Int) (ar : Nat) (L A : List (List Int)) : Prop := ∀ h0 : 0 < L.length, ∀ ts : List (List Int), (ts.length : Int) = f.1 → (∀ l ∈ ts, l ∈ L) → L[L.length - 1]'(by omega) ∈ ts → madeL s f.2 ts ar ∈ A
theorem cmb_end {s : Int} {f : Int × List Int} {ar : Nat} {L A : List (List Int)} (hf : 1 ≤ f.1) (h : CmbTo s f ar L A f.1.toNat 0) : CmbP s f ar L A := fun h0 ts hl hall hm => by
 obtain ⟨rest, p, g1, g2, g3, g4, rfl⟩ := pick_ex h0 hall hm
 have hrl : rest.length = f.1.toNat - 1 := by omega
 have hb := idx_lt (s := L.length) (by omega) hrl g3
 have e := dig_of (s := L.length) (by omega) hrl g3
 have h1 := h p (idxL L.length 0 rest).toNat (by omega) (by omega) (.inl (by omega))
 rw [show (((idxL L.length 0 rest).toNat : Nat) : Int) = idxL L.length 0 rest by omega, e] at h1
 exact h1 g4
theorem cmbP_more {s : Int} {f : Int × List Int} {ar : Nat} {L A A' : List (List Int)} (h : CmbP s f ar L A) (hs : ∀ l ∈ A, l ∈ A') : CmbP s f ar L A' := fun h0 ts h1 h2 h3 => hs _ (h h0 ts h1 h2 h3)
/-- what the loop knows: the lists are told apart, are of the closure, hold what was there, and what the first ones make -/
structure ClI (s : Int) (ops : List (Int × List Int)) (ar : Nat) (T A : List (List Int)) : Prop where
 nd : A.Nodup
 clo : ∀ l ∈ A, Clo s ops ar T l
 sub : ∀ l ∈ T, l ∈ A
def DoneTo (s : Int) (ops : List (Int × List Int)) (ar : Nat) (A : List (List Int)) (d : Nat) : Prop := ∀ e, e < d → ∀ f ∈ ops, CmbP s f ar (A.take (e + 1)) A
theorem done_zero {s : Int} {ops : List (Int × List Int)} {ar : Nat} {A : List (List Int)} : DoneTo s ops ar A 0 := fun _ h => absurd h (Nat.not_lt_zero _)
theorem take_pre {A A' : List (List Int)} (h : A <+: A') {k : Nat} (hk : k ≤ A.length) : A'.take k = A.take k := by
 obtain ⟨B, rfl⟩ := h
 exact List.take_append_of_le_length hk
theorem done_more {s : Int} {ops : List (Int × List Int)} {ar : Nat} {A A' : List (List Int)} {d : Nat} (h : DoneTo s ops ar A d) (hp : A <+: A') (hd : d ≤ A.length) : DoneTo s ops ar A' d := fun e he f hf => by
 rw [take_pre hp (by omega)]
 exact cmbP_more (h e he f hf) (fun l hl => hp.subset hl)
theorem done_succ {s : Int} {ops : List (Int × List Int)} {ar : Nat} {A : List (List Int)} {d : Nat} (h : DoneTo s ops ar A d) (h' : ∀ f ∈ ops, CmbP s f ar (A.take (d + 1)) A) : DoneTo s ops ar A (d + 1) := fun e he => by
 by_cases ee : e = d
 ·subst ee; exact h'
 ·exact h e (by omega)
/-- a list of lists of A lies in a first part of it, and holds that part's last -/
theorem last_ex {A : List (List Int)} : ∀ {ts : List (List Int)}, ts ≠ [] → (∀ l ∈ ts, l ∈ A) → ∃ (d : Nat) (h : d < A.length), (∀ l ∈ ts, l ∈ A.take (d + 1)) ∧ A[d] ∈ ts
 | [], h, _ => absurd rfl h
 | [t], _, hall => by
  obtain ⟨i, hi, e⟩ := List.mem_iff_getElem.1 (hall t (List.mem_cons_self ..))
  refine ⟨i, hi, fun l hl => ?_, by rw [e]; exact List.mem_cons_self ..⟩
  rw [List.mem_singleton.1 hl, ← e]
  exact List.mem_take_iff_getElem.2 ⟨i, by omega, rfl⟩
 | t :: u :: ts, _, hall => by
  obtain ⟨d, hd, h1, h2⟩ := last_ex (A := A) (ts := u :: ts) (by simp) (fun l hl => hall l (List.mem_cons_of_mem _ hl))
  obtain ⟨i, hi, e⟩ := List.mem_iff_getElem.1 (hall t (List.mem_cons_self ..))
  rcases Nat.lt_or_ge d i with hlt | hge
  ·refine ⟨i, hi, fun l hl => ?_, by rw [e]; exact List.mem_cons_self ..⟩
   rcases List.mem_cons.1 hl with rfl | hl
   ·rw [← e]
    exact List.mem_take_iff_getElem.2 ⟨i, by omega, rfl⟩
   ·obtain ⟨j, hj, ej⟩ := List.mem_take_iff_getElem.1 (h1 l hl)
    exact List.mem_take_iff_getElem.2 ⟨j, by omega, ej⟩
  ·refine ⟨d, hd, fun l hl => ?_, List.mem_cons_of_mem _ h2⟩
   rcases List.mem_cons.1 hl with rfl | hl
   ·rw [← e]
    exact List.mem_take_iff_getElem.2 ⟨i, by omega, rfl⟩
   ·exact h1 l hl
/-- at the end all is closed -/
theorem done_end {s : Int} {ops : List (Int × List Int)} {ar : Nat} {T A : List (List Int)} (ho : ∀ f ∈ ops, opOk s f) (hI : ClI s ops ar T A) (h : DoneTo s ops ar A A.length) {l : List Int} : l ∈ A ↔ Clo s ops ar T l := by
 refine clo_closed ho hI.sub hI.clo fun f hf => (keeps_iff (ho f hf).2.1.1).2 fun ts hl hts => ?_
 have h1 := (ho f hf).2.1.1
 have hne : ts ≠ [] := fun e => by subst e; simp at hl; omega
 obtain ⟨d, hd, g1, g2⟩ := last_ex hne hts
 have hlen : (A.take (d + 1)).length = d + 1 := by rw [List.length_take]; omega
 refine h d hd f hf (by rw [hlen]; omega) ts hl g1 ?_
 have : (A.take (d + 1))[(A.take (d + 1)).length - 1]'(by rw [hlen]; omega) = A[d] := by
  rw [List.getElem_take]
  congr 1
  rw [hlen]
  omega
 rw [this]
 exact g2
theorem cli_add {s : Int} {ops : List (Int × List Int)} {ar : Nat} {T A : List (List Int)} (h : ClI s ops ar T A) {l : List Int} (hl : l ∉ A) (hc : Clo s ops ar T l) : ClI s ops ar T (A ++ [l]) where
 nd := List.nodup_append.2 ⟨h.nd, by simp, fun a ha b hb e => by rw [List.mem_singleton.1 hb] at e; subst e; exact hl ha⟩
 clo := fun x hx => by
  rcases List.mem_append.1 hx with hx | hx
  ·exact h.clo x hx
  ·rw [List.mem_singleton.1 hx]; exact hc
 sub := fun x hx => List.mem_append_left _ (h.sub x hx)
end Go.Proofs.YtggelmbnliajeaaGreatDoor
namespace Go.Proofs
open Go.Shelf
def Tryz.lays173_ren : Go.Shelf.Ren := ⟨fun | 173 => 152 | 246 => 161 | 283 => 164 | 284 => 165 | 285 => 166 | 286 => 167 | 129 => 150 | 317 => 169 | 318 => 170 | 319 => 171 | 320 => 172 | 337 => 173 | 338 => 174 | n => n, fun | 2 => 2 | 3 => 3 | 9 => 9 | 4 => 4 | 171 => 180 | 0 => 0 | 53 => 134 | 37 => 39 | 5 => 5 | 173 => 182 | 212 => 186 | 51 => 165 | 20 => 20 | 213 => 187 | 46 => 148 | 232 => 189 | 233 => 190 | n => n, fun | 17 => 0 | 18 => 1 | 19 => 2 | n => n⟩
theorem Tryz.lays173 : Go.Proofs.Lays.n173 Tryz.prog Tryz.lays173_ren := {
 mixed := by kernel_rfl
 f129 := Tryz.func150.trans (congrArg some (by kernel_rfl))
 f173 := Tryz.func152.trans (congrArg some (by kernel_rfl))
 f246 := Tryz.func161.trans (congrArg some (by kernel_rfl))
 f283 := Tryz.func164.trans (congrArg some (by kernel_rfl))
 f284 := Tryz.func165.trans (congrArg some (by kernel_rfl))
 f285 := Tryz.func166.trans (congrArg some (by kernel_rfl))
 f286 := Tryz.func167.trans (congrArg some (by kernel_rfl))
 f317 := Tryz.func169.trans (congrArg some (by kernel_rfl))
 f318 := Tryz.func170.trans (congrArg some (by kernel_rfl))
 f319 := Tryz.func171.trans (congrArg some (by kernel_rfl))
 f320 := Tryz.func172.trans (congrArg some (by kernel_rfl))
 f337 := Tryz.func173.trans (congrArg some (by kernel_rfl))
 f338 := Tryz.func174.trans (congrArg some (by kernel_rfl))
 t0 := Tryz.underlying0
 a0 := Tryz.isAgg0
 z0 := Tryz.sizeOf0
 v0 := Tryz.zeroValue0
 t2 := Tryz.underlying2
 a2 := Tryz.isAgg2
 z2 := Tryz.sizeOf2
 v2 := Tryz.zeroValue2
 t3 := Tryz.underlying3
 a3 := Tryz.isAgg3
 z3 := Tryz.sizeOf3
 v3 := Tryz.zeroValue3
 t4 := Tryz.underlying4
 a4 := Tryz.isAgg4
 z4 := Tryz.sizeOf4
 v4 := Tryz.zeroValue4
 t5 := Tryz.underlying5
 a5 := Tryz.isAgg5
 z5 := Tryz.sizeOf5
 v5 := Tryz.zeroValue5
 t9 := Tryz.underlying9
 a9 := Tryz.isAgg9
 z9 := Tryz.sizeOf9
 v9 := Tryz.zeroValue9
 t20 := Tryz.underlying20
 a20 := Tryz.isAgg20
 z20 := Tryz.sizeOf20
 v20 := Tryz.zeroValue20
 t37 := Tryz.underlying39
 a37 := Tryz.isAgg39
 z37 := Tryz.sizeOf39
 v37 := Tryz.zeroValue39
 t46 := Tryz.underlying148
 a46 := Tryz.isAgg148
 z46 := Tryz.sizeOf148
 v46 := Tryz.zeroValue148
 t51 := Tryz.underlying165
 a51 := Tryz.isAgg165
 z51 := Tryz.sizeOf165
 v51 := Tryz.zeroValue165
 t53 := Tryz.underlying134
 a53 := Tryz.isAgg134
 z53 := Tryz.sizeOf134
 v53 := Tryz.zeroValue134
 t171 := Tryz.underlying180
 a171 := Tryz.isAgg180
 z171 := Tryz.sizeOf180
 v171 := Tryz.zeroValue180
 t173 := Tryz.underlying182
 a173 := Tryz.isAgg182
 z173 := Tryz.sizeOf182
 v173 := Tryz.zeroValue182
 t212 := Tryz.underlying186
 a212 := Tryz.isAgg186
 z212 := Tryz.sizeOf186
 v212 := Tryz.zeroValue186
 t213 := Tryz.underlying187
 a213 := Tryz.isAgg187
 z213 := Tryz.sizeOf187
 t232 := Tryz.underlying189
 a232 := Tryz.isAgg189
 z232 := Tryz.sizeOf189
 v232 := Tryz.zeroValue189
 t233 := Tryz.underlying190
 a233 := Tryz.isAgg190
 z233 := Tryz.sizeOf190
 v233 := Tryz.zeroValue190
 g17 := by kernel_rfl
 g18 := by kernel_rfl
 g19 := by kernel_rfl }
open Go.RowKit Go.Sort Go.Lib in
/-- THE ROAD WITHOUT THE TABLE: 0 <= i < 100. (LAID: no walk: one application.) -/
theorem Tryz.strconv_FormatInt_10_small (i : Nat) (hi : i < 100) (w : World) :
  Calls Tryz.prog 152 #[.int .i64 i, .int .i64 10] w fun e w' => e = .returned (.string ⟨(Lib.decDigits i).toArray⟩) ∧ w' = w := Any.strconv_FormatInt_10_small Tryz.lays173 i hi w
end Go.Proofs
namespace Go.Proofs.YtggelmbnliajeaaGreatDoor
open Go.RowKit Go.Sort
/-- bytes joined, behind a name -/
def cat (a b : List UInt8) : List UInt8 := a ++ b
theorem cat_len {a b : List UInt8} : (cat a b).length = a.length + b.length := List.length_append
theorem add_cat {P : Program} (w : World) (a b : List UInt8) (h : a.length + b.length ≤ 1000000000) : (Op.stringOp .add ⟨a.toArray⟩ ⟨b.toArray⟩).run P w = .ok (.string ⟨(cat a b).toArray⟩) w := by
 have h1 : (ByteArray.mk a.toArray).size = a.length := by show a.toArray.size = _; simp
 have h2 : (ByteArray.mk b.toArray).size = b.length := by show b.toArray.size = _; simp
 rw [run_string_add_sum w _ _ (by rw [h1, h2]; omega), ByteArray.mk_append_mk]
 simp [cat]
/-- a number's digits -/
def decB (n : Int) : List UInt8 := Lib.decDigits n.toNat
theorem dec_one {n : Int} (h0 : 0 ≤ n) (h1 : n < 10) : decB n = [UInt8.ofNat (48 + n.toNat)] := Lib.decDigits_one (by omega)
theorem dec_two {n : Int} (h0 : 10 ≤ n) (h1 : n < 100) : decB n = cat (decB (n / 10)) [UInt8.ofNat (48 + (n % 10).toNat)] := by
 unfold decB cat
 rw [Lib.decDigits, dif_neg (by omega), show (n / 10).toNat = n.toNat / 10 by omega, show (n % 10).toNat = n.toNat % 10 by omega]
theorem dec_len {n : Int} (h1 : n < 100) : 1 ≤ (decB n).length ∧ (decB n).length ≤ 2 := by
 by_cases h : n < 10
 ·unfold decB; rw [Lib.decDigits_one (by omega)]; simp
 ·rw [dec_two (by omega) h1, cat_len, dec_one (by omega) (by omega)]; simp
/-- a text, and behind it each one's part -/
def catL {α : Type} (f : α → List UInt8) (hd : List UInt8) (xs : List α) : List UInt8 := hd ++ (xs.map f).flatten
section
variable {α : Type} {f : α → List UInt8} {hd : List UInt8} {xs : List α}
theorem catL_succ {k : Nat} (h : k < xs.length) : catL f hd (xs.take (k + 1)) = cat (catL f hd (xs.take k)) (f xs[k]) := by
 unfold catL cat
 rw [List.take_succ_eq_append_getElem h, List.map_append, List.flatten_append]
 simp only [List.map_cons, List.map_nil, List.flatten_cons, List.flatten_nil, List.append_nil, List.append_assoc]
theorem flatB_len {B : Nat} : ∀ {ys : List α}, (∀ x ∈ ys, (f x).length ≤ B) → ((ys.map f).flatten).length ≤ ys.length * B
 | [], _ => by simp
 | y :: ys, hB => by
  have h1 := hB y (List.mem_cons_self ..)
  have h2 := flatB_len fun z hz => hB z (List.mem_cons_of_mem _ hz)
  simp only [List.map_cons, List.flatten_cons, List.length_append, List.length_cons, Nat.succ_mul]
  omega
theorem catL_len {B : Nat} (hB : ∀ x ∈ xs, (f x).length ≤ B) : (catL f hd xs).length ≤ hd.length + xs.length * B := by
 unfold catL
 rw [List.length_append]
 have := flatB_len hB
 omega
end
theorem dec_any (w : World) {n : Int} (h0 : 0 ≤ n) (h1 : n < 100) : Calls Tryz.prog 138 #[.int .i64 n] w fun e w' => e = .returned (.string ⟨(decB n).toArray⟩) ∧ w = w' := by
 obtain ⟨k, rfl⟩ : ∃ k : Nat, n = k := ⟨n.toNat, by omega⟩
 have HK : Hid (Lib.decDigits k = decB k) := rfl
 go_enter Tryz.func138, Tryz.ntmps138
 go_wp2_with (go_at_call 152; refine (Tryz.strconv_FormatInt_10_small k (by omega) _).mono ?_; rintro e w' ⟨rfl, rfl⟩)
 go_ret
 exact ⟨by rw [HK.out]; rfl, rfl⟩
theorem digits_any (w : World) {v : Value} {xs : List Int} (h : intsT.Rd w [v] xs) (hx : ∀ a ∈ xs, 0 ≤ a ∧ a < 100) (hl : xs.length ≤ 1000) :
  Calls Tryz.prog 107 #[v] w fun e w' => e = .returned (.string ⟨(catL decB [] xs).toArray⟩) ∧ w = w' := by
 obtain ⟨ad, cap, hv, -, -, hc⟩ := ints_ex h
 obtain rfl : v = _ := by simpa using hv
 clear h hv
 go_enter Tryz.func107, Tryz.ntmps107
 go_wp2_with fail
 go_loopw [3, 8] (fun c i wr => ∃ k : Nat, k ≤ xs.length ∧ i = .int .i64 k ∧ c = .string ⟨(catL decB [] (xs.take k)).toArray⟩ ∧ wr = w) (fun _ i _ => xs.length - (intOf i).toNat)
 case atStart => exact ⟨0, Nat.zero_le _, rfl, by simp [catL], rfl⟩
 case round =>
  obtain ⟨k, hk, rfl, rfl, rfl⟩ := hrel
  by_cases hkl : k < xs.length
  ·obtain ⟨b, o, rfl, hb, hce⟩ := hc (by omega)
   obtain ⟨hI, hck⟩ := hce k hkl
   have hin := hx _ (List.getElem_mem hkl)
   have HS := Lib.hid (catL_succ (f := decB) (hd := []) hkl)
   have hlen := catL_len (f := decB) (hd := []) (xs := xs.take k) (B := 2) fun y hy => (dec_len (hx y (List.mem_of_mem_take hy)).2).2
   have hl1 := dec_len hin.2
   rw [List.length_take] at hlen
   generalize hz : xs[k] = z at *
   have hlen' : (catL decB [] (xs.take k)).length ≤ 10000 := by simp at hlen; omega
   generalize catL decB [] (xs.take k) = C at *
   have hadd : ∀ W : World, (Op.stringOp .add ⟨C.toArray⟩ ⟨(decB z).toArray⟩).run Tryz.prog W = .ok (.string ⟨(cat C (decB z)).toArray⟩) W := fun W => add_cat W _ _ (by omega)
   clear hz hlen hlen' hl1 hce
   go_wp2_with (go_at_call 138; refine (dec_any _ hin.1 hin.2).mono ?_; rintro e w' ⟨rfl, rfl⟩)
   go_roundw
   case rel => exact ⟨k + 1, by omega, by go_num, by rw [HS.out], trivial⟩
   case measure => simp [intOf]; omega
  ·obtain rfl : k = xs.length := by omega
   have HF : Hid (xs.take xs.length = xs) := List.take_length
   go_wp2_with fail
   go_ret
   exact ⟨by rw [HF.out]; rfl, rfl⟩
end Go.Proofs.YtggelmbnliajeaaGreatDoor
namespace Go.Proofs.YtggelmbnliajeaaGreatDoor
open Go.RowKit
theorem run_push_new {P : Program} (w : World) (base t ty e : Nat) {sz bytes : Nat} (hT : ElT P t e sz bytes) (v : Value) (n : Nat) (xs : List Value) (hown : w.ownsRow base e sz v n xs)
  (a : Addr) (m c : Nat) (news : List Value) (hl : news.length = m * sz) (hnews : ∀ j u, news[j]? = some u → w.cell? (a.add j) = some u) (h1 : ∀ u ∈ news, u.oneCell' = true)
  (h63 : n + m ≤ maxLen) (hbytes : (n + m) * bytes ≤ 140737488355328) (hm : 0 < m) (v' : Value) (w' : World)
  (hr : (Builtin.append_ #[t, t] ty #[v, .slice (some a) m c]).run P w = .ok v' w') : v'.ownBlock = v.ownBlock ∨ (v'.ownBlock = some w.heap.size ∧ Below w.heap.size w w') := by
 obtain ⟨i, z, ht, hi, hz, rfl, rfl, hzs, hp⟩ := hT
 have hsmall : n + m ≤ 9223372036854775807 := by simp only [maxLen] at h63; omega
 rcases hown.2 with ⟨rfl, rfl⟩ | ⟨g, cap, cur, rfl, hbg, hg, hnc, hcm, hcs, htake⟩
 ·rw [run_append_nil (P := P) w t ty e i z ht hi hz a m c news hl hnews hm (by omega) (by have hb := hbytes; simp only [Nat.zero_add] at hb; omega)] at hr
  simp only [Result.ok.injEq] at hr
  rw [← hr.1, ← hr.2]
  exact .inr ⟨rfl, bD.alloc (by simp) _⟩
 ·by_cases hroom : n + m ≤ cap
  ·have hfit : n * i.size + news.length ≤ cur.size := by rw [hl, hcs, ← Nat.add_mul]; exact Nat.mul_le_mul_right _ hroom
   rw [run_append_room (P := P) w t ty e i ht hi g n cap cur hg a m c news hl hnews h1 hroom hfit] at hr
   simp only [Result.ok.injEq] at hr
   rw [← hr.1]
   exact .inl rfl
  ·have holds : ∀ j u, xs[j]? = some u → w.cell? ((⟨g, 0, none⟩ : Addr).add j) = some u := hown.cells (g := g) rfl
   rw [run_append_grow (P := P) w t ty e i z ht hi hz ⟨g, 0, none⟩ n cap xs hown.1 holds a m c news hl hnews (by omega) (by omega) (growslice_fits (by omega) hbytes)] at hr
   simp only [Result.ok.injEq] at hr
   rw [← hr.1, ← hr.2]
   exact .inr ⟨rfl, bD.alloc (by simp) _⟩
/-- cells stay: those of other blocks, and those of the row's first elements -/
def KeepC (v : Value) (n : Nat) (w w' : World) : Prop := ∀ g j, g < w.heap.size → (v.ownBlock = some g → j < n) → w'.cell? ⟨g, j, none⟩ = w.cell? ⟨g, j, none⟩
theorem keep_push {w w' : World} {base e n m : Nat} {v v' : Value} {xs ys : List Value} (h : w.ownsRow base e 1 v n xs) (h' : w'.ownsRow base e 1 v' m (xs ++ ys)) (hg : w.grownBy w' v.ownBlock) (hb : v'.ownBlock = v.ownBlock ∨ (v'.ownBlock = some w.heap.size ∧ Below w.heap.size w w')) : KeepC v n w w' := by
 intro g j hgl hj
 rcases hb with hb | ⟨_, hb⟩
 ·by_cases ho : v.ownBlock = some g
  ·have hjn := hj ho
   have hxl : xs.length = n := by have := h.1; omega
   have e1 : w.cell? ⟨g, j, none⟩ = xs[j]? := by
    rcases h.2 with ⟨rfl, _⟩ | ⟨g', cap, cur, rfl, _⟩
    ·cases ho
    ·obtain rfl : g' = g := by simpa [Value.ownBlock] using ho
     exact World.ownsRow.cellAt h j (by omega)
   have e2 : w'.cell? ⟨g, j, none⟩ = (xs ++ ys)[j]? := by
    have ho' := hb.trans ho
    have hml : (xs ++ ys).length = m * 1 := h'.1
    rcases h'.2 with ⟨rfl, _⟩ | ⟨g', cap, cur, rfl, _⟩
    ·cases ho'
    ·obtain rfl : g' = g := by simpa [Value.ownBlock] using ho'
     exact World.ownsRow.cellAt h' j (by rw [List.length_append] at hml; omega)
   rw [e1, e2, List.getElem?_append_left (by omega)]
  ·exact World.cell?_of_block (a := ⟨g, j, none⟩) (hg.block g hgl fun he => ho he.symm)
 ·exact hb.cell (p := ⟨g, j, none⟩) hgl
theorem KeepC.refl (v : Value) (n : Nat) (w : World) : KeepC v n w w := fun _ _ _ _ => rfl
theorem bl_val_own {e base top : Nat} {w : World} {v : Value} {ys : List Value} (h : Bl Ty.val e base top w v ys) : w.ownsRow base e 1 v ys.length ys ∧ (∀ u ∈ ys, u.oneCell' = true) ∧ ∀ g, v.ownBlock = some g → g < top := by
 obtain ⟨L, fps, h1, h2, -, -, h5, -⟩ := h
 have hl : L.length = ys.length := by have := h1.1; simpa [Ty.val] using this
 have he : ∀ i (hi : i < ys.length), L[i]? = some ys[i] ∧ (ys[i]).oneCell' = true := fun i hi => by
  obtain ⟨cs, ⟨rfl, h7, _⟩, h8⟩ := h2 i hi
  have := h8 0 (by simp)
  exact ⟨by simpa [Ty.val] using this, h7⟩
 obtain rfl : L = ys := List.ext_getElem hl fun i h h' => by
  have := (he i h').1
  rw [List.getElem?_eq_getElem h] at this
  simpa using this
 refine ⟨h1, fun u hu => ?_, h5⟩
 obtain ⟨i, hi, rfl⟩ := List.mem_iff_getElem.1 hu
 exact (he i hi).2
theorem bl_own_val {e base top : Nat} {w : World} {v : Value} {ys : List Value} (h : w.ownsRow base e 1 v ys.length ys) (h1 : ∀ u ∈ ys, u.oneCell' = true) (ht : ∀ g, v.ownBlock = some g → g < top) : Bl Ty.val e base top w v ys := by
 have hfl : flat (fun _ => []) ys.length = [] := List.eq_nil_iff_forall_not_mem.2 fun x hx => by obtain ⟨_, _, h⟩ := List.mem_flatMap.1 hx; cases h
 refine ⟨ys, fun _ => [], h, fun i hi => ⟨[ys[i]], ⟨rfl, h1 _ (List.getElem_mem hi), rfl⟩, fun j hj => ?_⟩, by rw [hfl]; exact List.nodup_nil, by rw [hfl]; simp, ht, by rw [hfl]; intro b hb; cases hb⟩
 obtain rfl : j = 0 := by simpa using hj
 simp [Ty.val, hi]
theorem run_pushV {P : Program} (w : World) (t ty e : TypeId) {bytes : Nat} (hT : ElT P t e 1 bytes)
  {base top : Nat} {v : Value} {ys : List Value} (hB : Bl Ty.val e base top w v ys)
  {ad : Addr} {c : Nat} {y : Value} (hnews : ∀ j u, [y][j]? = some u → w.cell? (ad.add j) = some u) (hy : y.oneCell' = true)
  (hlen : ys.length ≤ 1000000000) (hby : bytes ≤ 100000) (hbt : base ≤ top) (htop : top ≤ w.heap.size) :
  ∃ v' w', (Builtin.append_ #[t, t] ty #[v, .slice (some ad) 1 c]).run P w = .ok v' w' ∧ Bl Ty.val e base w'.heap.size w' v' (ys ++ [y]) ∧ w.grownBy w' v.ownBlock ∧ (v'.ownBlock = v.ownBlock ∨ v'.ownBlock = some w.heap.size) ∧ KeepC v ys.length w w' := by
 obtain ⟨g1, g2, g3⟩ := bl_val_own hB
 obtain ⟨i, z, ht, hi, hz, hsz, hbt', hzs, hp⟩ := id hT
 have hlen' : (ys.length + 1) * bytes ≤ 140737488355328 := Nat.le_trans (Nat.mul_le_mul (show ys.length + 1 ≤ 1000000001 by omega) hby) (by decide)
 have hbase : base ≤ w.heap.size := Nat.le_trans hbt htop
 have hone : ∀ u ∈ [y], u.oneCell' = true := fun u hu => by rw [List.mem_singleton.1 hu]; exact hy
 obtain ⟨v', w', hr, h2, h3, h4⟩ := run_append_own (P := P) w base t ty e i z 1 bytes ht hi hz hsz hbt' hzs hp v ys.length ys g1 ad 1 c [y] (by simp) hnews hone (by unfold maxLen; omega) hlen' hbase
 have hblk := run_push_new w base t ty e hT v ys.length ys g1 ad 1 c [y] (by simp) hnews hone (by unfold maxLen; omega) hlen' (by omega) v' w' hr
 have h2' : w'.ownsRow base e 1 v' (ys ++ [y]).length (ys ++ [y]) := by simpa using h2
 refine ⟨v', w', hr, bl_own_val h2' (fun u hu => ?_) (fun g hg => (h2.lt g hg).2), h3, hblk.imp id And.left, keep_push g1 h2 h3 hblk⟩
 rcases List.mem_append.1 hu with hu | hu
 ·exact g2 u hu
 ·exact hone u hu
theorem wpList_pushK {P : Program} (w : World) {ops : Array Oper} {rest : List Oper} {o : Oper} {a : Act} {Q : Exit → Act → World → Prop} (hgd : o.guard = none) (s x : Operand) (t e : TypeId) {bytes : Nat}
  (ho : o.op = .call { callee := .builtin .append, args := #[s, x], argTypes := #[t, t] }) (hT : ElT P t e 1 bytes)
  {base top : Nat} {v : Value} {ys : List Value} (hs : a.eval s = v) (hB : Bl Ty.val e base top w v ys)
  {ad : Addr} {c : Nat} {y : Value} (hx : a.eval x = .slice (some ad) 1 c) (hnews : ∀ j u, [y][j]? = some u → w.cell? (ad.add j) = some u) (hy : y.oneCell' = true)
  (hlen : ys.length ≤ 1000000000) (hby : bytes ≤ 100000) (hbt : base ≤ top) (htop : top ≤ w.heap.size)
  (h : ∀ v' w', Bl Ty.val e base w'.heap.size w' v' (ys ++ [y]) → w.grownBy w' v.ownBlock → (v'.ownBlock = v.ownBlock ∨ v'.ownBlock = some w.heap.size) → KeepC v ys.length w w' → wpList P ops Q rest (a.put o.dst v') w') : wpList P ops Q (o :: rest) a w := by
 refine wpList_plain hgd fun K hK => ?_
 obtain ⟨v', w', hr, g1, g2, g3, g4⟩ := run_pushV (P := P) w t o.type e hT hB (ad := ad) (c := c) hnews hy hlen hby hbt htop
 unfold Oper.wp execOp
 simp only [ho, resolve, invoke, builtin, Sem.run_bind, Sem.run_pure, Result.andThen_ok, List.map_toArray, List.map_cons, List.map_nil, hs, hx, hr]
 exact hK _ _ (h v' w' g1 g2 g3 g4)
/-- the blocks that hold the state, and none of its lists -/
def avd (bs ba mb : Nat) (v : Value) (k : Nat) : Prop := k ≠ bs ∧ k ≠ ba ∧ k ≠ mb ∧ v.ownBlock ≠ some k
/-- a list's text -/
def keyL (l : List Int) : List UInt8 := catL decB [] l
/-- digits alone -/
def dgs (l : List Int) : Prop := ∀ a ∈ l, 0 ≤ a ∧ a < 10
theorem keyL_map {l : List Int} (h : dgs l) : keyL l = l.map fun a => UInt8.ofNat (48 + a.toNat) := by
 unfold keyL catL
 rw [List.nil_append]
 induction l with
 | nil => rfl
 | cons a l ih =>
  obtain ⟨h0, h1⟩ := h a (List.mem_cons_self ..)
  rw [List.map_cons, List.flatten_cons, List.map_cons, ih (fun b hb => h b (List.mem_cons_of_mem _ hb)), dec_one h0 h1]
  rfl
theorem keyL_inj : ∀ {l l' : List Int}, dgs l → dgs l' → keyL l = keyL l' → l = l' := fun {l l'} h h' he => by
 rw [keyL_map h, keyL_map h'] at he
 induction l generalizing l' with
 | nil => cases l' with
  | nil => rfl
  | cons b l' => cases he
 | cons a l ih => cases l' with
  | nil => cases he
  | cons b l' =>
   simp only [List.map_cons, List.cons.injEq] at he
   obtain ⟨h0, h1⟩ := h a (List.mem_cons_self ..)
   obtain ⟨h2, h3⟩ := h' b (List.mem_cons_self ..)
   have e1 := congrArg UInt8.toNat he.1
   rw [UInt8.toNat_ofNat_of_lt' (by show 48 + a.toNat < 256; omega), UInt8.toNat_ofNat_of_lt' (by show 48 + b.toNat < 256; omega)] at e1
   rw [ih (fun c hc => h c (List.mem_cons_of_mem _ hc)) (fun c hc => h' c (List.mem_cons_of_mem _ hc)) he.2, show a = b by omega]
/-- the list with one more, if it is new -/
def adL (A : List (List Int)) (l : List Int) : List (List Int) := if l ∈ A then A else A ++ [l]
theorem adL_yes {A : List (List Int)} {l : List Int} (h : l ∈ A) : adL A l = A := if_pos h
theorem adL_no {A : List (List Int)} {l : List Int} (h : l ∉ A) : adL A l = A ++ [l] := if_neg h
theorem adL_pre {A : List (List Int)} {l : List Int} : A <+: adL A l := by
 by_cases h : l ∈ A
 ·rw [adL_yes h]; exact List.prefix_refl _
 ·rw [adL_no h]; exact List.prefix_append _ _
theorem adL_mem {A : List (List Int)} {l : List Int} : l ∈ adL A l := by
 by_cases h : l ∈ A
 ·rw [adL_yes h]; exact h
 ·rw [adL_no h]; simp
theorem adL_len {A : List (List Int)} {l : List Int} : (adL A l).length ≤ A.length + 1 := by
 by_cases h : l ∈ A
 ·rw [adL_yes h]; omega
 ·rw [adL_no h]; simp
theorem adL_in {A : List (List Int)} {l x : List Int} (h : x ∈ adL A l) : x ∈ A ∨ x = l := by
 by_cases hl : l ∈ A
 ·rw [adL_yes hl] at h; exact .inl h
 ·rw [adL_no hl] at h
  exact (List.mem_append.1 h).imp id List.mem_singleton.1
/-- the state of the closure's list -/
structure AddI (P : Program) (km em te B bs ba mb : Nat) (w : World) (v : Value) (vs : List Value) (A : List (List Int)) : Prop where
 cs : w.cell? ⟨bs, 0, none⟩ = some (.map (some mb))
 ca : w.cell? ⟨ba, 0, none⟩ = some v
 fa : w.frozen? ⟨ba, 0, none⟩ = false
 sn : ∃ Ks n, SeenM P km em w mb n Ks ∧ n ≤ A.length ∧ ∀ s, s ∈ Ks ↔ ∃ l ∈ A, s = keyL l
 row : Bl Ty.val te B w.heap.size w v vs
 len : vs.length = A.length
 rd : ∀ i (h : i < vs.length) (h' : i < A.length), intsT.RdP (avd bs ba mb v) w [vs[i]] A[i]
 ds : bs ≠ ba ∧ bs ≠ mb ∧ ba ≠ mb ∧ v.ownBlock ≠ some bs ∧ v.ownBlock ≠ some ba ∧ v.ownBlock ≠ some mb
 ge : B ≤ bs ∧ B ≤ ba ∧ B ≤ mb
 dg : ∀ l ∈ A, dgs l
section
variable {P : Program} {km em te B bs ba mb : Nat} {w w' : World} {v : Value} {vs : List Value} {A : List (List Int)}
theorem AddI.lt (h : AddI P km em te B bs ba mb w v vs A) : bs < w.heap.size ∧ ba < w.heap.size ∧ mb < w.heap.size := by
 obtain ⟨Ks, n, h1, _⟩ := h.sn
 exact ⟨cell_lt h.cs, cell_lt h.ca, h1.lt⟩
theorem AddI.below {B' : Nat} (h : AddI P km em te B bs ba mb w v vs A) (hb : Below B' w w') (hB : w.heap.size ≤ B') : AddI P km em te B bs ba mb w' v vs A where
 cs := (hb.cell (p := ⟨bs, 0, none⟩) (Nat.lt_of_lt_of_le h.lt.1 hB)).trans h.cs
 ca := (hb.cell (p := ⟨ba, 0, none⟩) (Nat.lt_of_lt_of_le h.lt.2.1 hB)).trans h.ca
 fa := (World.frozen?_of_block (a := ⟨ba, 0, none⟩) (hb.block ba (Nat.lt_of_lt_of_le h.lt.2.1 hB))).trans h.fa
 sn := let ⟨Ks, n, h1, h2⟩ := h.sn; ⟨Ks, n, h1.block (hb.block mb (Nat.lt_of_lt_of_le h1.lt hB)), h2⟩
 row := (h.row.below hb hB).mono hb.size
 len := h.len
 rd := fun i h1 h2 => let ⟨fp, h3, h4⟩ := h.rd i h1 h2; ⟨fp, intsT.same h3 (fun k hk => hb.block k (Nat.lt_of_lt_of_le (intsT.lt h3 k hk) hB)), h4⟩
 ds := h.ds
 ge := h.ge
 dg := h.dg
end
/-- what an addition keeps -/
def AddF (ba mb : Nat) (v : Value) (n : Nat) (w w' : World) : Prop := TchP (fun q => q = ba ∨ q = mb ∨ v.ownBlock = some q) w w' ∧ ∀ g j, g < w.heap.size → g ≠ ba → g ≠ mb → (v.ownBlock = some g → j < n) → w'.cell? ⟨g, j, none⟩ = w.cell? ⟨g, j, none⟩
theorem AddF.refl (ba mb : Nat) (v : Value) (n : Nat) (w : World) : AddF ba mb v n w w := ⟨TchP.refl _ _, fun _ _ _ _ _ _ => rfl⟩
theorem rdp_lt {ok ok' : Nat → Prop} {w : World} {cs : List Value} {x : List Int} (h : intsT.RdP ok w cs x) (hO : ∀ k, k < w.heap.size → ok k → ok' k) : intsT.RdP ok' w cs x :=
 let ⟨fp, h1, h2⟩ := h; ⟨fp, h1, fun k hk => hO k (intsT.lt h1 k hk) (h2 k hk)⟩
/-- one more list -/
theorem AddI.add {P : Program} {km em te B bs ba mb : Nat} {w w4 : World} {v v' : Value} {vs : List Value} {A : List (List Int)} (h : AddI P km em te B bs ba mb w v vs A) {u : Value} {l : List Int} (hu : intsT.RdP (avd bs ba mb v) w [u] l) (hl : dgs l)
  (hT : TchP (fun q => q = ba ∨ q = mb ∨ v.ownBlock = some q) w w4) (hc : w4.cell? ⟨ba, 0, none⟩ = some v') (hf : w4.frozen? ⟨ba, 0, none⟩ = false)
  (hsn : ∃ Ks n, SeenM P km em w4 mb n Ks ∧ n ≤ A.length + 1 ∧ ∀ s, s ∈ Ks ↔ ∃ l' ∈ A ++ [l], s = keyL l') (hrow : Bl Ty.val te B w4.heap.size w4 v' (vs ++ [u]))
  (hown : v'.ownBlock = v.ownBlock ∨ ∃ q, v'.ownBlock = some q ∧ w.heap.size ≤ q) : AddI P km em te B bs ba mb w4 v' (vs ++ [u]) (A ++ [l]) := by
 obtain ⟨b1, b2, b3⟩ := h.lt
 obtain ⟨d1, d2, d3, d4, d5, d6⟩ := h.ds
 have hav : ∀ k, k < w.heap.size → avd bs ba mb v k → avd bs ba mb v' k := fun k hk ⟨q1, q2, q3, q4⟩ => ⟨q1, q2, q3, fun e => by
  rcases hown with e1 | ⟨q, e1, e2⟩
  ·exact q4 (e1.symm.trans e)
  ·rw [e1] at e; cases e; omega⟩
 have hno : ∀ k, k < w.heap.size → avd bs ba mb v k → ¬ (k = ba ∨ k = mb ∨ v.ownBlock = some k) := fun k _ ⟨q1, q2, q3, q4⟩ hh => by
  rcases hh with hh | hh | hh
  ·exact q2 hh
  ·exact q3 hh
  ·exact q4 hh
 have hne : ∀ k, k < w.heap.size → v.ownBlock ≠ some k → v'.ownBlock ≠ some k := fun k hk hn e => by
  rcases hown with e1 | ⟨q, e1, e2⟩
  ·exact hn (e1.symm.trans e)
  ·rw [e1] at e; cases e; omega
 have hall : ∀ (y : Value) (x : List Int), intsT.RdP (avd bs ba mb v) w [y] x → intsT.RdP (avd bs ba mb v') w4 [y] x := fun y x hy => (rdp_lt hy fun k hk hh => (⟨hav k hk hh, hno k hk hh⟩ : avd bs ba mb v' k ∧ ¬ (k = ba ∨ k = mb ∨ v.ownBlock = some k))).tchP hT (fun k _ hh => hh.2) |>.mono (fun k _ hh => hh.1)
 refine ⟨(hT.cell b1 (fun hh => ?_)).trans h.cs, hc, hf, ?_, hrow, by simp [h.len], fun i h1 h2 => ?_, ⟨d1, d2, d3, hne _ b1 d4, hne _ b2 d5, hne _ b3 d6⟩, h.ge, fun x hx => ?_⟩
 ·rcases hh with hh | hh | hh
  ·exact d1 hh
  ·exact d2 hh
  ·exact d4 hh
 ·obtain ⟨Ks, n, g1, g2, g3⟩ := hsn
  exact ⟨Ks, n, g1, by simpa using g2, g3⟩
 ·by_cases e : i < vs.length
  ·have e2 : i < A.length := by rw [← h.len]; exact e
   rw [List.getElem_append_left e, List.getElem_append_left e2]
   exact hall _ _ (h.rd i e e2)
  ·have hi : i = vs.length := by simp at h1; omega
   subst hi
   have e2 : vs.length = A.length := h.len
   simp only [List.getElem_concat_length]
   have : (A ++ [l])[vs.length]'h2 = l := by
    simp [e2]
   rw [this]
   exact hall _ _ hu
 ·rcases List.mem_append.1 hx with hx | hx
  ·exact h.dg x hx
  ·rw [List.mem_singleton.1 hx]; exact hl
end Go.Proofs.YtggelmbnliajeaaGreatDoor
namespace Go.Proofs.YtggelmbnliajeaaGreatDoor
open Go.RowKit Go.Sort
theorem zero_bool (w : World) : (zeroValue 4).run Tryz.prog w = .ok (.bool false) w := by
 first | exact Tryz.zeroValue4 w | (unfold zeroValue; simp [go_sem]; done)
theorem AddI.look {w : World} {B bs ba mb : Nat} {v : Value} {vs : List Value} {A : List (List Int)} (h : AddI Tryz.prog 9 4 42 B bs ba mb w v vs A) {l : List Int} (hl : dgs l) (hln : l.length ≤ 1000) :
  (Instr.lookup 130 (.map (some mb)) (.string ⟨(keyL l).toArray⟩) false).run Tryz.prog w = .ok (.bool (decide (l ∈ A))) w := by
 obtain ⟨Ks, n, h1, h2, h3⟩ := h.sn
 have hk : (keyL l).length ≤ 1000000 := by rw [keyL_map hl, List.length_map]; omega
 rw [h1.look Tryz.underlying9 Tryz.underlying130 Tryz.underlying4 (zero_bool w) hk]
 congr 2
 rw [decide_eq_decide, h3]
 constructor
 ·rintro ⟨l', hl', e⟩
  rw [keyL_inj hl (h.dg l' hl') e]; exact hl'
 ·intro hm
  exact ⟨l, hm, rfl⟩
set_option maxHeartbeats 1600000 in
set_option maxRecDepth 100000 in
theorem add_any (w : World) {B bs ba mb : Nat} {v : Value} {vs : List Value} {A : List (List Int)} (h : AddI Tryz.prog 9 4 42 B bs ba mb w v vs A) {u : Value} {l : List Int} (hu : intsT.RdP (avd bs ba mb v) w [u] l) (hl : dgs l) (hln : l.length ≤ 1000) (hA : A.length ≤ 100000000) (hB : B ≤ w.heap.size) :
  Calls Tryz.prog 106 #[u, .pointer (some ⟨bs, 0, none⟩), .pointer (some ⟨ba, 0, none⟩)] w fun e w' => e = .returned (.tuple #[]) ∧ ∃ v' vs', AddI Tryz.prog 9 4 42 B bs ba mb w' v' vs' (adL A l) ∧ vs <+: vs' ∧ AddF ba mb v vs.length w w' ∧ (v'.ownBlock = v.ownBlock ∨ ∃ q, v'.ownBlock = some q ∧ w.heap.size ≤ q) := by
 have HLK := Lib.hid (h.look hl hln)
 obtain ⟨ua, uc, rfl⟩ := rd_slice hu.rd
 have H := Lib.hid h
 have HU := Lib.hid hu
 have HL := Lib.hid hl
 have hl100 : ∀ a ∈ l, 0 ≤ a ∧ a < 100 := fun a ha => by have := hl a ha; omega
 have c0 := h.cs
 have c1 := h.ca
 clear h hu hl
 by_cases hm : l ∈ A
 ·have hlk := HLK.out
  rw [decide_eq_true hm] at hlk
  have HM := Lib.hid hm
  clear hm HLK
  go_enter Tryz.func106, Tryz.ntmps106
  go_wp2_with fail
  refine (digits_any w HU.out.rd hl100 hln).mono ?_
  rintro e w' ⟨rfl, rfl⟩
  rw [show catL decB [] l = keyL l from rfl]
  generalize keyL l = K at *
  go_wp2_with fail
  go_end0
  exact ⟨rfl, v, vs, by rw [adL_yes HM.out]; exact H.out, List.prefix_refl _, AddF.refl _ _ _ _ _, .inl rfl⟩
 ·have hlk := HLK.out
  rw [decide_eq_false hm] at hlk
  have HM := Lib.hid hm
  obtain ⟨Ks, n, hs1, hs2, hs3⟩ := H.out.sn
  obtain ⟨w1, hput, hs4, hg1, hz1⟩ := hs1.put Tryz.underlying9 Tryz.underlying130 Tryz.underlying4 (s := keyL l) (by rw [keyL_map HL.out, List.length_map]; omega) (by omega)
  have HKS : Hid (∀ s, s ∈ keyL l :: Ks ↔ ∃ l' ∈ A ++ [l], s = keyL l') := fun s => by
   rw [List.mem_cons, hs3]
   constructor
   ·rintro (rfl | ⟨l', h1, rfl⟩)
    ·exact ⟨l, by simp, rfl⟩
    ·exact ⟨l', List.mem_append_left _ h1, rfl⟩
   ·rintro ⟨l', h1, rfl⟩
    rcases List.mem_append.1 h1 with h1 | h1
    ·exact .inr ⟨l', h1, rfl⟩
    ·rw [List.mem_singleton.1 h1]; exact .inl rfl
  have HS4 := Lib.hid hs4
  have HG1 := Lib.hid hg1
  have HS2 := Lib.hid hs2
  obtain ⟨b1, b2, b3⟩ := H.out.lt
  obtain ⟨d1, d2, d3, d4, d5, d6⟩ := H.out.ds
  have D4 := Lib.hid d4
  have D5 := Lib.hid d5
  have D6 := Lib.hid d6
  have k0 : w1.cell? ⟨ba, 0, none⟩ = some v := (World.cell?_of_block (a := ⟨ba, 0, none⟩) (hg1.block ba b2 (fun e => d3 (by simpa using e)))).trans c1
  have k1 : w1.frozen? ⟨ba, 0, none⟩ = false := (World.frozen?_of_block (a := ⟨ba, 0, none⟩) (hg1.block ba b2 (fun e => d3 (by simpa using e)))).trans H.out.fa
  have HB1 : Hid (Bl Ty.val 42 B w1.heap.size w1 v vs) := by
   refine bl_val_same H.out.row (fun b hb => hg1.block b (H.out.row.own_lt hb) (fun e => ?_)) (by omega)
   rw [hb] at d6
   exact d6 e
  have hvl : vs.length ≤ 1000000000 := by rw [H.out.len]; omega
  obtain ⟨av, nv, cv, rfl⟩ := ex_slice (HB1.out.fr (by unfold capMax; omega))
  have HZ1 := Lib.hid hz1
  have b2' : ba < w1.heap.size := by omega
  have b1' : bs < w1.heap.size := by omega
  have b3' : mb < w1.heap.size := by omega
  have hBw : B ≤ w1.heap.size := by omega
  clear hm HLK hs1 hs3 hs4 hg1 hs2 d4 d5 d6 hz1
  go_enter Tryz.func106, Tryz.ntmps106
  go_wp2_with fail
  refine (digits_any w HU.out.rd hl100 hln).mono ?_
  rintro e w' ⟨rfl, rfl⟩
  rw [show catL decB [] l = keyL l from rfl]
  generalize keyL l = K at *
  go_wp2_with (at_builtin; go_loud (refine wpList_pushK _ rfl _ _ 23 42 rfl elInt64SS rfl (HB1.out.below bA (Nat.le_refl _)) rfl news1 rfl hvl (by decide) (by omega) (by simp) ?_; intro v1 w3 hB3 hg3 hown3 hkp3; have hT3 : TchP (fun q => (Value.slice av nv cv).ownBlock = some q) w1 w3 := (TchP.of_below (bA (w := w1)) _).then (TchP.grown hg3 (fun k hk => hk)) (fun _ _ h => h); have HB3 := Lib.hid hB3; have HKP3 : Hid (KeepC (Value.slice av nv cv) vs.length (w1.alloc (.cells #[.slice ua l.length uc] 42)) w3) := hkp3; have HO3 : Hid (v1.ownBlock = (Value.slice av nv cv).ownBlock ∨ v1.ownBlock = some (w1.alloc (.cells #[.slice ua l.length uc] 42)).heap.size) := hown3; have k2 := (hT3.cell (i := 0) (b := ba) (by omega) D5.out).trans k0; have k3 := (hT3.frozen (i := 0) (b := ba) (by omega) D5.out).trans k1; obtain ⟨a1, n1, q1, rfl⟩ := ex_slice (hB3.fr (by simp; unfold capMax; omega)); clear hB3 hg3 hown3 hkp3 c1 k0 k1))
  go_end0
  have hT1 : TchP (fun q => q = ba ∨ q = mb ∨ (Value.slice av nv cv).ownBlock = some q) w w1 := TchP.grown HG1.out (fun k hk => .inr (.inl (by cases hk; rfl)))
  have hT4 : TchP (fun q => q = ba ∨ q = mb ∨ (Value.slice av nv cv).ownBlock = some q) w (w3.setCell ⟨ba, 0, none⟩ (.slice a1 n1 q1)) := (hT1.then hT3 (fun _ _ h => .inr (.inr h))).then (TchP.set (O := fun q => q = ba) rfl) (fun _ _ h => .inl h)
  have hz : (w1.alloc (.cells #[.slice ua l.length uc] 42)).heap.size = w1.heap.size + 1 := by simp
  have hO := HO3.out
  rw [hz] at hO
  have hown : (Value.slice a1 n1 q1).ownBlock = (Value.slice av nv cv).ownBlock ∨ ∃ q, (Value.slice a1 n1 q1).ownBlock = some q ∧ w.heap.size ≤ q := by
   rcases hO with h | h
   ·exact .inl h
   ·exact .inr ⟨_, h, by have := HZ1.out; omega⟩
  refine ⟨rfl, .slice a1 n1 q1, vs ++ [.slice ua l.length uc], ?_, List.prefix_append _ _, ⟨hT4, fun g j hg h1 h2 hj => ?_⟩, hown⟩
  ·rw [adL_no HM.out]
   refine H.out.add HU.out HL.out hT4 (World.cell?_setCell_same _ _ _ k2) ((World.frozen?_setCell _ _ _ _).trans k3) ⟨K :: Ks, n + 1, HS4.out.block ((Below.heap_setCell _ _ _ _ (by simpa using d3.symm)).trans (hT3.block mb b3' D6.out)), by have := HS2.out; omega, HKS.out⟩ ?_ hown
   ·refine bl_val_same HB3.out (fun b hb => Below.heap_setCell _ _ _ _ (fun e => ?_)) (by rw [size_set]; exact Nat.le_refl _)
    have e' : b = ba := by simpa using e
    subst e'
    rcases hO with h | h
    ·exact D5.out (h.symm.trans hb)
    ·rw [h] at hb; cases hb; omega
  ·have hg1 : g < w1.heap.size := by have := HZ1.out; omega
   refine (World.cell?_setCell_other _ _ _ _ (by intro e; simp only [Addr.mk.injEq] at e; exact h1 e.1.symm)).trans ((HKP3.out g j (by rw [hz]; omega) hj).trans ((cellB (bA (w := w1)) hg1).trans ?_))
   exact World.cell?_of_block (a := ⟨g, j, none⟩) (HG1.out.block g hg (fun e => h2 (by simpa using e)))
end Go.Proofs.YtggelmbnliajeaaGreatDoor
