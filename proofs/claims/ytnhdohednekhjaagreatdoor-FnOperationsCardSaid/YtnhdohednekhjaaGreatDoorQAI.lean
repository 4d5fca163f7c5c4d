/-
Contracts: something of all lists, by a function that writes into the list it is handed; the places that count.
Contracts: an operation found by its graph.
The library's contracts, laid at this seat's program. Written by the kit's lay-shelf and lay-plain: its numbers hold for that seat alone (shelf2.py).
Texts: bytes joined; decimal numbers; rows of texts; the library's Join. Contracts of dec, digits, spaced, Decimal.
Texts of instances and formulas: plain, and contracts of the program's InstanceText and FormulaText.
Plain: texts cut at a byte; numbers, atoms and formulas read back from their texts.
Plain: a formula's words read back, the program's way and the reference's; what ReadFormula answers.
Plain: the text of an operation, and its words.
Contracts: the program's InstanceText and FormulaText.
Contracts: the reference's InstanceText and FormulaText.
Contracts: the reference's FormulaText.
Texts byte by byte; contracts: a text cut at a byte, a number read, the reference's.
The library's contracts, laid at this seat's program. Written by the kit's lay-shelf and lay-plain: its numbers hold for that seat alone (shelf2.py).
Contracts: a number read from its text, digits read, the program's. The library's package variables that they reach are told by a premise.
Contracts: digits read from a text, the program's.
Contracts: an operation that breaks a relation, the program's, whole.
Regions with a box: a call that hands back a struct, a slice and a number. No program is named here.
-/
import Derived.Test.YtnhdohednekhjaaGreatDoorQAH
import Derived.Test.YtnhdohednekhjaaGreatDoorQAE
import Derived.Test.YtnhdohednekhjaaGreatDoorQAG
import Derived.Test.YtnhdohednekhjaaGreatDoorQAB
import Derived.Shelf.Strings.OnBuilder
import Derived.Shelf.Small.Wraps
import Derived.Shelf.Strconv.Itoa4
import Derived.Shelf.Strings.Cut
import Derived.Shelf.Strings.SplitShaped
import Derived.Test.YtnhdohednekhjaaGreatDoorProg
import Derived.Test.YtnhdohednekhjaaGreatDoorQAA
import Derived.Lib.Join
import Derived.Lib.SplitLaws
import Derived.Lib.ParseIntB
import Derived.Test.YtnhdohednekhjaaGreatDoorQAC
import Derived.Test.YtnhdohednekhjaaGreatDoorQAD
import Derived.Shelf.Strconv.ParseIntPublic10
import Derived.Lib.SmallJoins
import Derived.Lib.AppendIntMem
import Derived.Test.YtnhdohednekhjaaGreatDoorQAF
namespace Go.Proofs.YtnhdohednekhjaaGreatDoor
open Go.RowKit Go.Sort
set_option maxHeartbeats 1600000 in
theorem allListsW_any (w : World) {s : Int} {m N : Nat} (hs : 1 ≤ s ∧ s ≤ 4) (hm : m ≤ 3) (hN : s ^ m = N) (g : Nat) (caps : Array Value) (eg : ∀ args w, (callFunc g args).run Tryz.prog w = .ok (.enter g args) w) (p : List Int → Bool)
  (hto : Hid (∀ W W1 u (k : Nat), Below w.heap.size w W → k < N → intsT.Fr W.heap.size W1 [u] (digL s k m) → Below W.heap.size W W1 → Calls Tryz.prog g (#[u] ++ caps) W1 fun e w' => e = .returned (.bool (p (digL s k m))) ∧ Below W.heap.size W w')) :
  Calls Tryz.prog 124 #[.int .i64 s, .int .i64 m, .func (.func g) #[] caps] w fun e w' => e = .returned (.bool (allK (fun k => p (digL s (k : Int) m)) N)) ∧ Below w.heap.size w w' := by
 have hNb : N ≤ 64 := by
  have h1 := pow_mono' (s := s) (c := 4) (by omega) (by omega) m
  rcases (show m = 0 ∨ m = 1 ∨ m = 2 ∨ m = 3 by omega) with e | e | e | e <;> subst e <;> simp at h1 hN <;> omega
 have HN : Hid (s ^ ((m : Int)).toNat = N) := by unfold Hid; rw [Int.toNat_natCast]; exact hN
 clear hN
 go_enter Tryz.func124, Tryz.ntmps124
 go_wp2_with fail
 refine (power_any _ s (m : Int) (by omega) (by omega) (by omega)).mono ?_
 rintro e _ ⟨rfl, rfl⟩
 rw [HN.out]
 go_wp2_with fail
 go_loopw [11] (fun i wr => ∃ k : Nat, k ≤ N ∧ i = .int .i64 k ∧ (∀ j, j < k → p (digL s (j : Int) m) = true) ∧ Below w.heap.size w wr) (fun i _ => N - (intOf i).toNat)
 case atStart => exact ⟨0, Nat.zero_le _, rfl, fun j hj => absurd hj (Nat.not_lt_zero j), Below.refl _ _⟩
 case round =>
  obtain ⟨k, hk, rfl, hall, hbv⟩ := hrel
  obtain ⟨wv, rfl⟩ : ∃ wv : World, wv = wr := ⟨_, rfl⟩
  have HALL := Lib.hid hall
  clear hall
  by_cases hkl : k < N
  ·go_wp2_with fail
   refine (listOf_any _ s (k : Int) m (by omega) (by omega) (by omega) (by omega) (by omega)).mono ?_
   rintro e w5 ⟨dv, rfl, hdf, hb5⟩
   obtain ⟨ad, nd, cd, rfl⟩ := ex_slice hdf
   have HDF := Lib.hid hdf
   have HB5 := Lib.hid hb5
   clear hdf hb5
   go_wp2_with fail
   refine (hto.out _ w5 _ k hbv hkl HDF.out HB5.out).mono ?_
   rintro e w7 ⟨rfl, hb7⟩
   have hb7' := bthen hbv hb7
   cases hp : p (digL s (k : Int) m)
   ·have HR := Lib.hid (allK_no (p := fun k => p (digL s (k : Int) m)) hkl hp)
    clear hp
    go_wp2_with fail
    go_ret
    exact ⟨ret_bool HR.out.symm, hb7'⟩
   ·have HP := Lib.hid hp
    clear hp
    go_wp2_with fail
    go_roundw
    case rel => exact ⟨k + 1, by omega, by go_num, fun j hj => (Nat.lt_succ_iff_lt_or_eq.1 hj).elim (HALL.out j) (fun e => e ▸ HP.out), hb7'⟩
    case measure => simp [intOf]; omega
  ·obtain rfl : k = N := by omega
   go_wp2_with fail
   go_ret
   exact ⟨ret_bool (allK_iff.2 HALL.out).symm, hbv⟩
set_option maxHeartbeats 1600000 in
set_option maxRecDepth 100000 in
theorem depends1_any (W w : World) (hb : Below W.heap.size W w) {u : Value} {xs : List Int} (hu : intsT.Fr W.heap.size w [u] xs) {f : Int × List Int} {s : Int} {p bf bs bp : Nat} (hP : opT.Pt W (.pointer (some ⟨bf, 0, none⟩)) f) (hc : W.cell? ⟨bs, 0, none⟩ = some (.int .i64 s)) (hpc : W.cell? ⟨bp, 0, none⟩ = some (.int .i64 (p : Int))) (hf : opOk s f) (hl : (xs.length : Int) = f.1) (hin : inS s xs) (hp : p < xs.length) :
  Calls Tryz.prog 125 #[u, .pointer (some ⟨bf, 0, none⟩), .pointer (some ⟨bs, 0, none⟩), .pointer (some ⟨bp, 0, none⟩)] w fun e w' => e = .returned (.bool (opV s f.2 (xs.set p 0) == opV s f.2 xs)) ∧ Below W.heap.size W w' := by
 obtain ⟨fb, fo, fa, fc, hpe, hfb, hIf, f0, f1, hfx⟩ := pt_pair hP
 simp only [Value.pointer.injEq, Option.some.injEq, Addr.mk.injEq, and_true] at hpe
 obtain ⟨rfl, rfl⟩ := hpe
 obtain ⟨ub, uo, uc, rfl, huc, hucm, hub, hubs, huI, huf, huH⟩ := fr_holds hu (by omega)
 have hs := hf.1
 unfold sizeOk at hs
 have hbs := cell_lt hc
 have hbp := cell_lt hpc
 have hz := hb.size
 have HU := Lib.hid hu
 have HIN := Lib.hid hin
 have HF := Lib.hid hf
 have HFX := Lib.hid hfx
 have HL := Lib.hid hl
 have HIf := Lib.hid hIf
 have HFR : Hid (opT.Rd w (#[.int .i64 f.1, .slice fa f.2.length fc] : Array Value).toList f) := pair_mk hIf (hfx.below hb)
 have HL2 : Hid (((xs.set p 0).length : Int) = f.1) := by unfold Hid; rw [List.length_set]; exact hl
 have HI2 : Hid (inS s (xs.set p 0)) := fun b hb => by
  rcases List.mem_or_eq_of_mem_set hb with h | rfl
  ·exact hin b h
  ·omega
 have HC := Lib.hid (And.intro f0 (And.intro f1 (And.intro hc hpc)))
 obtain ⟨y0, hy0⟩ : ∃ y, w.cell? ⟨ub, uo + p, none⟩ = some y := ⟨_, (huH p (by simpa using hp)).1⟩
 have hm0 := huf (uo + p)
 replace f0 := (cellB hb (by omega)).trans f0
 replace f1 := (cellB hb (by omega)).trans f1
 replace hc := (cellB hb (by omega)).trans hc
 replace hpc := (cellB hb (by omega)).trans hpc
 clear hu hin hf hfx hl hIf hP huH huf huI
 go_enter Tryz.func125, Tryz.ntmps125
 go_wp2_with fail
 refine (opAt_any w (f := f) HFR.out HU.out.rd HF.out HL.out HIN.out).mono ?_
 rintro e w1 ⟨rfl, hb1⟩
 have hbw1 := bthen hb hb1
 have hz1 := hb1.size
 replace f0 := (cellB hb1 (by omega)).trans f0
 replace f1 := (cellB hb1 (by omega)).trans f1
 replace hc := (cellB hb1 (by omega)).trans hc
 replace hpc := (cellB hb1 (by omega)).trans hpc
 replace hy0 := (cellB hb1 (by omega)).trans hy0
 replace hm0 := (frozenB hb1 (by omega)).trans hm0
 have HF1 : Hid (intsT.Fr W.heap.size (w1.setCell ⟨ub, uo + p, none⟩ (.int .i64 0)) [.slice (some ⟨ub, uo, none⟩) xs.length uc] (xs.set p 0)) := fr_setI (HU.out.below hb1) hp (I64.small (by omega) (by omega))
 have hbx : Below W.heap.size W (w1.setCell ⟨ub, uo + p, none⟩ (.int .i64 0)) := hbw1.setCell hubs _
 have hub1 : ub < w1.heap.size := by omega
 obtain ⟨V1, hv1⟩ : ∃ V, opV s f.2 xs = V := ⟨_, rfl⟩
 rw [hv1]
 have HV1 := Lib.hid hv1
 clear hv1
 go_upto_region 3 with fail
 clear f0 f1 hc hpc hy0 hm0
 generalize w1.setCell ⟨ub, uo + p, none⟩ (.int .i64 0) = wx at HF1 hbx ⊢
 obtain ⟨f0, f1, hc, hpc⟩ := HC.out
 have hzx := hbx.size
 replace f0 := (cellB hbx (by omega)).trans f0
 replace f1 := (cellB hbx (by omega)).trans f1
 replace hc := (cellB hbx (by omega)).trans hc
 replace hpc := (cellB hbx (by omega)).trans hpc
 have HF2 := Lib.hid HF1.out.rd
 have hl5 : (xs.set p 0).length = xs.length := List.length_set
 have HFR2 : Hid (opT.Rd wx (#[.int .i64 f.1, .slice fa f.2.length fc] : Array Value).toList f) := pair_mk HIf.out (HFX.out.below hbx)
 clear hl5
 go_wp2_with fail
 refine (opAt_any wx (f := f) HFR2.out HF2.out HF.out HL2.out HI2.out).mono ?_
 rintro e w2 ⟨rfl, hb2⟩
 have hbw2 := bthen hbx hb2
 obtain ⟨V2, hv2⟩ : ∃ V, opV s f.2 (xs.set p 0) = V := ⟨_, rfl⟩
 rw [hv2]
 have HV2 := Lib.hid hv2
 clear hv2
 go_wp2_with fail
 go_ret
 rw [HV1.out, HV2.out]
 exact ⟨rfl, hbw2⟩
set_option maxHeartbeats 3200000 in
set_option maxRecDepth 100000 in
theorem DependsOn_any (w : World) {cs : Array Value} {f : Int × List Int} (h : opT.Rd w cs.toList f) {s : Int} {n N : Nat} (hf : opOk s f) (hn : f.1 = (n : Int)) (hN : s ^ n = (N : Int)) :
  Calls Tryz.prog 42 #[.int .i64 s, .agg cs] w (RetSC intsT w (depL s f.2 n N n) 0) := by
 have hs := hf.1
 have ha := hf.2.1
 unfold sizeOk at hs
 have hn3 : 1 ≤ n ∧ n ≤ 3 := by omega
 have hvo : tb (opOk s f) = true := tb_true hf
 have HFN := Lib.hid hn
 obtain ⟨u2, hv2, hI, hx⟩ := pair_ex h
 obtain rfl := agg_of hv2
 have H := Lib.hid h
 have HF := Lib.hid hf
 have HN := Lib.hid hN
 have hfv : (Value.int .i64 f.1) = .int .i64 (n : Int) := by rw [hn]
 have HFV := Lib.hid hfv
 clear h hx hv2 hf hI hn hfv hN ha
 go_enter Tryz.func42, Tryz.ntmps42
 go_wp2_with fail
 generalize hW : World.alloc (World.alloc w _) _ = W
 have hbW : Below w.heap.size w W := hW ▸ bAA
 have hsW : w.heap.size + 2 ≤ W.heap.size := by rw [← hW]; simp
 have b0 : W.cell? ⟨w.heap.size, 0, none⟩ = some (.int .i64 s) := by rw [← hW]; simp [go_sem]
 have f0 : W.cell? ⟨w.heap.size + 1, 0, none⟩ = some (.int .i64 f.1) := by rw [← hW]; simp [go_sem]
 have f1 : W.cell? ⟨w.heap.size + 1, 1, none⟩ = some u2 := by rw [← hW]; simp [go_sem]
 clear hW
 refine (ValidOp_any W (f := f) (H.out.below hbW) s).mono ?_
 rintro e w1 ⟨rfl, hb1⟩
 rw [hvo]
 have hz1 := hb1.size
 replace b0 := (cellB hb1 (by omega)).trans b0
 replace f0 := (cellB hb1 (by omega)).trans f0
 replace f1 := (cellB hb1 (by omega)).trans f1
 have hbw1 := bthen hbW hb1
 have hsz1 : w.heap.size + 1 < w1.heap.size := by omega
 clear hvo
 have HPT : Hid (opT.Pt w1 (.pointer (some ⟨w.heap.size + 1, 0, none⟩)) f) := pt_of2 (by omega) (H.out.below hbw1) f0 f1
 rw [HFV.out] at f0
 have ta0 : ∀ o : Obj, (World.alloc w1 o).cell? ⟨w.heap.size + 1, 0, none⟩ = some (.int .i64 (n : Int)) := fun o => (cellB bA (by omega)).trans f0
 go_wp2_with fail
 clear ta0
 have HC := Lib.hid (And.intro b0 f0)
 clear b0 f0 f1
 go_loopw [16, 6] (fun i g wr => ∃ k : Nat, k ≤ n ∧ i = .int .i64 (k : Int) ∧ Bl Ty.int 2 w1.heap.size wr.heap.size wr g (depL s f.2 n N k) ∧ Below w1.heap.size w1 wr) (fun i _ _ => n - (intOf i).toNat)
 case atStart => exact ⟨0, Nat.zero_le _, rfl, by simpa [depL] using Bl.lit0 (E := Ty.int) (e := 2) (w := w1) (Nat.le_refl _), bA⟩
 case round =>
  obtain ⟨k, hk, rfl, hBl, hbe⟩ := hrel
  obtain ⟨wv, rfl⟩ : ∃ wv : World, wv = wr := ⟨_, rfl⟩
  have hkl := dep_len (s := s) (tab := f.2) (n := n) (N := N) (m := k)
  obtain ⟨ga, gn, gc, rfl⟩ := ex_slice (hBl.fr (by unfold capMax; omega))
  have HB := Lib.hid hBl
  have hzv := hbe.size
  clear hBl
  obtain ⟨b0, f0⟩ := HC.out
  replace b0 := (cellB hbe (by omega)).trans b0
  replace f0 := (cellB hbe (by omega)).trans f0
  have hbv := bthen hbw1 hbe
  by_cases hkn : k < n
  ·go_upto_region 7 with fail
   generalize hW : World.alloc wv _ = W2
   have hbW2 : Below wv.heap.size wv W2 := hW ▸ bA
   have hsW2 : wv.heap.size + 1 ≤ W2.heap.size := by rw [← hW]; simp
   have p0 : W2.cell? ⟨wv.heap.size, 0, none⟩ = some (.int .i64 (k : Int)) := by rw [← hW]; simp [go_sem]
   clear hW
   replace b0 := (cellB hbW2 (by omega)).trans b0
   replace f0 := (cellB hbW2 (by omega)).trans f0
   have hbe2 := bthen hbe hbW2
   have hbv2 := bthen hbv hbW2
   have HPT2 := Lib.hid (HPT.out.below hbe2)
   have HB2 : Hid (Bl Ty.int 2 w1.heap.size W2.heap.size W2 (.slice ga gn gc) (depL s f.2 n N k)) := (HB.out.below hbW2 (Nat.le_refl _)).mono hbW2.size
   have hto : Hid (∀ W W1 u (j : Nat), Below W2.heap.size W2 W → j < N → intsT.Fr W.heap.size W1 [u] (digL s j n) → Below W.heap.size W W1 → Calls Tryz.prog 125 (#[u] ++ #[.pointer (some ⟨w.heap.size + 1, 0, none⟩), .pointer (some ⟨w.heap.size, 0, none⟩), .pointer (some ⟨wv.heap.size, 0, none⟩)]) W1 fun e w' => e = .returned (.bool ((fun xs : List Int => opV s f.2 (xs.set k 0) == opV s f.2 xs) (digL s j n))) ∧ Below W.heap.size W w') := by
    intro W W1 u j hb _ hu hb1
    exact depends1_any W W1 hb1 hu (HPT2.out.below hb) ((cellB hb (by omega)).trans b0) ((cellB hb (by omega)).trans p0) HF.out (by rw [digL_len]; exact HFN.out.symm) (digL_in (by omega)) (by rw [digL_len]; exact hkn)
   clear HB
   go_wp2_with fail
   refine (allListsW_any W2 hs (by omega) HN.out 125 _ (enters Tryz.func125 (by kernel_rfl) rfl) (fun xs : List Int => opV s f.2 (xs.set k 0) == opV s f.2 xs) hto).mono ?_
   rintro e w3 ⟨rfl, hb3⟩
   rw [show allK (fun j => (fun xs : List Int => opV s f.2 (xs.set k 0) == opV s f.2 xs) (digL s (j : Int) n)) N = depB s f.2 n N k from rfl]
   have HB3 : Hid (Bl Ty.int 2 w1.heap.size w3.heap.size w3 (.slice ga gn gc) (depL s f.2 n N k)) := (HB2.out.below hb3 (Nat.le_refl _)).mono hb3.size
   have hz3 := hb3.size
   replace b0 := (cellB hb3 (by omega)).trans b0
   replace f0 := (cellB hb3 (by omega)).trans f0
   replace p0 := (cellB hb3 (by omega)).trans p0
   have hbe3 := bthen hbe2 hb3
   have hbv3 := bthen hbv2 hb3
   have hzw : w1.heap.size ≤ w3.heap.size := by omega
   clear hto HB2
   cases hq : depB s f.2 n N k
   ·have HK := Lib.hid (dep_not hq)
    have hIk : I64 (k : Int) := I64.small (by omega) (by omega)
    clear hq
    go_wp2_with (at_builtin; go_loud (refine wpList_push (E := Ty.int) _ rfl _ _ 48 2 rfl elInt rfl (HB3.out.below (bA (w := w3)) (Nat.le_refl _)) rfl news1 (fr_int hIk) (by omega) (by decide) hzw (by first | (simp; done) | (simp; omega)) ?_; intro v5 w5 hB5 hg5 hown; rw [HK.out] at hB5))
    have hb5 : Below w1.heap.size w3 w5 := ((bA (w := w3)).mono (by omega)).grown hg5 (by first | (simp; done) | (simp; omega)) (fun q hq => HB3.out.own hq)
    have hbe5 := hbe3.trans hb5
    have HB5 := Lib.hid hB5
    clear hB5 hg5 hown
    go_wp2_with fail
    go_roundw
    case rel => exact ⟨k + 1, by omega, by go_num, HB5.out, hbe5⟩
    case measure => simp [intOf]; omega
   ·have HK := Lib.hid (dep_yes hq)
    clear hq
    go_wp2_with fail
    go_roundw
    case rel => exact ⟨k + 1, by omega, by go_num, by rw [← HK.out]; exact HB3.out, hbe3⟩
    case measure => simp [intOf]; omega
  ·obtain rfl : k = n := by omega
   have HF2 := Lib.hid (HB.out.fr (by unfold capMax; omega))
   go_wp2_with fail
   go_ret2
   exact ⟨_, rfl, HF2.out.mono (by omega), hbv⟩
end Go.Proofs.YtnhdohednekhjaaGreatDoor
namespace Go.Proofs.YtnhdohednekhjaaGreatDoor
open Go.RowKit Go.Sort
theorem graR_take {s : Int} {n k : Nat} {tab : List Int} : (graR s n tab k).take n = digL s k n := by
 unfold graR
 exact List.take_left' digL_len
theorem graR_last {s : Int} {n k : Nat} {tab : List Int} : (graR s n tab k).getD n 0 = tab.getD k 0 := by
 unfold graR
 rw [List.getD_eq_getElem?_getD, List.getElem?_append_right (by rw [digL_len]; exact Nat.le_refl _), digL_len, Nat.sub_self]
 simp
theorem dig_code {s : Int} {f : Int × List Int} (hf : opOk s f) {n k : Nat} (hn : f.1 = (n : Int)) (hk : k < f.2.length) : idxL s 0 (digL s (k : Int) n) = (k : Int) := by
 obtain ⟨-, -, h3, -, -, -⟩ := op_dims hf
 have e : f.1.toNat = n := by omega
 rw [e] at h3
 have hd := dig_idx (s := s) (idx := (k : Int)) (n := n) hf.1.1 (by omega) (by omega) n (Nat.le_refl _)
 rw [Nat.sub_self, Int.pow_zero, Int.ediv_one, List.take_of_length_le (by rw [digL_len]; exact Nat.le_refl _)] at hd
 exact hd
set_option maxHeartbeats 6400000 in
set_option maxRecDepth 100000 in
theorem OpOfGraph_any (w : World) {cs : Array Value} {r : Int × List (List Int)} (h : relT.Rd w cs.toList r) {s : Int} {f : Int × List Int} {n : Nat} (hf : opOk s f) (hn : f.1 = (n : Int)) (hok : relOk s r) (hr1 : r.1 = ((n + 1 : Nat) : Int)) (hr2 : r.2 = (List.range f.2.length).map (graR s n f.2)) :
  Calls Tryz.prog 47 #[.int .i64 s, .agg cs] w (RetAC opT w f 0) := by
 have hs := hf.1
 have ha := hf.2.1
 unfold sizeOk at hs
 obtain ⟨-, -, -, -, hl1, hl64⟩ := op_dims hf
 have hn3 : 1 ≤ n ∧ n ≤ 3 := by omega
 have hvo : tb (opOk s f) = true := tb_true hf
 have hvr : tb (relOk s r) = true := tb_true hok
 have HFN := Lib.hid hn
 have hrl : r.2.length = f.2.length := by rw [hr2]; simp
 have HROW : Hid (∀ k (hk : k < r.2.length), r.2[k] = graR s n f.2 k) := fun k hk => by simp [hr2]
 obtain ⟨u2, hv2, hI, hx⟩ := pair_ex h
 obtain rfl := agg_of hv2
 have H := Lib.hid h
 have HX := Lib.hid hx
 have HF := Lib.hid hf
 have hfe : f = ((n : Int), f.2) := Prod.ext hn rfl
 have HFE := Lib.hid hfe
 have HR1 := Lib.hid hr1
 obtain ⟨ra, rc, rfl⟩ := rd_slice hx
 obtain ⟨_, _, hrx, -, -, hrce⟩ := slices_ex hx
 simp only [List.cons.injEq, Value.slice.injEq, and_true, true_and] at hrx
 obtain ⟨rfl, rfl⟩ := hrx
 obtain ⟨rb, ro, rfl, hrb, hrce⟩ := hrce (by omega)
 have HRC := Lib.hid hrce
 have hwr : IntKind.i64.wrap (r.1 - 1) = (n : Int) := (wrap_small (by omega) (by omega)).trans (by omega)
 have hne : (r.1 == 1) = false := by simp; omega
 have hr64 : r.2.length ≤ 64 := by omega
 have HRL := Lib.hid hrl
 clear h hx hv2 hf hI hn hok hr1 hr2 ha hfe hrce hrl hl1 hl64
 go_enter Tryz.func47, Tryz.ntmps47
 go_wp2_with fail
 generalize hW : World.alloc (World.alloc w _) _ = W
 have hbW : Below w.heap.size w W := hW ▸ bAA
 have hsW : w.heap.size + 2 ≤ W.heap.size := by rw [← hW]; simp
 have b0 : W.cell? ⟨w.heap.size, 0, none⟩ = some (.int .i64 r.1) := by rw [← hW]; simp [go_sem]
 have b1 : W.cell? ⟨w.heap.size, 1, none⟩ = some (.slice (some ⟨rb, ro, none⟩) r.2.length rc) := by rw [← hW]; simp [go_sem]
 have r0 : W.cell? ⟨w.heap.size + 1, 0, none⟩ = some (.int .i64 0) := by rw [← hW]; simp [go_sem]
 have r1 : W.cell? ⟨w.heap.size + 1, 1, none⟩ = some (.slice none 0 0) := by rw [← hW]; simp [go_sem]
 have q0 : W.frozen? ⟨w.heap.size + 1, 0, none⟩ = false := by rw [← hW]; simp [go_sem]
 have q1 : W.frozen? ⟨w.heap.size + 1, 1, none⟩ = false := by rw [← hW]; simp [go_sem]
 clear hW
 refine (ValidRel_any W (r := r) (H.out.below hbW) s).mono ?_
 rintro e w1 ⟨rfl, hb1⟩
 rw [hvr]
 have hz1 := hb1.size
 replace b0 := (cellB hb1 (by omega)).trans b0
 replace b1 := (cellB hb1 (by omega)).trans b1
 replace r0 := (cellB hb1 (by omega)).trans r0
 replace r1 := (cellB hb1 (by omega)).trans r1
 replace q0 := (frozenB hb1 (by omega)).trans q0
 replace q1 := (frozenB hb1 (by omega)).trans q1
 have hbw1 := bthen hbW hb1
 have hsz1 : w.heap.size + 1 < w1.heap.size := by omega
 clear hvr
 go_upto_region 6 with fail
 generalize hW : World.alloc w1 _ = W2
 have hbW2 : Below w1.heap.size w1 W2 := hW ▸ bA
 have hsW2 : w1.heap.size + 1 ≤ W2.heap.size := by rw [← hW]; simp
 have o0 : W2.cell? ⟨w1.heap.size, 0, none⟩ = some (.int .i64 (n : Int)) := by rw [← hW]; simp [go_sem]
 have o1 : W2.cell? ⟨w1.heap.size, 1, none⟩ = some (.slice none 0 0) := by rw [← hW]; simp [go_sem]
 have m1 : W2.frozen? ⟨w1.heap.size, 1, none⟩ = false := by rw [← hW]; simp [go_sem]
 clear hW hwr hne b0
 replace b1 := (cellB hbW2 (by omega)).trans b1
 have HRQ := Lib.hid (And.intro r0 (And.intro r1 (And.intro q0 q1)))
 clear r0 r1 q0 q1
 go_wp2_with fail
 go_loopw [27] (fun i wr => ∃ (k : Nat) (va : Value), k ≤ r.2.length ∧ i = .int .i64 (k : Int) ∧ Bl Ty.int 2 (w1.heap.size + 1) wr.heap.size wr va (f.2.take k) ∧ wr.cell? ⟨w1.heap.size, 0, none⟩ = some (.int .i64 (n : Int)) ∧ wr.cell? ⟨w1.heap.size, 1, none⟩ = some va ∧ wr.frozen? ⟨w1.heap.size, 1, none⟩ = false ∧ Below w1.heap.size w1 wr) (fun i _ => r.2.length - (intOf i).toNat)
 case atStart => exact ⟨0, _, Nat.zero_le _, rfl, by simpa using Bl.nil, o0, o1, m1, hbW2⟩
 case round =>
  clear o0 o1 m1 b1
  obtain ⟨k, va, hk, rfl, hBa, o0, o1, m1, hbe⟩ := hrel
  obtain ⟨wv, rfl⟩ : ∃ wv : World, wv = wr := ⟨_, rfl⟩
  have HB := Lib.hid hBa
  have hw2 : w1.heap.size < wv.heap.size := cell_lt o0
  obtain ⟨ga, gn, gc, rfl⟩ := ex_slice (hBa.fr (by rw [List.length_take]; unfold capMax; omega))
  have htl : (f.2.take k).length ≤ 64 := by rw [List.length_take]; omega
  have hbv := bthen hbw1 hbe
  clear hBa
  by_cases hkl : k < r.2.length
  ·obtain ⟨u, hu, d1⟩ := HRC.out k hkl
   rw [HROW.out k hkl] at hu
   have hkf : k < f.2.length := by have := HRL.out; omega
   have hxx := tab_in HF.out hkf
   have HSN : Hid (f.2.take k ++ [f.2.getD k 0] = f.2.take (k + 1)) := by
    unfold Hid
    rw [List.take_succ_eq_append_getElem hkf, List.getD_eq_getElem?_getD, List.getElem?_eq_getElem hkf]
    rfl
   have hcode := dig_code HF.out HFN.out hkf
   have hlen : (graR s n f.2 k).length = n + 1 := graR_len
   have htk : (graR s n f.2 k).take n = digL s k n := graR_take
   have hlast : (graR s n f.2 k).getD n 0 = f.2.getD k 0 := graR_last
   generalize graR s n f.2 k = xs at hu hlen htk hlast
   obtain ⟨tad, tcap, hv, htc, -, hce⟩ := ints_ex hu
   obtain rfl : u = _ := by simpa using hv
   obtain ⟨tb0, to0, rfl, htb, hce⟩ := hce (by omega)
   have d2 := (hce n (by omega)).2
   have hxn : xs.getD n 0 = xs[n]'(by omega) := by rw [List.getD_eq_getElem?_getD, List.getElem?_eq_getElem (by omega)]; rfl
   rw [← hxn, hlast] at d2
   have HTK : Hid (intsT.Rd w [.slice (some ⟨tb0, to0, none⟩) n tcap] (digL s k n)) := by
    have h5 := rd_sub hu (i := 0) (m := n) (c' := tcap) (by omega) (by omega) (by omega)
    unfold Hid
    rw [← htk]
    simpa using h5
   have HTIN : Hid (inS s (digL s k n)) := digL_in (by omega)
   have htl5 : (digL s k n).length ≤ 5 := by rw [digL_len]; omega
   have HTL5 := Lib.hid htl5
   have HCD := Lib.hid hcode
   have huc2 : n ≤ tcap := by omega
   have huc3 : ((n : Int)) ≤ (tcap : Int) := by omega
   have hnl : n < xs.length := by omega
   have hnl2 : ((n : Int)) < ((xs.length : Nat) : Int) := by omega
   have hIx : I64 (f.2.getD k 0) := I64.small (by omega) (by omega)
   replace d1 := (cellB hbv (by omega)).trans d1
   replace d2 := (cellB hbv (by omega)).trans d2
   generalize f.2.getD k 0 = x at d2 HSN hIx
   clear hu hlen htk hlast hv hce hxn hcode htl5 hxx
   go_upto_region 11 with (go_at_call 132; refine (indexOf_any _ s (xs := digL s k n) (HTK.out.below hbv) (by omega) (by omega) HTL5.out HTIN.out).mono ?_; rintro e w' ⟨rfl, rfl⟩; rw [HCD.out])
   refine wp_region_T (fun w' => w'.cell? ⟨w1.heap.size, 0, none⟩ = some (.int .i64 (n : Int)) ∧ w'.cell? ⟨w1.heap.size, 1, none⟩ = some (.slice ga gn gc) ∧ w'.cell? ⟨tb0, to0 + n, none⟩ = some (.int .i64 x)) [8] (by kernel_rfl) ⟨o0, o1, d2⟩ (fun hHeld => ?_)
   refine wpAnyT_take (i := 0) (v := ?_) rfl (by kernel_rfl) (fun _ _ _ h => h) (Or.inl ⟨by rfl, ?_⟩) (by assumption) ?_
   rotate_left
   ·(intro w hSw; (try dsimp only at hSw); go_simp <;> with_reducible rfl)
   go_simp
   refine wpAnyT_take (i := 1) (v := ?_) rfl (by kernel_rfl) (fun _ _ _ h => h) (Or.inl ⟨by rfl, ?_⟩) (by assumption) ?_
   rotate_left
   ·(intro w hSw; (try dsimp only at hSw); go_simp <;> with_reducible rfl)
   go_simp
   refine wpAnyT_take (i := 2) (v := ?_) rfl (by kernel_rfl) (fun _ _ _ h => h) (Or.inl ⟨by rfl, ?_⟩) (by assumption) ?_
   rotate_left
   ·(intro w hSw; (try dsimp only at hSw); go_simp <;> with_reducible rfl)
   go_simp
   refine wpAnyT_take (i := 3) (v := ?_) rfl (by kernel_rfl) (fun _ _ _ h => h) (Or.inl ⟨by rfl, ?_⟩) (by assumption) ?_
   rotate_left
   ·(intro w hSw; (try dsimp only at hSw); go_simp <;> with_reducible rfl)
   go_simp
   refine wpAnyT_take (i := 4) (v := ?_) rfl (by kernel_rfl) (fun _ _ _ h => h) (Or.inl ⟨by rfl, ?_⟩) (by assumption) ?_
   rotate_left
   ·(intro w hSw; (try dsimp only at hSw); go_simp <;> with_reducible rfl)
   go_simp
   refine wpAnyT_take (i := 5) (v := ?_) rfl (by kernel_rfl) (fun _ _ _ h => h) (Or.inl ⟨by rfl, ?_⟩) (by assumption) ?_
   rotate_left
   ·(intro w hSw; (try dsimp only at hSw); go_simp <;> with_reducible rfl)
   go_simp
   refine wpAnyT_take (i := 6) (v := ?_) rfl (by kernel_rfl) (fun _ _ _ h => h) (Or.inl ⟨by rfl, ?_⟩) (by assumption) ?_
   rotate_left
   ·(intro w hSw; (try dsimp only at hSw); go_simp <;> with_reducible rfl)
   go_simp
   have hb7' : Below wv.heap.size wv wv.drew := bD
   have hz7 := hb7'.size
   replace m1 := (frozenB hb7' hw2).trans m1
   clear o0 o1 d2 d1
   generalize wv.drew = w7 at hHeld hb7' hz7 m1 ⊢
   obtain ⟨o0, o1, d2⟩ := hHeld
   refine wpAnyT_one (i := 7) rfl (by kernel_rfl) (fun K hK => ?_)
   go_simp
   refine hK.out _ _ (by go_keep) (fun hHeld => ?_)
   clear hK K
   refine wpAnyT_last (i := 8) rfl (by kernel_rfl) (by kernel_rfl) (fun K hK => ?_)
   refine step_push (E := Ty.int) _ rfl _ _ 48 2 rfl elInt rfl (HB.out.below (hb7'.alloc hz7 _) (Nat.le_refl _)) rfl news1 (fr_int hIx) (by omega) (by decide) (by omega) (by first | (simp; done) | (simp; omega)) ?_
   intro v6 w6 hB6 hg6 _
   obtain ⟨xa, xn, xc, rfl⟩ := ex_slice (hB6.fr (by rw [List.length_append]; unfold capMax; simp; omega))
   have hb6 : RowKit.Below (w1.heap.size + 1) wv w6 := ((hb7'.alloc hz7 _).mono (by omega)).grown hg6 (by first | (simp; done) | (simp; omega)) (fun q hq => HB.out.own hq)
   have hb56 : RowKit.Below (w1.heap.size + 1) w7 w6 := ((Below.refl _ w7).alloc (by omega) _).grown hg6 (by first | (simp; done) | (simp; omega)) (fun q hq => HB.out.own hq)
   rw [HSN.out] at hB6
   have HB6 := Lib.hid hB6
   replace o0 := (cellB hb56 (by omega)).trans o0
   replace o1 := (cellB hb56 (by omega)).trans o1
   replace m1 := (frozenB hb56 (by omega)).trans m1
   have HT6 := Lib.hid (hbe.trans (hb6.mono (by omega)))
   clear hB6 hg6 hb6 hb56 d2
   refine hK.out _ _ ?_
   clear hK K
   refine wpAnyT_any (i := 9) (v := ?_) rfl (by kernel_rfl) (fun _ _ _ h => h) (Or.inl ⟨by rfl, ?_⟩) (by first | exact fun _ => by assumption | (intro hp; exact absurd hp (by rw [show pastB _ _ = true by kernel_rfl]; simp))) ?_
   rotate_left
   ·(intro w hSw; (try dsimp only at hSw); go_simp <;> with_reducible rfl)
   try simp only [Act.put]
   refine wpAnyT_last (i := 10) rfl (by kernel_rfl) (by kernel_rfl) (fun K hK => ?_)
   go_simp
   refine hK.out _ _ ?_
   clear hK K
   refine wpAnyT_done (by kernel_rfl) ?_ _
   go_simp
   go_wp2_with fail
   go_roundw
   case rel => exact ⟨k + 1, _, by omega, by go_num, by rw [size_set]; exact HB6.out.sameB (fun q h1 h2 => Below.heap_setCell _ _ _ _ (by simp; omega)), (World.cell?_setCell_other _ _ _ _ (by simp)).trans o0, World.cell?_setCell_same _ _ _ o1, (World.frozen?_setCell _ _ _ _).trans m1, HT6.out.setCell (by simp) _⟩
   case measure => simp [intOf]; omega
  ·obtain rfl : k = r.2.length := by omega
   have htk : f.2.take r.2.length = f.2 := List.take_of_length_le (by have := HRL.out; omega)
   have HBF : Hid (intsT.Fr (w1.heap.size + 1) wv [.slice ga gn gc] f.2) := by
    have := HB.out.fr (by rw [List.length_take]; unfold capMax; omega)
    rw [htk] at this
    exact this
   obtain ⟨r0, r1, q0, q1⟩ := HRQ.out
   replace r0 := (cellB hbe (by omega)).trans r0
   replace r1 := (cellB hbe (by omega)).trans r1
   replace q0 := (frozenB hbe (by omega)).trans q0
   replace q1 := (frozenB hbe (by omega)).trans q1
   have hnI : I64 (n : Int) := I64.small (by omega) (by omega)
   have HFF : Hid (opT.Fr (w1.heap.size + 1) wv [.int .i64 (n : Int), .slice ga gn gc] ((n : Int), f.2)) := fr_cons hnI HBF.out
   rw [← HFE.out] at HFF
   clear HB htk htl
   go_wp2_with fail
   refine (ValidOp_any wv (f := f) HFF.out.rd s).mono ?_
   rintro e w5 ⟨rfl, hb5⟩
   rw [hvo]
   have hz5 := hb5.size
   have hw5 : w1.heap.size < w5.heap.size := by omega
   replace o0 := (cellB hb5 (by omega)).trans o0
   replace o1 := (cellB hb5 (by omega)).trans o1
   replace r0 := (cellB hb5 (by omega)).trans r0
   replace r1 := (cellB hb5 (by omega)).trans r1
   replace q0 := (frozenB hb5 (by omega)).trans q0
   replace q1 := (frozenB hb5 (by omega)).trans q1
   obtain ⟨g0, g1⟩ := set2_cells (x := .int .i64 (n : Int)) (y := .slice ga gn gc) r0 r1
   have HFR : Hid (opT.Fr w.heap.size ((w5.setCell ⟨w.heap.size + 1, 0, none⟩ (.int .i64 (n : Int))).setCell ⟨w.heap.size + 1, 1, none⟩ (.slice ga gn gc)) [.int .i64 (n : Int), .slice ga gn gc] f) := (((HFF.out.below hb5).set (by simp; omega)).set (by simp; omega)).mono (by omega)
   have HBB : Hid (Below w.heap.size w ((w5.setCell ⟨w.heap.size + 1, 0, none⟩ (.int .i64 (n : Int))).setCell ⟨w.heap.size + 1, 1, none⟩ (.slice ga gn gc))) := ((bthen hbv hb5).setCell (by first | (simp; done) | (simp; omega)) _).setCell (by first | (simp; done) | (simp; omega)) _
   go_wp2_with fail
   refine bodyPost_ret (v := .tuple #[.agg #[.int .i64 (n : Int), .slice ga gn gc], .int .i64 0]) (by simp [results, Tryz.results47, go_sem, g0, g1]) rfl ⟨[.int .i64 (n : Int), .slice ga gn gc], rfl, HFR.out, HBB.out⟩
end Go.Proofs.YtnhdohednekhjaaGreatDoor
namespace Go.Proofs
open Go.Shelf
def Tryz.laysM173_ren : Go.Shelf.Ren := ⟨fun | 173 => 155 | 246 => 221 | 283 => 246 | 284 => 247 | 285 => 248 | 286 => 249 | 129 => 268 | 317 => 267 | 318 => 269 | 319 => 270 | 320 => 271 | 337 => 285 | 338 => 286 | n => n, fun | 2 => 2 | 3 => 3 | 9 => 9 | 4 => 4 | 171 => 235 | 0 => 0 | 53 => 155 | 37 => 22 | 5 => 5 | 173 => 238 | 212 => 258 | 51 => 245 | 20 => 20 | 213 => 259 | 46 => 208 | 232 => 283 | 233 => 284 | n => n, fun | 17 => 3 | 18 => 6 | 19 => 7 | n => n⟩
theorem Tryz.laysM173 : Go.Proofs.LaysM.n173 Tryz.prog Tryz.laysM173_ren := {
 mixed := by kernel_rfl
 f129 := Tryz.func268.trans (congrArg some (by kernel_rfl))
 f173 := Tryz.func155.trans (congrArg some (by kernel_rfl))
 f246 := Tryz.func221.trans (congrArg some (by kernel_rfl))
 f283 := Tryz.func246.trans (congrArg some (by kernel_rfl))
 f284 := Tryz.func247.trans (congrArg some (by kernel_rfl))
 f285 := Tryz.func248.trans (congrArg some (by kernel_rfl))
 f286 := Tryz.func249.trans (congrArg some (by kernel_rfl))
 f317 := Tryz.func267.trans (congrArg some (by kernel_rfl))
 f318 := Tryz.func269.trans (congrArg some (by kernel_rfl))
 f319 := Tryz.func270.trans (congrArg some (by kernel_rfl))
 f320 := Tryz.func271.trans (congrArg some (by kernel_rfl))
 f337 := Tryz.func285.trans (congrArg some (by kernel_rfl))
 f338 := Tryz.func286.trans (congrArg some (by kernel_rfl))
 t0 := Tryz.underlying0
 a0 := Tryz.isAgg0
 z0 := Tryz.sizeOf0
 v0 := Tryz.zeroValue0
 t2 := Tryz.underlying2
 a2 := Tryz.isAgg2
 z2 := Tryz.sizeOf2
 v2 := Tryz.zeroValue2
 t3 := Tryz.underlying3
 a3 := Tryz.isAgg3
 z3 := Tryz.sizeOf3
 v3 := Tryz.zeroValue3
 t4 := Tryz.underlying4
 a4 := Tryz.isAgg4
 z4 := Tryz.sizeOf4
 v4 := Tryz.zeroValue4
 t5 := Tryz.underlying5
 a5 := Tryz.isAgg5
 z5 := Tryz.sizeOf5
 v5 := Tryz.zeroValue5
 t9 := Tryz.underlying9
 a9 := Tryz.isAgg9
 z9 := Tryz.sizeOf9
 v9 := Tryz.zeroValue9
 t20 := Tryz.underlying20
 a20 := Tryz.isAgg20
 z20 := Tryz.sizeOf20
 v20 := Tryz.zeroValue20
 t37 := Tryz.underlying22
 a37 := Tryz.isAgg22
 z37 := Tryz.sizeOf22
 v37 := Tryz.zeroValue22
 t46 := Tryz.underlying208
 a46 := Tryz.isAgg208
 z46 := Tryz.sizeOf208
 v46 := Tryz.zeroValue208
 t51 := Tryz.underlying245
 a51 := Tryz.isAgg245
 z51 := Tryz.sizeOf245
 v51 := Tryz.zeroValue245
 t53 := Tryz.underlying155
 a53 := Tryz.isAgg155
 z53 := Tryz.sizeOf155
 v53 := Tryz.zeroValue155
 t171 := Tryz.underlying235
 a171 := Tryz.isAgg235
 z171 := Tryz.sizeOf235
 v171 := Tryz.zeroValue235
 t173 := Tryz.underlying238
 a173 := Tryz.isAgg238
 z173 := Tryz.sizeOf238
 v173 := Tryz.zeroValue238
 t212 := Tryz.underlying258
 a212 := Tryz.isAgg258
 z212 := Tryz.sizeOf258
 v212 := Tryz.zeroValue258
 t213 := Tryz.underlying259
 a213 := Tryz.isAgg259
 z213 := Tryz.sizeOf259
 t232 := Tryz.underlying283
 a232 := Tryz.isAgg283
 z232 := Tryz.sizeOf283
 v232 := Tryz.zeroValue283
 t233 := Tryz.underlying284
 a233 := Tryz.isAgg284
 z233 := Tryz.sizeOf284
 v233 := Tryz.zeroValue284
 g17 := by kernel_rfl
 g18 := by kernel_rfl
 g19 := by kernel_rfl
 i0 := by kernel_rfl
 i2 := by kernel_rfl
 i3 := by kernel_rfl
 i4 := by kernel_rfl
 i5 := by kernel_rfl
 i9 := by kernel_rfl
 i20 := by kernel_rfl
 i37 := by kernel_rfl
 i46 := by kernel_rfl
 i51 := by kernel_rfl
 i53 := by kernel_rfl
 i171 := by kernel_rfl
 i173 := by kernel_rfl
 i212 := by kernel_rfl
 i232 := by kernel_rfl
 i233 := by kernel_rfl
 m17 := by kernel_rfl
 m18 := by kernel_rfl
 m19 := by kernel_rfl }
open Go.RowKit Go.Sort Go.Lib in
/-- strconv.FormatInt: "FormatInt returns the string representation of i in the given base": AT BASE 10: i's decimal numeral, for every int64. (LAID: no walk: one application.) -/
theorem Tryz.strconv_FormatInt_10 (n : Int) (h0 : -9223372036854775808 ≤ n) (h1 : n ≤ 9223372036854775807) (w : World) (htab : Lib.TabIs Tryz.prog w "internal/strconv.uint64pow10" .u64 Lib.pow10Tab) :
  Calls Tryz.prog 155 #[.int .i64 n, .int .i64 10] w fun e w' => e = .returned (.string ⟨(Lib.itoa n).toArray⟩) ∧ ∃ k os, w' = grow (w.drewN k) os := Any.strconv_FormatInt_10 Tryz.laysM173 n h0 h1 w htab
def Tryz.lays173_ren : Go.Shelf.Ren := ⟨fun | 173 => 155 | 246 => 221 | 283 => 246 | 284 => 247 | 285 => 248 | 286 => 249 | 129 => 268 | 317 => 267 | 318 => 269 | 319 => 270 | 320 => 271 | 337 => 285 | 338 => 286 | n => n, fun | 2 => 2 | 3 => 3 | 9 => 9 | 4 => 4 | 171 => 235 | 0 => 0 | 53 => 155 | 37 => 22 | 5 => 5 | 173 => 238 | 212 => 258 | 51 => 245 | 20 => 20 | 213 => 259 | 46 => 208 | 232 => 283 | 233 => 284 | n => n, fun | 17 => 3 | 18 => 6 | 19 => 7 | n => n⟩
theorem Tryz.lays173 : Go.Proofs.Lays.n173 Tryz.prog Tryz.lays173_ren := {
 mixed := by kernel_rfl
 f129 := Tryz.func268.trans (congrArg some (by kernel_rfl))
 f173 := Tryz.func155.trans (congrArg some (by kernel_rfl))
 f246 := Tryz.func221.trans (congrArg some (by kernel_rfl))
 f283 := Tryz.func246.trans (congrArg some (by kernel_rfl))
 f284 := Tryz.func247.trans (congrArg some (by kernel_rfl))
 f285 := Tryz.func248.trans (congrArg some (by kernel_rfl))
 f286 := Tryz.func249.trans (congrArg some (by kernel_rfl))
 f317 := Tryz.func267.trans (congrArg some (by kernel_rfl))
 f318 := Tryz.func269.trans (congrArg some (by kernel_rfl))
 f319 := Tryz.func270.trans (congrArg some (by kernel_rfl))
 f320 := Tryz.func271.trans (congrArg some (by kernel_rfl))
 f337 := Tryz.func285.trans (congrArg some (by kernel_rfl))
 f338 := Tryz.func286.trans (congrArg some (by kernel_rfl))
 t0 := Tryz.underlying0
 a0 := Tryz.isAgg0
 z0 := Tryz.sizeOf0
 v0 := Tryz.zeroValue0
 t2 := Tryz.underlying2
 a2 := Tryz.isAgg2
 z2 := Tryz.sizeOf2
 v2 := Tryz.zeroValue2
 t3 := Tryz.underlying3
 a3 := Tryz.isAgg3
 z3 := Tryz.sizeOf3
 v3 := Tryz.zeroValue3
 t4 := Tryz.underlying4
 a4 := Tryz.isAgg4
 z4 := Tryz.sizeOf4
 v4 := Tryz.zeroValue4
 t5 := Tryz.underlying5
 a5 := Tryz.isAgg5
 z5 := Tryz.sizeOf5
 v5 := Tryz.zeroValue5
 t9 := Tryz.underlying9
 a9 := Tryz.isAgg9
 z9 := Tryz.sizeOf9
 v9 := Tryz.zeroValue9
 t20 := Tryz.underlying20
 a20 := Tryz.isAgg20
 z20 := Tryz.sizeOf20
 v20 := Tryz.zeroValue20
 t37 := Tryz.underlying22
 a37 := Tryz.isAgg22
 z37 := Tryz.sizeOf22
 v37 := Tryz.zeroValue22
 t46 := Tryz.underlying208
 a46 := Tryz.isAgg208
 z46 := Tryz.sizeOf208
 v46 := Tryz.zeroValue208
 t51 := Tryz.underlying245
 a51 := Tryz.isAgg245
 z51 := Tryz.sizeOf245
 v51 := Tryz.zeroValue245
 t53 := Tryz.underlying155
 a53 := Tryz.isAgg155
 z53 := Tryz.sizeOf155
 v53 := Tryz.zeroValue155
 t171 := Tryz.underlying235
 a171 := Tryz.isAgg235
 z171 := Tryz.sizeOf235
 v171 := Tryz.zeroValue235
 t173 := Tryz.underlying238
 a173 := Tryz.isAgg238
 z173 := Tryz.sizeOf238
 v173 := Tryz.zeroValue238
 t212 := Tryz.underlying258
 a212 := Tryz.isAgg258
 z212 := Tryz.sizeOf258
 v212 := Tryz.zeroValue258
 t213 := Tryz.underlying259
 a213 := Tryz.isAgg259
 z213 := Tryz.sizeOf259
 t232 := Tryz.underlying283
 a232 := Tryz.isAgg283
 z232 := Tryz.sizeOf283
 v232 := Tryz.zeroValue283
 t233 := Tryz.underlying284
 a233 := Tryz.isAgg284
 z233 := Tryz.sizeOf284
 v233 := Tryz.zeroValue284
 g17 := by kernel_rfl
 g18 := by kernel_rfl
 g19 := by kernel_rfl }
open Go.RowKit Go.Sort Go.Lib in
/-- THE ROAD WITHOUT THE TABLE: 0 <= i < 100. (LAID: no walk: one application.) -/
theorem Tryz.strconv_FormatInt_10_small (i : Nat) (hi : i < 100) (w : World) :
  Calls Tryz.prog 155 #[.int .i64 i, .int .i64 10] w fun e w' => e = .returned (.string ⟨(Lib.decDigits i).toArray⟩) ∧ w' = w := Any.strconv_FormatInt_10_small Tryz.lays173 i hi w
def Tryz.lays146_ren : Go.Shelf.Ren := ⟨fun | 146 => 67 | 221 => 150 | 268 => 214 | 138 => 215 | 143 => 216 | 195 => 236 | 197 => 237 | 218 => 238 | 219 => 239 | 260 => 257 | 217 => 258 | 225 => 259 | 224 => 260 | 267 => 261 | 266 => 282 | 314 => 283 | n => n, fun | 9 => 9 | 31 => 101 | 3 => 3 | 4 => 4 | 0 => 0 | 105 => 224 | 21 => 21 | 5 => 5 | 46 => 208 | 119 => 269 | 139 => 272 | 138 => 271 | 146 => 246 | 51 => 245 | n => n, fun | 1 => 0 | 3 => 4 | 4 => 5 | n => n⟩
theorem Tryz.lays146 : Go.Proofs.Lays.n146 Tryz.prog Tryz.lays146_ren := {
 mixed := by kernel_rfl
 f138 := Tryz.func215.trans (congrArg some (by kernel_rfl))
 f143 := Tryz.func216.trans (congrArg some (by kernel_rfl))
 f146 := Tryz.func67.trans (congrArg some (by kernel_rfl))
 f195 := Tryz.func236.trans (congrArg some (by kernel_rfl))
 f197 := Tryz.func237.trans (congrArg some (by kernel_rfl))
 f217 := Tryz.func258.trans (congrArg some (by kernel_rfl))
 f218 := Tryz.func238.trans (congrArg some (by kernel_rfl))
 f219 := Tryz.func239.trans (congrArg some (by kernel_rfl))
 f221 := Tryz.func150.trans (congrArg some (by kernel_rfl))
 f224 := Tryz.func260.trans (congrArg some (by kernel_rfl))
 f225 := Tryz.func259.trans (congrArg some (by kernel_rfl))
 f260 := Tryz.func257.trans (congrArg some (by kernel_rfl))
 f266 := Tryz.func282.trans (congrArg some (by kernel_rfl))
 f267 := Tryz.func261.trans (congrArg some (by kernel_rfl))
 f268 := Tryz.func214.trans (congrArg some (by kernel_rfl))
 f314 := Tryz.func283.trans (congrArg some (by kernel_rfl))
 t0 := Tryz.underlying0
 a0 := Tryz.isAgg0
 z0 := Tryz.sizeOf0
 v0 := Tryz.zeroValue0
 t3 := Tryz.underlying3
 a3 := Tryz.isAgg3
 z3 := Tryz.sizeOf3
 v3 := Tryz.zeroValue3
 t4 := Tryz.underlying4
 a4 := Tryz.isAgg4
 z4 := Tryz.sizeOf4
 v4 := Tryz.zeroValue4
 t5 := Tryz.underlying5
 a5 := Tryz.isAgg5
 z5 := Tryz.sizeOf5
 v5 := Tryz.zeroValue5
 t9 := Tryz.underlying9
 a9 := Tryz.isAgg9
 z9 := Tryz.sizeOf9
 v9 := Tryz.zeroValue9
 t21 := Tryz.underlying21
 a21 := Tryz.isAgg21
 z21 := Tryz.sizeOf21
 v21 := Tryz.zeroValue21
 t31 := Tryz.underlying101
 a31 := Tryz.isAgg101
 z31 := Tryz.sizeOf101
 v31 := Tryz.zeroValue101
 t46 := Tryz.underlying208
 a46 := Tryz.isAgg208
 z46 := Tryz.sizeOf208
 v46 := Tryz.zeroValue208
 t51 := Tryz.underlying245
 a51 := Tryz.isAgg245
 z51 := Tryz.sizeOf245
 v51 := Tryz.zeroValue245
 t105 := Tryz.underlying224
 a105 := Tryz.isAgg224
 z105 := Tryz.sizeOf224
 v105 := Tryz.zeroValue224
 t119 := Tryz.underlying269
 a119 := Tryz.isAgg269
 z119 := Tryz.sizeOf269
 t138 := Tryz.underlying271
 a138 := Tryz.isAgg271
 z138 := Tryz.sizeOf271
 v138 := Tryz.zeroValue271
 t139 := Tryz.underlying272
 a139 := Tryz.isAgg272
 z139 := Tryz.sizeOf272
 v139 := Tryz.zeroValue272
 t146 := Tryz.underlying246
 a146 := Tryz.isAgg246
 z146 := Tryz.sizeOf246
 v146 := Tryz.zeroValue246
 g1 := by kernel_rfl
 g3 := by kernel_rfl
 g4 := by kernel_rfl }
open Go.RowKit Go.Lib in
/-- strings.Split. (LAID: no walk: one application.) -/
theorem Tryz.strings_Split (s sep : ByteArray) (m : Int) (w : World) (hs : s.size < 4294967281) (hm : w.cell? ⟨0, 0, none⟩ = some (.int .i64 m)) (h1 : 1 ≤ sep.size) :
  Calls Tryz.prog 67 #[.string s, .string sep] w fun e w' =>
   e = .returned (.slice (some ⟨w.heap.size, 0, none⟩) (Lib.countB s sep + 1) (Lib.countB s sep + 1)) ∧ w' = w.alloc (.cells ((Lib.splitB sep 0 (Lib.countB s sep) s).map Value.string).toArray 9) := Any.strings_Split Tryz.lays146 (by kernel_rfl) s sep m w hs hm h1
end Go.Proofs
namespace Go.Proofs.YtnhdohednekhjaaGreatDoor
open Go.RowKit Go.Sort
/-- bytes joined, behind a name -/
def cat (a b : List UInt8) : List UInt8 := a ++ b
theorem cat_len {a b : List UInt8} : (cat a b).length = a.length + b.length := List.length_append
theorem add_cat {P : Program} (w : World) (a b : List UInt8) (h : a.length + b.length ≤ 1000000000) : (Op.stringOp .add ⟨a.toArray⟩ ⟨b.toArray⟩).run P w = .ok (.string ⟨(cat a b).toArray⟩) w := by
 have h1 : (ByteArray.mk a.toArray).size = a.length := by show a.toArray.size = _; simp
 have h2 : (ByteArray.mk b.toArray).size = b.length := by show b.toArray.size = _; simp
 rw [run_string_add_sum w _ _ (by rw [h1, h2]; omega), ByteArray.mk_append_mk]
 simp [cat]
/-- a number's digits -/
def decB (n : Int) : List UInt8 := Lib.decDigits n.toNat
theorem dec_one {n : Int} (h0 : 0 ≤ n) (h1 : n < 10) : decB n = [UInt8.ofNat (48 + n.toNat)] := Lib.decDigits_one (by omega)
theorem dec_two {n : Int} (h0 : 10 ≤ n) (h1 : n < 100) : decB n = cat (decB (n / 10)) [UInt8.ofNat (48 + (n % 10).toNat)] := by
 unfold decB cat
 rw [Lib.decDigits, dif_neg (by omega), show (n / 10).toNat = n.toNat / 10 by omega, show (n % 10).toNat = n.toNat % 10 by omega]
theorem dec_len {n : Int} (h1 : n < 100) : 1 ≤ (decB n).length ∧ (decB n).length ≤ 2 := by
 by_cases h : n < 10
 ·unfold decB; rw [Lib.decDigits_one (by omega)]; simp
 ·rw [dec_two (by omega) h1, cat_len, dec_one (by omega) (by omega)]; simp
/-- a text, and behind it each one's part -/
def catL {α : Type} (f : α → List UInt8) (hd : List UInt8) (xs : List α) : List UInt8 := hd ++ (xs.map f).flatten
section
variable {α : Type} {f : α → List UInt8} {hd : List UInt8} {xs : List α}
theorem catL_succ {k : Nat} (h : k < xs.length) : catL f hd (xs.take (k + 1)) = cat (catL f hd (xs.take k)) (f xs[k]) := by
 unfold catL cat
 rw [List.take_succ_eq_append_getElem h, List.map_append, List.flatten_append]
 simp only [List.map_cons, List.map_nil, List.flatten_cons, List.flatten_nil, List.append_nil, List.append_assoc]
theorem flatB_len {B : Nat} : ∀ {ys : List α}, (∀ x ∈ ys, (f x).length ≤ B) → ((ys.map f).flatten).length ≤ ys.length * B
 | [], _ => by simp
 | y :: ys, hB => by
  have h1 := hB y (List.mem_cons_self ..)
  have h2 := flatB_len fun z hz => hB z (List.mem_cons_of_mem _ hz)
  simp only [List.map_cons, List.flatten_cons, List.length_append, List.length_cons, Nat.succ_mul]
  omega
theorem catL_len {B : Nat} (hB : ∀ x ∈ xs, (f x).length ≤ B) : (catL f hd xs).length ≤ hd.length + xs.length * B := by
 unfold catL
 rw [List.length_append]
 have := flatB_len hB
 omega
end
theorem dec_any (w : World) {n : Int} (h0 : 0 ≤ n) (h1 : n < 100) : Calls Tryz.prog 71 #[.int .i64 n] w fun e w' => e = .returned (.string ⟨(decB n).toArray⟩) ∧ w = w' := by
 obtain ⟨k, rfl⟩ : ∃ k : Nat, n = k := ⟨n.toNat, by omega⟩
 have HK : Hid (Lib.decDigits k = decB k) := rfl
 go_enter Tryz.func71, Tryz.ntmps71
 go_wp2_with (go_at_call 155; refine (Tryz.strconv_FormatInt_10_small k (by omega) _).mono ?_; rintro e w' ⟨rfl, rfl⟩)
 go_ret
 exact ⟨by rw [HK.out]; rfl, rfl⟩
theorem digits_any (w : World) {v : Value} {xs : List Int} (h : intsT.Rd w [v] xs) (hx : ∀ a ∈ xs, 0 ≤ a ∧ a < 100) (hl : xs.length ≤ 1000) :
  Calls Tryz.prog 72 #[v] w fun e w' => e = .returned (.string ⟨(catL decB [] xs).toArray⟩) ∧ w = w' := by
 obtain ⟨ad, cap, hv, -, -, hc⟩ := ints_ex h
 obtain rfl : v = _ := by simpa using hv
 clear h hv
 go_enter Tryz.func72, Tryz.ntmps72
 go_wp2_with fail
 go_loopw [3, 8] (fun c i wr => ∃ k : Nat, k ≤ xs.length ∧ i = .int .i64 k ∧ c = .string ⟨(catL decB [] (xs.take k)).toArray⟩ ∧ wr = w) (fun _ i _ => xs.length - (intOf i).toNat)
 case atStart => exact ⟨0, Nat.zero_le _, rfl, by simp [catL], rfl⟩
 case round =>
  obtain ⟨k, hk, rfl, rfl, rfl⟩ := hrel
  by_cases hkl : k < xs.length
  ·obtain ⟨b, o, rfl, hb, hce⟩ := hc (by omega)
   obtain ⟨hI, hck⟩ := hce k hkl
   have hin := hx _ (List.getElem_mem hkl)
   have HS := Lib.hid (catL_succ (f := decB) (hd := []) hkl)
   have hlen := catL_len (f := decB) (hd := []) (xs := xs.take k) (B := 2) fun y hy => (dec_len (hx y (List.mem_of_mem_take hy)).2).2
   have hl1 := dec_len hin.2
   rw [List.length_take] at hlen
   generalize hz : xs[k] = z at *
   have hlen' : (catL decB [] (xs.take k)).length ≤ 10000 := by simp at hlen; omega
   generalize catL decB [] (xs.take k) = C at *
   have hadd : ∀ W : World, (Op.stringOp .add ⟨C.toArray⟩ ⟨(decB z).toArray⟩).run Tryz.prog W = .ok (.string ⟨(cat C (decB z)).toArray⟩) W := fun W => add_cat W _ _ (by omega)
   clear hz hlen hlen' hl1 hce
   go_wp2_with (go_at_call 71; refine (dec_any _ hin.1 hin.2).mono ?_; rintro e w' ⟨rfl, rfl⟩)
   go_roundw
   case rel => exact ⟨k + 1, by omega, by go_num, by rw [HS.out], trivial⟩
   case measure => simp [intOf]; omega
  ·obtain rfl : k = xs.length := by omega
   have HF : Hid (xs.take xs.length = xs) := List.take_length
   go_wp2_with fail
   go_ret
   exact ⟨by rw [HF.out]; rfl, rfl⟩
end Go.Proofs.YtnhdohednekhjaaGreatDoor
namespace Go.Proofs.YtnhdohednekhjaaGreatDoor
open Go.RowKit Go.Sort
end Go.Proofs.YtnhdohednekhjaaGreatDoor
namespace Go.Proofs.YtnhdohednekhjaaGreatDoor
open Go.RowKit Go.Sort
theorem idx_free {b : UInt8} : ∀ {w r : List UInt8}, b ∉ w → Lib.index (w ++ b :: r) [b] = (w.length : Int)
 | [], r, _ => by simp [Lib.index]
 | x :: w, r, h => by
  have hx : ¬ b = x := fun e => h (by simp [e])
  have ih := idx_free (r := r) (fun hm => h (List.mem_cons_of_mem _ hm) : b ∉ w)
  have hp : ([b] : List UInt8).isPrefixOf (x :: (w ++ b :: r)) = false := by simp [List.isPrefixOf, hx]
  have hne : ((w.length : Int) == -1) = false := by rw [beq_eq_false_iff_ne]; omega
  show Lib.index (x :: (w ++ b :: r)) [b] = _
  unfold Lib.index
  rw [hp, ih, hne]
  simp
theorem cnt_free {b : UInt8} {w : List UInt8} (h : b ∉ w) : Lib.count w [b] = 0 := by rw [Lib.count_one]; exact List.count_eq_zero.2 h
theorem join_two {w v : List UInt8} {r : List (List UInt8)} {b : UInt8} : Lib.join (w :: v :: r) [b] = w ++ b :: Lib.join (v :: r) [b] := by
 rw [Lib.join_cons, Lib.join_cons]
 unfold Lib.joinTail
 simp
/-- words joined are cut again -/
theorem split_join {b : UInt8} : ∀ {w : List UInt8} {r : List (List UInt8)}, (∀ x ∈ w :: r, b ∉ x) → Lib.split (Lib.join (w :: r) [b]) [b] = w :: r
 | w, [], h => by
  have h0 := h w (List.mem_cons_self ..)
  have e : Lib.join [w] [b] = w := by rw [Lib.join_cons]; simp [Lib.joinTail]
  unfold Lib.split
  rw [e, cnt_free h0]
  rfl
 | w, v :: r, h => by
  have h0 := h w (List.mem_cons_self ..)
  have ih := split_join (w := v) (r := r) fun x hx => h x (List.mem_cons_of_mem _ hx)
  unfold Lib.split at ih ⊢
  rw [join_two]
  have hc : Lib.count (w ++ b :: Lib.join (v :: r) [b]) [b] = Lib.count (Lib.join (v :: r) [b]) [b] + 1 := by
   rw [Lib.count_one, Lib.count_one, List.count_append, List.count_eq_zero.2 h0, List.count_cons_self]
   omega
  have hne : ((w.length : Int) == -1) = false := by rw [beq_eq_false_iff_ne]; omega
  rw [hc]
  show (if Lib.index _ [b] == -1 then _ else _) = _
  rw [idx_free h0, hne]
  simp only [Bool.false_eq_true, if_false, Int.toNat_natCast, Nat.add_zero]
  rw [List.take_left' rfl]
  congr 1
  have : (w ++ b :: Lib.join (v :: r) [b]).drop (w.length + ([b] : List UInt8).length) = Lib.join (v :: r) [b] := by
   rw [← List.drop_drop, List.drop_left' rfl]
   simp
  rw [this]
  exact ih
/-- digits -/
theorem dec_cases {n : Int} (h0 : 0 ≤ n) (h1 : n < 100) : (n < 10 ∧ decB n = [UInt8.ofNat (48 + n.toNat)]) ∨ (10 ≤ n ∧ decB n = [UInt8.ofNat (48 + (n / 10).toNat), UInt8.ofNat (48 + (n % 10).toNat)]) := by
 by_cases h : n < 10
 ·exact .inl ⟨h, dec_one h0 h⟩
 ·refine .inr ⟨by omega, ?_⟩
  rw [dec_two (by omega) h1, dec_one (by omega) (by omega)]
  rfl
theorem dig_nat {k : Nat} (h : k < 10) : (UInt8.ofNat (48 + k)).toNat = 48 + k := by
 rw [UInt8.toNat_ofNat']
 omega
theorem dec_digit {n : Int} (h0 : 0 ≤ n) (h1 : n < 100) : ∀ x ∈ decB n, 48 ≤ x.toNat ∧ x.toNat ≤ 57 := by
 rcases dec_cases h0 h1 with ⟨h, e⟩ | ⟨h, e⟩ <;> rw [e] <;> intro x hx
 ·rw [List.mem_singleton.1 hx, dig_nat (by omega)]; omega
 ·rcases List.mem_cons.1 hx with rfl | hx
  ·rw [dig_nat (by omega)]; omega
  ·rw [List.mem_singleton.1 hx, dig_nat (by omega)]; omega
/-- a number that is read: what ParseInt and the text of the number say -/
def numI (w : List UInt8) : Int := match Lib.parseIntB 64 w with
 | .ok v => match decide (v < 0) with
  | true => -2
  | false => match decB v == w with
   | true => v
   | false => -2
 | _ => -2
theorem parse_dec {n : Int} (h0 : 0 ≤ n) (h1 : n < 100) : Lib.parseIntB 64 (decB n) = .ok n := by
 rcases dec_cases h0 h1 with ⟨h, e⟩ | ⟨h, e⟩
 ·have hd := dig_nat (k := n.toNat) (by omega)
  rw [e]
  have hu : Lib.parseUintB 64 [UInt8.ofNat (48 + n.toNat)] = .ok n.toNat := by
   unfold Lib.parseUintB
   rw [if_neg (by simp)]
   simp only [Lib.parseUintM, hd]
   rw [if_pos (by omega), if_neg (by omega), if_neg (by omega)]
   congr 1
   omega
  unfold Lib.parseIntB
  simp only [hd]
  rw [if_neg (show ¬ (48 + n.toNat = 43 ∨ 48 + n.toNat = 45) by omega), hu]
  simp only
  rw [if_neg (by omega), if_neg (by omega), if_neg (by omega)]
  congr 1
  omega
 ·have hd := dig_nat (k := (n / 10).toNat) (by omega)
  have hd2 := dig_nat (k := (n % 10).toNat) (by omega)
  rw [e]
  have hu : Lib.parseUintB 64 [UInt8.ofNat (48 + (n / 10).toNat), UInt8.ofNat (48 + (n % 10).toNat)] = .ok n.toNat := by
   unfold Lib.parseUintB
   rw [if_neg (by simp)]
   simp only [Lib.parseUintM, hd, hd2]
   rw [if_pos (by omega), if_neg (by omega), if_neg (by omega), if_pos (by omega), if_neg (by omega), if_neg (by omega)]
   congr 1
   omega
  unfold Lib.parseIntB
  simp only [hd]
  rw [if_neg (show ¬ (48 + (n / 10).toNat = 43 ∨ 48 + (n / 10).toNat = 45) by omega), hu]
  simp only
  rw [if_neg (by omega), if_neg (by omega), if_neg (by omega)]
  congr 1
  omega
theorem numI_dec {n : Int} (h0 : 0 ≤ n) (h1 : n < 100) : numI (decB n) = n := by
 unfold numI
 rw [parse_dec h0 h1]
 have : decide (n < 0) = false := by simpa using h0
 simp only [this, beq_self_eq_true]
end Go.Proofs.YtnhdohednekhjaaGreatDoor
namespace Go.Proofs.YtnhdohednekhjaaGreatDoor
open Go.RowKit Go.Sort
def isDg (c : UInt8) : Bool := decide (48 ≤ c.toNat) && decide (c.toNat ≤ 57)
def dgV (c : UInt8) : Int := (c.toNat : Int) - 48
/-- digits that are read; none of other bytes -/
def digR (w : List UInt8) : List Int := match w.all isDg with
 | true => w.map dgV
 | false => []
theorem dec_row {xs : List Int} (h : ∀ a ∈ xs, 0 ≤ a ∧ a < 10) : catL decB [] xs = xs.map fun a => UInt8.ofNat (48 + a.toNat) := by
 induction xs with
 | nil => rfl
 | cons a r ih =>
  have ha := h a (List.mem_cons_self ..)
  have := ih fun b hb => h b (List.mem_cons_of_mem _ hb)
  unfold catL at this ⊢
  simp only [List.nil_append, List.map_cons, List.flatten_cons] at this ⊢
  rw [this, dec_one ha.1 ha.2]
  rfl
theorem dgV_of {a : Int} (h : 0 ≤ a ∧ a < 10) : isDg (UInt8.ofNat (48 + a.toNat)) = true ∧ dgV (UInt8.ofNat (48 + a.toNat)) = a := by
 have := dig_nat (k := a.toNat) (by omega)
 unfold isDg dgV
 rw [this]
 constructor
 ·simp; omega
 ·omega
theorem row_dgV {xs : List Int} (h : ∀ a ∈ xs, 0 ≤ a ∧ a < 10) : (catL decB [] xs).all isDg = true ∧ (catL decB [] xs).map dgV = xs := by
 rw [dec_row h]
 constructor
 ·rw [List.all_eq_true]
  intro c hc
  obtain ⟨a, ha, rfl⟩ := List.mem_map.1 hc
  exact (dgV_of (h a ha)).1
 ·rw [List.map_map]
  exact (List.map_congr_left fun a ha => (dgV_of (h a ha)).2).trans (List.map_id xs)
theorem digR_row {xs : List Int} (h : ∀ a ∈ xs, 0 ≤ a ∧ a < 10) : digR (catL decB [] xs) = xs := by
 unfold digR
 rw [(row_dgV h).1]
 exact (row_dgV h).2
theorem dec_free {n : Int} (h0 : 0 ≤ n) (h1 : n < 100) {b : UInt8} (hb : b.toNat < 48 ∨ 57 < b.toNat) : b ∉ decB n := fun hm => by
 have := dec_digit h0 h1 b hm
 omega
theorem row_free {xs : List Int} (h : ∀ a ∈ xs, 0 ≤ a ∧ a < 10) {b : UInt8} (hb : b.toNat < 48 ∨ 57 < b.toNat) : b ∉ catL decB [] xs := fun hm => by
 have := List.all_eq_true.1 (row_dgV h).1 b hm
 unfold isDg at this
 simp at this
 omega
section
variable {v : Int} {a : Int × List Int}
end
end Go.Proofs.YtnhdohednekhjaaGreatDoor
namespace Go.Proofs.YtnhdohednekhjaaGreatDoor
open Go.RowKit Go.Sort
def opW (f : Int × List Int) : List (List UInt8) := [[111, 112], decB f.1, catL decB [] f.2]
def opTx (f : Int × List Int) : List UInt8 := cat (cat (cat [111, 112, 32] (decB f.1)) [32]) (catL decB [] f.2)
theorem op_join (f : Int × List Int) : Lib.join (opW f) [32] = opTx f := by
 unfold opW
 rw [Lib.join_cons]
 unfold Lib.joinTail opTx
 simp [cat]
section
variable {s : Int} {f : Int × List Int}
theorem opT_in (hf : opOk s f) : ∀ a ∈ f.2, 0 ≤ a ∧ a < 10 := fun a ha => by
 have h1 := hf.1
 unfold sizeOk at h1
 have := hf.2.2.2 a ha
 omega
theorem opW_free (hf : opOk s f) : ∀ x ∈ opW f, (32 : UInt8) ∉ x := by
 have ha := hf.2.1
 intro x hx
 rcases List.mem_cons.1 hx with rfl | hx
 ·decide
 rcases List.mem_cons.1 hx with rfl | hx
 ·exact dec_free (by omega) (by omega) (.inl (by decide))
 rw [List.mem_singleton.1 hx]
 exact row_free (opT_in hf) (.inl (by decide))
theorem op_words (hf : opOk s f) : Lib.split (opTx f) [32] = opW f := by
 rw [← op_join]
 exact split_join (opW_free hf)
theorem op_read (hf : opOk s f) : numI (decB f.1) = f.1 ∧ digR (catL decB [] f.2) = f.2 := by
 have ha := hf.2.1
 exact ⟨numI_dec (by omega) (by omega), digR_row (opT_in hf)⟩
theorem opD_len (hf : opOk s f) : (decB f.1).length ≤ 2 ∧ (catL decB [] f.2).length ≤ 128 := by
 have ha := hf.2.1
 have h1 := catL_len (f := decB) (hd := []) (xs := f.2) (B := 2) fun a ha => (@dec_len a (by have := opT_in hf a ha; omega)).2
 have h2 := (op_dims hf).2.2.2.2.2
 refine ⟨(@dec_len f.1 (by omega)).2, ?_⟩
 simp only [List.length_nil] at h1
 omega
theorem opTx_len (hf : opOk s f) : (opTx f).length ≤ 1000 := by
 obtain ⟨h1, h2⟩ := opD_len hf
 unfold opTx
 rw [cat_len, cat_len, cat_len]
 simp only [List.length_cons, List.length_nil]
 omega
end
end Go.Proofs.YtnhdohednekhjaaGreatDoor
namespace Go.Proofs.YtnhdohednekhjaaGreatDoor
open Go.RowKit Go.Sort
end Go.Proofs.YtnhdohednekhjaaGreatDoor
namespace Go.Proofs.YtnhdohednekhjaaGreatDoor
open Go.RowKit Go.Sort
end Go.Proofs.YtnhdohednekhjaaGreatDoor
namespace Go.Proofs.YtnhdohednekhjaaGreatDoor
open Go.RowKit Go.Sort
end Go.Proofs.YtnhdohednekhjaaGreatDoor
namespace Go.Proofs.YtnhdohednekhjaaGreatDoor
open Go.RowKit Go.Sort
/-- a text as the machine holds it -/
def bs (t : List UInt8) : ByteArray := ⟨t.toArray⟩
theorem bs_size {t : List UInt8} : (bs t).size = t.length := by show t.toArray.size = _; simp
end Go.Proofs.YtnhdohednekhjaaGreatDoor
namespace Go.Proofs
open Go.Shelf
def Tryz.laysC174_ren : Go.Shelf.Ren := ⟨fun | 174 => 151 | 247 => 217 | 245 => 218 | 287 => 240 | 279 => 241 | 280 => 242 | 281 => 243 | 282 => 244 | 321 => 262 | 322 => 263 | 316 => 264 | 171 => 266 | 205 => 265 | 243 => 284 | 246 => 221 | 283 => 246 | 284 => 247 | 285 => 248 | 286 => 249 | 129 => 268 | 317 => 267 | 318 => 269 | 319 => 270 | 320 => 271 | 337 => 285 | 338 => 286 | n => n, fun | 9 => 9 | 3 => 3 | 2 => 2 | 75 => 169 | 85 => 170 | 4 => 4 | 167 => 227 | 5 => 5 | 53 => 155 | 175 => 228 | 46 => 208 | 168 => 230 | 37 => 22 | 0 => 0 | 210 => 255 | 21 => 21 | 127 => 213 | 145 => 276 | 143 => 274 | 171 => 235 | 173 => 238 | 212 => 258 | 51 => 245 | 20 => 20 | 213 => 259 | 232 => 283 | 233 => 284 | 80 => 183 | n => n, fun | 15 => 1 | 16 => 2 | 17 => 3 | 18 => 6 | 19 => 7 | n => n⟩
theorem Tryz.laysC174 : Go.Proofs.LaysC.n174 Tryz.prog Tryz.laysC174_ren := {
 mixed := by kernel_rfl
 f129 := Tryz.func268.trans (congrArg some (by kernel_rfl))
 f171 := Tryz.func266.trans (congrArg some (by kernel_rfl))
 f174 := Tryz.func151.trans (congrArg some (by kernel_rfl))
 f205 := Tryz.func265.trans (congrArg some (by kernel_rfl))
 f243 := Tryz.func284.trans (congrArg some (by kernel_rfl))
 f245 := Tryz.func218.trans (congrArg some (by kernel_rfl))
 f246 := Tryz.func221.trans (congrArg some (by kernel_rfl))
 f247 := Tryz.func217.trans (congrArg some (by kernel_rfl))
 f279 := Tryz.func241.trans (congrArg some (by kernel_rfl))
 f280 := Tryz.func242.trans (congrArg some (by kernel_rfl))
 f281 := Tryz.func243.trans (congrArg some (by kernel_rfl))
 f282 := Tryz.func244.trans (congrArg some (by kernel_rfl))
 f283 := Tryz.func246.trans (congrArg some (by kernel_rfl))
 f284 := Tryz.func247.trans (congrArg some (by kernel_rfl))
 f285 := Tryz.func248.trans (congrArg some (by kernel_rfl))
 f286 := Tryz.func249.trans (congrArg some (by kernel_rfl))
 f287 := Tryz.func240.trans (congrArg some (by kernel_rfl))
 f316 := Tryz.func264.trans (congrArg some (by kernel_rfl))
 f317 := Tryz.func267.trans (congrArg some (by kernel_rfl))
 f318 := Tryz.func269.trans (congrArg some (by kernel_rfl))
 f319 := Tryz.func270.trans (congrArg some (by kernel_rfl))
 f320 := Tryz.func271.trans (congrArg some (by kernel_rfl))
 f321 := Tryz.func262.trans (congrArg some (by kernel_rfl))
 f322 := Tryz.func263.trans (congrArg some (by kernel_rfl))
 f337 := Tryz.func285.trans (congrArg some (by kernel_rfl))
 f338 := Tryz.func286.trans (congrArg some (by kernel_rfl))
 t0 := Tryz.underlying0
 a0 := Tryz.isAgg0
 z0 := Tryz.sizeOf0
 v0 := Tryz.zeroValue0
 t2 := Tryz.underlying2
 a2 := Tryz.isAgg2
 z2 := Tryz.sizeOf2
 v2 := Tryz.zeroValue2
 t3 := Tryz.underlying3
 a3 := Tryz.isAgg3
 z3 := Tryz.sizeOf3
 v3 := Tryz.zeroValue3
 t4 := Tryz.underlying4
 a4 := Tryz.isAgg4
 z4 := Tryz.sizeOf4
 v4 := Tryz.zeroValue4
 t5 := Tryz.underlying5
 a5 := Tryz.isAgg5
 z5 := Tryz.sizeOf5
 v5 := Tryz.zeroValue5
 t9 := Tryz.underlying9
 a9 := Tryz.isAgg9
 z9 := Tryz.sizeOf9
 v9 := Tryz.zeroValue9
 t20 := Tryz.underlying20
 a20 := Tryz.isAgg20
 z20 := Tryz.sizeOf20
 v20 := Tryz.zeroValue20
 t21 := Tryz.underlying21
 a21 := Tryz.isAgg21
 z21 := Tryz.sizeOf21
 v21 := Tryz.zeroValue21
 t37 := Tryz.underlying22
 a37 := Tryz.isAgg22
 z37 := Tryz.sizeOf22
 v37 := Tryz.zeroValue22
 t46 := Tryz.underlying208
 a46 := Tryz.isAgg208
 z46 := Tryz.sizeOf208
 v46 := Tryz.zeroValue208
 t51 := Tryz.underlying245
 a51 := Tryz.isAgg245
 z51 := Tryz.sizeOf245
 v51 := Tryz.zeroValue245
 t53 := Tryz.underlying155
 a53 := Tryz.isAgg155
 z53 := Tryz.sizeOf155
 v53 := Tryz.zeroValue155
 t75 := Tryz.underlying169
 a75 := Tryz.isAgg169
 z75 := Tryz.sizeOf169
 v75 := Tryz.zeroValue169
 t85 := Tryz.underlying170
 a85 := Tryz.isAgg170
 z85 := Tryz.sizeOf170
 v85 := Tryz.zeroValue170
 t127 := Tryz.underlying213
 a127 := Tryz.isAgg213
 z127 := Tryz.sizeOf213
 v127 := Tryz.zeroValue213
 t143 := Tryz.underlying274
 a143 := Tryz.isAgg274
 z143 := Tryz.sizeOf274
 v143 := Tryz.zeroValue274
 t145 := Tryz.underlying276
 a145 := Tryz.isAgg276
 z145 := Tryz.sizeOf276
 v145 := Tryz.zeroValue276
 t167 := Tryz.underlying227
 a167 := Tryz.isAgg227
 z167 := Tryz.sizeOf227
 v167 := Tryz.zeroValue227
 t168 := Tryz.underlying230
 a168 := Tryz.isAgg230
 z168 := Tryz.sizeOf230
 v168 := Tryz.zeroValue230
 t171 := Tryz.underlying235
 a171 := Tryz.isAgg235
 z171 := Tryz.sizeOf235
 v171 := Tryz.zeroValue235
 t173 := Tryz.underlying238
 a173 := Tryz.isAgg238
 z173 := Tryz.sizeOf238
 v173 := Tryz.zeroValue238
 t175 := Tryz.underlying228
 a175 := Tryz.isAgg228
 z175 := Tryz.sizeOf228
 v175 := Tryz.zeroValue228
 t210 := Tryz.underlying255
 a210 := Tryz.isAgg255
 z210 := Tryz.sizeOf255
 v210 := Tryz.zeroValue255
 t212 := Tryz.underlying258
 a212 := Tryz.isAgg258
 z212 := Tryz.sizeOf258
 v212 := Tryz.zeroValue258
 t213 := Tryz.underlying259
 a213 := Tryz.isAgg259
 z213 := Tryz.sizeOf259
 t232 := Tryz.underlying283
 a232 := Tryz.isAgg283
 z232 := Tryz.sizeOf283
 v232 := Tryz.zeroValue283
 t233 := Tryz.underlying284
 a233 := Tryz.isAgg284
 z233 := Tryz.sizeOf284
 v233 := Tryz.zeroValue284
 g15 := by kernel_rfl
 g16 := by kernel_rfl
 g17 := by kernel_rfl
 g18 := by kernel_rfl
 g19 := by kernel_rfl
 t80 := Tryz.underlying183
 a80 := Tryz.isAgg183
 z80 := Tryz.sizeOf183
 v80 := Tryz.zeroValue183
 i0 := by kernel_rfl
 i2 := by kernel_rfl
 i3 := by kernel_rfl
 i4 := by kernel_rfl
 i5 := by kernel_rfl
 i9 := by kernel_rfl
 i20 := by kernel_rfl
 i21 := by kernel_rfl
 i37 := by kernel_rfl
 i46 := by kernel_rfl
 i51 := by kernel_rfl
 i53 := by kernel_rfl
 i75 := by kernel_rfl
 i80 := by kernel_rfl
 i85 := by kernel_rfl
 i127 := by kernel_rfl
 i143 := by kernel_rfl
 i145 := by kernel_rfl
 i167 := by kernel_rfl
 i168 := by kernel_rfl
 i171 := by kernel_rfl
 i173 := by kernel_rfl
 i175 := by kernel_rfl
 i210 := by kernel_rfl
 i212 := by kernel_rfl
 i232 := by kernel_rfl
 i233 := by kernel_rfl
 m15 := by kernel_rfl
 m16 := by kernel_rfl
 m17 := by kernel_rfl
 m18 := by kernel_rfl
 m19 := by kernel_rfl
 c0 := by kernel_rfl
 c2 := by kernel_rfl
 c3 := by kernel_rfl
 c4 := by kernel_rfl
 c5 := by kernel_rfl
 c9 := by kernel_rfl
 c20 := by kernel_rfl
 c21 := by kernel_rfl
 c37 := by kernel_rfl
 c46 := by kernel_rfl
 c51 := by kernel_rfl
 c53 := by kernel_rfl
 c75 := by kernel_rfl
 c80 := by kernel_rfl
 c85 := by kernel_rfl
 c127 := by kernel_rfl
 c143 := by kernel_rfl
 c145 := by kernel_rfl
 c167 := by kernel_rfl
 c168 := by kernel_rfl
 c171 := by kernel_rfl
 c173 := by kernel_rfl
 c175 := by kernel_rfl
 c210 := by kernel_rfl
 c212 := by kernel_rfl
 c213 := by kernel_rfl
 c232 := by kernel_rfl
 c233 := by kernel_rfl }
open Go.RowKit in
/-- strconv.ParseInt(s, 10, 64), AT EVERY STRING THAT SPELLS AN int64 ('Lib.parseIntB 64 s.data.toList = .ok v'): v, AND NO ERROR. (LAID: no walk: one application.) -/
theorem Tryz.strconv_ParseInt_10_at64_ok (s : ByteArray) (hmax : s.size ≤ 9223372036854775806) (v : Int) (h : Lib.parseIntB 64 s.data.toList = .ok v) (w : World) :
  Calls Tryz.prog 151 #[.string s, .int .i64 10, .int .i64 64] w fun e w' => e = .returned (.tuple #[.int .i64 v, .nilIface]) ∧ (w' = w ∨ ∃ t, w' = Lib.bytesWorld w 5 t) := Any.strconv_ParseInt_10_at64_ok Tryz.laysC174 s hmax v h w
open Go.RowKit in
/-- strconv.ParseInt(s, 10, 64), AT EVERY STRING THAT IS NO DECIMAL NUMERAL: 0, AND AN ERROR THAT IS NOT nil: a *NumError in a new block N: {Func: "ParseInt", Num: s's bytes, Err: what the variable ErrSyntax holds}. Of what was there nothing has turned. (LAID: no walk: one application.) -/
theorem Tryz.strconv_ParseInt_10_at64_syntax (s : ByteArray) (hlim : s.size ≤ 281474976710656) {x : Lib.NumEnd Int} (hx0 : Lib.parseIntB 64 s.data.toList = x) (hx1 : ∀ v, x ≠ .ok v) (hx2 : x ≠ .range) (ev : Value) (w : World) (hv : w.cell? ⟨1, 0, none⟩ = some ev) (hev : ev = .nilIface ∨ ∃ te pe, ev = .iface te pe) :
  Calls Tryz.prog 151 #[.string s, .int .i64 10, .int .i64 64] w fun e w' => ∃ N, e = .returned (.tuple #[.int .i64 (0), .iface 230 (.pointer (some ⟨N, 0, none⟩))]) ∧ w.heap.size ≤ N ∧ w'.heap[N]? = some (.cells #[.string ⟨#[80, 97, 114, 115, 101, 73, 110, 116]⟩, .string s, ev] 255 (0, 0)) ∧ Below w.heap.size w w' := by
 cases x
 ·exact absurd rfl (hx1 _)
 ·exact Any.strconv_ParseInt_10_at64_syntax Tryz.laysC174 s hlim hx0 ev w hv hev
 ·exact absurd rfl hx2
open Go.RowKit in
/-- strconv.ParseInt(s, 10, 64), AT EVERY NUMERAL THAT NO int64 HOLDS: THE GREATEST OR THE LEAST int64, BY THE SIGN ('Lib.intSat 64'), AND AN ERROR THAT IS NOT nil: a *NumError in a new block N: {Func: "ParseInt", Num: s's bytes, Err: what the variable ErrRange holds}. Of what was there nothing has turned. (LAID: no walk: one application.) -/
theorem Tryz.strconv_ParseInt_10_at64_range (s : ByteArray) (hlim : s.size ≤ 281474976710656) (h : Lib.parseIntB 64 s.data.toList = .range) (ev : Value) (w : World) (hv : w.cell? ⟨2, 0, none⟩ = some ev) (hev : ev = .nilIface ∨ ∃ te pe, ev = .iface te pe) :
  Calls Tryz.prog 151 #[.string s, .int .i64 10, .int .i64 64] w fun e w' => ∃ N, e = .returned (.tuple #[.int .i64 (Lib.intSat 64 s.data.toList), .iface 230 (.pointer (some ⟨N, 0, none⟩))]) ∧ w.heap.size ≤ N ∧ w'.heap[N]? = some (.cells #[.string ⟨#[80, 97, 114, 115, 101, 73, 110, 116]⟩, .string s, ev] 255 (0, 0)) ∧ Below w.heap.size w w' := Any.strconv_ParseInt_10_at64_range Tryz.laysC174 s hlim h ev w hv hev
end Go.Proofs
namespace Go.Proofs.YtnhdohednekhjaaGreatDoor
open Go.RowKit Go.Sort
/-- what the package variables hold: bytealg.MaxLen, strconv.ErrSyntax, strconv.ErrRange, the table of powers (blocks 0, 1, 2: this seat's) -/
structure RfPre (w : World) : Prop where
 lt : 2 < w.heap.size
 len : ∃ m, w.cell? ⟨0, 0, none⟩ = some (.int .i64 m)
 es : ∃ ev, w.cell? ⟨1, 0, none⟩ = some ev ∧ (ev = .nilIface ∨ ∃ te pe, ev = .iface te pe)
 er : ∃ ev, w.cell? ⟨2, 0, none⟩ = some ev ∧ (ev = .nilIface ∨ ∃ te pe, ev = .iface te pe)
 tab : Lib.TabIs Tryz.prog w "internal/strconv.uint64pow10" .u64 Lib.pow10Tab
theorem pow_named : ∃ g, Tryz.prog.globalNamed "internal/strconv.uint64pow10" = some g := Option.isSome_iff_exists.1 (by kernel_rfl)
theorem RfPre.below {w w' : World} (h : RfPre w) (hb : Below w.heap.size w w') : RfPre w' where
 lt := Nat.lt_of_lt_of_le h.lt hb.size
 len := let ⟨m, c⟩ := h.len; ⟨m, (cellB hb (by have := h.lt; omega)).trans c⟩
 es := let ⟨m, c, d⟩ := h.es; ⟨m, (cellB hb (by have := h.lt; omega)).trans c, d⟩
 er := let ⟨m, c, d⟩ := h.er; ⟨m, (cellB hb (by have := h.lt; omega)).trans c, d⟩
 tab := let ⟨_, hg⟩ := pow_named; Go.Joins.tab_stays hg h.tab hb (Nat.le_refl _)
theorem decAll_any (w : World) (hp : RfPre w) {n : Int} (h0 : 0 ≤ n) (h1 : n ≤ 9223372036854775807) : Calls Tryz.prog 71 #[.int .i64 n] w fun e w' => e = .returned (.string (bs (decB n))) ∧ Below w.heap.size w w' := by
 have HK : Hid (Lib.itoa n = decB n) := by unfold Hid Lib.itoa decB; rw [if_neg (by omega)]
 have HP := Lib.hid hp
 clear hp
 go_enter Tryz.func71, Tryz.ntmps71
 go_wp2_with fail
 refine (Tryz.strconv_FormatInt_10 n (by omega) h1 w HP.out.tab).mono ?_
 rintro e w1 ⟨rfl, k, os, rfl⟩
 rw [HK.out]
 have hb : Below w.heap.size w (grow (w.drewN k) os) := Lib.below_grow _ w (Nat.le_refl _) k os
 go_wp2_with fail
 go_ret
 exact ⟨rfl, hb⟩
theorem parse_le {t : List UInt8} {v : Int} (h : Lib.parseIntB 64 t = .ok v) : v ≤ 9223372036854775807 := by
 unfold Lib.parseIntB at h
 cases t with
 | nil => cases h
 | cons c r =>
  simp only at h
  split at h
  ·cases h
  ·cases h
  ·rename_i u _
   split at h
   ·cases h
   ·rename_i h1
    split at h
    ·cases h
    ·have := Lib.NumEnd.ok.inj h
     subst this
     by_cases hn : c.toNat = 45
     ·rw [if_pos hn]; omega
     ·rw [if_neg hn]
      have : ¬ (2 ^ (64 - 1) ≤ u) := fun hh => h1 ⟨hn, hh⟩
      omega
set_option maxHeartbeats 1600000 in
theorem readNumber_any (w : World) (hp : RfPre w) {t : List UInt8} (hl : t.length ≤ 100000) :
  Calls Tryz.prog 68 #[.string (bs t)] w fun e w' => e = .returned (.int .i64 (numI t)) ∧ Below w.heap.size w w' := by
 have HP := Lib.hid hp
 have hd : (bs t).data.toList = t := by simp [bs]
 have hs : (bs t).size = t.length := bs_size
 have HD := Lib.hid hd
 have HS := Lib.hid hs
 clear hp hd hs
 cases hq : Lib.parseIntB 64 t
 case ok v =>
  go_enter Tryz.func68, Tryz.ntmps68
  go_wp2_with fail
  refine (Tryz.strconv_ParseInt_10_at64_ok (bs t) (by rw [HS.out]; omega) v (by rw [HD.out]; exact hq) w).mono ?_
  rintro e w1 ⟨rfl, hw⟩
  have hb1 : Below w.heap.size w w1 := by
   rcases hw with rfl | ⟨x, rfl⟩
   ·exact Below.refl _ _
   ·exact Lib.bytesWorld_below _ _ _
  clear hw
  cases hv : decide (v < 0)
  ·have hv0 : 0 ≤ v := by have := of_decide_eq_false hv; omega
   have hv63 := parse_le hq
   have HP1 := Lib.hid (HP.out.below hb1)
   have HNI : Hid (numI t = match decB v == t with | true => v | false => -2) := by
    unfold Hid numI
    rw [hq]
    simp only [hv] <;> (cases decB v == t <;> rfl)
   clear hq
   go_wp2_with fail
   refine (decAll_any w1 HP1.out hv0 hv63).mono ?_
   rintro e w2 ⟨rfl, hb2⟩
   have hB2 := bthen hb1 hb2
   have hcm : ((bs (decB v)).toList == (bs t).toList) = (decB v == t) := by
    rw [show (bs (decB v)).toList = decB v from ByteArray.toList_mk _, show (bs t).toList = t from ByteArray.toList_mk _]
   cases hc : (decB v == t)
   ·have HN : Hid (numI t = -2) := by unfold Hid; rw [HNI.out, hc]
    rw [hc] at hcm
    go_wp2_with fail
    go_ret
    rw [HN.out]
    exact ⟨rfl, hB2⟩
   ·have HN : Hid (numI t = v) := by unfold Hid; rw [HNI.out, hc]
    rw [hc] at hcm
    go_wp2_with fail
    go_ret
    rw [HN.out]
    exact ⟨rfl, hB2⟩
  ·have HN : Hid (numI t = -2) := by unfold Hid numI; rw [hq]; simp only [hv]
   have hv0 : v < 0 := of_decide_eq_true hv
   go_wp2_with fail
   go_ret
   rw [HN.out]
   exact ⟨rfl, hb1⟩
 case range =>
  have HN : Hid (numI t = -2) := by unfold Hid numI; rw [hq]
  obtain ⟨ev, c, d⟩ := HP.out.er
  go_enter Tryz.func68, Tryz.ntmps68
  go_wp2_with fail
  refine (Tryz.strconv_ParseInt_10_at64_range (bs t) (by rw [HS.out]; omega) (by rw [HD.out]; exact hq) ev w c d).mono ?_
  rintro e w1 ⟨N, rfl, -, -, hb1⟩
  go_wp2_with fail
  go_ret
  rw [HN.out]
  exact ⟨rfl, hb1⟩
 ·have HN : Hid (numI t = -2) := by unfold Hid numI; rw [hq]
  obtain ⟨ev, c, d⟩ := HP.out.es
  go_enter Tryz.func68, Tryz.ntmps68
  go_wp2_with fail
  refine (Tryz.strconv_ParseInt_10_at64_syntax (bs t) (by rw [HS.out]; omega) ((congrArg (Lib.parseIntB 64) HD.out).trans hq) (fun v e => by cases e) (fun e => by cases e) ev w c d).mono ?_
  rintro e w1 ⟨N, rfl, -, -, hb1⟩
  go_wp2_with fail
  go_ret
  rw [HN.out]
  exact ⟨rfl, hb1⟩
end Go.Proofs.YtnhdohednekhjaaGreatDoor
namespace Go.Proofs.YtnhdohednekhjaaGreatDoor
open Go.RowKit Go.Sort
theorem digR_no {t : List UInt8} {k : Nat} (h : k < t.length) (hf : isDg t[k] = false) : digR t = [] := by
 unfold digR
 have : t.all isDg = false := by
  rw [List.all_eq_false]
  exact ⟨t[k], List.getElem_mem h, by rw [hf]; simp⟩
 rw [this]
set_option maxHeartbeats 3200000 in
set_option maxRecDepth 100000 in
theorem readDigits_any (w : World) {t : List UInt8} (hl : t.length ≤ 100000) :
  Calls Tryz.prog 133 #[.string (bs t)] w (RetS intsT w (digR t)) := by
 obtain ⟨S, hS⟩ : ∃ S, S = bs t := ⟨_, rfl⟩
 have hsz : S.size = t.length := by rw [hS, bs_size]
 have HDT : Hid (S.data.toList = t) := by unfold Hid; rw [hS]; simp [bs]
 rw [← hS]
 clear hS
 have hcv := fun W : World => Lib.run_convert_string_bytes (P := Tryz.prog) W 9 22 5 S Tryz.underlying9 Tryz.underlying22 Tryz.underlying5
 go_enter Tryz.func133, Tryz.ntmps133
 go_wp2_with fail
 clear hcv
 generalize hW0 : World.alloc w _ = X0
 have hb0 : Below w.heap.size w X0 := hW0 ▸ bA
 have hs0 : X0.heap.size = w.heap.size + 1 := by rw [← hW0]; simp
 have HB0 : Hid (Bl Ty.int 2 w.heap.size X0.heap.size X0 (.slice (some ⟨w.heap.size, 0, none⟩) 0 0) []) := by
  unfold Hid
  rw [← hW0]
  simpa using Bl.lit0 (E := Ty.int) (e := 2) (w := w) (Nat.le_refl _)
 clear hW0
 generalize hWX : Lib.bytesWorld X0 _ S = X
 have hbX : Below X0.heap.size X0 X := hWX ▸ Lib.bytesWorld_below _ _ _
 have HCE : Hid (∀ j (h : j < t.length), X.cell? ⟨w.heap.size + 1, j, none⟩ = some (.int .u8 (t[j]).toNat)) := fun j h => by
  rw [← hWX, ← hs0, Lib.bytesWorld_cell _ _ _ _ (by omega), HDT.out, List.getD_eq_getElem?_getD, List.getElem?_eq_getElem h]
  rfl
 have hsX : w.heap.size + 2 ≤ X.heap.size := by rw [← hWX, Lib.bytesWorld_size]; omega
 have HB1 : Hid (Bl Ty.int 2 w.heap.size X.heap.size X (.slice (some ⟨w.heap.size, 0, none⟩) 0 0) []) := (HB0.out.below hbX (Nat.le_refl _)).mono hbX.size
 have hbw : Below w.heap.size w X := bthen hb0 hbX
 clear hWX HB0 HDT hb0 hbX
 go_loopw [10, 3] (fun i q wr => ∃ k : Nat, k ≤ t.length ∧ i = .int .i64 k ∧ (t.take k).all isDg = true ∧ Bl Ty.int 2 w.heap.size wr.heap.size wr q ((t.take k).map dgV) ∧ Below w.heap.size w wr ∧ (q.ownBlock ≠ some (w.heap.size + 1) ∧ wr.heap[w.heap.size + 1]? = X.heap[w.heap.size + 1]? ∧ X.heap.size ≤ wr.heap.size)) (fun i _ _ => t.length - (intOf i).toNat)
 case atStart => exact ⟨0, Nat.zero_le _, rfl, by simp, by simpa using HB1.out, hbw, by simp [Value.ownBlock], rfl, Nat.le_refl _⟩
 case round =>
  obtain ⟨k, hk, rfl, hdg, hBl, hbe, hrow⟩ := hrel
  obtain ⟨wv, rfl⟩ : ∃ wv : World, wv = wr := ⟨_, rfl⟩
  have HB := Lib.hid hBl
  have HR := Lib.hid hrow
  have HDG := Lib.hid hdg
  have hzv := hbe.size
  have hzr := hrow.2.2
  have hml : ((t.take k).map dgV).length ≤ 100000 := by rw [List.length_map, List.length_take]; omega
  clear hBl hrow hdg HB1
  by_cases hkl : k < t.length
  ·have e0 := (World.cell?_of_block (a := ⟨w.heap.size + 1, k, none⟩) HR.out.2.1).trans (HCE.out k hkl)
   have HNO : Hid (isDg t[k] = false → digR t = []) := digR_no hkl
   have HSN : Hid (t.take (k + 1) = t.take k ++ [t[k]]) := List.take_succ_eq_append_getElem hkl
   generalize t[k] = c at e0 HNO HSN
   by_cases hlo : c.toNat < 48
   ·have HN : Hid (digR t = []) := HNO.out (by unfold isDg; rw [show decide (48 ≤ c.toNat) = false by simpa using hlo]; rfl)
    go_wp2_with fail
    go_ret
    exact ⟨_, rfl, by rw [HN.out]; exact fr_nil, hbe⟩
   by_cases hhi : 57 < c.toNat
   ·have HN : Hid (digR t = []) := HNO.out (by unfold isDg; rw [show decide (c.toNat ≤ 57) = false by simpa using hhi]; simp)
    go_wp2_with fail
    go_ret
    exact ⟨_, rfl, by rw [HN.out]; exact fr_nil, hbe⟩
   have HT : Hid (isDg c = true) := by unfold Hid isDg; simp; omega
   have HI : Hid (I64 ((c.toNat : Int) - 48)) := I64.small (by omega) (by omega)
   go_wp2_with (refine wpList_push (E := Ty.int) _ rfl _ _ 48 2 rfl elInt rfl (HB.out.below bA (Nat.le_refl _)) rfl news1 (fr_int HI.out) (by omega) (by decide) hzv (by simp) ?_; intro v6 w6 hB6 hg6 ho6)
   have hb6 : Below w.heap.size w w6 := (hbe.alloc hbe.size _).grown hg6 (by simp; omega) (fun q hq => HB.out.own hq)
   have HB6 := Lib.hid hB6
   have HR6 : Hid (v6.ownBlock ≠ some (w.heap.size + 1) ∧ w6.heap[w.heap.size + 1]? = X.heap[w.heap.size + 1]? ∧ X.heap.size ≤ w6.heap.size) := by
    obtain ⟨n1, n2, n3⟩ := HR.out
    have hz6 := hg6.size
    simp only [World.size_alloc] at hz6
    refine ⟨?_, ?_, by omega⟩
    ·rcases ho6 with e | e <;> rw [e]
     ·exact n1
     ·intro h; simp at h; omega
    ·rw [hg6.block (w.heap.size + 1) (by simp; omega) (fun h => n1 h.symm), ← n2]
     exact (bA (w := wv)).block (w.heap.size + 1) (by omega)
   clear hB6 ho6 hg6
   go_wp2_with fail
   go_roundw
   case rel => exact ⟨k + 1, by omega, by go_num, by rw [HSN.out, List.all_append, HDG.out]; simp [HT.out], by rw [HSN.out, List.map_append]; exact HB6.out, hb6, HR6.out⟩
   case measure => simp [intOf]; omega
  ·obtain rfl : k = t.length := by omega
   have HN : Hid (digR t = (t.take t.length).map dgV) := by
    have := HDG.out
    rw [List.take_length] at this
    unfold Hid digR
    rw [this, List.take_length]
   have HF := Lib.hid (HB.out.fr (by unfold capMax; omega))
   go_wp2_with fail
   go_ret
   exact ⟨_, rfl, by rw [HN.out]; exact HF.out, hbe⟩
end Go.Proofs.YtnhdohednekhjaaGreatDoor
namespace Go.Proofs.YtnhdohednekhjaaGreatDoor
open Go.RowKit Go.Sort
end Go.Proofs.YtnhdohednekhjaaGreatDoor
namespace Go.Proofs.YtnhdohednekhjaaGreatDoor
open Go.RowKit
/-- new memory that a slice reads so -/
def frSO {α : Type} (E : Ty α) (base : Nat) (x : α) : OP := fun o v W => ∃ fp : List Nat, E.rd W [v] x fp ∧ fp.Nodup ∧ (∀ k ∈ fp, base ≤ k) ∧ Unf W fp ∧ ∀ k ∈ fp, o ≠ some k
theorem st_frSO {α : Type} {E : Ty α} {base : Nat} {x : α} : StG .plain (frSO E base x) :=
 ⟨⟨fun _ _ _ _ ⟨fp, h2, h4, h5, h6, h3⟩ hb => ⟨fp, E.same h2 (Same.below hb (E.lt h2)), h4, h5, h6.same (Same.below hb (E.lt h2)), h3⟩,
  fun _ _ _ ⟨fp, h2, h4, h5, h6, _⟩ hb => ⟨fp, E.same h2 (Same.below hb (E.lt h2)), h4, h5, h6.same (Same.below hb (E.lt h2)), some_ne (E.lt h2)⟩⟩,
  fun _ _ _ _ ⟨fp, h2, h4, h5, h6, h3⟩ hb => ⟨fp, E.same h2 (hb.same (E.lt h2) h3), h4, h5, h6.same (hb.same (E.lt h2) h3), h3⟩⟩
theorem frSO_val {α : Type} {E : Ty α} {base : Nat} {x : List α} {W : World} {u : Value} {o : Option Nat} (h : frSO (Ty.slice E) base x o u W) : ∃ ad cap, u = .slice ad x.length cap := let ⟨_, h, _⟩ := h; rd_slice ⟨_, h⟩
end Go.Proofs.YtnhdohednekhjaaGreatDoor
