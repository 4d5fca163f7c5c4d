/-
Contracts: an operation's text, and an operation read from its text.
Contracts: tuples and places drawn from bytes; the law's own test of its bytes' length.
The law of an append of a whole row: 'append(a, b...)', where b is new data. No program is named here.
Bytes put behind a literal's byte, in a region that makes a box; the law's own test of its bytes' length.
Contracts: whether the atoms that are due hold.
Contracts: the search, told to a listener.
Contracts: a search's own data, made.
Contracts: a search for an instance; the first values.
Contracts: the solutions of an instance, counted, listed, the first; the program's.
Contracts: the solutions of an instance, the reference's.
Contracts: the first values for which all atoms hold, the reference's.
Contracts: whether a formula holds at a tuple, and where; both sides.
Contracts: the value of a formula, both sides.
Contracts: the formula of an instance, both sides.
Contracts: the conjunction of two formulas.
Plain mathematics: the tuples of a relation made by number are in order; where two values of formulas are apart.
Contracts: the value of a formula with its code, both sides.
Contracts: a template in new memory; a template extended by a formula: plain parts, the program's copies.
Contracts: a set of tuples with its size and arity: made of a relation, a tuple put into it, its relation.
Contracts: the relation of a set.
Contracts: the closure of a set of tuples under operations, the reference's.
Contracts: the conjunction of two formulas, the reference's.
Contracts: a relation of a formula replaced by a formula: plain parts; the program's.
Contracts: numbers, operations and kept templates drawn from bytes.
What FnOperations asks of its calls, each told by a property of what comes back.
Contracts: a relation drawn, numbers compared, operations compared, the full relation; whether an operation keeps all.
Rows whose listed variables and whose world's shape are both used: the wrap; what a call of ParseInt or Split asks of the package's variables.
-/
import Derived.Test.YtnhdohednekhjaaGreatDoorQAI
import Derived.Test.YtnhdohednekhjaaGreatDoorQAB
import Derived.Test.YtnhdohednekhjaaGreatDoorQAG
import Derived.Test.YtnhdohednekhjaaGreatDoorQAH
import Derived.Test.YtnhdohednekhjaaGreatDoorQAC
import Derived.Test.YtnhdohednekhjaaGreatDoorQAF
import Derived.Test.YtnhdohednekhjaaGreatDoorQAA
import Derived.Test.YtnhdohednekhjaaGreatDoorQAE
import Derived.Deep.LoopGhost
import Derived.Test.YtnhdohednekhjaaGreatDoorQAD
import Derived.HandedShaped
import Derived.Shelf.Vars
import Derived.Stop.LaidErr
import Derived.Lib.LaidU8
import Derived.Lib.LaidTab
namespace Go.Proofs.YtnhdohednekhjaaGreatDoor
open Go.RowKit Go.Sort
set_option maxHeartbeats 1600000 in
set_option maxRecDepth 100000 in
theorem isAnyOp_any (w : World) {cs : Array Value} {f : Int × List Int} (h : opT.Rd w cs.toList f) {s : Int} (hf : opOk s f) :
  Calls Tryz.prog 134 #[.agg cs] w fun e w' => e = .returned (.bool true) ∧ Below w.heap.size w w' := by
 have hs := hf.1
 unfold sizeOk at hs
 have H := Lib.hid h
 have HF := Lib.hid hf
 obtain ⟨u2, hv2, hI, hx⟩ := pair_ex h
 obtain rfl := agg_of hv2
 clear h hx hv2 hf hI
 go_enter Tryz.func134, Tryz.ntmps134
 go_wp2_with fail
 generalize hW : World.alloc w _ = W
 have hbW : Below w.heap.size w W := hW ▸ bA
 have hsW : w.heap.size + 1 ≤ W.heap.size := by rw [← hW]; simp
 have f0 : W.cell? ⟨w.heap.size, 0, none⟩ = some (.int .i64 f.1) := by rw [← hW]; simp [go_sem]
 have f1 : W.cell? ⟨w.heap.size, 1, none⟩ = some u2 := by rw [← hW]; simp [go_sem]
 clear hW
 have HC := Lib.hid (And.intro f0 f1)
 clear f0 f1
 go_loopw [3] (fun i wr => ∃ k : Nat, 1 ≤ k ∧ (k : Int) ≤ s ∧ i = .int .i64 (k : Int) ∧ Below W.heap.size W wr) (fun i _ => 5 - (intOf i).toNat)
 case atStart => exact ⟨1, Nat.le_refl _, by omega, rfl, Below.refl _ _⟩
 case round =>
  obtain ⟨k, hk1, hk2, rfl, hbe⟩ := hrel
  obtain ⟨wv, rfl⟩ : ∃ wv : World, wv = wr := ⟨_, rfl⟩
  obtain ⟨f0, f1⟩ := HC.out
  have hzv := hbe.size
  replace f0 := (cellB hbe (by omega)).trans f0
  replace f1 := (cellB hbe (by omega)).trans f1
  have hbv := bthen hbW hbe
  have hin : inB (k : Int) 1 4 = true := inB_true.2 (by omega)
  cases hv : tb (opOk (k : Int) f)
  ·have hne : (k : Int) < s := by
    rcases Int.lt_or_eq_of_le hk2 with h | e
    ·exact h
    ·rw [e, tb_true HF.out] at hv; cases hv
   go_wp2_with (go_at_call 113; refine (isSize_any _ _).mono ?_; rintro e w' ⟨rfl, rfl⟩; rw [hin])
   refine (ValidOp_any wv (f := f) (H.out.below hbv) (k : Int)).mono ?_
   rintro e w2 ⟨rfl, hb2⟩
   rw [hv]
   go_wp2_with fail
   go_roundw
   case rel => exact ⟨k + 1, by omega, by omega, by go_num, bthen hbe hb2⟩
   case measure => simp [intOf]; omega
  ·go_wp2_with (go_at_call 113; refine (isSize_any _ _).mono ?_; rintro e w' ⟨rfl, rfl⟩; rw [hin])
   refine (ValidOp_any wv (f := f) (H.out.below hbv) (k : Int)).mono ?_
   rintro e w2 ⟨rfl, hb2⟩
   rw [hv]
   go_wp2_with fail
   go_ret
   exact ⟨rfl, bthen hbv hb2⟩
set_option maxHeartbeats 1600000 in
set_option maxRecDepth 100000 in
theorem OpText_any (w : World) {cs : Array Value} {f : Int × List Int} (h : opT.Rd w cs.toList f) {s : Int} (hf : opOk s f) :
  Calls Tryz.prog 49 #[.agg cs] w fun e w' => e = .returned (.string (bs (opTx f))) ∧ Below w.heap.size w w' := by
 have H := Lib.hid h
 have HF := Lib.hid hf
 have ha := hf.2.1
 have HIN : Hid (∀ a ∈ f.2, 0 ≤ a ∧ a < 100) := fun a ha => by have := opT_in hf a ha; omega
 have hl3 : f.2.length ≤ 1000 := by have := (op_dims hf).2.2.2.2.2; omega
 obtain ⟨hd1, hd2⟩ := opD_len hf
 have HTX : Hid (opTx f = cat (cat (cat [111, 112, 32] (decB f.1)) [32]) (catL decB [] f.2)) := rfl
 obtain ⟨u2, hv2, hI, hx⟩ := pair_ex h
 obtain rfl := agg_of hv2
 obtain ⟨a1, k1, rfl⟩ := rd_slice hx
 have HX := Lib.hid hx
 clear h hx hv2 hf hI
 have ha1 : ∀ W : World, (Op.stringOp .add ⟨#[111, 112, 32]⟩ ⟨(decB f.1).toArray⟩).run Tryz.prog W = .ok (.string ⟨(cat [111, 112, 32] (decB f.1)).toArray⟩) W := fun W => add_cat W _ _ (by simp; omega)
 have ha2 : ∀ W : World, (Op.stringOp .add ⟨(cat [111, 112, 32] (decB f.1)).toArray⟩ ⟨#[32]⟩).run Tryz.prog W = .ok (.string ⟨(cat (cat [111, 112, 32] (decB f.1)) [32]).toArray⟩) W := fun W => add_cat W _ _ (by rw [cat_len]; simp; omega)
 have ha3 : ∀ W : World, (Op.stringOp .add ⟨(cat (cat [111, 112, 32] (decB f.1)) [32]).toArray⟩ ⟨(catL decB [] f.2).toArray⟩).run Tryz.prog W = .ok (.string ⟨(opTx f).toArray⟩) W := fun W => by
  rw [HTX.out]; exact add_cat W _ _ (by rw [cat_len, cat_len]; simp; omega)
 have HHA := Lib.hid (And.intro ha1 (And.intro ha2 ha3))
 clear ha1 ha2 ha3 hd1 hd2
 go_enter Tryz.func49, Tryz.ntmps49
 go_wp2_with fail
 generalize hW : World.alloc w _ = W
 have hbW : Below w.heap.size w W := hW ▸ bA
 have hsW : w.heap.size + 1 ≤ W.heap.size := by rw [← hW]; simp
 have f0 : W.cell? ⟨w.heap.size, 0, none⟩ = some (.int .i64 f.1) := by rw [← hW]; simp [go_sem]
 have f1 : W.cell? ⟨w.heap.size, 1, none⟩ = some (.slice a1 f.2.length k1) := by rw [← hW]; simp [go_sem]
 clear hW
 refine (isAnyOp_any W (H.out.below hbW) HF.out).mono ?_
 rintro e w1 ⟨rfl, hb1⟩
 have hbw1 := bthen hbW hb1
 have hz1 := hb1.size
 replace f0 := (cellB hb1 (by omega)).trans f0
 replace f1 := (cellB hb1 (by omega)).trans f1
 have hw1 : w.heap.size < w1.heap.size := by omega
 have HX1 := Lib.hid (HX.out.below hbw1)
 have HA : Hid (1 ≤ f.1 ∧ f.1 ≤ 3) := ha
 clear ha HX H
 obtain ⟨ha1, ha2, ha3⟩ := HHA.out
 generalize f.1 = F1 at *
 go_upto_region 3 with fail
 have k0 := cell_regrown f0
 have k1' := cell_regrown f1
 have cD : ∀ d os, Calls Tryz.prog 71 #[.int .i64 F1] (grow (redrawn w1 d) os) fun e w'' => e = .returned (.string ⟨(decB F1).toArray⟩) ∧ ∃ p : Regrown, w'' = grow (redrawn w1 p.d) p.os := fun d os =>
  Calls.regrown_of (pure_below (dec_any _ (by have := HA.out; omega) (by have := HA.out; omega)))
 have cS : ∀ d os, Calls Tryz.prog 72 #[.slice a1 f.2.length k1] (grow (redrawn w1 d) os) fun e w'' => e = .returned (.string ⟨(catL decB [] f.2).toArray⟩) ∧ ∃ p : Regrown, w'' = grow (redrawn w1 p.d) p.os := fun d os =>
  Calls.regrown_of (pure_below (digits_any _ (HX1.out.below (below_regrown _ d os)) HIN.out hl3))
 refine wp_region_quiet_below (by kernel_rfl) (by kernel_rfl) ?_
 repeat (go_big_quiet_step (first | exact cD _ _ | exact cS _ _))
 refine wpQuiet_nil ?_
 rintro w3 ⟨p, rfl⟩
 have hb3 := below_regrown w1 p.d p.os
 go_wp2_with fail
 go_ret
 exact ⟨rfl, bthen hbw1 hb3⟩
theorem rd_pairS {α : Type} {E : Ty α} {w : World} {cs : List Value} {x : Int × List α} {fp : List Nat} (h : (Ty.cons (Ty.slice E)).rd w cs x fp) : ∃ ad cap, cs = [.int .i64 x.1, .slice ad x.2.length cap] := by
 obtain ⟨v, hv, -, hx⟩ := pair_ex ⟨_, h⟩
 obtain ⟨ad, cap, rfl⟩ := rd_slice hx
 exact ⟨ad, cap, hv⟩
theorem split_rowO {t : List UInt8} : ((Lib.splitB ⟨#[32]⟩ 0 (Lib.countB (bs t) ⟨#[32]⟩) (bs t)).map Value.string) = (Lib.split t [32]).map (fun l => Value.string (bs l)) ∧ (Lib.split t [32]).length = Lib.countB (bs t) ⟨#[32]⟩ + 1 := by
 have h1 := Lib.splitB_data ⟨#[32]⟩ 0 (Lib.countB (bs t) ⟨#[32]⟩) (bs t)
 have h2 := Lib.splitB_all ⟨#[32]⟩ (by decide) 0 _ (bs t) rfl
 have hd : (bs t).data.toList = t := by simp [bs]
 have hc : Lib.countB (bs t) ⟨#[32]⟩ = Lib.count t [32] := by unfold Lib.countB; rw [hd]
 rw [hd, show (⟨#[32]⟩ : ByteArray).data.toList = [32] from rfl] at h1
 have h3 : Lib.split t [32] = (Lib.splitB ⟨#[32]⟩ 0 (Lib.countB (bs t) ⟨#[32]⟩) (bs t)).map (·.data.toList) := by
  rw [h1]; unfold Lib.split; rw [hc]
 refine ⟨?_, by rw [h3, List.length_map, h2]⟩
 rw [h3, List.map_map]
 refine List.map_congr_left fun x _ => ?_
 show Value.string x = Value.string (bs x.data.toList)
 simp [bs]
set_option maxHeartbeats 6400000 in
set_option maxRecDepth 100000 in
theorem ReadOp_any (w : World) (hp : RfPre w) {f : Int × List Int} {s : Int} (hf : opOk s f) :
  Calls Tryz.prog 48 #[.string (bs (opTx f))] w (RetAC opT w f 0) := by
 obtain ⟨S, hS⟩ : ∃ S, S = bs (opTx f) := ⟨_, rfl⟩
 have hlt0 := opTx_len hf
 have hsz : S.size = (opTx f).length := by rw [hS, bs_size]
 have HS := Lib.hid hS
 have HP := Lib.hid hp
 have HF := Lib.hid hf
 have ha := hf.2.1
 obtain ⟨hn1, hn2⟩ := op_read hf
 obtain ⟨hd1, hd2⟩ := opD_len hf
 have HN1 := Lib.hid hn1
 have HN2 := Lib.hid hn2
 have hI1 : I64 f.1 := I64.small (by omega) (by omega)
 have HWO := Lib.hid (op_words hf)
 rw [← hS]
 have hln : (opTx f).length ≤ 20000 := by omega
 have hlt : ¬ (20000 : Int) < (((opTx f).length : Nat) : Int) := by omega
 clear hS hp hf ha hn1 hn2 hlt0
 go_enter Tryz.func48, Tryz.ntmps48
 go_wp2_with fail
 generalize hW : World.alloc w _ = X
 have hbX : Below w.heap.size w X := hW ▸ bA
 have hsX : w.heap.size + 1 ≤ X.heap.size := by rw [← hW]; simp
 have r0 : X.cell? ⟨w.heap.size, 0, none⟩ = some (.int .i64 0) := by rw [← hW]; simp [go_sem]
 have r1 : X.cell? ⟨w.heap.size, 1, none⟩ = some (.slice none 0 0) := by rw [← hW]; simp [go_sem]
 have m0 : X.frozen? ⟨w.heap.size, 0, none⟩ = false := by rw [← hW]; simp [go_sem]
 have m1 : X.frozen? ⟨w.heap.size, 1, none⟩ = false := by rw [← hW]; simp [go_sem]
 clear hW
 obtain ⟨m, hm⟩ := (HP.out.below hbX).len
 have hspl := Tryz.strings_Split (bs (opTx f)) ⟨#[32]⟩ m X (by rw [bs_size]; omega) hm (by decide)
 rw [← HS.out] at hspl
 refine hspl.mono ?_
 rintro e w1 ⟨rfl, hw1⟩
 obtain ⟨hrow, hlen⟩ := split_rowO (t := opTx f)
 rw [HS.out, hrow] at hw1
 rw [HS.out, ← hlen, HWO.out]
 rw [HWO.out] at hw1
 have hb1 : Below X.heap.size X w1 := hw1 ▸ bA
 have e0 : w1.cell? ⟨X.heap.size, 0, none⟩ = some (.string (bs [111, 112])) := by rw [hw1]; simp [opW]
 have e1 : w1.cell? ⟨X.heap.size, 1, none⟩ = some (.string (bs (decB f.1))) := by rw [hw1]; simp [opW]
 have e2 : w1.cell? ⟨X.heap.size, 2, none⟩ = some (.string (bs (catL decB [] f.2))) := by rw [hw1]; simp [opW]
 have hsz1 : X.heap.size + 1 ≤ w1.heap.size := by rw [hw1]; simp
 rw [show (opW f).length = 3 from rfl]
 rw [← HS.out]
 clear hw1 hrow hlen hm hspl
 have hbw1 := bthen hbX hb1
 replace r0 := (cellB hb1 (by omega)).trans r0
 replace r1 := (cellB hb1 (by omega)).trans r1
 replace m0 := (frozenB hb1 (by omega)).trans m0
 replace m1 := (frozenB hb1 (by omega)).trans m1
 have hz0 : w.heap.size < X.heap.size := by omega
 have HP1 := Lib.hid (HP.out.below hbw1)
 generalize decB f.1 = D1 at e1 hd1 HN1
 generalize catL decB [] f.2 = D2 at e2 hd2 HN2
 have hcw : ((bs [111, 112]).toList == [111, 112]) = true := by rw [show (bs [111, 112]).toList = [111, 112] from ByteArray.toList_mk _]; rfl
 go_upto_region 4 with fail
 refine wp_region_box [(.plain, exO (.slice (some ⟨X.heap.size, 0, none⟩) 3 3)), (.plain, exO (.pointer (some ⟨X.heap.size, 1, none⟩))), (.plain, exO (.string (bs D1))), (.plain, exO (.int .i64 f.1)), (.plain, exO (.slice (some ⟨X.heap.size, 0, none⟩) 3 3)), (.plain, exO (.pointer (some ⟨X.heap.size, 2, none⟩))), (.plain, exO (.string (bs D2))), (.plain, frSO intsT w1.heap.size f.2), (.plain, frAO opT w1.heap.size f), (.alloc, boxO 2), (.store, heldO opT w1.heap.size f)] (by kernel_rfl) (by kernel_rfl) ⟨st_exO, st_exO, st_exO, st_exO, st_exO, st_exO, st_exO, st_frSO, st_frAO, st_boxO, st_heldO, trivial⟩ ⟨?j8_0, ?j8_1, ?j8_2, ?j8_3, ?j8_4, ?j8_5, ?j8_6, ?j8_7, ?j8_8, ?j8_9, ?j8_10, trivial⟩ ?hQ8
 case j8_0 =>
  intro a' w' ob hb hbo hal hd
  have e3 : a'.tmps[4]?.getD undef = .slice (some ⟨X.heap.size, 0, none⟩) 3 3 := ev (slot_o2 hd 4 rfl rfl)
  go_simp
  exact ⟨_, ⟨rfl, Below.refl _ _⟩, rfl⟩
 case j8_1 =>
  intro a' w' ob hb hbo hal hd
  have e3 := ev (slot_w2 hd 23 (exO (.slice (some ⟨X.heap.size, 0, none⟩) 3 3)) rfl rfl)
  go_simp
  exact ⟨_, ⟨rfl, Below.refl _ _⟩, rfl⟩
 case j8_2 =>
  intro a' w' ob hb hbo hal hd
  have e3 := ev (slot_w2 hd 24 (exO (.pointer (some ⟨X.heap.size, 1, none⟩))) rfl rfl)
  have q0 := (cellB hb (show X.heap.size < w1.heap.size by omega)).trans e1
  go_simp
  exact ⟨_, ⟨rfl, Below.refl _ _⟩, rfl⟩
 case j8_3 =>
  intro a' w' ob hb hbo hal hd
  have e3 := ev (slot_w2 hd 25 (exO (.string (bs D1))) rfl rfl)
  go_simp
  exact ⟨rfl, Below.refl _ _, (readNumber_any w' (HP1.out.below hb) (t := D1) (by omega)).mono fun e w'' ⟨he, hb2⟩ => ⟨_, he, hb2, congrArg _ HN1.out⟩⟩
 case j8_4 =>
  intro a' w' ob hb hbo hal hd
  have e3 : a'.tmps[4]?.getD undef = .slice (some ⟨X.heap.size, 0, none⟩) 3 3 := ev (slot_o2 hd 4 rfl rfl)
  go_simp
  exact ⟨_, ⟨rfl, Below.refl _ _⟩, rfl⟩
 case j8_5 =>
  intro a' w' ob hb hbo hal hd
  have e3 := ev (slot_w2 hd 27 (exO (.slice (some ⟨X.heap.size, 0, none⟩) 3 3)) rfl rfl)
  go_simp
  exact ⟨_, ⟨rfl, Below.refl _ _⟩, rfl⟩
 case j8_6 =>
  intro a' w' ob hb hbo hal hd
  have e3 := ev (slot_w2 hd 28 (exO (.pointer (some ⟨X.heap.size, 2, none⟩))) rfl rfl)
  have q0 := (cellB hb (show X.heap.size < w1.heap.size by omega)).trans e2
  go_simp
  exact ⟨_, ⟨rfl, Below.refl _ _⟩, rfl⟩
 case j8_7 =>
  intro a' w' ob hb hbo hal hd
  have e3 := ev (slot_w2 hd 29 (exO (.string (bs D2))) rfl rfl)
  go_simp
  exact ⟨rfl, Below.refl _ _, (readDigits_any w' (t := D2) (by omega)).mono fun e w'' ⟨u, he, hf, hb2⟩ => by
   rw [HN2.out] at hf
   obtain ⟨fp, h1, h2, h3, h4⟩ := hf
   exact ⟨_, he, hb2, fp, h1, h2, fun k hk => Nat.le_trans hb.size (h3 k hk), h4, fun k hk e => by have := hbo k e; have := h3 k hk; omega⟩⟩
 case j8_8 =>
  intro a' w' ob hb hbo hal hd
  have e3 := ev (slot_w2 hd 26 (exO (.int .i64 f.1)) rfl rfl)
  have d30 := slot_w2 hd 30 (frSO intsT w1.heap.size f.2) rfl rfl
  obtain ⟨ba, bc, e30⟩ := frSO_val d30
  obtain ⟨fp30, hr30, hn30, hg30, hu30, ho30⟩ := d30
  rw [e30] at hr30
  have e30' := ev e30
  go_simp
  exact ⟨_, ⟨rfl, Below.refl _ _⟩, [.int .i64 f.1, .slice ba f.2.length bc], fp30, rfl, ⟨_, rfl, hI1, hr30⟩, hn30, hg30, hu30, ho30⟩
 case j8_9 =>
  intro a' w' ob hb hbo hal hd
  obtain rfl := hal rfl
  go_simp
  exact ⟨_, ⟨rfl, by simp, bA⟩, _, rfl, rfl, by simp, box2n⟩
 case j8_10 =>
  intro a' w' ob hb hbo hal hd
  obtain ⟨bb, rfl, e10, hbb, hcl⟩ := slot_w2 hd 5 (boxO 2) rfl rfl
  have e10' := ev e10
  obtain ⟨cs47, fp47, e47, hr47, hn47, hg47, hu47, ho47⟩ := slot_w2 hd 31 (frAO opT w1.heap.size f) rfl rfl
  obtain ⟨ad47, cap47, rfl⟩ := rd_pairS hr47
  have e47' := ev e47
  obtain ⟨⟨y0, c0⟩, f0⟩ := hcl 0 (by decide)
  obtain ⟨⟨y1, c1⟩, f1⟩ := hcl 1 (by decide)
  go_simp
  exact held2 c0 c1 hr47 hn47 hg47 hu47 ho47 undef
 intro vs8 w2 ob8 hb2 hbo8 J0
 obtain ⟨v8_0, _, rfl, q0, J1⟩ := HAll2_cons J0
 obtain ⟨v8_1, _, rfl, q1, J2⟩ := HAll2_cons J1
 obtain ⟨v8_2, _, rfl, q2, J3⟩ := HAll2_cons J2
 obtain ⟨v8_3, _, rfl, q3, J4⟩ := HAll2_cons J3
 obtain ⟨v8_4, _, rfl, q4, J5⟩ := HAll2_cons J4
 obtain ⟨v8_5, _, rfl, q5, J6⟩ := HAll2_cons J5
 obtain ⟨v8_6, _, rfl, q6, J7⟩ := HAll2_cons J6
 obtain ⟨v8_7, _, rfl, q7, J8⟩ := HAll2_cons J7
 obtain ⟨v8_8, _, rfl, q8, J9⟩ := HAll2_cons J8
 obtain ⟨v8_9, _, rfl, q9, J10⟩ := HAll2_cons J9
 obtain ⟨v8_10, _, rfl, q10, J11⟩ := HAll2_cons J10
 obtain rfl := HAll2_nil J11
 obtain rfl := id q0
 obtain rfl := id q1
 obtain rfl := id q2
 obtain rfl := id q3
 obtain rfl := id q4
 obtain rfl := id q5
 obtain rfl := id q6
 obtain ⟨sa, sc, rfl⟩ := frSO_val q7
 obtain ⟨cs8, fp8, rfl, -⟩ := id q8
 obtain ⟨bb, rfl, rfl, hltbb, -⟩ := id q9
 obtain ⟨_, cs, fpx, hob, hr1, hr2, hr3, hr4, -, kk⟩ := id q10
 simp only [Option.some.injEq] at hob
 subst hob
 have hcf : opT.Fr w1.heap.size w2 cs f := ⟨fpx, hr1, hr2, hr3, hr4⟩
 obtain ⟨ga, gc, rfl⟩ := fr_pair hcf
 have x0 : w2.cell? ⟨bb, 0, none⟩ = some (.int .i64 f.1) := kk 0 (by simp)
 have x1 : w2.cell? ⟨bb, 1, none⟩ = some (.slice ga f.2.length gc) := kk 1 (by simp)
 have HFO := Lib.hid hcf
 obtain ⟨hbb1, hbb2⟩ := hbo8 bb rfl
 have hbw2 := bthen hbw1 hb2
 have hz2 := hb2.size
 replace r0 := (cellB hb2 (by omega)).trans r0
 replace r1 := (cellB hb2 (by omega)).trans r1
 replace m0 := (frozenB hb2 (by omega)).trans m0
 replace m1 := (frozenB hb2 (by omega)).trans m1
 clear kk hr1 hr2 hr3 hr4 hcf q0 q1 q2 q3 q4 q5 q6 q7 q8 q9 q10 e0 e1 e2 hbo8 hcw
 simp only [putAll, Act.put]
 go_simp
 go_wp2_with fail
 refine (OpText_any w2 HFO.out.rd HF.out).mono ?_
 rintro e w3 ⟨rfl, hb3⟩
 have hbw3 := bthen hbw2 hb3
 have hz3 := hb3.size
 replace r0 := (cellB hb3 (by omega)).trans r0
 replace r1 := (cellB hb3 (by omega)).trans r1
 replace x0 := (cellB hb3 (by omega)).trans x0
 replace x1 := (cellB hb3 (by omega)).trans x1
 replace m0 := (frozenB hb3 (by omega)).trans m0
 replace m1 := (frozenB hb3 (by omega)).trans m1
 rw [← HS.out]
 obtain ⟨g0, g1⟩ := set2_cells (x := .int .i64 f.1) (y := .slice ga f.2.length gc) r0 r1
 have hcs : (S.toList != S.toList) = false := bne_self_eq_false _
 have HFR : Hid (opT.Fr w.heap.size ((w3.setCell ⟨w.heap.size, 0, none⟩ (.int .i64 f.1)).setCell ⟨w.heap.size, 1, none⟩ (.slice ga f.2.length gc)) [.int .i64 f.1, .slice ga f.2.length gc] f) := (((HFO.out.below hb3).set (by simp; omega)).set (by simp; omega)).mono (by omega)
 have HBB : Hid (Below w.heap.size w ((w3.setCell ⟨w.heap.size, 0, none⟩ (.int .i64 f.1)).setCell ⟨w.heap.size, 1, none⟩ (.slice ga f.2.length gc))) := (hbw3.setCell (Nat.le_refl _) _).setCell (Nat.le_refl _) _
 go_wp2_with fail
 refine bodyPost_ret (v := .tuple #[.agg #[.int .i64 f.1, .slice ga f.2.length gc], .int .i64 0]) (by simp [results, Tryz.results48, go_sem, g0, g1]) rfl ⟨[.int .i64 f.1, .slice ga f.2.length gc], rfl, HFR.out, HBB.out⟩
end Go.Proofs.YtnhdohednekhjaaGreatDoor
namespace Go.Proofs.YtnhdohednekhjaaGreatDoor
open Go.RowKit Go.Sort
/-- a drawn tuple comes back -/
def TuR (s : Int) (n : Nat) (w : World) (e : Ending) (w' : World) : Prop :=
 ∃ u xs, e = .returned u ∧ intsT.Fr w.heap.size w' [u] xs ∧ tupP s n xs ∧ Below w.heap.size w w'
set_option maxHeartbeats 3200000 in
set_option maxRecDepth 100000 in
theorem P6Tuple_any (w : World) {v : Value} {code : List Int} (h : bytesT.Rd w [v] code) {s : Int} {ar : Nat} (hs : 1 ≤ s ∧ s ≤ 4) (har : ar ≤ 4) :
  Calls Tryz.prog 28 #[v, .int .i64 s, .int .i64 ar] w (TuR s ar w) := by
 obtain ⟨ad, cap, rfl⟩ := rd_slice h
 have H := Lib.hid h
 clear h
 go_enter Tryz.func28, Tryz.ntmps28
 go_wp2_with fail
 refine (l00From_any w H.out).mono ?_
 rintro e w1 ⟨rfl, hs1, hb1⟩
 have HS := Lib.hid hs1
 have hsl := hs1.lt
 have hz1 := hb1.size
 clear hs1
 go_wp2_with fail
 go_loopw [9, 8] (fun i g wq => ∃ (p : Nat) (xs : List Int), p ≤ ar ∧ i = .int .i64 p ∧ xs.length = p ∧ inS s xs ∧ Bl Ty.int 2 w1.heap.size wq.heap.size wq g xs ∧ SrcR w.heap.size w.heap.size p wq ∧ TchP (fun q => q = w.heap.size) w1 wq) (fun i _ _ => ar - (intOf i).toNat)
 case atStart => exact ⟨0, [], Nat.zero_le _, rfl, rfl, inS_nil, by simpa using Bl.lit0 (E := Ty.int) (e := 2) (w := w1) (Nat.le_refl _), HS.out.below bA, TchP.of_below bA _⟩
 case round =>
  obtain ⟨p, xs, hp, rfl, hxl, hxs, hBx, hsx, htx⟩ := hrel
  obtain ⟨wq, rfl⟩ : ∃ wq : World, wq = wr := ⟨_, rfl⟩
  have HBX := Lib.hid hBx
  have HSX := Lib.hid hsx
  have HTX := Lib.hid htx
  have HXS := Lib.hid hxs
  have HXL := Lib.hid hxl
  have hzq := htx.size
  obtain ⟨xa, xn, xc, rfl⟩ := ex_slice (hBx.fr (by rw [hxl]; unfold capMax; omega))
  clear hBx hsx htx hxs hxl
  by_cases hpl : p < ar
  ·go_wp2_with fail
   refine (pick_any wq HSX.out (by omega) (by omega) ⟨hs.1, by omega⟩).mono ?_
   rintro e w3 ⟨x, rfl, hx0, hx1, hs3, ht3⟩
   have hz3 := ht3.size
   have HB3 : Hid (Bl Ty.int 2 w1.heap.size w3.heap.size w3 (.slice xa xn xc) xs) := (HBX.out.sameB (fun q h1 h2 => ht3.block q h2 (by omega))).mono ht3.size
   have HS3 := Lib.hid hs3
   have HT3 : Hid (TchP (fun q => q = w.heap.size) w1 w3) := HTX.out.then ht3 (fun _ _ h => h)
   have hIx : I64 x := i64_in hs ⟨hx0, hx1⟩
   have HXN : Hid (inS s (xs ++ [x])) := inS_push HXS.out ⟨hx0, hx1⟩
   have hzv3 : w1.heap.size ≤ w3.heap.size := by omega
   clear hs3 ht3 HBX
   go_wp2_with (at_builtin; go_loud (refine wpList_push (E := Ty.int) _ rfl _ _ 48 2 rfl elInt rfl (HB3.out.below (bA (w := w3)) (Nat.le_refl _)) rfl news1 (fr_int hIx) (by rw [HXL.out]; omega) (by decide) hzv3 (by first | (simp; done) | (simp; omega)) ?_; intro v5 w5 hB5 hg5 hown))
   have hge : ∀ q, (Value.slice xa xn xc).ownBlock = some q → w1.heap.size ≤ q := fun q hq => HB3.out.ge hq
   have ht5 : TchP (fun q => (Value.slice xa xn xc).ownBlock = some q) w3 w5 := (TchP.of_below (bA (w := w3)) _).then (TchP.grown hg5 (fun q h => h)) (fun q _ h => h)
   have HS5 : Hid (SrcR w.heap.size w.heap.size (p + 1 : Nat) w5) := (HS3.out.mono (by omega)).tch ht5 (fun h => by have := hge _ h; omega) (fun q hq h => by have := hge _ h; omega)
   have HT5 : Hid (TchP (fun q => q = w.heap.size) w1 w5) := HT3.out.then ht5 (fun q hq h => by have := hge q h; omega)
   have HB5 := Lib.hid hB5
   clear hB5 hg5 hown hge ht5
   go_wp2_with fail
   go_roundw
   case rel => exact ⟨p + 1, xs ++ [x], by omega, by go_num, by rw [List.length_append, HXL.out]; rfl, HXN.out, HB5.out, HS5.out, HT5.out⟩
   case measure => simp [intOf]; omega
  ·obtain rfl : p = ar := by omega
   have HF := Lib.hid (HBX.out.fr (by rw [HXL.out]; unfold capMax; omega))
   go_wp2_with fail
   go_ret
   exact ⟨_, xs, rfl, HF.out.mono (by omega), ⟨HXL.out, fun a ha => HXS.out a ha⟩, hb1.trans (HTX.out.below (by omega) (fun q hq h => by omega))⟩
theorem P6Places_any (w : World) {v : Value} {code : List Int} (h : bytesT.Rd w [v] code) {ar cnt : Nat} (har : 1 ≤ ar ∧ ar ≤ 4) (hc : cnt ≤ 4) :
  Calls Tryz.prog 21 #[v, .int .i64 cnt, .int .i64 ar] w (TuR ar cnt w) := by
 have H := Lib.hid h
 obtain ⟨ad, cap, rfl⟩ := rd_slice h
 clear h
 go_enter Tryz.func21, Tryz.ntmps21
 go_wp2_with fail
 refine (P6Tuple_any w H.out (s := (ar : Int)) (by omega) hc).mono ?_
 rintro e w1 ⟨u, xs, rfl, hf, ht, hb⟩
 have HF := Lib.hid (And.intro hf (And.intro ht hb))
 obtain ⟨ua, uc, rfl⟩ := fr_slice hf
 clear hf ht hb
 go_wp2_with fail
 go_ret
 exact ⟨_, xs, rfl, HF.out⟩
end Go.Proofs.YtnhdohednekhjaaGreatDoor
namespace Go.Proofs.YtnhdohednekhjaaGreatDoor
open Go.RowKit
theorem run_load_zero {P : Program} (w : World) (a : Addr) : (loadCells a 0).run P w = .ok #[] w := by
 simp [loadCells, loadCellsFrom]
end Go.Proofs.YtnhdohednekhjaaGreatDoor
namespace Go.Proofs.YtnhdohednekhjaaGreatDoor
open Go.RowKit Go.Sort
theorem f6bigL_any (w : World) {v : Value} {xs : List Int} (h : bytesT.Rd w [v] xs) : Calls Tryz.prog 5 #[v] w fun e w' => e = .returned (.bool (decide ((4096 : Int) < ((xs.length : Nat) : Int)))) ∧ w = w' := by
 obtain ⟨ad, cap, rfl⟩ := rd_slice h
 clear h
 cases hb : decide ((4096 : Int) < ((xs.length : Nat) : Int))
 ·have hn : ¬ (4096 : Int) < ((xs.length : Nat) : Int) := of_decide_eq_false hb
  go_enter Tryz.func5, Tryz.ntmps5
  go_wp2
  go_ret
  exact ⟨rfl, rfl⟩
 ·have hn : (4096 : Int) < ((xs.length : Nat) : Int) := of_decide_eq_true hb
  go_enter Tryz.func5, Tryz.ntmps5
  go_wp2
  go_ret
  exact ⟨rfl, rfl⟩
theorem rd_bytes {w : World} {b o cap : Nat} {xs : List Int} (h00 : 0 < xs.length) (h0 : xs.length ≤ cap) (h1 : xs.length ≤ 1000000) (hb : b < w.heap.size) (h : ∀ i (h : i < xs.length), (0 ≤ xs[i] ∧ xs[i] ≤ 255) ∧ w.cell? ⟨b, o + i, none⟩ = some (.int .u8 xs[i])) : ∃ fp, bytesT.rd w [.slice (some ⟨b, o, none⟩) xs.length cap] xs fp ∧ ∀ k ∈ fp, k = b := by
 refine ⟨b :: (List.range xs.length).flatMap fun _ => [], ⟨_, cap, rfl, h0, by unfold capMax; omega, .inr ⟨h00, b, o, fun _ => [], rfl, hb, rfl, fun i hi => ⟨[.int .u8 xs[i]], ⟨rfl, (h i hi).1, rfl⟩, fun j hj => ?_⟩⟩⟩, fun k hk => ?_⟩
 ·obtain rfl : j = 0 := by simpa using hj
  simpa [Ty.byte] using (h i hi).2
 ·rcases List.mem_cons.1 hk with rfl | hk
  ·rfl
  ·obtain ⟨_, _, h⟩ := List.mem_flatMap.1 hk
   cases h
theorem run_onB {P : Program} (W : World) (t ty e : TypeId) (hT : ElT P t e 1 1) {c : Int} (hc : 0 ≤ c ∧ c ≤ 255) {g : Nat} (hg : g < W.heap.size) (hcell : W.cell? ⟨g, 0, none⟩ = some (.int .u8 c)) {u : Value} {xs : List Int} (hr : bytesT.Rd W [u] xs) (hl : xs.length ≤ 4096) :
  ∃ v' W', (Builtin.append_ #[t, t] ty #[.slice (some ⟨g, 0, none⟩) 1 1, u]).run P W = .ok v' W' ∧ Below W.heap.size W W' ∧ ∃ fp, bytesT.rd W' [v'] (c :: xs) fp ∧ ∀ k ∈ fp, k = g ∨ W.heap.size ≤ k := by
 obtain ⟨ad, cap, hu, h1, h2, h3⟩ := bytes_ex hr
 obtain rfl : u = .slice ad xs.length cap := by simpa using hu
 obtain ⟨i, z, ht, hi, hz, hsz, hbt, hzs, hp⟩ := hT
 rcases Nat.eq_zero_or_pos xs.length with h0 | h0
 ·obtain rfl := List.length_eq_zero_iff.1 h0
  obtain ⟨fp, f1, f2⟩ := rd_bytes (w := W) (b := g) (o := 0) (cap := 1) (xs := [c]) (by simp) (by simp) (by simp) hg (fun i hi => by
   obtain rfl : i = 0 := by simpa using hi
   exact ⟨hc, hcell⟩)
  refine ⟨_, W, ?_, Below.refl _ _, fp, f1, fun k hk => .inl (f2 k hk)⟩
  have hnc : (1 : Nat) + 0 ≤ 1 := Nat.le_refl _
  cases ad <;> simp [Builtin.append_, run_underlying ht, sizeOf, typeInfo, hi, Builtin.lenOf, Builtin.firstCells, storeCells, run_load_zero]
 ·obtain ⟨b, o, rfl, hb, hce⟩ := h3 h0
  have hnews : ∀ (j : Nat) (u : Value), (xs.map (Value.int .u8))[j]? = some u → W.cell? ((⟨b, o, none⟩ : Addr).add j) = some u := by
   intro j u hj
   rw [List.getElem?_map] at hj
   by_cases hjl : j < xs.length
   ·rw [List.getElem?_eq_getElem hjl] at hj
    simp only [Option.map_some, Option.some.injEq] at hj
    subst hj
    have := (hce j hjl).2
    by_cases hj0 : j = 0
    ·subst hj0
     simpa [Addr.add] using this
    ·simpa [Addr.add, hj0] using this
   ·rw [List.getElem?_eq_none (by omega)] at hj
    simp at hj
  have holds : ∀ (j : Nat) (u : Value), [Value.int .u8 c][j]? = some u → W.cell? ((⟨g, 0, none⟩ : Addr).add j) = some u := by
   intro j u hj
   obtain ⟨hj1, hj2⟩ := List.getElem?_eq_some_iff.1 hj
   obtain rfl : j = 0 := by simpa using hj1
   subst hj2
   simpa [Addr.add] using hcell
  have hrun := run_append_grow (P := P) (w := W) t ty e i z ht hi hz ⟨g, 0, none⟩ 1 1 [.int .u8 c] (by simp [hsz]) holds ⟨b, o, none⟩ xs.length cap (xs.map (Value.int .u8)) (by simp [hsz]) hnews (by omega) (by omega) (growslice_fits (by omega) (by rw [hbt]; omega))
  have hcap := grownCap_ge W (1 + xs.length) 1 e
  generalize grownCap W (1 + xs.length) 1 e = cp at hrun hcap
  rw [show 1 + xs.length = (c :: xs).length by rw [List.length_cons]; omega] at hrun hcap
  generalize hz : Builtin.zeroCells z.cells (cp - (c :: xs).length) = zc at hrun
  obtain ⟨fp, f1, f2⟩ := rd_bytes (w := W.drew.alloc (.cells ([Value.int .u8 c].toArray ++ (xs.map (Value.int .u8)).toArray ++ zc) e)) (b := W.heap.size) (o := 0) (cap := cp) (xs := c :: xs) (by simp) hcap (by rw [List.length_cons]; omega) (by simp) (fun i hi => by
   refine ⟨?_, ?_⟩
   ·cases i with
    | zero => exact hc
    | succ i => exact (hce i (by simpa using hi)).1
   ·have e1 : (W.drew.alloc (.cells ([Value.int .u8 c].toArray ++ (xs.map (Value.int .u8)).toArray ++ zc) e)).cell? ⟨W.heap.size, 0 + i, none⟩ = ([Value.int .u8 c].toArray ++ (xs.map (Value.int .u8)).toArray ++ zc)[i]? := by rw [Nat.zero_add]; exact World.cell?_alloc_at _ _ _ _ rfl
    rw [e1, Array.getElem?_append_left (by simp at hi ⊢; omega)]
    cases i with
    | zero => simp
    | succ i => simp at hi; simp [hi])
  exact ⟨_, _, hrun, (Below.drew (Below.refl _ _)).alloc (by simp) _, fp, f1, fun k hk => .inr (by rw [f2 k hk]; exact Nat.le_refl _)⟩
end Go.Proofs.YtnhdohednekhjaaGreatDoor
namespace Go.Proofs.YtnhdohednekhjaaGreatDoor
open Go.RowKit Go.Sort
end Go.Proofs.YtnhdohednekhjaaGreatDoor
namespace Go.Proofs.YtnhdohednekhjaaGreatDoor
open Go.RowKit Go.Sort
end Go.Proofs.YtnhdohednekhjaaGreatDoor
namespace Go.Proofs.YtnhdohednekhjaaGreatDoor
open Go.RowKit Go.Sort
end Go.Proofs.YtnhdohednekhjaaGreatDoor
namespace Go.Proofs.YtnhdohednekhjaaGreatDoor
open Go.RowKit Go.Sort
theorem Ty.Fr.P {α : Type} {E : Ty α} {base : Nat} {w : World} {cs : List Value} {x : α} (h : E.Fr base w cs x) : E.RdP (fun k => base ≤ k) w cs x := let ⟨fp, h1, _, h3, _⟩ := h; ⟨fp, h1, h3⟩
end Go.Proofs.YtnhdohednekhjaaGreatDoor
namespace Go.Proofs.YtnhdohednekhjaaGreatDoor
open Go.RowKit Go.Sort
section
variable {t : Int × List (Int × List (List Int))} {x : Int × List (Int × List Int)}
end
end Go.Proofs.YtnhdohednekhjaaGreatDoor
namespace Go.Proofs.YtnhdohednekhjaaGreatDoor
open Go.RowKit Go.Sort
/-- a pointer to a datum in blocks below B -/
def Ty.PtB {α : Type} (E : Ty α) (B : Nat) (w : World) (v : Value) (x : α) : Prop := ∃ b o cs, v = .pointer (some ⟨b, o, none⟩) ∧ b < B ∧ b < w.heap.size ∧ E.RdB B w cs x ∧ ∀ j (hj : j < cs.length), w.cell? ⟨b, o + j, none⟩ = some cs[j]
theorem Ty.PtB.below {α : Type} {E : Ty α} {B : Nat} {w w' : World} {v : Value} {x : α} (h : E.PtB B w v x) (hb : Below B w w') : E.PtB B w' v x :=
 let ⟨b, o, cs, h1, h2, h3, h4, h5⟩ := h
 ⟨b, o, cs, h1, h2, Nat.lt_of_lt_of_le h3 hb.size, h4.below hb (Nat.le_refl _), fun j hj => (cellB hb h2).trans (h5 j hj)⟩
theorem Ty.Pt.B {α : Type} {E : Ty α} {w : World} {v : Value} {x : α} (h : E.Pt w v x) : E.PtB w.heap.size w v x := let ⟨b, o, cs, h1, h2, h3, h4⟩ := h; ⟨b, o, cs, h1, h2, h2, h3.B, h4⟩
/-- a search in progress, at block bf: what it was told so far -/
def Fnd (e bf most : Nat) (vt vx : Value) (told : List (List Int)) (O : List Nat) (w : World) : Prop :=
 ∃ v, O = bf :: v.ownBlock.toList ∧ bf < w.heap.size ∧ w.cell? ⟨bf, 0, none⟩ = some vt ∧ w.cell? ⟨bf, 1, none⟩ = some vx ∧ w.cell? ⟨bf, 2, none⟩ = some (.int .i64 most) ∧ w.cell? ⟨bf, 3, none⟩ = some v ∧ w.cell? ⟨bf, 4, none⟩ = some (.int .i64 told.length) ∧
  w.frozen? ⟨bf, 3, none⟩ = false ∧ w.frozen? ⟨bf, 4, none⟩ = false ∧ Bl intsT e (bf + 1) w.heap.size w v (told.take most)
theorem Fnd.below {e bf most : Nat} {vt vx : Value} {told : List (List Int)} {O : List Nat} {w w' : World} (h : Fnd e bf most vt vx told O w) (hb : Below w.heap.size w w') : Fnd e bf most vt vx told O w' := by
 obtain ⟨v, h0, h1, c0, c1, c2, c3, c4, m3, m4, hB⟩ := h
 exact ⟨v, h0, Nat.lt_of_lt_of_le h1 hb.size, (cellB hb h1).trans c0, (cellB hb h1).trans c1, (cellB hb h1).trans c2, (cellB hb h1).trans c3, (cellB hb h1).trans c4, (frozenB hb h1).trans m3, (frozenB hb h1).trans m4, (hB.below hb (Nat.le_refl _)).mono hb.size⟩
theorem Fnd.ge {e bf most : Nat} {vt vx : Value} {told : List (List Int)} {O : List Nat} {w : World} (h : Fnd e bf most vt vx told O w) : ∀ k ∈ O, bf ≤ k := by
 obtain ⟨v, rfl, h1, c0, c1, c2, c3, c4, m3, m4, hB⟩ := h
 intro k hk
 rcases List.mem_cons.1 hk with rfl | hk
 ·exact Nat.le_refl _
 ·have := hB.ge (show v.ownBlock = some k by simpa using hk)
  omega
theorem Fnd.lt {e bf most : Nat} {vt vx : Value} {told : List (List Int)} {O : List Nat} {w : World} (h : Fnd e bf most vt vx told O w) : ∀ k ∈ O, k < w.heap.size := by
 obtain ⟨v, rfl, h1, c0, c1, c2, c3, c4, m3, m4, hB⟩ := h
 intro k hk
 rcases List.mem_cons.1 hk with rfl | hk
 ·exact h1
 ·exact hB.lt_top (show v.ownBlock = some k by simpa using hk)
end Go.Proofs.YtnhdohednekhjaaGreatDoor
namespace Go.Proofs.YtnhdohednekhjaaGreatDoor
open Go.RowKit Go.Sort
end Go.Proofs.YtnhdohednekhjaaGreatDoor
namespace Go.Proofs.YtnhdohednekhjaaGreatDoor
open Go.RowKit Go.Sort
section
variable {t : Int × List (Int × List (List Int))} {f : Int × Int × List (Int × List Int)} {tu : List Int}
end
end Go.Proofs.YtnhdohednekhjaaGreatDoor
namespace Go.Proofs.YtnhdohednekhjaaGreatDoor
open Go.RowKit Go.Sort
end Go.Proofs.YtnhdohednekhjaaGreatDoor
namespace Go.Proofs.YtnhdohednekhjaaGreatDoor
open Go.RowKit Go.Sort
section
variable {t : Int × List (Int × List (List Int))} {x : Int × List (Int × List Int)} {n : Int}
end
end Go.Proofs.YtnhdohednekhjaaGreatDoor
namespace Go.Proofs.YtnhdohednekhjaaGreatDoor
open Go.RowKit Go.Sort
section
variable {t : Int × List (Int × List (List Int))} {f g : Int × Int × List (Int × List Int)}
end
section
variable (t : Int × List (Int × List (List Int))) (f g : Int × Int × List (Int × List Int))
end
section
variable {t : Int × List (Int × List (List Int))} {f g : Int × Int × List (Int × List Int)}
end
end Go.Proofs.YtnhdohednekhjaaGreatDoor
namespace Go.Proofs.YtnhdohednekhjaaGreatDoor
open Go.RowKit Go.Sort
section
variable (t : Int × List (Int × List (List Int))) (f g : Int × Int × List (Int × List Int))
end
section
variable {t : Int × List (Int × List (List Int))} {f g : Int × Int × List (Int × List Int)}
end
end Go.Proofs.YtnhdohednekhjaaGreatDoor
namespace Go.Proofs.YtnhdohednekhjaaGreatDoor
open Go.RowKit Go.Sort
section
variable (t : Int × List (Int × List (List Int))) (f : Int × Int × List (Int × List Int))
end
section
variable {t : Int × List (Int × List (List Int))} {f : Int × Int × List (Int × List Int)}
end
end Go.Proofs.YtnhdohednekhjaaGreatDoor
namespace Go.Proofs.YtnhdohednekhjaaGreatDoor
open Go.RowKit Go.Sort
section
variable (t : Int × List (Int × List (List Int))) (f : Int × Int × List (Int × List Int))
end
section
variable {t : Int × List (Int × List (List Int))} {f : Int × Int × List (Int × List Int)}
end
end Go.Proofs.YtnhdohednekhjaaGreatDoor
namespace Go.Proofs.YtnhdohednekhjaaGreatDoor
open Go.RowKit Go.Sort
def Set3 (w : World) (base bx g : Nat) (s : Int) (ar N : Nat) (T : List (List Int)) : Prop := SetAt 4 base w bx g N (seenL s N T) ∧ w.cell? ⟨bx, 0, none⟩ = some (.int .i64 s) ∧ w.cell? ⟨bx, 1, none⟩ = some (.int .i64 (ar : Int))
theorem Set3.below {w w' : World} {base bx g ar N B : Nat} {s : Int} {T : List (List Int)} (h : Set3 w base bx g s ar N T) (hb : Below B w w') (hB : w.heap.size ≤ B) : Set3 w' base bx g s ar N T :=
 ⟨h.1.below hb hB, (hb.cell (p := ⟨bx, 0, none⟩) (Nat.lt_of_lt_of_le h.1.2.1 hB)).trans h.2.1, (hb.cell (p := ⟨bx, 1, none⟩) (Nat.lt_of_lt_of_le h.1.2.1 hB)).trans h.2.2⟩
theorem Set3.tch {w w' : World} {base bx g ar N : Nat} {s : Int} {T : List (List Int)} {O : Nat → Prop} (h : Set3 w base bx g s ar N T) (ht : TchP O w w') (h1 : ¬ O bx) (h2 : ¬ O g) : Set3 w' base bx g s ar N T := by
 obtain ⟨⟨q1, q2, q3, q4, q5⟩, q6, q7⟩ := h
 have hg := q5.lt
 refine ⟨⟨q1, Nat.lt_of_lt_of_le q2 ht.size, q3, (ht.cell q2 h1).trans q4, ?_⟩, (ht.cell q2 h1).trans q6, (ht.cell q2 h1).trans q7⟩
 obtain ⟨p1, p2, p3⟩ := q5
 refine ⟨p1, p2, p3.1, ?_⟩
 rcases p3.2 with h | ⟨g', c, cur, e, r1, r2, r3⟩
 ·exact .inl h
 ·simp only [Value.slice.injEq, Option.some.injEq, Addr.mk.injEq, and_true, true_and] at e
  obtain ⟨rfl, rfl⟩ := e
  exact .inr ⟨_, _, cur, rfl, r1, by rw [ht.block _ hg h2]; exact r2, r3⟩
end Go.Proofs.YtnhdohednekhjaaGreatDoor
namespace Go.Proofs.YtnhdohednekhjaaGreatDoor
open Go.RowKit Go.Sort
end Go.Proofs.YtnhdohednekhjaaGreatDoor
namespace Go.Proofs.YtnhdohednekhjaaGreatDoor
open Go.RowKit Go.Sort
/-- between some tuples and their closure -/
def Mid (s : Int) (ops : List (Int × List Int)) (ar : Nat) (T0 T : List (List Int)) : Prop := (∀ l ∈ T, tupP s ar l) ∧ (∀ l ∈ T0, l ∈ T) ∧ ∀ l ∈ T, Clo s ops ar T0 l
theorem Mid.add {s : Int} {ops : List (Int × List Int)} {ar : Nat} {T0 T : List (List Int)} (h : Mid s ops ar T0 T) {l : List Int} (h1 : tupP s ar l) (h2 : Clo s ops ar T0 l) : Mid s ops ar T0 (T ++ [l]) :=
 ⟨fun x hx => (List.mem_append.1 hx).elim (h.1 x) (fun h => by rw [List.mem_singleton.1 h]; exact h1), fun x hx => List.mem_append_left _ (h.2.1 x hx), fun x hx => (List.mem_append.1 hx).elim (h.2.2 x) (fun h => by rw [List.mem_singleton.1 h]; exact h2)⟩
end Go.Proofs.YtnhdohednekhjaaGreatDoor
namespace Go.Proofs.YtnhdohednekhjaaGreatDoor
open Go.RowKit Go.Sort
end Go.Proofs.YtnhdohednekhjaaGreatDoor
namespace Go.Proofs.YtnhdohednekhjaaGreatDoor
open Go.RowKit Go.Sort
section
variable (t : Int × List (Int × List (List Int))) (f : Int × Int × List (Int × List Int)) (rel : Int) (g : Int × Int × List (Int × List Int))
end
section
variable {t : Int × List (Int × List (List Int))} {f : Int × Int × List (Int × List Int)} {rel : Int} {g : Int × Int × List (Int × List Int)}
end
end Go.Proofs.YtnhdohednekhjaaGreatDoor
namespace Go.Proofs.YtnhdohednekhjaaGreatDoor
open Go.RowKit Go.Sort
theorem P6Pick_any (w : World) {v : Value} {code : List Int} (h : bytesT.Rd w [v] code) {n : Int} (hn : 1 ≤ n ∧ n ≤ 200) :
  Calls Tryz.prog 6 #[v, .int .i64 n] w fun e w' => ∃ x, e = .returned (.int .i64 x) ∧ 0 ≤ x ∧ x ≤ n - 1 ∧ Below w.heap.size w w' := by
 obtain ⟨ad, cap, rfl⟩ := rd_slice h
 have H := Lib.hid h
 clear h
 go_enter Tryz.func6, Tryz.ntmps6
 go_wp2_with fail
 refine (l00From_any w H.out).mono ?_
 rintro e w1 ⟨rfl, hs1, hb1⟩
 have HS := Lib.hid hs1
 clear hs1
 go_wp2_with fail
 refine (pick_any w1 HS.out (by omega) (by omega) hn).mono ?_
 rintro e w2 ⟨x, rfl, hx0, hx1, hs2, ht2⟩
 have hb2 : Below w.heap.size w1 w2 := ht2.below hb1.size (fun k hk e => by omega)
 clear hs2 ht2
 go_wp2_with fail
 go_ret
 exact ⟨x, rfl, hx0, hx1, hb1.trans hb2⟩
set_option maxHeartbeats 1600000 in
set_option maxRecDepth 100000 in
theorem P6Op_any (w : World) {v : Value} {code : List Int} (h : bytesT.Rd w [v] code) {s : Int} {ar : Nat} (hs : 1 ≤ s ∧ s ≤ 4) (har : 1 ≤ ar ∧ ar ≤ 2) :
  Calls Tryz.prog 33 #[v, .int .i64 s, .int .i64 (ar : Int)] w fun e w' => ∃ (cs : List Value) (f : Int × List Int), e = .returned (.agg cs.toArray) ∧ opT.Fr w.heap.size w' cs f ∧ opOk s f ∧ f.1 = ar ∧ Below w.heap.size w w' := by
 obtain ⟨ad, cap, rfl⟩ := rd_slice h
 have H := Lib.hid h
 clear h
 go_enter Tryz.func33, Tryz.ntmps33
 go_wp2_with fail
 generalize hW : World.alloc w _ = W
 have hbW : Below w.heap.size w W := hW ▸ bA
 have hsW : w.heap.size + 1 ≤ W.heap.size := by rw [← hW]; simp
 have r0 : W.cell? ⟨w.heap.size, 0, none⟩ = some (.int .i64 0) := by rw [← hW]; simp [go_sem]
 have r1 : W.cell? ⟨w.heap.size, 1, none⟩ = some (.slice none 0 0) := by rw [← hW]; simp [go_sem]
 have q0 : W.frozen? ⟨w.heap.size, 0, none⟩ = false := by rw [← hW]; simp [go_sem]
 have q1 : W.frozen? ⟨w.heap.size, 1, none⟩ = false := by rw [← hW]; simp [go_sem]
 clear hW
 refine (l00From_any W (H.out.below hbW)).mono ?_
 rintro e w1 ⟨rfl, hs1, hb1⟩
 have HS := Lib.hid hs1
 have hz1 := hs1.lt
 replace r0 := (cellB hb1 (by omega)).trans r0
 replace r1 := (cellB hb1 (by omega)).trans r1
 replace q0 := (frozenB hb1 (by omega)).trans q0
 replace q1 := (frozenB hb1 (by omega)).trans q1
 clear hs1
 go_wp2_with fail
 refine (l02Drawn_any w1 HS.out (by omega) (by omega) hs har).mono ?_
 rintro e w2 ⟨cs, f, rfl, hf, hok, hfa, hs2, ht2⟩
 obtain ⟨fa, fc, rfl⟩ := fr_pair hf
 have hb2 : Below W.heap.size w1 w2 := ht2.below (by omega) (fun k hk e => by omega)
 have HF := Lib.hid hf
 have HOK := Lib.hid hok
 have HFA := Lib.hid hfa
 have hz2 := ht2.size
 replace r0 := (cellB hb2 (show w.heap.size < W.heap.size by omega)).trans r0
 replace r1 := (cellB hb2 (show w.heap.size < W.heap.size by omega)).trans r1
 replace q0 := (frozenB hb2 (show w.heap.size < W.heap.size by omega)).trans q0
 replace q1 := (frozenB hb2 (show w.heap.size < W.heap.size by omega)).trans q1
 have hbw2 : Below w.heap.size w w2 := (bthen hbW hb1).trans (hb2.mono (by omega))
 clear hf hok hfa hs2 ht2
 go_wp2_with fail
 obtain ⟨g0, g1⟩ := set2_cells (x := .int .i64 f.1) (y := .slice fa f.2.length fc) r0 r1
 refine bodyPost_ret (v := .agg #[.int .i64 f.1, .slice fa f.2.length fc]) (by simp [results, Tryz.results33, go_sem, g0, g1]) rfl ⟨[.int .i64 f.1, .slice fa f.2.length fc], f, rfl, ?_, HOK.out, HFA.out, ?_⟩
 ·exact (fr_set2 HF.out (by omega)).mono (by omega)
 ·exact (hbw2.setCell (by simp) _).setCell (by simp) _
end Go.Proofs.YtnhdohednekhjaaGreatDoor
namespace Go.Proofs.YtnhdohednekhjaaGreatDoor
open Go.RowKit Go.Sort
/-- an operation and a code of nought come back, the operation is so -/
def OpP (w : World) (p : Int × List Int → Prop) (e : Ending) (w' : World) : Prop :=
 ∃ (cs : List Value) (C : Int × List Int), e = .returned (.tuple #[.agg cs.toArray, .int .i64 0]) ∧ opT.Fr w.heap.size w' cs C ∧ p C ∧ Below w.heap.size w w'
theorem OpP.of {w : World} {p : Int × List Int → Prop} {C : Int × List Int} (hp : p C) {e : Ending} {w' : World} (h : RetAC opT w C 0 e w') : OpP w p e w' :=
 let ⟨cs, h1, h2, h3⟩ := h
 ⟨cs, C, h1, h2, hp, h3⟩
theorem pow_ex {s : Int} (hs : 1 ≤ s) (n : Nat) : ∃ N : Nat, s ^ n = (N : Int) := ⟨(s ^ n).toNat, by have := pow_nn (s := s) (by omega) n; omega⟩
theorem lit2_ops {w : World} {c1 c2 c3 c4 : Value} {x y : Int × List Int} {T : TypeId} (h : opT.Rd w [c1, c2] x) (h' : opT.Rd w [c3, c4] y) : opsT.Rd (w.alloc (.cells #[c1, c2, c3, c4] T)) [.slice (some ⟨w.heap.size, 0, none⟩) 2 2] [x, y] := by
 obtain ⟨fp, h1⟩ := h
 obtain ⟨fq, h2⟩ := h'
 have hs : Same fp w (w.alloc (.cells #[c1, c2, c3, c4] T)) := Same.below bA (opT.lt h1)
 have hs' : Same fq w (w.alloc (.cells #[c1, c2, c3, c4] T)) := Same.below bA (opT.lt h2)
 refine ⟨w.heap.size :: (fp ++ fq), some ⟨w.heap.size, 0, none⟩, 2, rfl, Nat.le_refl _, by simp [capMax], .inr ⟨by simp, w.heap.size, 0, fun i => match i with | 0 => fp | _ => fq, rfl, by simp, by simp [List.range_succ], fun i hi => ?_⟩⟩
 rcases (show i = 0 ∨ i = 1 by simp at hi; omega) with rfl | rfl
 ·refine ⟨[c1, c2], opT.same h1 hs, fun j hj => ?_⟩
  rcases (show j = 0 ∨ j = 1 by simp at hj; omega) with rfl | rfl <;> simp [Ty.slice, Ty.cons, opT]
 ·refine ⟨[c3, c4], opT.same h2 hs', fun j hj => ?_⟩
  rcases (show j = 0 ∨ j = 1 by simp at hj; omega) with rfl | rfl <;> simp [Ty.slice, Ty.cons, opT]
theorem lit2_ints {w : World} {a b : Int} {T : TypeId} (ha : I64 a) (hb : I64 b) : intsT.Rd (w.alloc (.cells #[.int .i64 a, .int .i64 b] T)) [.slice (some ⟨w.heap.size, 0, none⟩) 2 2] [a, b] := by
 have h : intsT.Fr 0 (w.alloc (.cells #[.int .i64 a, .int .i64 b] T)) [.slice (some ⟨w.heap.size, 0, none⟩) 2 2] [a, b] := by
  refine fr_ints_mk (ys := [a, b]) rfl (by omega) (Nat.le_refl _) (by unfold capMax; omega) (by simp) (Nat.zero_le _) (fun x hx => ?_) (fun j hj => ?_) (fun i => by simp)
  ·simp only [List.mem_cons, List.not_mem_nil, or_false] at hx
   rcases hx with rfl | rfl
   ·exact ha
   ·exact hb
  ·rcases (show j = 0 ∨ j = 1 by simp at hj; omega) with rfl | rfl <;> simp
 exact h.rd
theorem tup_0 {s : Int} {n : Nat} {u : List Int} (h : tupP s n u) (h0 : 0 < n) : 0 ≤ u.getD 0 0 ∧ u.getD 0 0 ≤ s - 1 := by
 have hl := h.1
 rw [List.getD_eq_getElem?_getD, List.getElem?_eq_getElem (by omega)]
 exact h.2 _ (List.getElem_mem _)
theorem ints_0 {w : World} {ad : Option Addr} {n c : Nat} {xs : List Int} (h : intsT.Rd w [.slice ad n c] xs) (h0 : 0 < xs.length) : ∃ b o, ad = some ⟨b, o, none⟩ ∧ b < w.heap.size ∧ w.cell? ⟨b, o, none⟩ = some (.int .i64 (xs.getD 0 0)) := by
 obtain ⟨ad', c', e1, -, -, hcell⟩ := ints_ex h
 obtain ⟨rfl, -, -⟩ : ad = ad' ∧ n = xs.length ∧ c = c' := by simpa using e1
 obtain ⟨b, o, rfl, hb, hce⟩ := hcell h0
 refine ⟨b, o, rfl, hb, ?_⟩
 rw [List.getD_eq_getElem?_getD, List.getElem?_eq_getElem h0]
 exact (hce 0 h0).2
/-- bytes put behind a literal's byte -/
theorem wpList_onB {P : Program} (w : World) {ops : Array Oper} {rest : List Oper} {o : Oper} {a : Act} {Q : Exit → Act → World → Prop} (hgd : o.guard = none) (s x : Operand) (t e : TypeId)
  (ho : o.op = .call { callee := .builtin .append, args := #[s, x], argTypes := #[t, t] }) (hT : ElT P t e 1 1) {c : Int} (hc : 0 ≤ c ∧ c ≤ 255) {g : Nat} (hs : a.eval s = .slice (some ⟨g, 0, none⟩) 1 1) (hg : g < w.heap.size) (hcell : w.cell? ⟨g, 0, none⟩ = some (.int .u8 c))
  {u : Value} {xs : List Int} (hx : a.eval x = u) (hr : bytesT.Rd w [u] xs) (hl : xs.length ≤ 4096)
  (h : ∀ v' w', Below w.heap.size w w' → bytesT.Rd w' [v'] (c :: xs) → wpList P ops Q rest (a.put o.dst v') w') : wpList P ops Q (o :: rest) a w := by
 refine wpList_plain hgd fun K hK => ?_
 obtain ⟨v', w', hrun, h2, fp, h3, -⟩ := run_onB (P := P) w t o.type e hT hc hg hcell hr hl
 unfold Oper.wp execOp
 simp only [ho, resolve, invoke, builtin, Sem.run_bind, Sem.run_pure, Result.andThen_ok, List.map_toArray, List.map_cons, List.map_nil, hs, hx, hrun]
 exact hK _ _ (h v' w' h2 ⟨fp, h3⟩)
theorem pair_tup {s a b : Int} (ha : 0 ≤ a ∧ a ≤ s - 1) (hb : 0 ≤ b ∧ b ≤ s - 1) : tupP s 2 [a, b] := by
 refine ⟨rfl, fun x hx => ?_⟩
 simp only [List.mem_cons, List.not_mem_nil, or_false] at hx
 rcases hx with rfl | rfl
 ·exact ha
 ·exact hb
theorem opV_tup {s : Int} {f : Int × List Int} {n : Nat} {u : List Int} (hf : opOk s f) (hn : f.1 = (n : Int)) (hu : tupP s n u) : 0 ≤ opV s f.2 u ∧ opV s f.2 u ≤ s - 1 := opV_in hf (by rw [hu.1, hn]) hu.2
section
variable {s : Int} {f g h : Int × List Int} {cs : Array Value} {v : Value}
theorem P6OpO_any (w : World) {code : List Int} (hr : bytesT.Rd w [v] code) (hs : 1 ≤ s ∧ s ≤ 4) :
  Calls Tryz.prog 33 #[v, .int .i64 s, .int .i64 2] w fun e w' => ∃ (cs : List Value) (f : Int × List Int), e = .returned (.agg cs.toArray) ∧ opT.Fr w.heap.size w' cs f ∧ (opOk s f ∧ f.1 = 2) ∧ Below w.heap.size w w' :=
 (P6Op_any w hr (s := s) (ar := 2) hs (by omega)).mono fun _ _ ⟨cs, f, h1, h2, h3, h4, h5⟩ => ⟨cs, f, h1, h2, ⟨h3, h4⟩, h5⟩
theorem P6Tup2_any (w : World) {code : List Int} (hr : bytesT.Rd w [v] code) (hs : 1 ≤ s ∧ s ≤ 4) : Calls Tryz.prog 28 #[v, .int .i64 s, .int .i64 2] w (TuR s 2 w) := P6Tuple_any w hr hs (ar := 2) (by omega)
theorem P6Tup3_any (w : World) {code : List Int} (hr : bytesT.Rd w [v] code) (hs : 1 ≤ s ∧ s ≤ 4) : Calls Tryz.prog 28 #[v, .int .i64 s, .int .i64 3] w (TuR s 3 w) := P6Tuple_any w hr hs (ar := 3) (by omega)
theorem P6Pl23_any (w : World) {code : List Int} (hr : bytesT.Rd w [v] code) : Calls Tryz.prog 21 #[v, .int .i64 2, .int .i64 3] w (TuR 3 2 w) := P6Places_any w hr (ar := 3) (cnt := 2) (by omega) (by omega)
theorem ApplyT_any (w : World) (hr : opT.Rd w cs.toList f) {xs : List Int} (hu : intsT.Rd w [v] xs) {n : Nat} (hf : opOk s f) (hn : f.1 = (n : Int)) (ht : tupP s n xs) :
  Calls Tryz.prog 35 #[.int .i64 s, .agg cs, v] w fun e w' => e = .returned (.tuple #[.int .i64 (opV s f.2 xs), .int .i64 0]) ∧ Below w.heap.size w w' :=
 ApplyOp_any w hr hu hf (by rw [ht.1, hn]) ht.2
theorem specApplyT_any (w : World) (hr : opT.Rd w cs.toList f) {xs : List Int} (hu : intsT.Rd w [v] xs) {n : Nat} (hf : opOk s f) (hn : f.1 = (n : Int)) (ht : tupP s n xs) :
  Calls Tryz.prog 40 #[.int .i64 s, .agg cs, v] w fun e w' => e = .returned (.tuple #[.int .i64 (opV s f.2 xs), .int .i64 0]) ∧ Below w.heap.size w w' :=
 specApplyOp_any w hr hu hf (by rw [ht.1, hn]) ht.2
theorem Comp2_any (w : World) (hr : opT.Rd w cs.toList f) (hl : opsT.Rd w [v] [g, h]) (hf : opOk s f ∧ f.1 = 2) (hg : opOk s g ∧ g.1 = 2) (hh : opOk s h ∧ h.1 = 2) :
  Calls Tryz.prog 34 #[.int .i64 s, .agg cs, v] w (OpP w fun C => (opOk s C ∧ C.1 = 2) ∧ ∀ u, tupP s 2 u → opV s C.2 u = opV s f.2 [opV s g.2 u, opV s h.2 u]) := by
 have hN := op_two hf.1 hf.2
 exact (ComposeOps_any w hr hl (ar := 2) hf.1 hf.2 (fun k hk => by
  simp only [List.mem_cons, List.not_mem_nil, or_false] at hk
  rcases hk with rfl | rfl
  ·exact hg
  ·exact hh) hN).mono fun _ _ h0 => OpP.of ⟨⟨cp_ok hf.1 hf.2 hg.1 hg.2 hh.1 hh.2 hN, rfl⟩, fun u hu => cp_at hf.1.1.1 hN hu⟩ h0
/-- the projections put into an operation give it back -/
theorem CompP_any (w : World) (hr : opT.Rd w cs.toList f) {N : Nat} (hl : opsT.Rd w [v] [g, h]) (hf : opOk s f ∧ f.1 = 2) (hN : s ^ 2 = (N : Int)) (hg : g = (((2 : Nat) : Int), projT s 2 N 0)) (hh : h = (((2 : Nat) : Int), projT s 2 N 1)) :
  Calls Tryz.prog 34 #[.int .i64 s, .agg cs, v] w (RetAC opT w f 0) := by
 subst hg hh
 have hs := hf.1.1
 unfold sizeOk at hs
 have := ComposeOps_any w hr hl (ar := 2) hf.1 hf.2 (fun k hk => by
  simp only [List.mem_cons, List.not_mem_nil, or_false] at hk
  rcases hk with rfl | rfl
  ·exact ⟨proj_ok hs (by omega) hN (by omega), rfl⟩
  ·exact ⟨proj_ok hs (by omega) hN (by omega), rfl⟩) hN
 rw [cp_self hf.1 hf.2 hN] at this
 exact this
theorem Proj0_any (w : World) {N : Nat} (hs : 1 ≤ s ∧ s ≤ 4) (hN : s ^ 2 = (N : Int)) : Calls Tryz.prog 36 #[.int .i64 s, .int .i64 2, .int .i64 0] w (OpP w fun P => P = (((2 : Nat) : Int), projT s 2 N 0)) :=
 (ProjectionOp_any w hs (ar := 2) (p := 0) (by omega) hN (by omega)).mono fun _ _ h => OpP.of (p := fun P => P = (((2 : Nat) : Int), projT s 2 N 0)) rfl h
theorem Proj1_any (w : World) {N : Nat} (hs : 1 ≤ s ∧ s ≤ 4) (hN : s ^ 2 = (N : Int)) : Calls Tryz.prog 36 #[.int .i64 s, .int .i64 2, .int .i64 1] w (OpP w fun P => P = (((2 : Nat) : Int), projT s 2 N 1)) :=
 (ProjectionOp_any w hs (ar := 2) (p := 1) (by omega) hN (by omega)).mono fun _ _ h => OpP.of (p := fun P => P = (((2 : Nat) : Int), projT s 2 N 1)) rfl h
theorem Minor3_any (w : World) (hr : opT.Rd w cs.toList f) {ps : List Int} (hps : intsT.Rd w [v] ps) (hf : opOk s f ∧ f.1 = 2) (ht : tupP 3 2 ps) :
  Calls Tryz.prog 39 #[.int .i64 s, .agg cs, .int .i64 3, v] w (OpP w fun M => (opOk s M ∧ M.1 = 3) ∧ ∀ x, tupP s 3 x → opV s M.2 x = opV s f.2 (atL x ps)) := by
 have hs := hf.1.1.1
 obtain ⟨N, hN⟩ := pow_ex hs 3
 have hpl : (ps.length : Int) = f.1 := by rw [ht.1, hf.2]; rfl
 have hpi : ∀ p ∈ ps, 0 ≤ p ∧ p ≤ ((3 : Nat) : Int) - 1 := fun p hp => ht.2 p hp
 exact (MinorOf_any w hr hps (ar := 3) hf.1 (by omega) hN hpl hpi).mono fun _ _ h0 => OpP.of ⟨⟨mi_ok hf.1 hpl hpi (by omega) hN, rfl⟩, fun x hx => mi_at hs hN hx⟩ h0
theorem atL_tup {x ps : List Int} (hx : tupP s 3 x) (hp : tupP 3 2 ps) : tupP s 2 (atL x ps) ∧ (∀ p ∈ ps, 0 ≤ p ∧ p < (x.length : Int)) ∧ ps.length ≤ 1000000 := by
 have h1 : ∀ p ∈ ps, 0 ≤ p ∧ p < (x.length : Int) := fun p h => by
  have h2 := hp.2 p h
  have h3 := hx.1
  omega
 exact ⟨⟨by rw [atL_len]; exact hp.1, atL_inS hx.2 h1⟩, h1, by have := hp.1; omega⟩
/-- the places that are told, and a code of nought -/
def DpP (s : Int) (f : Int × List Int) (w : World) (e : Ending) (w' : World) : Prop :=
 ∃ (u : Value) (D : List Int), e = .returned (.tuple #[u, .int .i64 0]) ∧ intsT.Fr w.heap.size w' [u] D ∧ (∀ p : Nat, p < 2 → hasI D (p : Int) = false → ∀ u a, tupP s 2 u → 0 ≤ a ∧ a ≤ s - 1 → opV s f.2 (u.set p a) = opV s f.2 u) ∧ Below w.heap.size w w'
theorem Depends2_any (w : World) (hr : opT.Rd w cs.toList f) (hf : opOk s f ∧ f.1 = 2) : Calls Tryz.prog 42 #[.int .i64 s, .agg cs] w (DpP s f w) := by
 have hN := op_two hf.1 hf.2
 exact (DependsOn_any w hr (n := 2) hf.1 hf.2 hN).mono fun _ _ ⟨u, h1, h2, h3⟩ => ⟨u, _, h1, h2, fun p hp hno u a hu ha => dep_same hf.1.1.1 hN hp hno hu ha, h3⟩
/-- a graph comes back, and a code of nought -/
def GrP (s : Int) (f : Int × List Int) (w : World) (e : Ending) (w' : World) : Prop :=
 ∃ (cs : List Value) (R : Int × List (List Int)), e = .returned (.tuple #[.agg cs.toArray, .int .i64 0]) ∧ relT.Fr w.heap.size w' cs R ∧ (relOk s R ∧ R.1 = ((2 + 1 : Nat) : Int) ∧ R.2 = (List.range f.2.length).map (graR s 2 f.2)) ∧ Below w.heap.size w w'
theorem Graph2_any (w : World) (hr : opT.Rd w cs.toList f) (hf : opOk s f ∧ f.1 = 2) : Calls Tryz.prog 46 #[.int .i64 s, .agg cs] w (GrP s f w) := by
 obtain ⟨N, hN⟩ := pow_ex hf.1.1.1 (2 + 1)
 exact (GraphOfOp_any w hr (n := 2) (ar := 2 + 1) hf.1 hf.2 rfl hN).mono fun _ _ ⟨cs, h1, h2, h3⟩ => ⟨cs, _, h1, h2, ⟨graL_ok hf.1 hf.2 hN, rfl, graL_eq hf.1 hf.2 hN⟩, h3⟩
theorem OfGraph2_any (w : World) {R : Int × List (List Int)} (hr : relT.Rd w cs.toList R) (hf : opOk s f ∧ f.1 = 2) (hR : relOk s R ∧ R.1 = ((2 + 1 : Nat) : Int) ∧ R.2 = (List.range f.2.length).map (graR s 2 f.2)) : Calls Tryz.prog 47 #[.int .i64 s, .agg cs] w (RetAC opT w f 0) :=
 OpOfGraph_any w hr (n := 2) hf.1 hf.2 hR.1 hR.2.1 hR.2.2
theorem Const2_any (w : World) {p : Int} (hs : 1 ≤ s ∧ s ≤ 4) (hp : 0 ≤ p ∧ p ≤ s - 1) : Calls Tryz.prog 52 #[.int .i64 s, .int .i64 2, .int .i64 p] w (OpP w fun K => (opOk s K ∧ K.1 = 2) ∧ ∀ u, tupP s 2 u → opV s K.2 u = p) := by
 obtain ⟨N, hN⟩ := pow_ex hs.1 2
 exact (ConstantOp_any w hs (ar := 2) (by omega) hN hp).mono fun _ _ h0 => OpP.of ⟨⟨con_ok hs (by omega) hN hp, rfl⟩, fun u hu => con_at hs.1 hN hu⟩ h0
/-- the kinds that are told -/
theorem kd_all (hf : opOk s f) : (∀ k : Nat, 1 ≤ k → k ≤ 10 → hasI (kdsV s f) (k : Int) = kindB s f (k : Int)) ∧ (hasI (kdsV s f) 6 = false ∨ (hasI (kdsV s f) 6 = true ∧ hasI (kdsV s f) 5 = true ∧ hasI (kdsV s f) 3 = true)) ∧ (hasI (kdsV s f) 1 = false ∨ (hasI (kdsV s f) 1 = true ∧ hasI (kdsV s f) 4 = true)) := by
 refine ⟨fun k h1 h2 => kd_has (by omega), ?_, ?_⟩
 ·rw [kd_has (by omega), kd_has (by omega), kd_has (by omega)]
  cases h : kindB s f 6
  ·exact .inl rfl
  ·exact .inr ⟨rfl, kd_semi h⟩
 ·rw [kd_has (by omega), kd_has (by omega)]
  cases h : kindB s f 1
  ·exact .inl rfl
  ·exact .inr ⟨rfl, kd_proj hf h⟩
end
end Go.Proofs.YtnhdohednekhjaaGreatDoor
namespace Go.Proofs.YtnhdohednekhjaaGreatDoor
open Go.RowKit Go.Sort
theorem SameNumbers_any (w : World) {v u : Value} {xs ys : List Int} (h : intsT.Rd w [v] xs) (h' : intsT.Rd w [u] ys) : Calls Tryz.prog 32 #[v, u] w fun e w' => e = .returned (.bool (eqB xs ys)) ∧ Below w.heap.size w w' := by
 have H := Lib.hid h
 have H' := Lib.hid h'
 obtain ⟨a, c, rfl⟩ := rd_slice h
 obtain ⟨a', c', rfl⟩ := rd_slice h'
 clear h h'
 go_enter Tryz.func32, Tryz.ntmps32
 go_wp2_with fail
 refine (l00Same_quiet w H.out H'.out).mono ?_
 rintro e w1 ⟨rfl, hq⟩
 have hb := hq.below
 clear hq
 go_wp2_with fail
 go_ret
 exact ⟨rfl, hb⟩
end Go.Proofs.YtnhdohednekhjaaGreatDoor
namespace Go.Proofs.YtnhdohednekhjaaGreatDoor
open Go.ChangeShapes Go.WideShapes Go.ChangeAt Go.RowKit
theorem handed_and_shaped {H : Type} {enc : TypeId × Value → H} {a : Assume} {C : Checked} {os : Os} {f : FuncId} {fn : Func} {s : ChangeSpec} {conds : List PathCond} {apart fresh handsOn again : Bool} {X : World → Array Value → Prop}
  (hX : ∀ (w w' : World) (args : Array Value), w.heap = w'.heap → X w args → X w' args)
  (own : ownKnob C.prog.godebug = none) (started : os.Started) (noInit : C.prog.inits.idxOf? f = none) (hfn : C.prog.funcs[f]? = some fn)
  (witness : ∃ (w : World) (tape : Tape) (i : Input), w.os = os ∧ (w.forCall tape i).Shaped C.prog ∧ i.vars = [] ∧ Input.okWide C.prog (w.forCall tape i) .any w.heap.size f i ∧
   ((s.pre enc C.prog fn conds apart (w.forCall tape i).memory i.args ∧ X (w.forCall tape i).memory i.args) ∧ sizedMet enc C.prog fn (OpenSpec.ofChange s) apart (w.forCall tape i).memory i.args) ∧ a.holds C.prog (lone (Frame.enter C.prog f i.args .normal) [] (w.forCall tape i)))
  (contract : ∀ (W : World) (base : Nat) (args : Array Value) (ds gs : List (DataW H)) (before : List MemPlace),
   (∀ (j : Nat) t v, fn.params[j]? = some t → args[j]? = some v → Value.okWide C.prog W .any base t v) →
   DataW.Whole enc C.prog fn.params.toList s.vars apart W args.toList ds gs before →
   (DataW.weightsEach C.prog (fn.params.toList ++ s.plain.varTypes C.prog) (ds ++ gs)).all (· ≤ reachBytes) = true → X W args → W.ShapedOpen C.prog →
   Calls C.prog f args W fun e W' => ∃ v, e = .returned v ∧ s.post enc C.prog fn apart fresh handsOn again W args v W') :
  ReturnsInHanded a C os f .any (fun w args => (s.pre enc C.prog fn conds apart w args ∧ X w args) ∧ sizedMet enc C.prog fn (OpenSpec.ofChange s) apart w args) (s.post enc C.prog fn apart fresh handsOn again) := by
 refine returnsInHanded_of_calls own started noInit witness ?_
 intro w tape i _ hsh _ hok hpre _
 obtain ⟨_, _, _, fn', hfn', _, _, _, _, hval⟩ := hok
 obtain rfl : fn' = fn := Option.some.inj (hfn'.symm.trans hfn)
 obtain ⟨⟨⟨ds, gs, before, hw, _⟩, hx⟩, hz⟩ := hpre
 refine (contract (w.forCall tape i) w.heap.size i.args ds gs before hval (DataW.Whole.of_heap (w' := w.forCall tape i) (by rfl) hw) (hz.weights hw) (hX _ _ _ (by rfl) hx) hsh).mono fun e W' ⟨v, he, hp⟩ => ?_
 subst he
 exact ChangeSpec.post_blind hp
theorem err_cell {W : World} {n nm : String} {d : DataW Unit} {g : Nat} {ti : TypeId} {ms : Array (String × TypeId)} (hg : Tryz.prog.globalNamed n = some g) (ht : (Tryz.prog.globals[g]?).map (·.type) = some ti) (hi : Tryz.prog.underlying ti = some (.interface ms)) (h : Lib.VarReads Tryz.prog W n (.iface nm d)) :
  ∃ ev, W.cell? ⟨g, 0, none⟩ = some ev ∧ (ev = .nilIface ∨ ∃ te pe, ev = .iface te pe) := by
 obtain ⟨g', t', cs, fuel, p, hg', ht', hv, hd⟩ := h
 obtain rfl := Option.some.inj (hg.symm.trans hg')
 obtain rfl := Option.some.inj (ht.symm.trans ht')
 obtain ⟨_, u, v, hcs, -, -⟩ := iface_of_trod hi hd
 refine ⟨.iface u v, ?_, .inr ⟨u, v, rfl⟩⟩
 rw [World.var?_cell hg hv 0]
 obtain ⟨l⟩ := cs
 have hl : l = [.iface u v] := hcs
 rw [hl]
 rfl
theorem maxLen_cell {W : World} (h : W.ShapedOpen Tryz.prog) : ∃ m, W.cell? ⟨0, 0, none⟩ = some (.int .i64 m) :=
 Go.Proofs.cell_of_shapedOpen_int (t := 3) (zero := #[.int .i64 0]) h (of_decide_eq_true (by kernel_rfl)) (by kernel_rfl) rfl (by kernel_rfl) (by kernel_rfl) Tryz.underlying3
theorem rfPre_of {W : World} (hs : W.ShapedOpen Tryz.prog) {d1 d2 : DataW Unit} {n1 n2 : String} (h1 : Lib.VarReads Tryz.prog W "strconv.ErrSyntax" (.iface n1 d1)) (h2 : Lib.VarReads Tryz.prog W "strconv.ErrRange" (.iface n2 d2)) (h3 : Lib.TabIs Tryz.prog W "internal/strconv.uint64pow10" .u64 Lib.pow10Tab) : RfPre W := by
 have e2 := err_cell (g := 2) (ti := 169) (by kernel_rfl) (by kernel_rfl) Tryz.underlying169 h2
 exact ⟨let ⟨_, c, _⟩ := e2; World.block_lt_of_cell? W _ c, maxLen_cell hs, err_cell (g := 1) (ti := 169) (by kernel_rfl) (by kernel_rfl) Tryz.underlying169 h1, e2, h3⟩
end Go.Proofs.YtnhdohednekhjaaGreatDoor
