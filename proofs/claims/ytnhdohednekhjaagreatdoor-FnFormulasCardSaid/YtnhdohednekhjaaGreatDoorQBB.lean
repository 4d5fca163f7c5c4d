/-
Contracts: a formula read from its text, the program's.
-/
import Derived.Test.YtnhdohednekhjaaGreatDoorQBA
import Derived.Test.YtnhdohednekhjaaGreatDoorQAG
namespace Go.Proofs.YtnhdohednekhjaaGreatDoor
open Go.RowKit Go.Sort
/-- the pieces that Split lays -/
theorem split_row {t : List UInt8} : ((Lib.splitB ⟨#[32]⟩ 0 (Lib.countB (bs t) ⟨#[32]⟩) (bs t)).map Value.string) = (Lib.split t [32]).map (fun l => Value.string (bs l)) ∧ (Lib.split t [32]).length = Lib.countB (bs t) ⟨#[32]⟩ + 1 := by
 have h1 := Lib.splitB_data ⟨#[32]⟩ 0 (Lib.countB (bs t) ⟨#[32]⟩) (bs t)
 have h2 := Lib.splitB_all ⟨#[32]⟩ (by decide) 0 _ (bs t) rfl
 have hd : (bs t).data.toList = t := by simp [bs]
 have hc : Lib.countB (bs t) ⟨#[32]⟩ = Lib.count t [32] := by unfold Lib.countB; rw [hd]
 rw [hd, show (⟨#[32]⟩ : ByteArray).data.toList = [32] from rfl] at h1
 have h3 : Lib.split t [32] = (Lib.splitB ⟨#[32]⟩ 0 (Lib.countB (bs t) ⟨#[32]⟩) (bs t)).map (·.data.toList) := by
  rw [h1]; unfold Lib.split; rw [hc]
 refine ⟨?_, by rw [h3, List.length_map, h2]⟩
 rw [h3, List.map_map]
 refine List.map_congr_left fun x _ => ?_
 show Value.string x = Value.string (bs x.data.toList)
 simp [bs]
theorem splitK_in {sep : List UInt8} : ∀ {k : Nat} {s : List UInt8}, ∀ x ∈ Lib.splitK sep 0 k s, x.length ≤ s.length
 | 0, s, x, h => by rw [List.mem_singleton.1 h]; exact Nat.le_refl _
 | k + 1, s, x, h => by
  unfold Lib.splitK at h
  split at h
  ·rw [List.mem_singleton.1 h]; exact Nat.le_refl _
  ·rcases List.mem_cons.1 h with rfl | h
   ·simp only [List.length_take]; omega
   ·have := splitK_in x h
    simp only [List.length_drop] at this
    omega
set_option maxHeartbeats 6400000 in
set_option maxRecDepth 100000 in
theorem ReadFormula_any (w : World) (hp : RfPre w) {t : List UInt8} :
  Calls Tryz.prog 13 #[.string (bs t)] w (RetAC frmT w (rfV t) (rfC t)) := by
 obtain ⟨S, hS⟩ : ∃ S, S = bs t := ⟨_, rfl⟩
 have hsz : S.size = t.length := by rw [hS, bs_size]
 have HS := Lib.hid hS
 have HP := Lib.hid hp
 rw [← hS]
 clear hS hp
 cases hd : decide ((20000 : Int) < ((t.length : Nat) : Int))
 rotate_left
 ·obtain ⟨r1, r2⟩ := rf_big hd
  have HC := Lib.hid r1
  have HV := Lib.hid r2
  clear r1 r2
  go_enter Tryz.func13, Tryz.ntmps13
  go_wp2_with fail
  refine bodyPost_ret (v := .tuple #[.agg #[.int .i64 0, .int .i64 0, .slice none 0 0], .int .i64 2]) (by simp [results, Tryz.results13, go_sem]) rfl ⟨[.int .i64 0, .int .i64 0, .slice none 0 0], by rw [HC.out], by rw [HV.out]; exact fr_frm0, ?_⟩
  first | exact bA | exact set3_below bA (Nat.le_refl _) | exact (((bA).setCell (Nat.le_refl _) _).setCell (Nat.le_refl _) _).setCell (Nat.le_refl _) _
 have hln : t.length ≤ 20000 := by have := of_decide_eq_false hd; omega
 have hlt : ¬ (20000 : Int) < ((t.length : Nat) : Int) := by omega
 go_enter Tryz.func13, Tryz.ntmps13
 go_wp2_with fail
 generalize hW : World.alloc w _ = X
 have hbX : Below w.heap.size w X := hW ▸ bA
 have hsX : w.heap.size + 1 ≤ X.heap.size := by rw [← hW]; simp
 have r0 : X.cell? ⟨w.heap.size, 0, none⟩ = some (.int .i64 0) := by rw [← hW]; simp [go_sem]
 have r1 : X.cell? ⟨w.heap.size, 1, none⟩ = some (.int .i64 0) := by rw [← hW]; simp [go_sem]
 have r2 : X.cell? ⟨w.heap.size, 2, none⟩ = some (.slice none 0 0) := by rw [← hW]; simp [go_sem]
 have m0 : X.frozen? ⟨w.heap.size, 0, none⟩ = false := by rw [← hW]; simp [go_sem]
 have m1 : X.frozen? ⟨w.heap.size, 1, none⟩ = false := by rw [← hW]; simp [go_sem]
 have m2 : X.frozen? ⟨w.heap.size, 2, none⟩ = false := by rw [← hW]; simp [go_sem]
 clear hW
 rw [HS.out]
 obtain ⟨m, hm⟩ := (HP.out.below hbX).len
 refine (Tryz.strings_Split (bs t) ⟨#[32]⟩ m X (by rw [bs_size]; omega) hm (by decide)).mono ?_
 rintro e w1 ⟨rfl, hw1⟩
 obtain ⟨hrow, hlen⟩ := split_row (t := t)
 rw [hrow] at hw1
 rw [← hlen]
 have hb1 : Below X.heap.size X w1 := hw1 ▸ bA
 have HWC : Hid (∀ i (h : i < (Lib.split t [32]).length), w1.cell? ⟨X.heap.size, i, none⟩ = some (.string (bs (Lib.split t [32])[i]))) := fun i h => by
  rw [hw1]
  simp [h]
 have hsz1 : X.heap.size + 1 ≤ w1.heap.size := by rw [hw1]; simp
 have HRI : Hid (3 ≤ (Lib.split t [32]).length → (ftV (frmI (Lib.split t [32])) = t ↔ ∃ f, rfP t f)) := rfI_iff
 have HRV : Hid (∀ f, rfP t f → frmI (Lib.split t [32]) = f) := fun f h => rfI_val h
 have hWL : (Lib.split t [32]).length ≤ 20001 := by
  rw [hlen]
  have := Lib.countB_le ⟨#[32]⟩ (by decide) _ (bs t) (Nat.le_refl _)
  rw [bs_size] at this
  omega
 have HTW : Hid (∀ f, rfP t f → 3 ≤ (Lib.split t [32]).length) := fun f h => by
  have e := words_I h.1
  rw [h.2] at e
  rw [e]
  simp [fmW]
 have HWI : Hid (∀ x ∈ Lib.split t [32], x.length ≤ 20000) := fun x hx => Nat.le_trans (splitK_in x hx) hln
 generalize Lib.split t [32] = W at HWI HWC HRI HRV hWL HTW ⊢
 clear hw1 hrow hlen hm
 have hbw1 := bthen hbX hb1
 replace r0 := (cellB hb1 (by omega)).trans r0
 replace r1 := (cellB hb1 (by omega)).trans r1
 replace r2 := (cellB hb1 (by omega)).trans r2
 replace m0 := (frozenB hb1 (by omega)).trans m0
 replace m1 := (frozenB hb1 (by omega)).trans m1
 replace m2 := (frozenB hb1 (by omega)).trans m2
 have hz0 : w.heap.size < X.heap.size := by omega
 by_cases h3 : W.length < 3
 ·obtain ⟨q1, q2⟩ := rf_no hd (fun ⟨f, hf⟩ => by have := HTW.out f hf; omega)
  have HC := Lib.hid q1
  have HV := Lib.hid q2
  clear q1 q2
  have hA : decide (((W.length : Nat) : Int) < 3) = true := by simpa using (by omega : ((W.length : Nat) : Int) < 3)
  have hA' : decide (W.length < 3) = true := by simpa using h3
  obtain ⟨g0, g1, g2⟩ := set3_cells (x := .int .i64 0) (y := .int .i64 0) (z := .slice none 0 0) r0 r1 r2
  go_wp2_with fail
  refine bodyPost_ret (v := .tuple #[.agg #[.int .i64 0, .int .i64 0, .slice none 0 0], .int .i64 5]) (by simp [results, Tryz.results13, go_sem, g0, g1, g2]) rfl ⟨[.int .i64 0, .int .i64 0, .slice none 0 0], by rw [HC.out], by rw [HV.out]; exact fr_frm0, set3_below hbw1 (by omega)⟩
 have hA : decide (((W.length : Nat) : Int) < 3) = false := by simpa using (by omega : ¬ ((W.length : Nat) : Int) < 3)
 have hA' : decide (W.length < 3) = false := by simpa using h3
 have e1 := HWC.out 1 (by omega)
 have e2 := HWC.out 2 (by omega)
 have hl1 : (W[1]).length ≤ 20000 := HWI.out _ (List.getElem_mem _)
 have hl2 : (W[2]).length ≤ 20000 := HWI.out _ (List.getElem_mem _)
 have HG1 : Hid (W.getD 1 [] = W[1]) := by unfold Hid; rw [List.getD_eq_getElem?_getD, List.getElem?_eq_getElem]; rfl
 have HG2 : Hid (W.getD 2 [] = W[2]) := by unfold Hid; rw [List.getD_eq_getElem?_getD, List.getElem?_eq_getElem]; rfl
 have HP1 := Lib.hid (HP.out.below hbw1)
 generalize W[1] = W1 at e1 hl1 HG1
 generalize W[2] = W2 at e2 hl2 HG2
 go_wp2_with fail
 refine wp_region_box [(.plain, exO (.slice (some ⟨X.heap.size, 0, none⟩) W.length W.length)), (.plain, exO (.pointer (some ⟨X.heap.size, 1, none⟩))), (.plain, exO (.string (bs W1))), (.plain, exO (.int .i64 (numI W1))), (.plain, exO (.slice (some ⟨X.heap.size, 0, none⟩) W.length W.length)), (.plain, exO (.pointer (some ⟨X.heap.size, 2, none⟩))), (.plain, exO (.string (bs W2))), (.plain, exO (.int .i64 (numI W2))), (.plain, exO (.agg #[.int .i64 (numI W1), .int .i64 (numI W2), .slice none 0 0])), (.alloc, boxO 3), (.store, heldO (Ty.cons (Ty.cons Ty.val)) w1.heap.size (numI W1, numI W2, Value.slice none 0 0))] (by kernel_rfl) (by kernel_rfl) ⟨st_exO, st_exO, st_exO, st_exO, st_exO, st_exO, st_exO, st_exO, st_exO, st_boxO, st_heldO, trivial⟩ ⟨?j8_0, ?j8_1, ?j8_2, ?j8_3, ?j8_4, ?j8_5, ?j8_6, ?j8_7, ?j8_8, ?j8_9, ?j8_10, trivial⟩ ?hQ8
 case j8_0 =>
  intro a' w' ob hb hbo hal hd
  have e0 : a'.tmps[4]?.getD undef = .slice (some ⟨X.heap.size, 0, none⟩) W.length W.length := ev (slot_o2 hd 4 rfl rfl)
  go_simp
  exact ⟨_, ⟨rfl, Below.refl _ _⟩, rfl⟩
 case j8_1 =>
  intro a' w' ob hb hbo hal hd
  have e0 := ev (slot_w2 hd 18 (exO (.slice (some ⟨X.heap.size, 0, none⟩) W.length W.length)) rfl rfl)
  have hwl : (1 : Int) < ((W.length : Nat) : Int) := by omega
  have hwl' : 1 < W.length := by omega
  go_simp
  exact ⟨_, ⟨rfl, Below.refl _ _⟩, rfl⟩
 case j8_2 =>
  intro a' w' ob hb hbo hal hd
  have e0 := ev (slot_w2 hd 19 (exO (.pointer (some ⟨X.heap.size, 1, none⟩))) rfl rfl)
  have q0 := (cellB hb (show X.heap.size < w1.heap.size by omega)).trans e1
  go_simp
  exact ⟨_, ⟨rfl, Below.refl _ _⟩, rfl⟩
 case j8_3 =>
  intro a' w' ob hb hbo hal hd
  have e0 := ev (slot_w2 hd 20 (exO (.string (bs W1))) rfl rfl)
  go_simp
  exact ⟨rfl, Below.refl _ _, (readNumber_any w' (HP1.out.below hb) (t := W1) (by omega)).mono fun e w'' ⟨he, hb2⟩ => ⟨_, he, hb2, rfl⟩⟩
 case j8_4 =>
  intro a' w' ob hb hbo hal hd
  have e0 : a'.tmps[4]?.getD undef = .slice (some ⟨X.heap.size, 0, none⟩) W.length W.length := ev (slot_o2 hd 4 rfl rfl)
  go_simp
  exact ⟨_, ⟨rfl, Below.refl _ _⟩, rfl⟩
 case j8_5 =>
  intro a' w' ob hb hbo hal hd
  have e0 := ev (slot_w2 hd 22 (exO (.slice (some ⟨X.heap.size, 0, none⟩) W.length W.length)) rfl rfl)
  have hwl : (2 : Int) < ((W.length : Nat) : Int) := by omega
  have hwl' : 2 < W.length := by omega
  go_simp
  exact ⟨_, ⟨rfl, Below.refl _ _⟩, rfl⟩
 case j8_6 =>
  intro a' w' ob hb hbo hal hd
  have e0 := ev (slot_w2 hd 23 (exO (.pointer (some ⟨X.heap.size, 2, none⟩))) rfl rfl)
  have q0 := (cellB hb (show X.heap.size < w1.heap.size by omega)).trans e2
  go_simp
  exact ⟨_, ⟨rfl, Below.refl _ _⟩, rfl⟩
 case j8_7 =>
  intro a' w' ob hb hbo hal hd
  have e0 := ev (slot_w2 hd 24 (exO (.string (bs W2))) rfl rfl)
  go_simp
  exact ⟨rfl, Below.refl _ _, (readNumber_any w' (HP1.out.below hb) (t := W2) (by omega)).mono fun e w'' ⟨he, hb2⟩ => ⟨_, he, hb2, rfl⟩⟩
 case j8_8 =>
  intro a' w' ob hb hbo hal hd
  have e0 := ev (slot_w2 hd 21 (exO (.int .i64 (numI W1))) rfl rfl)
  have e3 := ev (slot_w2 hd 25 (exO (.int .i64 (numI W2))) rfl rfl)
  go_simp
  exact ⟨_, ⟨rfl, Below.refl _ _⟩, rfl⟩
 case j8_9 =>
  intro a' w' ob hb hbo hal hd
  obtain rfl := hal rfl
  go_simp
  exact ⟨_, ⟨rfl, by simp, bA⟩, _, rfl, rfl, by simp, box3⟩
 case j8_10 =>
  intro a' w' ob hb hbo hal hd
  obtain ⟨bb, rfl, e10, hbb, hcl⟩ := slot_w2 hd 5 (boxO 3) rfl rfl
  have e10' := ev e10
  have e47' := ev (slot_w2 hd 26 (exO (.agg #[.int .i64 (numI W1), .int .i64 (numI W2), .slice none 0 0])) rfl rfl)
  obtain ⟨⟨y0, c0⟩, f0⟩ := hcl 0 (by decide)
  obtain ⟨⟨y1, c1⟩, f1⟩ := hcl 1 (by decide)
  obtain ⟨⟨y2, c2⟩, f2⟩ := hcl 2 (by decide)
  go_simp
  exact held3 (E := Ty.cons (Ty.cons Ty.val)) (base := w1.heap.size) (x := (numI W1, numI W2, Value.slice none 0 0)) c0 c1 c2 (fp := []) ⟨_, rfl, numI_I, _, rfl, numI_I, rfl, rfl, rfl⟩ List.nodup_nil (by simp) (fun b hb => by cases hb) (by simp) undef
 intro vs8 w2 ob8 hb2 hbo8 J0
 obtain ⟨v8_0, _, rfl, q0, J1⟩ := HAll2_cons J0
 obtain ⟨v8_1, _, rfl, q1, J2⟩ := HAll2_cons J1
 obtain ⟨v8_2, _, rfl, q2, J3⟩ := HAll2_cons J2
 obtain ⟨v8_3, _, rfl, q3, J4⟩ := HAll2_cons J3
 obtain ⟨v8_4, _, rfl, q4, J5⟩ := HAll2_cons J4
 obtain ⟨v8_5, _, rfl, q5, J6⟩ := HAll2_cons J5
 obtain ⟨v8_6, _, rfl, q6, J7⟩ := HAll2_cons J6
 obtain ⟨v8_7, _, rfl, q7, J8⟩ := HAll2_cons J7
 obtain ⟨v8_8, _, rfl, q8, J9⟩ := HAll2_cons J8
 obtain ⟨v8_9, _, rfl, q9, J10⟩ := HAll2_cons J9
 obtain ⟨v8_10, _, rfl, q10, J11⟩ := HAll2_cons J10
 obtain rfl := HAll2_nil J11
 obtain rfl := id q0
 obtain rfl := id q1
 obtain rfl := id q2
 obtain rfl := id q3
 obtain rfl := id q4
 obtain rfl := id q5
 obtain rfl := id q6
 obtain rfl := id q7
 obtain rfl := id q8
 obtain ⟨bb, rfl, rfl, hltbb, hcl⟩ := id q9
 obtain ⟨_, cs, fpx, hob, hr1, -, -, -, -, kk⟩ := id q10
 simp only [Option.some.injEq] at hob
 subst hob
 obtain ⟨_, rfl, -, _, rfl, -, rfl, -⟩ := hr1
 have x0 : w2.cell? ⟨bb, 0, none⟩ = some (.int .i64 (numI W1)) := kk 0 (by simp)
 have x1 : w2.cell? ⟨bb, 1, none⟩ = some (.int .i64 (numI W2)) := kk 1 (by simp)
 have x2 : w2.cell? ⟨bb, 2, none⟩ = some (.slice none 0 0) := kk 2 (by simp)
 have xm := (hcl 2 (by decide)).2
 obtain ⟨hbb1, hbb2⟩ := hbo8 bb rfl
 have hbw2 := bthen hbw1 hb2
 have hz2 := hb2.size
 have hX1 : X.heap.size < w1.heap.size := by omega
 have h33 : (3 : Int) ≤ ((W.length : Nat) : Int) := by omega
 have h33' : 3 ≤ W.length := by omega
 have HR0 := Lib.hid (And.intro r0 (And.intro r1 (And.intro r2 (And.intro m0 (And.intro m1 m2)))))
 have HFI : Hid (frmI W = (numI W1, numI W2, (W.drop 3).map atomI)) := by unfold Hid frmI; rw [HG1.out, HG2.out]
 clear r0 r1 r2 m0 m1 m2 kk q0 q1 q2 q3 q4 q5 q6 q7 q8 q9 q10 hcl e1 e2 hbo8
 simp only [putAll, Act.put]
 go_simp
 by_cases h4 : 3 < W.length
 rotate_left
 ·have h4' : W.length = 3 := by omega
  have hfr : opsT.Fr w2.heap.size w2 [.slice none 0 0] ((W.drop 3).map atomI) := by
   rw [List.drop_eq_nil_of_le (by omega)]
   exact fr_nil
  go_wp2_with fail
  go_loopw [30] (fun i wr => i = .int .i64 0 ∧ w2 = wr) (fun _ _ => 0)
  case atStart => exact ⟨rfl, rfl⟩
  case round =>
   obtain ⟨rfl, rfl⟩ := hrel
   obtain ⟨r0, r1, r2, m0, m1, m2⟩ := HR0.out
   replace r0 := (cellB hb2 (show w.heap.size < w1.heap.size by omega)).trans r0
   replace r1 := (cellB hb2 (show w.heap.size < w1.heap.size by omega)).trans r1
   replace r2 := (cellB hb2 (show w.heap.size < w1.heap.size by omega)).trans r2
   replace m0 := (frozenB hb2 (show w.heap.size < w1.heap.size by omega)).trans m0
   replace m1 := (frozenB hb2 (show w.heap.size < w1.heap.size by omega)).trans m1
   replace m2 := (frozenB hb2 (show w.heap.size < w1.heap.size by omega)).trans m2
   have HFF : Hid (frmT.Fr w2.heap.size w2 [.int .i64 (numI W1), .int .i64 (numI W2), .slice none 0 0] (numI W1, numI W2, (W.drop 3).map atomI)) := fr_cons numI_I (fr_cons numI_I hfr)
   have hbwv := bthen hbw1 hb2
   clear hfr
   generalize (W.drop 3).map atomI = A at HFF HFI
   go_wp2_with fail
   refine (FormulaText_any w2 (cs := #[.int .i64 (numI W1), .int .i64 (numI W2), .slice none 0 0]) (x := (numI W1, numI W2, A)) HFF.out.rd).mono ?_
   rintro e w8 ⟨rfl, hb8⟩
   have hcm : ((bs (ftV (numI W1, numI W2, A))).toList == (bs t).toList) = (ftV (numI W1, numI W2, A) == t) := by
    rw [show (bs (ftV (numI W1, numI W2, A))).toList = ftV (numI W1, numI W2, A) from ByteArray.toList_mk _, show (bs t).toList = t from ByteArray.toList_mk _]
   have hcm2 : (ftV (numI W1, numI W2, A) == (bs t).toList) = (ftV (numI W1, numI W2, A) == t) := by
    rw [show (bs t).toList = t from ByteArray.toList_mk _]
   have hcm3 : (ftV (numI W1, numI W2, A) != (bs t).toList) = !(ftV (numI W1, numI W2, A) == t) := by
    rw [show (bs t).toList = t from ByteArray.toList_mk _]; rfl
   have HFF8 := Lib.hid (HFF.out.below hb8)
   have hB8 := bthen hbwv hb8
   have hz8 := hb8.size
   have hzw : w1.heap.size ≤ w2.heap.size := hb2.size
   replace r0 := (cellB hb8 (by omega)).trans r0
   replace r1 := (cellB hb8 (by omega)).trans r1
   replace r2 := (cellB hb8 (by omega)).trans r2
   replace x0 := (cellB hb8 (by omega)).trans x0
   replace x1 := (cellB hb8 (by omega)).trans x1
   replace x2 := (cellB hb8 (by omega)).trans x2
   replace m0 := (frozenB hb8 (by omega)).trans m0
   replace m1 := (frozenB hb8 (by omega)).trans m1
   replace m2 := (frozenB hb8 (by omega)).trans m2
   cases hc : (ftV (numI W1, numI W2, A) == t)
   ·obtain ⟨q1, q2⟩ := rf_no hd (fun hx => by have := (HRI.out h33').2 hx; rw [HFI.out] at this; rw [this] at hc; simp at hc)
    have HC := Lib.hid q1
    have HV := Lib.hid q2
    clear q1 q2
    rw [hc] at hcm hcm2 hcm3
    obtain ⟨g0, g1, g2⟩ := set3_cells (x := .int .i64 0) (y := .int .i64 0) (z := .slice none 0 0) r0 r1 r2
    go_wp2_with fail
    refine bodyPost_ret (v := .tuple #[.agg #[.int .i64 0, .int .i64 0, .slice none 0 0], .int .i64 5]) (by simp [results, Tryz.results13, go_sem, g0, g1, g2]) rfl ⟨[.int .i64 0, .int .i64 0, .slice none 0 0], by rw [HC.out], by rw [HV.out]; exact fr_frm0, set3_below hB8 (by omega)⟩
   ·obtain ⟨f, hf⟩ := (HRI.out h33').1 (by rw [HFI.out]; exact beq_iff_eq.1 hc)
    have hv := HRV.out f hf
    rw [HFI.out] at hv
    obtain ⟨q1, q2⟩ := rf_ok hd hf
    have HC := Lib.hid q1
    have HV : Hid (rfV t = (numI W1, numI W2, A)) := by unfold Hid; rw [q2, hv]
    clear q1 q2 hv hf
    rw [hc] at hcm hcm2 hcm3
    obtain ⟨g0, g1, g2⟩ := set3_cells (x := .int .i64 (numI W1)) (y := .int .i64 (numI W2)) (z := .slice none 0 0) r0 r1 r2
    go_wp2_with fail
    refine bodyPost_ret (v := .tuple #[.agg #[.int .i64 (numI W1), .int .i64 (numI W2), .slice none 0 0], .int .i64 0]) (by simp [results, Tryz.results13, go_sem, g0, g1, g2]) rfl ⟨[.int .i64 (numI W1), .int .i64 (numI W2), .slice none 0 0], by rw [HC.out], by rw [HV.out]; exact (((HFF8.out.set (a := ⟨w.heap.size, 0, none⟩) (show w.heap.size < w2.heap.size by omega)).set (a := ⟨w.heap.size, 1, none⟩) (show w.heap.size < w2.heap.size by omega)).set (a := ⟨w.heap.size, 2, none⟩) (show w.heap.size < w2.heap.size by omega)).mono (by omega), set3_below hB8 (by omega)⟩
 have h44 : (3 : Int) < ((W.length : Nat) : Int) := by omega
 have h45 : 0 < W.length - 3 := by omega
 go_wp2_with fail
 go_loopw [30] (fun i wr => ∃ (k : Nat) (va : Value), k + 3 ≤ W.length ∧ i = .int .i64 k ∧ Bl opT 98 w2.heap.size wr.heap.size wr va (((W.drop 3).take k).map atomI) ∧ wr.cell? ⟨bb, 0, none⟩ = some (.int .i64 (numI W1)) ∧ wr.cell? ⟨bb, 1, none⟩ = some (.int .i64 (numI W2)) ∧ wr.cell? ⟨bb, 2, none⟩ = some va ∧ wr.frozen? ⟨bb, 2, none⟩ = false ∧ Below w1.heap.size w1 wr ∧ w2.heap.size ≤ wr.heap.size) (fun i _ => W.length - (intOf i).toNat)
 case atStart => exact ⟨0, _, by omega, rfl, by simpa using Bl.nil, x0, x1, x2, xm, hb2, Nat.le_refl _⟩
 case round =>
  clear x0 x1 x2 xm
  obtain ⟨k, va, hk, rfl, hBl, x0, x1, x2, xm, hbe, hzr⟩ := hrel
  obtain ⟨wv, rfl⟩ : ∃ wv : World, wv = wr := ⟨_, rfl⟩
  have HB := Lib.hid hBl
  clear hBl
  by_cases hkl : k + 3 < W.length
  ·have e0 := (cellB hbe hX1).trans (HWC.out (3 + k) (by omega))
   have hwl : (W[3 + k]).length ≤ 20000 := HWI.out _ (List.getElem_mem _)
   have HTK : Hid ((((W.drop 3).take k).map atomI) ++ [atomI W[3 + k]] = ((W.drop 3).take (k + 1)).map atomI) := by
    have hkd : k < (W.drop 3).length := by rw [List.length_drop]; omega
    unfold Hid
    rw [List.take_succ_eq_append_getElem hkd, List.map_append]
    simp
   have hml : (((W.drop 3).take k).map atomI).length ≤ 30000 := by rw [List.length_map, List.length_take, List.length_drop]; omega
   generalize W[3 + k] = Wk at e0 hwl HTK
   go_wp2_with fail
   refine wp_region_T (fun w' => w'.cell? ⟨bb, 2, none⟩ = some va) [5, 7] (by kernel_rfl) x2 (fun hHeld => ?_)
   refine wpAnyT_take (i := 0) (v := ?_) rfl (by kernel_rfl) (fun _ _ _ h => h) (Or.inl ⟨by rfl, ?_⟩) (by assumption) ?_
   rotate_left
   ·(intro w hSw; (try dsimp only at hSw); go_simp <;> with_reducible rfl)
   go_simp
   refine wpAnyT_take (i := 1) (v := ?_) rfl (by kernel_rfl) (fun _ _ _ h => h) (Or.inl ⟨by rfl, ?_⟩) (by assumption) ?_
   rotate_left
   ·(intro w hSw; (try dsimp only at hSw); go_simp <;> with_reducible rfl)
   go_simp
   refine wpAnyT_take (i := 2) (v := ?_) rfl (by kernel_rfl) (fun _ _ _ h => h) (Or.inl ⟨by rfl, ?_⟩) (by assumption) ?_
   rotate_left
   ·(intro w hSw; (try dsimp only at hSw); go_simp <;> with_reducible rfl)
   go_simp
   have hv0 : Below wv.heap.size wv wv.drew := bD
   have HB0 : Hid (Bl opT 98 w2.heap.size wv.heap.size wv.drew va (((W.drop 3).take k).map atomI)) := HB.out.below hv0 (Nat.le_refl _)
   have hbv : bb < wv.heap.size := by omega
   replace x0 := (cellB hv0 hbv).trans x0
   replace x1 := (cellB hv0 hbv).trans x1
   replace xm := (frozenB hv0 hbv).trans xm
   have hbe0 : Below w1.heap.size w1 wv.drew := bthen hbe hv0
   have hz0' := hv0.size
   clear x2 hv0
   obtain ⟨y0, hy0⟩ : ∃ y0 : World, y0 = wv.drew := ⟨_, rfl⟩
   rw [← hy0] at hHeld HB0 x0 x1 xm hbe0 hz0' ⊢
   clear hy0
   refine wpAnyT_one (i := 3) rfl (by kernel_rfl) (fun K' hK' => ?_)
   go_simp
   go_at_call 69
   refine (readAtom_any y0 (HP1.out.below hbe0) (t := Wk) (by omega)).mono ?_
   rintro e y1 ⟨cs, rfl, hf, hb6⟩
   obtain ⟨fa, fc, rfl⟩ := fr_pair hf
   have HF := Lib.hid hf
   have hz6 := hb6.size
   have HB6 : Hid (Bl opT 98 w2.heap.size wv.heap.size y1 va (((W.drop 3).take k).map atomI)) := HB0.out.below hb6 hz0'
   have x2 := (cellB hb6 (by omega)).trans hHeld
   replace x0 := (cellB hb6 (by omega)).trans x0
   replace x1 := (cellB hb6 (by omega)).trans x1
   replace xm := (frozenB hb6 (by omega)).trans xm
   have hbe6 := bthen hbe0 hb6
   clear hf hHeld HB0
   dsimp only
   refine hK'.out _ _ x2 (fun hHeld => ?_)
   clear hK' K'
   refine wpAnyT_one (i := 4) rfl (by kernel_rfl) (fun K' hK' => ?_)
   go_simp
   refine hK'.out _ _ (by go_keep) (fun hHeld => ?_)
   clear hK' K'
   refine wpAnyT_last (i := 5) rfl (by kernel_rfl) (by kernel_rfl) (fun K' hK' => ?_)
   refine step_push (E := opT) _ rfl _ _ 29 98 rfl elAtomS rfl (HB6.out.below ((bA (w := y1)).mono (by omega)) (Nat.le_refl _)) rfl news2 ((HF.out.below bA).mono (by omega)) (by omega) (by decide) (by omega) (by first | (simp; done) | (simp; omega)) ?_
   intro v7 w7 hB7 hg7 _
   have hb7 : Below w2.heap.size y1 w7 := ((bA (w := y1)).mono (by omega)).grown hg7 (by first | (simp; done) | (simp; omega)) (fun q hq => HB6.out.own hq)
   have i0 := (cellB hb7 hbb2).trans x0
   have i1 := (cellB hb7 hbb2).trans x1
   have i2 := (cellB hb7 hbb2).trans x2
   have im := (frozenB hb7 hbb2).trans xm
   have hz7 := hb7.size
   have hbe7 : Below w1.heap.size w1 w7 := hbe6.trans (hb7.mono hz2)
   rw [HTK.out] at hB7
   obtain ⟨za, zn, zc, rfl⟩ := ex_slice (hB7.fr (by rw [List.length_map, List.length_take, List.length_drop]; unfold capMax; omega))
   have HB7 := Lib.hid hB7
   clear hB7 hg7 HB6
   refine hK'.out _ _ ?_
   clear hK' K'
   refine wpAnyT_any (i := 6) (v := ?_) rfl (by kernel_rfl) (fun _ _ _ h => h) (Or.inl ⟨by rfl, ?_⟩) (by first | exact fun _ => by assumption | (intro hp; exact absurd hp (by rw [show pastB _ _ = true by kernel_rfl]; simp))) ?_
   rotate_left
   ·(intro w hSw; (try dsimp only at hSw); go_simp <;> with_reducible rfl)
   try simp only [Act.put]
   refine wpAnyT_last (i := 7) rfl (by kernel_rfl) (by kernel_rfl) (fun K' hK' => ?_)
   go_simp
   refine hK'.out _ _ ?_
   clear hK' K'
   refine wpAnyT_done (by kernel_rfl) ?_ _
   go_simp
   go_wp2_with fail
   go_roundw
   case rel => exact ⟨k + 1, _, by omega, by go_num, by rw [size_set]; exact HB7.out.sameB (fun q h1 h2 => Below.heap_setCell _ _ _ _ (by simp; omega)), (World.cell?_setCell_other _ _ _ _ (by simp)).trans i0, (World.cell?_setCell_other _ _ _ _ (by simp)).trans i1, World.cell?_setCell_same _ _ _ i2, (World.frozen?_setCell _ _ _ _).trans im, hbe7.setCell hbb1 _, by rw [size_set]; omega⟩
   case measure => simp [intOf]; omega
  ·have hfr := HB.out.fr (by rw [List.length_map, List.length_take, List.length_drop]; unfold capMax; omega)
   rw [List.take_of_length_le (by rw [List.length_drop]; omega)] at hfr
   obtain ⟨za, zn, zc, rfl⟩ := ex_slice hfr
   obtain ⟨r0, r1, r2, m0, m1, m2⟩ := HR0.out
   replace r0 := (cellB hbe (show w.heap.size < w1.heap.size by omega)).trans r0
   replace r1 := (cellB hbe (show w.heap.size < w1.heap.size by omega)).trans r1
   replace r2 := (cellB hbe (show w.heap.size < w1.heap.size by omega)).trans r2
   replace m0 := (frozenB hbe (show w.heap.size < w1.heap.size by omega)).trans m0
   replace m1 := (frozenB hbe (show w.heap.size < w1.heap.size by omega)).trans m1
   replace m2 := (frozenB hbe (show w.heap.size < w1.heap.size by omega)).trans m2
   have HFF : Hid (frmT.Fr w2.heap.size wv [.int .i64 (numI W1), .int .i64 (numI W2), .slice za zn zc] (numI W1, numI W2, (W.drop 3).map atomI)) := fr_cons numI_I (fr_cons numI_I hfr)
   have hbwv := bthen hbw1 hbe
   clear hfr
   generalize (W.drop 3).map atomI = A at HFF HFI
   go_wp2_with fail
   refine (FormulaText_any wv (cs := #[.int .i64 (numI W1), .int .i64 (numI W2), .slice za zn zc]) (x := (numI W1, numI W2, A)) HFF.out.rd).mono ?_
   rintro e w8 ⟨rfl, hb8⟩
   have hcm : ((bs (ftV (numI W1, numI W2, A))).toList == (bs t).toList) = (ftV (numI W1, numI W2, A) == t) := by
    rw [show (bs (ftV (numI W1, numI W2, A))).toList = ftV (numI W1, numI W2, A) from ByteArray.toList_mk _, show (bs t).toList = t from ByteArray.toList_mk _]
   have hcm2 : (ftV (numI W1, numI W2, A) == (bs t).toList) = (ftV (numI W1, numI W2, A) == t) := by
    rw [show (bs t).toList = t from ByteArray.toList_mk _]
   have hcm3 : (ftV (numI W1, numI W2, A) != (bs t).toList) = !(ftV (numI W1, numI W2, A) == t) := by
    rw [show (bs t).toList = t from ByteArray.toList_mk _]; rfl
   have HFF8 := Lib.hid (HFF.out.below hb8)
   have hB8 := bthen hbwv hb8
   have hz8 := hb8.size
   have hzw : w1.heap.size ≤ wv.heap.size := hbe.size
   replace r0 := (cellB hb8 (by omega)).trans r0
   replace r1 := (cellB hb8 (by omega)).trans r1
   replace r2 := (cellB hb8 (by omega)).trans r2
   replace x0 := (cellB hb8 (by omega)).trans x0
   replace x1 := (cellB hb8 (by omega)).trans x1
   replace x2 := (cellB hb8 (by omega)).trans x2
   replace m0 := (frozenB hb8 (by omega)).trans m0
   replace m1 := (frozenB hb8 (by omega)).trans m1
   replace m2 := (frozenB hb8 (by omega)).trans m2
   cases hc : (ftV (numI W1, numI W2, A) == t)
   ·obtain ⟨q1, q2⟩ := rf_no hd (fun hx => by have := (HRI.out h33').2 hx; rw [HFI.out] at this; rw [this] at hc; simp at hc)
    have HC := Lib.hid q1
    have HV := Lib.hid q2
    clear q1 q2
    rw [hc] at hcm hcm2 hcm3
    obtain ⟨g0, g1, g2⟩ := set3_cells (x := .int .i64 0) (y := .int .i64 0) (z := .slice none 0 0) r0 r1 r2
    go_wp2_with fail
    refine bodyPost_ret (v := .tuple #[.agg #[.int .i64 0, .int .i64 0, .slice none 0 0], .int .i64 5]) (by simp [results, Tryz.results13, go_sem, g0, g1, g2]) rfl ⟨[.int .i64 0, .int .i64 0, .slice none 0 0], by rw [HC.out], by rw [HV.out]; exact fr_frm0, set3_below hB8 (by omega)⟩
   ·obtain ⟨f, hf⟩ := (HRI.out h33').1 (by rw [HFI.out]; exact beq_iff_eq.1 hc)
    have hv := HRV.out f hf
    rw [HFI.out] at hv
    obtain ⟨q1, q2⟩ := rf_ok hd hf
    have HC := Lib.hid q1
    have HV : Hid (rfV t = (numI W1, numI W2, A)) := by unfold Hid; rw [q2, hv]
    clear q1 q2 hv hf
    rw [hc] at hcm hcm2 hcm3
    obtain ⟨g0, g1, g2⟩ := set3_cells (x := .int .i64 (numI W1)) (y := .int .i64 (numI W2)) (z := .slice za zn zc) r0 r1 r2
    go_wp2_with fail
    refine bodyPost_ret (v := .tuple #[.agg #[.int .i64 (numI W1), .int .i64 (numI W2), .slice za zn zc], .int .i64 0]) (by simp [results, Tryz.results13, go_sem, g0, g1, g2]) rfl ⟨[.int .i64 (numI W1), .int .i64 (numI W2), .slice za zn zc], by rw [HC.out], by rw [HV.out]; exact (((HFF8.out.set (a := ⟨w.heap.size, 0, none⟩) (show w.heap.size < w2.heap.size by omega)).set (a := ⟨w.heap.size, 1, none⟩) (show w.heap.size < w2.heap.size by omega)).set (a := ⟨w.heap.size, 2, none⟩) (show w.heap.size < w2.heap.size by omega)).mono (by omega), set3_below hB8 (by omega)⟩
end Go.Proofs.YtnhdohednekhjaaGreatDoor
