/-
Contracts: a template and an instance that are hard; valid ones of a text of bytes.
Contracts: a valid template and a valid instance of a text of bytes; whether a relation is part of another one.
Contracts: the law's own test of its bytes' length; whether a relation has a tuple, checked (the reference's).
Contracts: pair relations made smaller, the reference's.
Contracts: MakePairs, the reference's (from its step's contract).
-/
import Derived.Test.YtmnjlhcbabhhlaaGreatQAI
import Derived.Test.YtmnjlhcbabhhlaaGreatQAB
import Derived.Test.YtmnjlhcbabhhlaaGreatQAG
namespace Go.Proofs.YtmnjlhcbabhhlaaGreat
open Go.RowKit Go.Sort
theorem elSS3 : ElT Tryz.prog 41 50 1 24 := .mk (z := .slice none 0 0) Tryz.underlying41 (by kernel_rfl) rfl (by decide)
theorem elRel3 : ElT Tryz.prog 24 43 2 32 := .mk (z := .agg #[.int .i64 0, .slice none 0 0]) Tryz.underlying24 (by kernel_rfl) rfl (by decide)
set_option maxHeartbeats 12800000 in
set_option maxRecDepth 100000 in
theorem l08Hard_any (w : World) {sb B : Nat} {K : Int} (h : SrcR sb B K w) (hK0 : 0 ≤ K) (hK : K ≤ 1000) :
  Calls Tryz.prog 15 #[.pointer (some ⟨sb, 0, none⟩)] w (TXR sb B (K + 6000) w) := by
 have H := Lib.hid h
 have hsb := h.lt
 have hBs : B ≤ sb := let ⟨_, _, _, _, _, _, _, _, _, _, _, _, _, _, h⟩ := h; h
 clear h
 go_enter Tryz.func15, Tryz.ntmps15
 go_upto_region 1 with (fail)
 generalize hW : World.alloc (World.alloc w _) _ = W
 have hbW : Below w.heap.size w W := hW ▸ bAA
 have hsW : w.heap.size + 2 = W.heap.size := by rw [← hW]; simp
 have HR : Hid (ResB w.heap.size W) := by
  rw [← hW]
  exact (ResB.new rfl rfl).below bA (by simp)
 have HQ : Hid (ResB (w.heap.size + 1) W) := by
  rw [← hW]
  exact ResB.new rfl (by simp)
 have HS := Lib.hid (H.out.below hbW)
 clear hW
 go_wp2_with fail
 refine (one_any W HS.out hK0 (by omega) (n := 4) (by omega)).mono ?_
 rintro e w1 ⟨b, rfl, hs1, ht1⟩
 have hz1 := ht1.size
 replace HR := Lib.hid (HR.out.tch ht1 (by omega))
 replace HQ := Lib.hid (HQ.out.tch ht1 (by omega))
 replace HS := Lib.hid hs1
 have HT := Lib.hid ((TchP.of_below hbW (fun q => q = sb)).then ht1 (fun q _ h => h))
 clear hs1 ht1
 cases b
 rotate_left
 ·go_wp2_with fail
  refine (l05Bent_any w1 HS.out (by omega) (by omega)).mono ?_
  rintro e w2 ⟨cs, cs', t, x, rfl, htr, hxr, hs2, ht2⟩
  obtain ⟨v, hv, hIt, htv⟩ := pair_ex htr.rd
  obtain ⟨v', hv', hIx, hxv⟩ := pair_ex hxr.rd
  obtain ⟨a, n, c, rfl⟩ := rd_sl htv
  obtain ⟨a', n', c', rfl⟩ := rd_sl hxv
  subst hv hv'
  have hz2 := ht2.size
  replace HR := Lib.hid (HR.out.tch ht2 (by omega))
  replace HQ := Lib.hid (HQ.out.tch ht2 (by omega))
  obtain ⟨⟨u0, r0⟩, ⟨u1, r1⟩, q0, q1⟩ := HR.out.2
  obtain ⟨⟨u2, r2⟩, ⟨u3, r3⟩, q2, q3⟩ := HQ.out.2
  obtain ⟨s0, s1, s2, s3⟩ := set4_cells (show w.heap.size ≠ w.heap.size + 1 by omega) (x := .int .i64 t.1) (y := .slice a n c) (x' := .int .i64 x.1) (y' := .slice a' n' c') r0 r1 r2 r3
  go_wp2_with fail
  refine bodyPost_ret (v := .tuple #[.agg #[.int .i64 t.1, .slice a n c], .agg #[.int .i64 x.1, .slice a' n' c']]) (by simp [results, Tryz.results15, go_sem, s0, s1, s2, s3]) rfl ⟨[.int .i64 t.1, .slice a n c], [.int .i64 x.1, .slice a' n' c'], t, x, rfl, ?_, ?_, ?_, ?_⟩
  ·exact (rdP_set (rdP_set (rdP_set (rdP_set htr (by omega)) (by omega)) (by omega)) (by omega)).mono (fun k _ hk => by omega)
  ·exact (rdP_set (rdP_set (rdP_set (rdP_set hxr (by omega)) (by omega)) (by omega)) (by omega)).mono (fun k _ hk => by omega)
  ·exact (srcS (srcS (srcS (srcS hs2 (by omega) (by omega)) (by omega) (by omega)) (by omega) (by omega)) (by omega) (by omega)).mono (by omega)
  ·exact tchS (tchS (tchS (tchS (HT.out.then ht2 (fun q _ h => h)) (Nat.le_refl _)) (Nat.le_refl _)) (by omega)) (by omega)
 go_wp2_with fail
 refine (pick_any w1 HS.out (by omega) (by omega) (n := 2) (by omega)).mono ?_
 rintro e w2 ⟨p, rfl, hp0, hp1, hs2, ht2⟩
 have hz2 := ht2.size
 replace HR := Lib.hid (HR.out.tch ht2 (by omega))
 replace HQ := Lib.hid (HQ.out.tch ht2 (by omega))
 replace HS := Lib.hid hs2
 replace HT := Lib.hid (HT.out.then ht2 (fun q _ h => h))
 obtain ⟨s, hs⟩ : ∃ s : Nat, 2 + p = (s : Int) := ⟨(2 + p).toNat, by omega⟩
 have hwr : IntKind.i64.wrap (2 + p) = (s : Int) := by rw [hs]; exact wrap_small (by omega) (by omega)
 have hs23 : s = 2 ∨ s = 3 := by omega
 clear hs2 ht2 hs
 go_upto_region 5 with (fail)
 clear hwr
 generalize hW3 : World.alloc w2 _ = w3
 have hb3 : Below w2.heap.size w2 w3 := hW3 ▸ bA
 have HD : Hid (DrS relT 43 sb w w2.heap.size w2.heap.size (w2.heap.size + 1) (s : Int) (.slice none 0 0) [] w3) := by
  rw [← hW3]
  exact DrS.new rfl rfl (by omega) hsb
 clear hW3
 replace HR := Lib.hid (HR.out.below hb3 HR.out.1)
 replace HQ := Lib.hid (HQ.out.below hb3 HQ.out.1)
 replace HS := Lib.hid (HS.out.below hb3)
 replace HT := Lib.hid (tchW HT.out hb3 (by omega))
 have hz3 : w2.heap.size + 1 ≤ w3.heap.size := HD.out.le
 generalize w2.heap.size = gt at *
 go_upto_region 6 with (fail)
 generalize hW4 : World.alloc w3 _ = w4
 have hb4 : Below w3.heap.size w3 w4 := hW4 ▸ bA
 have HE : Hid (DrS intsT 50 sb w w3.heap.size w3.heap.size (w3.heap.size + 1) 2 (.slice none 0 0) [] w4) := by
  rw [← hW4]
  exact DrS.new rfl rfl (by omega) hsb
 clear hW4
 replace HD := Lib.hid (HD.out.below hb4 HD.out.le)
 replace HR := Lib.hid (HR.out.below hb4 HR.out.1)
 replace HQ := Lib.hid (HQ.out.below hb4 HQ.out.1)
 replace HS := Lib.hid (HS.out.below hb4)
 replace HT := Lib.hid (tchW HT.out hb4 (by omega))
 have hz4 : w3.heap.size + 1 ≤ w4.heap.size := HE.out.le
 generalize w3.heap.size = gr at *
 go_wp2_with fail
 have hss : s * s ≤ 9 := by rcases hs23 with e | e <;> subst e <;> decide
 go_loopw [7] (fun i wr => ∃ (q : Nat) (va : Value) (R : List (List Int)) (top : Nat), q ≤ s * s ∧ i = .int .i64 q ∧ R.length ≤ q ∧ DrS intsT 50 sb w gr gr top 2 va R wr ∧ DrS relT 43 sb w gt gt (gt + 1) (s : Int) (.slice none 0 0) [] wr ∧ ResB w.heap.size wr ∧ ResB (w.heap.size + 1) wr ∧ SrcR sb B (K + 2) wr ∧ TchP (fun q => q = sb) w wr) (fun i _ => s * s - (intOf i).toNat)
 case atStart => exact ⟨0, _, [], _, Nat.zero_le _, rfl, Nat.le_refl _, HE.out, HD.out, HR.out, HQ.out, HS.out.mono (by omega), HT.out⟩
 case round =>
  clear HE HD HR HQ HS HT
  obtain ⟨q, va, R, top, hq, rfl, hRl, he, hd, hr, hqq, hsr, htc⟩ := hrel
  obtain ⟨wx, rfl⟩ : ∃ wx : World, wx = wr := ⟨_, rfl⟩
  obtain ⟨ra, rn, rc, rfl⟩ := ex_slice (he.bl.fr (by unfold capMax; omega))
  have HE := Lib.hid he
  have HD := Lib.hid hd
  have HR := Lib.hid hr
  have HQ := Lib.hid hqq
  have HS := Lib.hid hsr
  have HT := Lib.hid htc
  have heh := he.hi
  have hto := he.le
  have c1 := he.c1
  clear he hd hr hqq hsr htc
  have hs0 : (0 : Int) < (s : Int) := by omega
  have hwm : IntKind.i64.wrap ((s : Int) * (s : Int)) = ((s * s : Nat) : Int) := by rw [← Int.natCast_mul]; exact wrap_small (by omega) (by omega)
  by_cases hlt : q < s * s
  ·have hltI : (q : Int) < (s : Int) * (s : Int) := by rw [← Int.natCast_mul]; omega
   have hq0 : (0 : Int) ≤ (q : Int) := by omega
   have hq9 : (q : Int) ≤ 9 := by omega
   have hsz : ¬ s = 0 := by omega
   obtain ⟨d, hdv⟩ : ∃ d : Nat, q / s = d := ⟨_, rfl⟩
   obtain ⟨m, hmv⟩ : ∃ m : Nat, q % s = m := ⟨_, rfl⟩
   have hd9 : d ≤ 9 := by rw [← hdv]; exact Nat.le_trans (Nat.div_le_self _ _) (by omega)
   have hm9 : m ≤ 9 := by rw [← hmv]; exact Nat.le_trans (Nat.mod_le _ _) (by omega)
   have hwq : IntKind.i64.wrap ((q : Int) / (s : Int)) = (d : Int) := by rw [← Int.natCast_ediv, hdv]; exact wrap_small (by omega) (by omega)
   have hwt : ((q : Int)).tmod (s : Int) = (m : Int) := by rw [← hmv]; simp [Int.tmod]
   clear hdv hmv
   go_wp2_with fail
   refine wp_region_T (fun _ => True) [] (by kernel_rfl) trivial (fun hHeld => ?_)
   refine wpAnyT_take (i := 0) (v := ?_) rfl (by kernel_rfl) (fun _ _ _ h => h) (Or.inl ⟨by rfl, ?_⟩) (by assumption) ?_
   rotate_left
   ·(intro w hSw; (try dsimp only at hSw); go_simp <;> with_reducible rfl)
   go_simp
   refine wpAnyT_take (i := 1) (v := ?_) rfl (by kernel_rfl) (fun _ _ _ h => h) (Or.inl ⟨by rfl, ?_⟩) (by assumption) ?_
   rotate_left
   ·(intro w hSw; (try dsimp only at hSw); go_simp <;> with_reducible rfl)
   go_simp
   refine wpAnyT_take (i := 2) (v := ?_) rfl (by kernel_rfl) (fun _ _ _ h => h) (Or.inl ⟨by rfl, ?_⟩) (by assumption) ?_
   rotate_left
   ·(intro w hSw; (try dsimp only at hSw); go_simp <;> with_reducible rfl)
   go_simp
   refine wpAnyT_take (i := 3) (v := ?_) rfl (by kernel_rfl) (fun _ _ _ h => h) (Or.inl ⟨by rfl, ?_⟩) (by assumption) ?_
   rotate_left
   ·(intro w hSw; (try dsimp only at hSw); go_simp <;> with_reducible rfl)
   go_simp
   refine wpAnyT_take (i := 4) (v := ?_) rfl (by kernel_rfl) (fun _ _ _ h => h) (Or.inl ⟨by rfl, ?_⟩) (by assumption) ?_
   rotate_left
   ·(intro w hSw; (try dsimp only at hSw); go_simp <;> with_reducible rfl)
   go_simp
   refine wpAnyT_take (i := 5) (v := ?_) rfl (by kernel_rfl) (fun _ _ _ h => h) (Or.inl ⟨by rfl, ?_⟩) (by assumption) ?_
   rotate_left
   ·(intro w hSw; (try dsimp only at hSw); go_simp <;> with_reducible rfl)
   go_simp
   have hv0 : Below wx.heap.size wx wx.drew := bD
   replace HE := Lib.hid (HE.out.below hv0 HE.out.le)
   replace HD := Lib.hid (HD.out.below hv0 HD.out.le)
   replace HR := Lib.hid (HR.out.below hv0 HR.out.1)
   replace HQ := Lib.hid (HQ.out.below hv0 HQ.out.1)
   replace HS := Lib.hid (HS.out.below hv0)
   replace HT := Lib.hid (tchW HT.out hv0 (by omega))
   have hzv := hv0.size
   replace c1 := (cellB hv0 (by omega)).trans c1
   clear hv0
   generalize wx.drew = x0 at *
   cases hne : ((d : Int) != (m : Int))
   ·skip
    refine wpAnyT_take (i := 6) (v := ?_) rfl (by kernel_rfl) (fun _ _ _ h => h) (Or.inl ⟨by rfl, ?_⟩) (by assumption) ?_
    rotate_left
    ·(intro w hSw; (try dsimp only at hSw); go_simp <;> with_reducible rfl)
    go_simp
    refine wpAnyT_done (by kernel_rfl) ?_ _
    go_simp
    go_wp2_with fail
    go_roundw
    case rel => exact ⟨q + 1, _, R, _, by omega, by go_num, by omega, HE.out, HD.out, HR.out, HQ.out, HS.out, HT.out⟩
    case measure => simp [intOf]; omega
   ·skip
    refine wpAnyT_take (i := 6) (v := ?_) rfl (by kernel_rfl) (fun _ _ _ h => h) (Or.inl ⟨by rfl, ?_⟩) (by assumption) ?_
    rotate_left
    ·(intro w hSw; (try dsimp only at hSw); go_simp <;> with_reducible rfl)
    go_simp
    refine wpAnyT_done (by kernel_rfl) ?_ _
    go_simp
    go_wp2_with fail
    clear hne
    have hv1 : Below x0.heap.size x0 x0.drew := bD
    refine wp_region_T (fun w' => w'.cell? ⟨gr, 1, none⟩ = some (.slice ra rn rc)) [10] (by kernel_rfl) c1 (fun hHeld => ?_)
    refine wpAnyT_take (i := 0) (v := ?_) rfl (by kernel_rfl) (fun _ _ _ h => h) (Or.inl ⟨by rfl, ?_⟩) (by assumption) ?_
    rotate_left
    ·(intro w hSw; (try dsimp only at hSw); go_simp <;> with_reducible rfl)
    go_simp
    refine wpAnyT_take (i := 1) (v := ?_) rfl (by kernel_rfl) (fun _ _ _ h => h) (Or.inl ⟨by rfl, ?_⟩) (by assumption) ?_
    rotate_left
    ·(intro w hSw; (try dsimp only at hSw); go_simp <;> with_reducible rfl)
    go_simp
    refine wpAnyT_take (i := 2) (v := ?_) rfl (by kernel_rfl) (fun _ _ _ h => h) (Or.inl ⟨by rfl, ?_⟩) (by assumption) ?_
    rotate_left
    ·(intro w hSw; (try dsimp only at hSw); go_simp <;> with_reducible rfl)
    go_simp
    refine wpAnyT_take (i := 3) (v := ?_) rfl (by kernel_rfl) (fun _ _ _ h => h) (Or.inl ⟨by rfl, ?_⟩) (by assumption) ?_
    rotate_left
    ·(intro w hSw; (try dsimp only at hSw); go_simp <;> with_reducible rfl)
    go_simp
    refine wpAnyT_take (i := 4) (v := ?_) rfl (by kernel_rfl) (fun _ _ _ h => h) (Or.inl ⟨by rfl, ?_⟩) (by assumption) ?_
    rotate_left
    ·(intro w hSw; (try dsimp only at hSw); go_simp <;> with_reducible rfl)
    go_simp
    refine wpAnyT_take (i := 5) (v := ?_) rfl (by kernel_rfl) (fun _ _ _ h => h) (Or.inl ⟨by rfl, ?_⟩) (by assumption) ?_
    rotate_left
    ·(intro w hSw; (try dsimp only at hSw); go_simp <;> with_reducible rfl)
    go_simp
    refine wpAnyT_take (i := 6) (v := ?_) rfl (by kernel_rfl) (fun _ _ _ h => h) (Or.inl ⟨by rfl, ?_⟩) (by assumption) ?_
    rotate_left
    ·(intro w hSw; (try dsimp only at hSw); go_simp <;> with_reducible rfl)
    go_simp
    refine wpAnyT_take (i := 7) (v := ?_) rfl (by kernel_rfl) (fun _ _ _ h => h) (Or.inl ⟨by rfl, ?_⟩) (by assumption) ?_
    rotate_left
    ·(intro w hSw; (try dsimp only at hSw); go_simp <;> with_reducible rfl)
    go_simp
    clear hwq hwt
    replace HE := Lib.hid (HE.out.below hv1 HE.out.le)
    replace HD := Lib.hid (HD.out.below hv1 HD.out.le)
    replace HR := Lib.hid (HR.out.below hv1 HR.out.1)
    replace HQ := Lib.hid (HQ.out.below hv1 HQ.out.1)
    replace HS := Lib.hid (HS.out.below hv1)
    replace HT := Lib.hid (tchW HT.out hv1 (by omega))
    have hzw := hv1.size
    clear hv1 c1
    generalize x0.drew = y0 at *
    refine wpAnyT_one (i := 8) rfl (by kernel_rfl) (fun K' hK' => ?_)
    go_simp
    generalize hWx : World.alloc y0 _ = y1
    have hb1 : Below y0.heap.size y0 y1 := by rw [← hWx]; exact bA
    have hs1 : y0.heap.size + 1 = y1.heap.size := by rw [← hWx]; simp
    have HL : Hid (intsT.Fr y0.heap.size y1 [.slice (some ⟨y0.heap.size, 0, none⟩) 2 2] [(d : Int), (m : Int)]) := by
     rw [← hWx]
     exact fr_intsL rfl rfl (fun a ha => by simp at ha; unfold I64; omega) rfl (Nat.le_refl _) (by decide)
    clear hWx
    have hto1 := HE.out.le
    replace HE := Lib.hid (HE.out.below hb1 HE.out.le)
    replace HD := Lib.hid (HD.out.below hb1 HD.out.le)
    replace HR := Lib.hid (HR.out.below hb1 HR.out.1)
    replace HQ := Lib.hid (HQ.out.below hb1 HQ.out.1)
    replace HS := Lib.hid (HS.out.below hb1)
    replace HT := Lib.hid (tchW HT.out hb1 (by omega))
    refine hK'.out _ _ HE.out.c1 (fun hHeld => ?_)
    clear hK' K'
    refine wpAnyT_one (i := 9) rfl (by kernel_rfl) (fun K' hK' => ?_)
    go_simp
    refine hK'.out _ _ (by go_keep) (fun hHeld => ?_)
    clear hK' K'
    refine wpAnyT_last (i := 10) rfl (by kernel_rfl) (by kernel_rfl) (fun K' hK' => ?_)
    refine step_push (E := intsT.off gr) _ rfl _ _ 41 50 rfl elSS3 rfl ((HE.out.bl.mono (show top ≤ y0.heap.size by omega)).below (bA (w := y1)) (by omega)) rfl news1 (fr_off (HL.out.below bA) (by omega)) (by omega) (by decide) (by omega) (by first | (simp; done) | (simp; omega)) ?_
    intro v6 w6 hB6 hg6 hown6
    obtain ⟨pa, pn, pc, rfl⟩ := ex_slice (hB6.fr (by rw [List.length_append]; unfold capMax; simp; omega))
    have hrow : ∀ b, (Value.slice ra rn rc).ownBlock = some b → gr ≤ b := fun b hb => HE.out.bl.own hb
    obtain ⟨k1, km⟩ := (HE.out.below (bA (w := y1)) HE.out.le).cells hg6
    replace HE := Lib.hid ((HE.out.below (bA (w := y1)) HE.out.le).row hB6 hg6 hown6)
    replace HD := Lib.hid (((HD.out.below (bA (w := y1)) HD.out.le).grown hg6 (fun b hb => .inr (by have := hrow b hb; omega))).other (b := gr) (i := 1) (u := .slice pa pn pc) (.inr (by omega)))
    replace HR := Lib.hid (((HR.out.below (bA (w := y1)) HR.out.1).grown hg6 (fun e => by have := hrow _ e; omega)).other (b := gr) (i := 1) (u := .slice pa pn pc) (by omega))
    replace HQ := Lib.hid (((HQ.out.below (bA (w := y1)) HQ.out.1).grown hg6 (fun e => by have := hrow _ e; omega)).other (b := gr) (i := 1) (u := .slice pa pn pc) (by omega))
    replace HS := Lib.hid (srcS (b := gr) (i := 1) (u := .slice pa pn pc) (srcG (HS.out.below (bA (w := y1))) hg6 (fun b hb => by have := hrow b hb; omega)) (by omega) (by omega))
    replace HT := Lib.hid (tchS (g := gr) (i := 1) (v := .slice pa pn pc) (tchG (tchW HT.out (bA (w := y1)) (by omega)) hg6 (fun b hb => by have := hrow b hb; omega)) (by omega))
    clear hB6 hg6 hown6 hrow HL
    refine hK'.out _ _ ?_
    clear hK' K'
    refine wpAnyT_any (i := 11) (v := ?_) rfl (by kernel_rfl) (fun _ _ _ h => h) (Or.inl ⟨by rfl, ?_⟩) (by first | exact fun _ => by assumption | (intro hp; exact absurd hp (by rw [show pastB _ _ = true by kernel_rfl]; simp))) ?_
    rotate_left
    ·(intro w hSw; (try dsimp only at hSw); go_simp <;> with_reducible rfl)
    try simp only [Act.put]
    refine wpAnyT_last (i := 12) rfl (by kernel_rfl) (by kernel_rfl) (fun K' hK' => ?_)
    go_simp
    refine hK'.out _ _ ?_
    clear hK' K'
    refine wpAnyT_done (by kernel_rfl) ?_ _
    go_simp
    go_wp2_with fail
    go_roundw
    case rel => exact ⟨q + 1, _, R ++ [[(d : Int), (m : Int)]], _, by omega, by go_num, by rw [List.length_append, List.length_singleton]; omega, HE.out, HD.out, HR.out, HQ.out, HS.out, HT.out⟩
    case measure => simp [intOf]; omega
  ·obtain rfl : q = s * s := by omega
   have hltI : ¬ (((s * s : Nat)) : Int) < (s : Int) * (s : Int) := by rw [← Int.natCast_mul]; omega
   have e0 := HE.out.c0
   have d0 := HD.out.c0
   have d1 := HD.out.c1
   have m1 := HD.out.m1
   have hgr : gt + 1 ≤ gr := hz3
   have hHF := Lib.hid ((off_bl HE.out.bl).fr (by unfold capMax; omega))
   go_upto_region 12 with (refine wpList_push (E := relT.off gt) _ rfl _ _ 24 43 rfl elRel3 rfl ((HD.out.bl.mono hgr).below (bA (w := wx)) (by omega)) rfl (news2' (by simp)) (fr_off (fr_cons (I64.small (n := 2) (by omega) (by omega)) (hHF.out.below bA)) (by omega)) (by simp) (by decide) (by omega) (by first | (simp; done) | (simp; omega)) ?_; intro v8 w8 hB8 hg8 hown8; obtain ⟨a8, n8, c8, rfl⟩ := ex_slice (hB8.fr (by unfold capMax; simp)); obtain ⟨k1, km⟩ := (HD.out.below (bA (w := wx)) HD.out.le).cells hg8)
   have hrow : ∀ b, (Value.slice none 0 0).ownBlock = some b → gt ≤ b := fun b hb => HD.out.bl.own hb
   have HD8 := Lib.hid ((HD.out.below (bA (w := wx)) HD.out.le).row hB8 hg8 hown8)
   have HR8 := Lib.hid (((HR.out.below (bA (w := wx)) HR.out.1).grown hg8 (fun e => by have := hrow _ e; omega)).other (b := gt) (i := 1) (u := .slice a8 n8 c8) (by omega))
   have HQ8 := Lib.hid (((HQ.out.below (bA (w := wx)) HQ.out.1).grown hg8 (fun e => by have := hrow _ e; omega)).other (b := gt) (i := 1) (u := .slice a8 n8 c8) (by omega))
   have HS8 := Lib.hid (srcS (b := gt) (i := 1) (u := .slice a8 n8 c8) (srcG (HS.out.below (bA (w := wx))) hg8 (fun b hb => by have := hrow b hb; omega)) (by omega) (by omega))
   have HT8 := Lib.hid (tchS (g := gt) (i := 1) (v := .slice a8 n8 c8) (tchG (tchW HT.out (bA (w := wx)) (by omega)) hg8 (fun b hb => by have := hrow b hb; omega)) (by omega))
   have hT1 : (([] : List (Int × List (List Int))) ++ [((2 : Int), R)]).length = 1 := rfl
   generalize ([] : List (Int × List (List Int))) ++ [((2 : Int), R)] = T1 at HD8 hT1 hB8
   have hz8 : gt < w8.heap.size := by have := HD8.out.hi; omega
   generalize w8.setCell ⟨gt, 1, none⟩ (.slice a8 n8 c8) = w9 at *
   generalize w8.heap.size = tp at *
   clear hB8 hg8 hown8 hrow HD HE HR HQ HS HT k1 km c1 e0 d0 d1 m1 hHF hltI hwm
   go_wp2_with fail
   refine (one_any w9 HS8.out (by omega) (by omega) (n := 2) (by omega)).mono ?_
   rintro e x0 ⟨b, rfl, hs1, ht1⟩
   have hz1' := ht1.size
   have HR := Lib.hid (HR8.out.tch ht1 (by omega))
   have HQ := Lib.hid (HQ8.out.tch ht1 (by omega))
   have HD := Lib.hid (HD8.out.tch ht1)
   have HS := Lib.hid hs1
   have HT := Lib.hid (HT8.out.then ht1 (fun q _ h => h))
   clear hs1 ht1 HR8 HQ8 HD8 HS8 HT8
   have htp := HD.out.le
   cases b
   focus
    have hTT : 1 ≤ T1.length ∧ T1.length ≤ 2 := by omega
    clear hT1
    go_wp2_with fail
    obtain ⟨wv, rfl⟩ : ∃ wv : World, wv = x0 := ⟨_, rfl⟩
   rotate_left
   focus
    have c1 := HD.out.c1
    have hv1 : Below x0.heap.size x0 x0.drew := bD
    go_wp2_with fail
    refine wp_region_T (fun w' => w'.cell? ⟨gt, 1, none⟩ = some (.slice a8 n8 c8)) [6] (by kernel_rfl) c1 (fun hHeld => ?_)
    refine wpAnyT_take (i := 0) (v := ?_) rfl (by kernel_rfl) (fun _ _ _ h => h) (Or.inl ⟨by rfl, ?_⟩) (by assumption) ?_
    rotate_left
    ·(intro w hSw; (try dsimp only at hSw); go_simp <;> with_reducible rfl)
    go_simp
    refine wpAnyT_take (i := 1) (v := ?_) rfl (by kernel_rfl) (fun _ _ _ h => h) (Or.inl ⟨by rfl, ?_⟩) (by assumption) ?_
    rotate_left
    ·(intro w hSw; (try dsimp only at hSw); go_simp <;> with_reducible rfl)
    go_simp
    refine wpAnyT_take (i := 2) (v := ?_) rfl (by kernel_rfl) (fun _ _ _ h => h) (Or.inl ⟨by rfl, ?_⟩) (by assumption) ?_
    rotate_left
    ·(intro w hSw; (try dsimp only at hSw); go_simp <;> with_reducible rfl)
    go_simp
    refine wpAnyT_take (i := 3) (v := ?_) rfl (by kernel_rfl) (fun _ _ _ h => h) (Or.inl ⟨by rfl, ?_⟩) (by assumption) ?_
    rotate_left
    ·(intro w hSw; (try dsimp only at hSw); go_simp <;> with_reducible rfl)
    go_simp
    replace HD := Lib.hid (HD.out.below hv1 HD.out.le)
    replace HR := Lib.hid (HR.out.below hv1 HR.out.1)
    replace HQ := Lib.hid (HQ.out.below hv1 HQ.out.1)
    replace HS := Lib.hid (HS.out.below hv1)
    replace HT := Lib.hid (tchW HT.out hv1 (by omega))
    have hzw := hv1.size
    clear hv1 c1
    generalize x0.drew = y0 at *
    obtain ⟨N, hN⟩ : ∃ N : Nat, (s : Int) ^ 2 = (N : Int) := ⟨s ^ 2, by push_cast; rfl⟩
    have hNb : N ≤ 9 := by rcases hs23 with e | e <;> subst e <;> simp at hN <;> omega
    have HN := Lib.hid hN
    clear hN
    refine wpAnyT_one (i := 4) rfl (by kernel_rfl) (fun K' hK' => ?_)
    go_simp
    go_at_call 40
    refine (l01DrawnN_any y0 HS.out (by omega) (by omega) (s := (s : Int)) (ar := 2) (by omega) (by omega) HN.out).mono ?_
    rintro e y1 ⟨cs, r, rfl, hf, hok, -, hs3, ht3⟩
    obtain ⟨ga, gc, rfl⟩ := fr_pair hf
    have hz3' := ht3.size
    have hto := HD.out.le
    replace HD := Lib.hid (HD.out.tch ht3)
    replace HR := Lib.hid (HR.out.tch ht3 (by omega))
    replace HQ := Lib.hid (HQ.out.tch ht3 (by omega))
    replace HS := Lib.hid hs3
    replace HT := Lib.hid (HT.out.then ht3 (fun q _ h => h))
    have HF := Lib.hid hf
    clear hf hok hs3 ht3
    dsimp only
    refine hK'.out _ _ HD.out.c1 (fun hHeld => ?_)
    clear hK' K'
    refine wpAnyT_one (i := 5) rfl (by kernel_rfl) (fun K' hK' => ?_)
    go_simp
    refine hK'.out _ _ (by go_keep) (fun hHeld => ?_)
    clear hK' K'
    refine wpAnyT_last (i := 6) rfl (by kernel_rfl) (by kernel_rfl) (fun K' hK' => ?_)
    refine step_push (E := relT.off gt) _ rfl _ _ 24 43 rfl elRel3 rfl ((HD.out.bl.mono (show tp ≤ y0.heap.size by omega)).below (bA (w := y1)) (by omega)) rfl news2 (fr_off (HF.out.below bA) (by omega)) (by omega) (by decide) (by omega) (by first | (simp; done) | (simp; omega)) ?_
    intro v6 w6 hB6 hg6 hown6
    obtain ⟨pa, pn, pc, rfl⟩ := ex_slice (hB6.fr (by rw [List.length_append]; unfold capMax; simp; omega))
    have hrow : ∀ b, (Value.slice a8 n8 c8).ownBlock = some b → gt ≤ b := fun b hb => HD.out.bl.own hb
    obtain ⟨k1, km⟩ := (HD.out.below (bA (w := y1)) HD.out.le).cells hg6
    replace HD := Lib.hid ((HD.out.below (bA (w := y1)) HD.out.le).row hB6 hg6 hown6)
    replace HR := Lib.hid (((HR.out.below (bA (w := y1)) HR.out.1).grown hg6 (fun e => by have := hrow _ e; omega)).other (b := gt) (i := 1) (u := .slice pa pn pc) (by omega))
    replace HQ := Lib.hid (((HQ.out.below (bA (w := y1)) HQ.out.1).grown hg6 (fun e => by have := hrow _ e; omega)).other (b := gt) (i := 1) (u := .slice pa pn pc) (by omega))
    replace HS := Lib.hid ((srcS (b := gt) (i := 1) (u := .slice pa pn pc) (srcG (HS.out.below (bA (w := y1))) hg6 (fun b hb => by have := hrow b hb; omega)) (by omega) (by omega)).mono (K' := K + 50) (by omega))
    replace HT := Lib.hid (tchS (g := gt) (i := 1) (v := .slice pa pn pc) (tchG (tchW HT.out (bA (w := y1)) (by omega)) hg6 (fun b hb => by have := hrow b hb; omega)) (by omega))
    clear hB6 hg6 hown6 hrow HF
    refine hK'.out _ _ ?_
    clear hK' K'
    refine wpAnyT_any (i := 7) (v := ?_) rfl (by kernel_rfl) (fun _ _ _ h => h) (Or.inl ⟨by rfl, ?_⟩) (by first | exact fun _ => by assumption | (intro hp; exact absurd hp (by rw [show pastB _ _ = true by kernel_rfl]; simp))) ?_
    rotate_left
    ·(intro w hSw; (try dsimp only at hSw); go_simp <;> with_reducible rfl)
    try simp only [Act.put]
    refine wpAnyT_last (i := 8) rfl (by kernel_rfl) (by kernel_rfl) (fun K' hK' => ?_)
    go_simp
    refine hK'.out _ _ ?_
    clear hK' K'
    refine wpAnyT_done (by kernel_rfl) ?_ _
    go_simp
    go_wp2_with fail
    have hTT : 1 ≤ (T1 ++ [r]).length ∧ (T1 ++ [r]).length ≤ 2 := by rw [List.length_append, List.length_singleton]; omega
    generalize T1 ++ [r] = T2 at HD hTT
    clear hT1 hHeld k1 km
    have htq := HD.out.le
    generalize w6.setCell ⟨gt, 1, none⟩ (.slice pa pn pc) = wv at *
   all_goals
    have HG : ∃ (ta : Option Addr) (tn tc tl : Nat) (T : List (Int × List (List Int))), Hid (DrS relT 43 sb w gt gt tl (s : Int) (.slice ta tn tc) T wv) ∧ 1 ≤ T.length ∧ T.length ≤ 2 := ⟨_, _, _, _, _, HD, hTT⟩
    have HS2 := Lib.hid (HS.out.mono (K' := K + 60) (by omega))
    clear HD hTT HS
    obtain ⟨ta, tn, tc, tl, T, HD, hT1, hT2⟩ := HG
    have hlen : tn = T.length := by
     obtain ⟨_, _, hv⟩ := fr_slice (HD.out.bl.fr (by unfold capMax; omega))
     simp only [Value.slice.injEq] at hv
     exact hv.2.1
    subst hlen
    have htl := HD.out.le
    have hti := HD.out.hi
    refine (pick_any wv HS2.out (by omega) (by omega) (n := 2) (by omega)).mono ?_
    rintro e v1 ⟨p3, rfl, hp30, hp31, hs1, ht1⟩
    have hzv1 := ht1.size
    replace HD := Lib.hid (HD.out.tch ht1)
    replace HR := Lib.hid (HR.out.tch ht1 (by omega))
    replace HQ := Lib.hid (HQ.out.tch ht1 (by omega))
    have HS := Lib.hid hs1
    replace HT := Lib.hid (HT.out.then ht1 (fun q _ h => h))
    obtain ⟨xn, hxn⟩ : ∃ xn : Nat, 3 + p3 = (xn : Int) := ⟨(3 + p3).toNat, by omega⟩
    have hwr : IntKind.i64.wrap (3 + p3) = (xn : Int) := by rw [hxn]; exact wrap_small (by omega) (by omega)
    have hx34 : 3 ≤ xn ∧ xn ≤ 4 := by omega
    clear hs1 ht1 hxn HS2
    go_upto_region 15 with (fail)
    clear hwr
    generalize hWx : World.alloc v1 _ = v2
    have hb2 : Below v1.heap.size v1 v2 := hWx ▸ bA
    have HX : Hid (XrS 62 sb w v1.heap.size v1.heap.size (v1.heap.size + 1) (xn : Int) (.slice none 0 0) [] v2) := ⟨by
     rw [← hWx]
     exact DrS.new rfl rfl (by omega) hsb, fun z hz => by cases hz⟩
    clear hWx
    replace HD := Lib.hid (HD.out.below hb2 HD.out.le)
    replace HR := Lib.hid (HR.out.below hb2 HR.out.1)
    replace HQ := Lib.hid (HQ.out.below hb2 HQ.out.1)
    replace HS := Lib.hid (HS.out.below hb2)
    replace HT := Lib.hid (tchW HT.out hb2 (by omega))
    have hzv2 : v1.heap.size + 1 ≤ v2.heap.size := HX.out.1.le
    generalize v1.heap.size = gx at *
    go_wp2_with fail
    refine (pick_any v2 HS.out (by omega) (by omega) (n := 7) (by omega)).mono ?_
    rintro e v3 ⟨m, rfl, hm0, hm1, hs3, ht3⟩
    have hzv3 := ht3.size
    replace HD := Lib.hid (HD.out.tch ht3)
    replace HX := Lib.hid (HX.out.tch ht3)
    replace HR := Lib.hid (HR.out.tch ht3 (by omega))
    replace HQ := Lib.hid (HQ.out.tch ht3 (by omega))
    replace HS := Lib.hid hs3
    replace HT := Lib.hid (HT.out.then ht3 (fun q _ h => h))
    obtain ⟨kn, hkn⟩ : ∃ kn : Nat, 3 + m = (kn : Int) := ⟨(3 + m).toNat, by omega⟩
    have hwr : IntKind.i64.wrap (3 + m) = (kn : Int) := by rw [hkn]; exact wrap_small (by omega) (by omega)
    have hk9 : kn ≤ 9 := by omega
    clear hs3 ht3 hkn
    go_wp2_with fail
    clear hwr
    go_loopw [9] (fun i wr => ∃ (k : Nat) (va : Value) (Z : List ((Int × List Int) × (Int × Value))) (top : Nat), i = .int .i64 k ∧ k + Z.length ≤ 9 ∧ XrS 62 sb w gx gx top (xn : Int) va Z wr ∧ DrS relT 43 sb w gt gt tl (s : Int) (.slice ta T.length tc) T wr ∧ ResB w.heap.size wr ∧ ResB (w.heap.size + 1) wr ∧ SrcR sb B (K + 70 + 10 * (9 - (k : Int))) wr ∧ TchP (fun q => q = sb) w wr) (fun i _ => (intOf i).toNat)
    case atStart => exact ⟨kn, _, [], _, rfl, by simp; omega, HX.out, HD.out, HR.out, HQ.out, HS.out.mono (by omega), HT.out⟩
    clear HX HD HR HQ HS HT
    obtain ⟨k, va, Z, top, rfl, hkl, hx, hd, hr, hqq, hsr, htc⟩ := hrel
    obtain ⟨wx, rfl⟩ : ∃ wx : World, wx = wr := ⟨_, rfl⟩
    have hZm : (Z.map (·.2)).length = Z.length := List.length_map _
    obtain ⟨xa, xm, xc, rfl⟩ := ex_slice (hx.1.bl.fr (by rw [hZm]; unfold capMax; omega))
    have HX := Lib.hid hx
    have HD := Lib.hid hd
    have HR := Lib.hid hr
    have HQ := Lib.hid hqq
    have HS := Lib.hid hsr
    have HT := Lib.hid htc
    have hxh := hx.1.hi
    have hto := hx.1.le
    have p0 := hx.1.c0
    clear hx hd hr hqq hsr htc hZm
    by_cases hk : 0 < k
    ·have hkI : (0 : Int) < (k : Int) := by omega
     go_wp2_with fail
     refine (pick_any wx HS.out (by omega) (by omega) (n := (xn : Int)) (by omega)).mono ?_
     rintro e x1 ⟨va, rfl, hva0, hva1, hs1, ht1⟩
     have hzx1 := ht1.size
     replace HD := Lib.hid (HD.out.tch ht1)
     replace HX := Lib.hid (HX.out.tch ht1)
     replace HR := Lib.hid (HR.out.tch ht1 (by omega))
     replace HQ := Lib.hid (HQ.out.tch ht1 (by omega))
     replace HS := Lib.hid hs1
     replace HT := Lib.hid (HT.out.then ht1 (fun q _ h => h))
     obtain ⟨av, rfl⟩ : ∃ av : Nat, va = (av : Int) := ⟨va.toNat, by omega⟩
     clear hs1 ht1 p0
     have p0 := HX.out.1.c0
     have hv1 : Below x1.heap.size x1 x1.drew := bD
     go_wp2_with fail
     refine wp_region_T (fun w' => w'.cell? ⟨gx, 0, none⟩ = some (.int .i64 (xn : Int))) [] (by kernel_rfl) p0 (fun hHeld => ?_)
     have hw1 : IntKind.i64.wrap ((av : Int) + 1) = (av : Int) + 1 := wrap_small (by omega) (by omega)
     have hw2 : IntKind.i64.wrap ((xn : Int) - 1) = (xn : Int) - 1 := wrap_small (by omega) (by omega)
     refine wpAnyT_take (i := 0) (v := ?_) rfl (by kernel_rfl) (fun _ _ _ h => h) (Or.inl ⟨by rfl, ?_⟩) (by assumption) ?_
     rotate_left
     ·(intro w hSw; (try dsimp only at hSw); go_simp <;> with_reducible rfl)
     go_simp
     refine wpAnyT_take (i := 1) (v := ?_) rfl (by kernel_rfl) (fun _ _ _ h => h) (Or.inl ⟨by rfl, ?_⟩) (by assumption) ?_
     rotate_left
     ·(intro w hSw; (try dsimp only at hSw); go_simp <;> with_reducible rfl)
     go_simp
     refine wpAnyT_take (i := 2) (v := ?_) rfl (by kernel_rfl) (fun _ _ _ h => h) (Or.inl ⟨by rfl, ?_⟩) (by assumption) ?_
     rotate_left
     ·(intro w hSw; (try dsimp only at hSw); go_simp <;> with_reducible rfl)
     go_simp
     refine wpAnyT_take (i := 3) (v := ?_) rfl (by kernel_rfl) (fun _ _ _ h => h) (Or.inl ⟨by rfl, ?_⟩) (by assumption) ?_
     rotate_left
     ·(intro w hSw; (try dsimp only at hSw); go_simp <;> with_reducible rfl)
     go_simp
     refine wpAnyT_take (i := 4) (v := ?_) rfl (by kernel_rfl) (fun _ _ _ h => h) (Or.inl ⟨by rfl, ?_⟩) (by assumption) ?_
     rotate_left
     ·(intro w hSw; (try dsimp only at hSw); go_simp <;> with_reducible rfl)
     go_simp
     refine wpAnyT_take (i := 5) (v := ?_) rfl (by kernel_rfl) (fun _ _ _ h => h) (Or.inl ⟨by rfl, ?_⟩) (by assumption) ?_
     rotate_left
     ·(intro w hSw; (try dsimp only at hSw); go_simp <;> with_reducible rfl)
     go_simp
     refine wpAnyT_take (i := 8) (v := ?_) rfl (by kernel_rfl) (fun _ _ _ h => h) (Or.inl ⟨by rfl, ?_⟩) (by assumption) ?_
     rotate_left
     ·(intro w hSw; (try dsimp only at hSw); go_simp <;> with_reducible rfl)
     go_simp
     refine wpAnyT_take (i := 9) (v := ?_) rfl (by kernel_rfl) (fun _ _ _ h => h) (Or.inl ⟨by rfl, ?_⟩) (by assumption) ?_
     rotate_left
     ·(intro w hSw; (try dsimp only at hSw); go_simp <;> with_reducible rfl)
     go_simp
     clear hw1 hw2
     replace HX := Lib.hid (HX.out.below hv1 HX.out.1.le)
     replace HD := Lib.hid (HD.out.below hv1 HD.out.le)
     replace HR := Lib.hid (HR.out.below hv1 HR.out.1)
     replace HQ := Lib.hid (HQ.out.below hv1 HQ.out.1)
     replace HS := Lib.hid (HS.out.below hv1)
     replace HT := Lib.hid (tchW HT.out hv1 (by omega))
     have hzw := hv1.size
     clear hv1 p0
     generalize x1.drew = y0 at *
     refine wpAnyT_one (i := 6) rfl (by kernel_rfl) (fun K' hK' => ?_)
     go_simp
     go_at_call 39
     refine (pick_any y0 HS.out (by omega) (by omega) (n := (xn : Int) - 1) (by omega)).mono ?_
     rintro e y1 ⟨vb, rfl, hvb0, hvb1, hs2, ht2⟩
     have hzy1 := ht2.size
     replace HD := Lib.hid (HD.out.tch ht2)
     replace HX := Lib.hid (HX.out.tch ht2)
     replace HR := Lib.hid (HR.out.tch ht2 (by omega))
     replace HQ := Lib.hid (HQ.out.tch ht2 (by omega))
     replace HS := Lib.hid hs2
     replace HT := Lib.hid (HT.out.then ht2 (fun q _ h => h))
     clear hs2 ht2
     obtain ⟨bv, hbv⟩ : ∃ bv : Nat, (av : Int) + 1 + vb = (bv : Int) := ⟨((av : Int) + 1 + vb).toNat, by omega⟩
     obtain ⟨cv, hcv⟩ : ∃ cv : Nat, bv % xn = cv := ⟨_, rfl⟩
     have hcx : cv < xn := by rw [← hcv]; exact Nat.mod_lt _ (by omega)
     have hw1 : IntKind.i64.wrap ((av : Int) + 1 + vb) = (bv : Int) := by rw [hbv]; exact wrap_small (by omega) (by omega)
     have hw2 : ((bv : Int)).tmod (xn : Int) = (cv : Int) := by rw [← hcv]; simp [Int.tmod]
     have hxz : ¬ xn = 0 := by omega
     clear hbv hcv
     dsimp only
     refine hK'.out _ _ HX.out.1.c0 (fun hHeld => ?_)
     clear hK' K'
     refine wpAnyT_take (i := 7) (v := ?_) rfl (by kernel_rfl) (fun _ _ _ h => h) (Or.inl ⟨by rfl, ?_⟩) (by assumption) ?_
     rotate_left
     ·(intro w hSw; (try dsimp only at hSw); go_simp <;> with_reducible rfl)
     go_simp
     refine wpAnyT_take (i := 10) (v := ?_) rfl (by kernel_rfl) (fun _ _ _ h => h) (Or.inl ⟨by rfl, ?_⟩) (by assumption) ?_
     rotate_left
     ·(intro w hSw; (try dsimp only at hSw); go_simp <;> with_reducible rfl)
     go_simp
     refine wpAnyT_take (i := 11) (v := ?_) rfl (by kernel_rfl) (fun _ _ _ h => h) (Or.inl ⟨by rfl, ?_⟩) (by assumption) ?_
     rotate_left
     ·(intro w hSw; (try dsimp only at hSw); go_simp <;> with_reducible rfl)
     go_simp
     clear hw1 hw2
     refine wpAnyT_done (by kernel_rfl) ?_ _
     go_simp
     go_wp2_with fail
     have p1 := HX.out.1.c1
     have d1 := HD.out.c1
     have hv2 : Below y1.heap.size y1 y1.drew := bD
     have hTI : ((T.length : Nat) : Int) ≤ 2 := by omega
     refine wp_region_T (fun w' => w'.cell? ⟨gx, 1, none⟩ = some (.slice xa xm xc) ∧ w'.cell? ⟨gt, 1, none⟩ = some (.slice ta T.length tc)) [12] (by kernel_rfl) ⟨p1, d1⟩ (fun hHeld => ?_)
     refine wpAnyT_take (i := 0) (v := ?_) rfl (by kernel_rfl) (fun _ _ _ h => h) (Or.inl ⟨by rfl, ?_⟩) (by assumption) ?_
     rotate_left
     ·(intro w hSw; (try dsimp only at hSw); go_simp <;> with_reducible rfl)
     go_simp
     refine wpAnyT_take (i := 1) (v := ?_) rfl (by kernel_rfl) (fun _ _ _ h => h) (Or.inl ⟨by rfl, ?_⟩) (by assumption) ?_
     rotate_left
     ·(intro w hSw; (try dsimp only at hSw); go_simp <;> with_reducible rfl)
     go_simp
     refine wpAnyT_take (i := 2) (v := ?_) rfl (by kernel_rfl) (fun _ _ _ h => h) (Or.inl ⟨by rfl, ?_⟩) (by assumption) ?_
     rotate_left
     ·(intro w hSw; (try dsimp only at hSw); go_simp <;> with_reducible rfl)
     go_simp
     refine wpAnyT_take (i := 3) (v := ?_) rfl (by kernel_rfl) (fun _ _ _ h => h) (Or.inl ⟨by rfl, ?_⟩) (by assumption) ?_
     rotate_left
     ·(intro w hSw; (try dsimp only at hSw); go_simp <;> with_reducible rfl)
     go_simp
     refine wpAnyT_take (i := 4) (v := ?_) rfl (by kernel_rfl) (fun _ _ _ h => h) (Or.inl ⟨by rfl, ?_⟩) (by assumption) ?_
     rotate_left
     ·(intro w hSw; (try dsimp only at hSw); go_simp <;> with_reducible rfl)
     go_simp
     refine wpAnyT_take (i := 5) (v := ?_) rfl (by kernel_rfl) (fun _ _ _ h => h) (Or.inl ⟨by rfl, ?_⟩) (by assumption) ?_
     rotate_left
     ·(intro w hSw; (try dsimp only at hSw); go_simp <;> with_reducible rfl)
     go_simp
     refine wpAnyT_take (i := 7) (v := ?_) rfl (by kernel_rfl) (fun _ _ _ h => h) (Or.inl ⟨by rfl, ?_⟩) (by assumption) ?_
     rotate_left
     ·(intro w hSw; (try dsimp only at hSw); go_simp <;> with_reducible rfl)
     go_simp
     refine wpAnyT_take (i := 8) (v := ?_) rfl (by kernel_rfl) (fun _ _ _ h => h) (Or.inl ⟨by rfl, ?_⟩) (by assumption) ?_
     rotate_left
     ·(intro w hSw; (try dsimp only at hSw); go_simp <;> with_reducible rfl)
     go_simp
     replace HX := Lib.hid (HX.out.below hv2 HX.out.1.le)
     replace HD := Lib.hid (HD.out.below hv2 HD.out.le)
     replace HR := Lib.hid (HR.out.below hv2 HR.out.1)
     replace HQ := Lib.hid (HQ.out.below hv2 HQ.out.1)
     replace HS := Lib.hid (HS.out.below hv2)
     replace HT := Lib.hid (tchW HT.out hv2 (by omega))
     have hzz := hv2.size
     have htop := HX.out.1.le
     clear hv2 p1 d1
     generalize y1.drew = z0 at *
     refine wpAnyT_two (i := 6) (j := 9) rfl rfl (by kernel_rfl) (fun K' hK' => ?_) (fun K' hK' => ?_)
     focus
      go_simp
      go_at_call 39
      refine (pick_any z0 HS.out (by omega) (by omega) (n := ((T.length : Nat) : Int)) (by omega)).mono ?_
      rintro e z1 ⟨rp, rfl, hrp0, hrp1, hs3, ht3⟩
      have hzz1 := ht3.size
      replace HD := Lib.hid (HD.out.tch ht3)
      replace HX := Lib.hid (HX.out.tch ht3)
      replace HR := Lib.hid (HR.out.tch ht3 (by omega))
      replace HQ := Lib.hid (HQ.out.tch ht3 (by omega))
      replace HS := Lib.hid hs3
      replace HT := Lib.hid (HT.out.then ht3 (fun q _ h => h))
      clear hs3 ht3
      dsimp only
      refine hK'.out _ _ ⟨HX.out.1.c1, HD.out.c1⟩ (fun hHeld => ?_)
      clear hK' K'
      refine wpAnyT_one (i := 9) rfl (by kernel_rfl) (fun K' hK' => ?_)
      go_simp
      generalize hWz : World.alloc z1 _ = z2
      have hbz : Below z1.heap.size z1 z2 := by rw [← hWz]; exact bA
      have hsz2 : z1.heap.size + 1 = z2.heap.size := by rw [← hWz]; simp
      have HLr : Hid (intsT.RdP (fun q => top ≤ q ∧ q ≠ sb) z2 [.slice (some ⟨z1.heap.size, 0, none⟩) 2 2] [(av : Int), (cv : Int)]) := by
       rw [← hWz]
       exact (Ty.Fr.P (fr_intsL (base := z1.heap.size) (xs := [(av : Int), (cv : Int)]) rfl rfl (fun a ha => by simp at ha; unfold I64; omega) rfl (Nat.le_refl _) (by simp))).mono (fun k _ (hk : z1.heap.size ≤ k) => (⟨by omega, by omega⟩ : top ≤ k ∧ k ≠ sb))
      clear hWz
      replace HD := Lib.hid (HD.out.below hbz HD.out.le)
      replace HX := Lib.hid (HX.out.below hbz HX.out.1.le)
      replace HR := Lib.hid (HR.out.below hbz HR.out.1)
      replace HQ := Lib.hid (HQ.out.below hbz HQ.out.1)
      replace HS := Lib.hid (HS.out.below hbz)
      replace HT := Lib.hid (tchW HT.out hbz (by omega))
      refine hK'.out _ _ ⟨HX.out.1.c1, HD.out.c1⟩ (fun hHeld => ?_)
      clear hK' K' hbz
      generalize z1.heap.size = bS at *
     rotate_left
     focus
      go_simp
      generalize hWz : World.alloc z0 _ = z1
      have hbz : Below z0.heap.size z0 z1 := by rw [← hWz]; exact bA
      have hsz2 : z0.heap.size + 1 = z1.heap.size := by rw [← hWz]; simp
      have HLr : Hid (intsT.RdP (fun q => top ≤ q ∧ q ≠ sb) z1 [.slice (some ⟨z0.heap.size, 0, none⟩) 2 2] [(av : Int), (cv : Int)]) := by
       rw [← hWz]
       exact (Ty.Fr.P (fr_intsL (base := z0.heap.size) (xs := [(av : Int), (cv : Int)]) rfl rfl (fun a ha => by simp at ha; unfold I64; omega) rfl (Nat.le_refl _) (by simp))).mono (fun k _ (hk : z0.heap.size ≤ k) => (⟨by omega, by omega⟩ : top ≤ k ∧ k ≠ sb))
      clear hWz
      replace HD := Lib.hid (HD.out.below hbz HD.out.le)
      replace HX := Lib.hid (HX.out.below hbz HX.out.1.le)
      replace HR := Lib.hid (HR.out.below hbz HR.out.1)
      replace HQ := Lib.hid (HQ.out.below hbz HQ.out.1)
      replace HS := Lib.hid (HS.out.below hbz)
      replace HT := Lib.hid (tchW HT.out hbz (by omega))
      refine hK'.out _ _ ⟨HX.out.1.c1, HD.out.c1⟩ (fun hHeld => ?_)
      clear hK' K' hbz
      generalize z0.heap.size = bS at *
      refine wpAnyT_one (i := 6) rfl (by kernel_rfl) (fun K' hK' => ?_)
      go_simp
      go_at_call 39
      refine (pick_any z1 HS.out (by omega) (by omega) (n := ((T.length : Nat) : Int)) (by omega)).mono ?_
      rintro e z2 ⟨rp, rfl, hrp0, hrp1, hs3, ht3⟩
      have hzz1 := ht3.size
      replace HD := Lib.hid (HD.out.tch ht3)
      replace HX := Lib.hid (HX.out.tch ht3)
      replace HR := Lib.hid (HR.out.tch ht3 (by omega))
      replace HQ := Lib.hid (HQ.out.tch ht3 (by omega))
      replace HLr := Lib.hid (HLr.out.tchP ht3 (fun k _ hk => hk.2))
      replace HS := Lib.hid hs3
      replace HT := Lib.hid (HT.out.then ht3 (fun q _ h => h))
      clear hs3 ht3
      dsimp only
      refine hK'.out _ _ ⟨HX.out.1.c1, HD.out.c1⟩ (fun hHeld => ?_)
      clear hK' K'
     all_goals
      have hIr : I64 rp := I64.small (by omega) (by omega)
      have HZ : Hid (pvR (fun q => gx ≤ q ∧ q ≠ gx ∧ (Value.slice xa xm xc).ownBlock ≠ some q ∧ q < z2.heap.size) z2 ((rp, [(av : Int), (cv : Int)]), (rp, Value.slice (some ⟨bS, 0, none⟩) 2 2))) :=
       ⟨rfl, hIr, HLr.out.mono (fun k hk hh => ⟨by omega, by omega, fun e => by have := HX.out.1.bl.lt_top e; omega, hk⟩)⟩
      refine wpAnyT_take (i := 10) (v := ?_) rfl (by kernel_rfl) (fun _ _ _ h => h) (Or.inl ⟨by rfl, ?_⟩) (by assumption) ?_
      rotate_left
      ·(intro w hSw; (try dsimp only at hSw); go_simp <;> with_reducible rfl)
      go_simp
      refine wpAnyT_one (i := 11) rfl (by kernel_rfl) (fun K' hK' => ?_)
      go_simp
      refine hK'.out _ _ ⟨by go_keep, by go_keep⟩ (fun hHeld => ?_)
      clear hK' K'
      refine wpAnyT_last (i := 12) rfl (by kernel_rfl) (by kernel_rfl) (fun K' hK' => ?_)
      refine step_push (E := pvT.off gx) _ rfl _ _ 27 62 rfl elCon rfl ((HX.out.1.bl.mono HX.out.1.le).below (bA (w := z2)) (Nat.le_refl _)) rfl news2 (fr_off (fr_pv (base := z2.heap.size) hIr rfl) (by omega)) (by rw [List.length_map]; omega) (by decide) (by omega) (by first | (simp; done) | (simp; omega)) ?_
      intro v6 w8 hB8 hg8 hown8
      obtain ⟨a8, n8, c8, rfl⟩ := ex_slice (hB8.fr (by rw [List.length_append, List.length_map]; unfold capMax; simp only [List.length_singleton]; omega))
      obtain ⟨q1, qm⟩ := (HX.out.1.below (bA (w := z2)) HX.out.1.le).cells hg8
      have hrow : ∀ b, (Value.slice xa xm xc).ownBlock = some b → gx ≤ b := fun b hb => HX.out.1.bl.own hb
      have HX8 := Lib.hid ((HX.out.below (bA (w := z2)) HX.out.1.le).push (z := ((rp, [(av : Int), (cv : Int)]), (rp, Value.slice (some ⟨bS, 0, none⟩) 2 2))) hB8 hg8 hown8 ((HZ.out.below bA).mono (fun z _ hz => ⟨hz.1, hz.2.1, hz.2.2.1, by have := hz.2.2.2; simp; omega⟩)))
      have HD8 := Lib.hid (((HD.out.below (bA (w := z2)) HD.out.le).grown hg8 (fun b hb => .inr (by have := hrow b hb; omega))).other (b := gx) (i := 1) (u := .slice a8 n8 c8) (.inr (by omega)))
      have HR8 := Lib.hid (((HR.out.below (bA (w := z2)) HR.out.1).grown hg8 (fun e => by have := hrow _ e; omega)).other (b := gx) (i := 1) (u := .slice a8 n8 c8) (by omega))
      have HQ8 := Lib.hid (((HQ.out.below (bA (w := z2)) HQ.out.1).grown hg8 (fun e => by have := hrow _ e; omega)).other (b := gx) (i := 1) (u := .slice a8 n8 c8) (by omega))
      have HS8 := Lib.hid (srcS (b := gx) (i := 1) (u := .slice a8 n8 c8) (srcG (HS.out.below (bA (w := z2))) hg8 (fun b hb => by have := hrow b hb; omega)) (by omega) (by omega))
      have HT8 := Lib.hid (tchS (g := gx) (i := 1) (v := .slice a8 n8 c8) (tchG (tchW HT.out (bA (w := z2)) (by omega)) hg8 (fun b hb => by have := hrow b hb; omega)) (by omega))
      clear hB8 hg8 hown8 hrow HX HD HR HQ HS HT HZ HLr
      refine hK'.out _ _ ?_
      clear hK' K'
      refine wpAnyT_any (i := 13) (v := ?_) rfl (by kernel_rfl) (fun _ _ _ h => h) (Or.inl ⟨by rfl, ?_⟩) (by first | exact fun _ => by assumption | (intro hp; exact absurd hp (by rw [show pastB _ _ = true by kernel_rfl]; simp))) ?_
      rotate_left
      ·(intro w hSw; (try dsimp only at hSw); go_simp <;> with_reducible rfl)
      try simp only [Act.put]
      refine wpAnyT_last (i := 14) rfl (by kernel_rfl) (by kernel_rfl) (fun K' hK' => ?_)
      go_simp
      refine hK'.out _ _ ?_
      clear hK' K'
      refine wpAnyT_done (by kernel_rfl) ?_ _
      go_simp
      go_wp2_with fail
      go_roundw
      case rel => exact ⟨k - 1, _, Z ++ [((rp, [(av : Int), (cv : Int)]), (rp, Value.slice (some ⟨bS, 0, none⟩) 2 2))], _, by go_num, by rw [List.length_append, List.length_singleton]; omega, HX8.out, HD8.out, HR8.out, HQ8.out, HS8.out.mono (by omega), HT8.out⟩
      case measure => simp [intOf]; omega
    ·obtain rfl : k = 0 := by omega
     have hIs : I64 (s : Int) := I64.small (by omega) (by omega)
     have hIx : I64 (xn : Int) := I64.small (by omega) (by omega)
     have HTR : Hid (tplT.RdP (fun q => w.heap.size + 2 ≤ q) wx [.int .i64 (s : Int), .slice ta T.length tc] ((s : Int), T)) := (HD.out.rdP hIs (by omega)).mono (fun k _ hk => by omega)
     have HXR : Hid (instT.RdP (fun q => w.heap.size + 2 ≤ q) wx [.int .i64 (xn : Int), .slice xa xm xc] ((xn : Int), Z.map (·.1))) := (HX.out.inst hIx (by omega)).mono (fun k _ hk => by omega)
     have d0 := HD.out.c0
     have d1 := HD.out.c1
     have p1 := HX.out.1.c1
     obtain ⟨⟨u0, r0⟩, ⟨u1, r1⟩, q0, q1⟩ := HR.out.2
     obtain ⟨⟨u2, r2⟩, ⟨u3, r3⟩, q2, q3⟩ := HQ.out.2
     obtain ⟨s0, s1, s2, s3⟩ := set4_cells (show w.heap.size ≠ w.heap.size + 1 by omega) (x := .int .i64 (s : Int)) (y := .slice ta T.length tc) (x' := .int .i64 (xn : Int)) (y' := .slice xa xm xc) r0 r1 r2 r3
     have hn1 : gt ≠ w.heap.size := by omega
     have hn2 : gx ≠ w.heap.size := by omega
     go_wp2_with fail
     refine wp_region_T (fun w' => w'.cell? ⟨gt, 0, none⟩ = some (.int .i64 (s : Int)) ∧ w'.cell? ⟨gt, 1, none⟩ = some (.slice ta T.length tc) ∧ w'.cell? ⟨gx, 0, none⟩ = some (.int .i64 (xn : Int)) ∧ w'.cell? ⟨gx, 1, none⟩ = some (.slice xa xm xc)) [3] (by kernel_rfl) ⟨d0, d1, p0, p1⟩ (fun hHeld => ?_)
     refine wpAnyT_take (i := 0) (v := ?_) rfl (by kernel_rfl) (fun _ _ _ h => h) (Or.inl ⟨by rfl, ?_⟩) (by assumption) ?_
     rotate_left
     ·(intro w hSw; (try dsimp only at hSw); go_simp <;> with_reducible rfl)
     go_simp
     refine wpAnyT_take (i := 1) (v := ?_) rfl (by kernel_rfl) (fun _ _ _ h => h) (Or.inl ⟨by rfl, ?_⟩) (by assumption) ?_
     rotate_left
     ·(intro w hSw; (try dsimp only at hSw); go_simp <;> with_reducible rfl)
     go_simp
     refine wpAnyT_one (i := 2) rfl (by kernel_rfl) (fun K' hK' => ?_)
     go_simp
     refine hK'.out _ _ ⟨(keep2 hn1).trans d0, (keep2 hn1).trans d1, (keep2 hn2).trans p0, (keep2 hn2).trans p1⟩ (fun hHeld => ?_)
     clear hK' K' d0 d1 p0 p1
     refine wpAnyT_last (i := 3) rfl (by kernel_rfl) (by kernel_rfl) (fun K' hK' => ?_)
     go_simp
     refine hK'.out _ _ ?_
     clear hK' K'
     refine wpAnyT_done (by kernel_rfl) ?_ _
     go_simp
     go_wp2_with fail
     refine bodyPost_ret (v := .tuple #[.agg #[.int .i64 (s : Int), .slice ta T.length tc], .agg #[.int .i64 (xn : Int), .slice xa xm xc]]) (by simp [results, Tryz.results15, go_sem, s0, s1, s2, s3]) rfl ⟨[.int .i64 (s : Int), .slice ta T.length tc], [.int .i64 (xn : Int), .slice xa xm xc], ((s : Int), T), ((xn : Int), Z.map (·.1)), rfl, ?_, ?_, ?_, ?_⟩
     ·exact ((rdP_set (rdP_set (rdP_set (rdP_set HTR.out (by omega)) (by omega)) (by omega)) (by omega)).mono (fun k _ hk => by omega)).below bD
     ·exact ((rdP_set (rdP_set (rdP_set (rdP_set HXR.out (by omega)) (by omega)) (by omega)) (by omega)).mono (fun k _ hk => by omega)).below bD
     ·exact ((srcS (srcS (srcS (srcS HS.out (by omega) (by omega)) (by omega) (by omega)) (by omega) (by omega)) (by omega) (by omega)).mono (by omega)).below bD
     ·exact tchW (tchS (tchS (tchS (tchS HT.out (Nat.le_refl _)) (Nat.le_refl _)) (by omega)) (by omega)) bD (by simp only [size_set]; exact HT.out.size)
end Go.Proofs.YtmnjlhcbabhhlaaGreat
namespace Go.Proofs.YtmnjlhcbabhhlaaGreat
open Go.RowKit Go.Sort
set_option maxHeartbeats 1600000 in
set_option maxRecDepth 100000 in
theorem pairFault_any (w : World) {cs cs' : Array Value} {r q : Int × List (List Int)} (h : relT.Rd w cs.toList r) (h' : relT.Rd w cs'.toList q) {s : Int} (hr : relOk s r) (hq : relOk s q) (ha : r.1 = q.1) :
  Calls Tryz.prog 26 #[.int .i64 s, .agg cs, .agg cs'] w fun e w' => e = .returned (.int .i64 0) ∧ Below w.heap.size w w' := by
 obtain ⟨v, hv, hI, hx⟩ := pair_ex h
 obtain rfl := agg_of hv
 obtain ⟨v', hv', hI', hx'⟩ := pair_ex h'
 obtain rfl := agg_of hv'
 obtain ⟨ra, rn, rc, rfl⟩ := rd_sl hx
 obtain ⟨qa, qn, qc, rfl⟩ := rd_sl hx'
 have H := Lib.hid h
 have H' := Lib.hid h'
 have HR := Lib.hid hr
 have HQ := Lib.hid hq
 have HA : Hid ((r.1 != q.1) = false) := by unfold Hid; rw [ha]; simp
 clear h h' hv hv' hx hx' hr hq ha
 go_enter Tryz.func26, Tryz.ntmps26
 go_upto_region 1 with (fail)
 generalize hW : World.alloc (World.alloc w _) _ = W
 have hbW : Below w.heap.size w W := hW ▸ bAA
 have a0 : W.cell? ⟨w.heap.size, 0, none⟩ = some (.int .i64 r.1) := by rw [← hW]; simp [go_sem]
 have a1 : W.cell? ⟨w.heap.size, 1, none⟩ = some (.slice ra rn rc) := by rw [← hW]; simp [go_sem]
 have b0 : W.cell? ⟨w.heap.size + 1, 0, none⟩ = some (.int .i64 q.1) := by rw [← hW]; simp [go_sem]
 have b1 : W.cell? ⟨w.heap.size + 1, 1, none⟩ = some (.slice qa qn qc) := by rw [← hW]; simp [go_sem]
 have hsW : w.heap.size + 2 = W.heap.size := by rw [← hW]; simp
 clear hW
 go_wp2_with fail
 refine (ValidRel_any W (cs := #[.int .i64 r.1, .slice ra rn rc]) (H.out.below hbW) s).mono ?_
 rw [tb_true HR.out]
 rintro e w1 ⟨rfl, hb1⟩
 have hz1 := hb1.size
 replace a0 := (cellB hb1 (by omega)).trans a0
 replace a1 := (cellB hb1 (by omega)).trans a1
 replace b0 := (cellB hb1 (by omega)).trans b0
 replace b1 := (cellB hb1 (by omega)).trans b1
 go_wp2_with fail
 refine (ValidRel_any w1 (cs := #[.int .i64 q.1, .slice qa qn qc]) ((H'.out.below hbW).below hb1) s).mono ?_
 rw [tb_true HQ.out]
 rintro e w2 ⟨rfl, hb2⟩
 have hne := HA.out
 replace a0 := (cellB hb2 (by omega)).trans a0
 replace a1 := (cellB hb2 (by omega)).trans a1
 replace b0 := (cellB hb2 (by omega)).trans b0
 replace b1 := (cellB hb2 (by omega)).trans b1
 go_wp2_with fail
 go_ret
 exact ⟨rfl, bthen (bthen hbW hb1) hb2⟩
set_option maxHeartbeats 1600000 in
set_option maxRecDepth 100000 in
theorem IsPartOf1_any (w : World) {v : Value} {x : List Int} (h : intsT.Rd w [v] x) {q : Int × List (List Int)} {s : Int} (hq : relOk s q) {bq : Nat} {ad : Option Addr} {n c : Nat} (c0 : w.cell? ⟨bq, 0, none⟩ = some (.int .i64 q.1)) (c1 : w.cell? ⟨bq, 1, none⟩ = some (.slice ad n c)) (hr : relT.Rd w [.int .i64 q.1, .slice ad n c] q) :
  Calls Tryz.prog 28 #[v, .pointer (some ⟨bq, 0, none⟩)] w fun e w' => e = .returned (.bool (!tb (x ∈ q.2))) ∧ Below w.heap.size w w' := by
 have H := Lib.hid h
 have HR := Lib.hid hr
 have HQ := Lib.hid hq
 obtain ⟨va, vc, rfl⟩ := rd_slice h
 clear h hr hq
 go_enter Tryz.func28, Tryz.ntmps28
 go_wp2_with fail
 refine (has_any (cs := #[.int .i64 q.1, .slice ad n c]) w HR.out H.out (relOk_sorted HQ.out)).mono ?_
 rintro e w1 ⟨rfl, hb1⟩
 go_wp2_with fail
 go_ret
 exact ⟨rfl, hb1⟩
theorem IsPartOf_any (w : World) {cs cs' : Array Value} {r q : Int × List (List Int)} (h : relT.Rd w cs.toList r) (h' : relT.Rd w cs'.toList q) {s : Int} (hr : relOk s r) (hq : relOk s q) (ha : r.1 = q.1) :
  Calls Tryz.prog 10 #[.int .i64 s, .agg cs, .agg cs'] w fun e w' => e = .returned (.tuple #[.bool (!anyB (fun l => !tb (l ∈ q.2)) r.2), .int .i64 0]) ∧ Below w.heap.size w w' := by
 obtain ⟨v, hv, hI, hx⟩ := pair_ex h
 obtain rfl := agg_of hv
 obtain ⟨v', hv', hI', hx'⟩ := pair_ex h'
 obtain rfl := agg_of hv'
 obtain ⟨ra, rn, rc, rfl⟩ := rd_sl hx
 obtain ⟨qa, qn, qc, rfl⟩ := rd_sl hx'
 have H := Lib.hid h
 have H' := Lib.hid h'
 have HX := Lib.hid hx
 have HR := Lib.hid hr
 have HQ := Lib.hid hq
 have HA := Lib.hid ha
 clear h h' hv hv' hx hx' hr hq ha
 go_enter Tryz.func10, Tryz.ntmps10
 go_upto_region 1 with (fail)
 generalize hW : World.alloc (World.alloc w _) _ = W
 have hbW : Below w.heap.size w W := hW ▸ bAA
 have a0 : W.cell? ⟨w.heap.size, 0, none⟩ = some (.int .i64 r.1) := by rw [← hW]; simp [go_sem]
 have a1 : W.cell? ⟨w.heap.size, 1, none⟩ = some (.slice ra rn rc) := by rw [← hW]; simp [go_sem]
 have b0 : W.cell? ⟨w.heap.size + 1, 0, none⟩ = some (.int .i64 q.1) := by rw [← hW]; simp [go_sem]
 have b1 : W.cell? ⟨w.heap.size + 1, 1, none⟩ = some (.slice qa qn qc) := by rw [← hW]; simp [go_sem]
 have hsW : w.heap.size + 2 = W.heap.size := by rw [← hW]; simp
 clear hW
 go_wp2_with fail
 refine (pairFault_any W (cs := #[.int .i64 r.1, .slice ra rn rc]) (cs' := #[.int .i64 q.1, .slice qa qn qc]) (H.out.below hbW) (H'.out.below hbW) HR.out HQ.out HA.out).mono ?_
 rintro e w1 ⟨rfl, hb1⟩
 have hz1 := hb1.size
 replace a0 := (cellB hb1 (by omega)).trans a0
 replace a1 := (cellB hb1 (by omega)).trans a1
 replace b0 := (cellB hb1 (by omega)).trans b0
 replace b1 := (cellB hb1 (by omega)).trans b1
 have hbw1 := bthen hbW hb1
 have HX1 := Lib.hid (HX.out.below hbw1)
 have HQ1 := Lib.hid (H'.out.below hbw1)
 go_wp2_with fail
 refine (ContainsFuncInts_any w1 HX1.out (fun l => !tb (l ∈ q.2)) 28 #[.pointer (some ⟨w.heap.size + 1, 0, none⟩)] (enters Tryz.func28 (by kernel_rfl) rfl) (Lib.hid fun W' hW' k hk u hu => ?_)).mono ?_
 ·exact IsPartOf1_any W' hu HQ.out ((hW'.cell (cell_lt b0)).trans b0) ((hW'.cell (cell_lt b1)).trans b1) (HQ1.out.below hW')
 rintro e w2 ⟨rfl, hb2⟩
 have hbw2 := bthen hbw1 hb2
 go_wp2_with fail
 go_ret2
 exact ⟨rfl, hbw2⟩
theorem elSS4 : ElT Tryz.prog 41 50 1 24 := .mk (z := .slice none 0 0) Tryz.underlying41 (by kernel_rfl) rfl (by decide)
set_option maxHeartbeats 1600000 in
set_option maxRecDepth 100000 in
theorem l01Equal2_any (w : World) (h0 : 0 < w.heap.size) : Calls Tryz.prog 18 #[.int .i64 2] w (RetA relT w ((2 : Int), [[0, 0], [1, 1]])) := by
 go_enter Tryz.func18, Tryz.ntmps18
 go_upto_region 2 with (fail)
 generalize hW : World.alloc (World.alloc w _) _ = W
 have hbW : Below w.heap.size w W := hW ▸ bAA
 have hsW : w.heap.size + 2 = W.heap.size := by rw [← hW]; simp
 have HR : Hid (ResB w.heap.size W) := by
  rw [← hW]
  exact (ResB.new rfl rfl).below bA (by simp)
 have HD : Hid (DrS intsT 50 0 w (w.heap.size + 1) (w.heap.size + 1) (w.heap.size + 2) 2 (.slice none 0 0) [] W) := by
  rw [← hW]
  exact DrS.new rfl (by simp) (by omega) h0
 have HT := Lib.hid hbW
 clear hW hbW
 go_wp2_with fail
 go_loopw [4] (fun i wr => ∃ (k : Nat) (va : Value) (top : Nat), k ≤ 2 ∧ i = .int .i64 k ∧ DrS intsT 50 0 w (w.heap.size + 1) (w.heap.size + 1) top 2 va ((List.range k).map fun i : Nat => [(i : Int), (i : Int)]) wr ∧ ResB w.heap.size wr ∧ Below w.heap.size w wr) (fun i _ => 2 - (intOf i).toNat)
 case atStart => exact ⟨0, _, _, by omega, rfl, HD.out, HR.out, HT.out⟩
 case round =>
  clear HD HR HT
  obtain ⟨k, va, top, hk, rfl, hd, hr, hb⟩ := hrel
  obtain ⟨wx, rfl⟩ : ∃ wx : World, wx = wr := ⟨_, rfl⟩
  have hRl : ((List.range k).map fun i : Nat => [(i : Int), (i : Int)]).length = k := by simp
  obtain ⟨ra, rn, rc, rfl⟩ := ex_slice (hd.bl.fr (by rw [hRl]; unfold capMax; omega))
  have HD := Lib.hid hd
  have HR := Lib.hid hr
  have HT := Lib.hid hb
  have hdh := hd.hi
  have hto := hd.le
  have c0 := hd.c0
  have c1 := hd.c1
  have m1 := hd.m1
  have HRL := Lib.hid hRl
  clear hd hr hb hRl
  by_cases hlt : k < 2
  ·have hltI : (k : Int) < 2 := by omega
   go_wp2_with (refine wpList_push (E := intsT.off (w.heap.size + 1)) _ rfl _ _ 41 50 rfl elSS4 rfl ((HD.out.bl.mono hto).below (bAA (w := wx)) (Nat.le_refl _)) rfl (news1' (by simp)) (fr_off ((fr_intsL (base := wx.heap.size) (xs := [(k : Int), (k : Int)]) rfl rfl (fun a ha => by simp at ha; unfold I64; omega) rfl (Nat.le_refl _) (by simp)).below bA) (by omega)) (by rw [HRL.out]; omega) (by decide) (by omega) (by first | (simp; done) | (simp; omega)) ?_; intro v6 w6 hB6 hg6 hown6; obtain ⟨a6, n6, c6, rfl⟩ := ex_slice (hB6.fr (by rw [List.length_append, HRL.out]; unfold capMax; simp only [List.length_singleton]; omega)); obtain ⟨k1, km⟩ := (HD.out.below (bAA (w := wx)) HD.out.le).cells hg6)
   have hrow : ∀ b, (Value.slice ra rn rc).ownBlock = some b → w.heap.size + 1 ≤ b := fun b hb => HD.out.bl.own hb
   have HD8 := Lib.hid ((HD.out.below (bAA (w := wx)) HD.out.le).row hB6 hg6 hown6)
   have HR8 := Lib.hid (((HR.out.below (bAA (w := wx)) HR.out.1).grown hg6 (fun e => by have := hrow _ e; omega)).other (b := w.heap.size + 1) (i := 1) (u := .slice a6 n6 c6) (by omega))
   have HT8 : Hid (Below w.heap.size w (w6.setCell ⟨w.heap.size + 1, 1, none⟩ (.slice a6 n6 c6))) := ((bthen HT.out (bAA (w := wx))).grown hg6 (by have := HT.out.size; simp; omega) (fun q hq => by have := hrow q hq; omega)).setCell (by simp) _
   have HLL : Hid (((List.range k).map fun i : Nat => [(i : Int), (i : Int)]) ++ [[(k : Int), (k : Int)]] = (List.range (k + 1)).map fun i : Nat => [(i : Int), (i : Int)]) := by unfold Hid; rw [List.range_succ, List.map_append]; rfl
   rw [HLL.out] at HD8
   clear hrow hB6 hg6 hown6 c0 c1 m1 HD HR HT HLL k1 km
   go_wp2_with fail
   go_roundw
   case rel => exact ⟨k + 1, _, _, by omega, by go_num, HD8.out, HR8.out, HT8.out⟩
   case measure => simp [intOf]; omega
  ·obtain rfl : k = 2 := by omega
   have HF := Lib.hid ((off_bl HD.out.bl).fr (by rw [HRL.out]; unfold capMax; omega))
   obtain ⟨⟨u0, r0⟩, ⟨u1, r1⟩, q0, q1⟩ := HR.out.2
   obtain ⟨g0, g1⟩ := set2_cells (x := .int .i64 2) (y := .slice ra rn rc) r0 r1
   go_wp2_with fail
   refine bodyPost_ret (v := .agg #[.int .i64 2, .slice ra rn rc]) (by simp [results, Tryz.results18, go_sem, g0, g1]) rfl ⟨[.int .i64 2, .slice ra rn rc], rfl, ?_, (HT.out.setCell (by simp) _).setCell (by simp) _⟩
   exact fr_cons (I64.small (by omega) (by omega)) (((HF.out.set (by simp)).set (by simp)).mono (by omega))
theorem rdP_row1 {α : Type} {E : Ty α} {ok : Nat → Prop} {w : World} {cs : Array Value} {x : α} {T : TypeId} {B : Nat} (h : E.RdP ok w cs.toList x) (hB : B = w.heap.size) (hok : ok B) : (Ty.slice E).RdP ok (w.alloc (.cells cs T)) [.slice (some ⟨B, 0, none⟩) 1 1] [x] := by
 subst hB
 obtain ⟨fp, h1, h2⟩ := h
 have hs : Same fp w (w.alloc (.cells cs T)) := Same.below bA (E.lt h1)
 refine ⟨w.heap.size :: fp, ⟨some ⟨w.heap.size, 0, none⟩, 1, rfl, Nat.le_refl _, by simp [capMax], .inr ⟨by simp, w.heap.size, 0, fun _ => fp, rfl, by simp, by simp, fun i hi => ?_⟩⟩, fun k hk => (List.mem_cons.1 hk).elim (fun e => e ▸ hok) (h2 k)⟩
 obtain rfl : i = 0 := by simpa using hi
 refine ⟨cs.toList, E.same h1 hs, fun j hj => ?_⟩
 unfold World.cell?
 rw [heap_alloc_new]
 simp at hj
 simp [hj]
theorem relOk_eq2 : relOk 2 ((2 : Int), [[0, 0], [1, 1]]) := by
 refine ⟨⟨by decide, by decide⟩, ⟨by decide, by decide⟩, fun i hi => ?_⟩
 have : i = 0 ∨ i = 1 := by simp at hi; omega
 rcases this with rfl | rfl
 ·exact ⟨⟨rfl, fun a ha => by simp at ha; omega⟩, fun h => absurd h (Nat.lt_irrefl _)⟩
 ·exact ⟨⟨rfl, fun a ha => by simp at ha; omega⟩, fun _ => (show cmpL [0, 0] [1, 1] < 0 by decide)⟩
theorem instOk_eq2 : instOk ((2 : Int), [((2 : Int), [[0, 0], [1, 1]])]) ((2 : Int), [((0 : Int), [0, 1])]) := by
 refine ⟨⟨⟨by decide, by decide⟩, by decide, fun r hr => ?_⟩, by decide, by decide, fun c hc => ?_⟩
 ·rw [List.mem_singleton.1 hr]; exact relOk_eq2
 ·rw [List.mem_singleton.1 hc]
  refine ⟨⟨by decide, by decide⟩, ?_⟩
  have : arOf ((2 : Int), [((2 : Int), [[0, 0], [1, 1]])]) ((0 : Nat) : Int) = 2 := arOf_nat (t := ((2 : Int), [((2 : Int), [[(0 : Int), 0], [1, 1]])])) (k := 0) (by decide)
  refine ⟨?_, fun a ha => by simp at ha; show 0 ≤ a ∧ a ≤ (2 : Int) - 1; omega⟩
  show ((2 : Nat) : Int) = arOf _ ((0 : Nat) : Int)
  rw [this]
  rfl
set_option maxHeartbeats 3200000 in
set_option maxRecDepth 100000 in
theorem P6Hard_any (w : World) {v : Value} {code : List Int} (h : bytesT.Rd w [v] code) :
  Calls Tryz.prog 5 #[v] w fun e w' => ∃ (cs cs' : List Value) (t : Int × List (Int × List (List Int))) (x : Int × List (Int × List Int)), e = .returned (.tuple #[.agg cs.toArray, .agg cs'.toArray]) ∧ tplT.Rd w' cs t ∧ instT.Rd w' cs' x ∧ instOk t x ∧ Below w.heap.size w w' := by
 have H := Lib.hid h
 obtain ⟨va, vc, rfl⟩ := rd_slice h
 clear h
 go_enter Tryz.func5, Tryz.ntmps5
 go_upto_region 1 with (fail)
 generalize hW : World.alloc (World.alloc w _) _ = W
 have hbW : Below w.heap.size w W := hW ▸ bAA
 have hsW : w.heap.size + 2 = W.heap.size := by rw [← hW]; simp
 have HR : Hid (ResB w.heap.size W) := by
  rw [← hW]
  exact (ResB.new rfl rfl).below bA (by simp)
 have HQ : Hid (ResB (w.heap.size + 1) W) := by
  rw [← hW]
  exact ResB.new rfl (by simp)
 clear hW
 go_wp2_with fail
 refine (l00From_any W (H.out.below hbW)).mono ?_
 rintro e w1 ⟨rfl, hs1, hb1⟩
 have hz1 := hs1.lt
 replace HR := Lib.hid (HR.out.below hb1 HR.out.1)
 replace HQ := Lib.hid (HQ.out.below hb1 HQ.out.1)
 have HS := Lib.hid hs1
 have HB := Lib.hid (bthen hbW hb1)
 clear hs1 hb1
 go_wp2_with fail
 refine (l08Hard_any w1 HS.out (by omega) (by omega)).mono ?_
 rintro e w2 ⟨cs, cs', t, x, rfl, htr, hxr, hs2, ht2⟩
 obtain ⟨v, hv, hIt, htv⟩ := pair_ex htr.rd
 obtain ⟨v', hv', hIx, hxv⟩ := pair_ex hxr.rd
 obtain ⟨a, n, c, rfl⟩ := rd_sl htv
 obtain ⟨a', n', c', rfl⟩ := rd_sl hxv
 subst hv hv'
 have hz2 := ht2.size
 replace HR := Lib.hid (HR.out.tch ht2 (by omega))
 replace HQ := Lib.hid (HQ.out.tch ht2 (by omega))
 have HTR := Lib.hid (htr.mono (ok' := fun q => w1.heap.size ≤ q) (fun k _ hk => hk))
 have HXR := Lib.hid (hxr.mono (ok' := fun q => w1.heap.size ≤ q) (fun k _ hk => hk))
 replace HB : Hid (Below w.heap.size w w2) := HB.out.trans (ht2.below (by omega) (fun k hk e => by omega))
 have hIt2 := hIt
 clear htr hxr hs2 ht2 htv hxv
 go_upto_region 2 with (fail)
 generalize hW3 : World.alloc (World.alloc w2 _) _ = w3
 have hb3 : Below w2.heap.size w2 w3 := hW3 ▸ bAA
 have hs3 : w2.heap.size + 2 = w3.heap.size := by rw [← hW3]; simp
 have t0 : w3.cell? ⟨w2.heap.size, 0, none⟩ = some (.int .i64 t.1) := by rw [← hW3]; simp [go_sem]
 have t1 : w3.cell? ⟨w2.heap.size, 1, none⟩ = some (.slice a n c) := by rw [← hW3]; simp [go_sem]
 have x0 : w3.cell? ⟨w2.heap.size + 1, 0, none⟩ = some (.int .i64 x.1) := by rw [← hW3]; simp [go_sem]
 have x1 : w3.cell? ⟨w2.heap.size + 1, 1, none⟩ = some (.slice a' n' c') := by rw [← hW3]; simp [go_sem]
 clear hW3
 replace HR := Lib.hid (HR.out.below hb3 HR.out.1)
 replace HQ := Lib.hid (HQ.out.below hb3 HQ.out.1)
 replace HB := Lib.hid (bthen HB.out hb3)
 replace HTR := Lib.hid (HTR.out.below hb3)
 replace HXR := Lib.hid (HXR.out.below hb3)
 have HPT : Hid (tplT.Pt w3 (.pointer (some ⟨w2.heap.size, 0, none⟩)) t) := ⟨w2.heap.size, 0, [.int .i64 t.1, .slice a n c], rfl, by omega, HTR.out.rd, fun j hj => by
  rcases (show j = 0 ∨ j = 1 by simp at hj; omega) with rfl | rfl
  ·exact t0
  ·exact t1⟩
 have HPX : Hid (instT.Pt w3 (.pointer (some ⟨w2.heap.size + 1, 0, none⟩)) x) := ⟨w2.heap.size + 1, 0, [.int .i64 x.1, .slice a' n' c'], rfl, by omega, HXR.out.rd, fun j hj => by
  rcases (show j = 0 ∨ j = 1 by simp at hj; omega) with rfl | rfl
  ·exact x0
  ·exact x1⟩
 go_wp2_with fail
 refine (l05Ok_quiet w3 HPT.out HPX.out).mono ?_
 rintro e w4 ⟨rfl, hq4⟩
 have hb4 := hq4.below
 have hz4 := hb4.size
 replace HR := Lib.hid (HR.out.below hb4 HR.out.1)
 replace HQ := Lib.hid (HQ.out.below hb4 HQ.out.1)
 replace HB := Lib.hid (bthen HB.out hb4)
 replace HTR := Lib.hid (HTR.out.below hb4)
 replace HXR := Lib.hid (HXR.out.below hb4)
 replace t0 := (cellB hb4 (by omega)).trans t0
 replace t1 := (cellB hb4 (by omega)).trans t1
 replace x0 := (cellB hb4 (by omega)).trans x0
 replace x1 := (cellB hb4 (by omega)).trans x1
 clear hq4 hb4 hb3 HPT HPX
 cases hok : tb (instOk t x)
 ·clear t0 t1 x0 x1 HTR HXR hok
  go_wp2_with fail
  refine (l01Equal2_any w4 (by omega)).mono ?_
  rintro e w5 ⟨cs, rfl, hf5, hb5⟩
  obtain ⟨ra, rc, rfl⟩ := fr_pair hf5
  have hz5 := hb5.size
  replace HR := Lib.hid (HR.out.below hb5 HR.out.1)
  replace HQ := Lib.hid (HQ.out.below hb5 HQ.out.1)
  replace HB := Lib.hid (bthen HB.out hb5)
  have HF := Lib.hid (Ty.Fr.P hf5)
  clear hf5 hb5
  go_upto_region 4 with (fail)
  generalize hW6 : World.alloc (World.alloc w5 _) _ = w6
  have hb6 : Below w5.heap.size w5 w6 := hW6 ▸ bAA
  have hs6 : w5.heap.size + 2 = w6.heap.size := by rw [← hW6]; simp
  have y0 : w6.cell? ⟨w5.heap.size + 1, 0, none⟩ = some (.int .i64 2) := by rw [← hW6]; simp [go_sem]
  have y1 : w6.cell? ⟨w5.heap.size + 1, 1, none⟩ = some (.slice (some ⟨w5.heap.size, 0, none⟩) 1 1) := by rw [← hW6]; simp [go_sem]
  have HTR : Hid (tplT.RdP (fun q => w.heap.size + 2 ≤ q) w6 [.int .i64 2, .slice (some ⟨w5.heap.size, 0, none⟩) 1 1] ((2 : Int), [((2 : Int), [[0, 0], [1, 1]])])) := by
   rw [← hW6]
   exact consRdP (I64.small (by omega) (by omega)) ((rdP_row1 (HF.out.mono (fun k _ hk => by omega)) rfl (by omega)).below bA)
  clear hW6
  replace HR := Lib.hid (HR.out.below hb6 HR.out.1)
  replace HQ := Lib.hid (HQ.out.below hb6 HQ.out.1)
  replace HB := Lib.hid (bthen HB.out hb6)
  obtain ⟨⟨u0, r0⟩, ⟨u1, r1⟩, q0, q1⟩ := HR.out.2
  obtain ⟨⟨u2, r2⟩, ⟨u3, r3⟩, q2, q3⟩ := HQ.out.2
  clear HF hb6
  have hlw0 : w.heap.size < w6.heap.size := by omega
  have hlw1 : w.heap.size + 1 < w6.heap.size := by omega
  obtain ⟨s0, s1, s2, s3⟩ := set4_cells (show w.heap.size ≠ w.heap.size + 1 by omega) (x := .int .i64 2) (y := .slice (some ⟨w5.heap.size, 0, none⟩) 1 1) (x' := .int .i64 2) (y' := .slice (some ⟨w6.heap.size + 1, 0, none⟩) 1 1) r0 r1 r2 r3
  have HTR4 := Lib.hid (rdP_set (i := 1) (u := .slice (some ⟨w6.heap.size + 1, 0, none⟩) 1 1) (rdP_set (i := 0) (u := .int .i64 2) (rdP_set (i := 1) (u := .slice (some ⟨w5.heap.size, 0, none⟩) 1 1) (rdP_set (i := 0) (u := .int .i64 2) HTR.out (show w.heap.size < w.heap.size + 2 by omega)) (show w.heap.size < w.heap.size + 2 by omega)) (show w.heap.size + 1 < w.heap.size + 2 by omega)) (show w.heap.size + 1 < w.heap.size + 2 by omega))
  have HB4 : Hid (Below w.heap.size w ((((w6.setCell ⟨w.heap.size, 0, none⟩ (.int .i64 2)).setCell ⟨w.heap.size, 1, none⟩ (.slice (some ⟨w5.heap.size, 0, none⟩) 1 1)).setCell ⟨w.heap.size + 1, 0, none⟩ (.int .i64 2)).setCell ⟨w.heap.size + 1, 1, none⟩ (.slice (some ⟨w6.heap.size + 1, 0, none⟩) 1 1))) := (((HB.out.setCell (by simp) _).setCell (by simp) _).setCell (by simp) _).setCell (by simp) _
  have hsz4 : ((((w6.setCell ⟨w.heap.size, 0, none⟩ (.int .i64 2)).setCell ⟨w.heap.size, 1, none⟩ (.slice (some ⟨w5.heap.size, 0, none⟩) 1 1)).setCell ⟨w.heap.size + 1, 0, none⟩ (.int .i64 2)).setCell ⟨w.heap.size + 1, 1, none⟩ (.slice (some ⟨w6.heap.size + 1, 0, none⟩) 1 1)).heap.size = w6.heap.size := by simp only [size_set]
  have HSZ := Lib.hid hsz4
  have HSS := Lib.hid (And.intro s0 (And.intro s1 (And.intro s2 s3)))
  clear hsz4 s0 s1 s2 s3
  go_wp2_with fail
  clear r0 r1 r2 r3 q0 q1 q2 q3
  generalize (((w6.setCell ⟨w.heap.size, 0, none⟩ (.int .i64 2)).setCell ⟨w.heap.size, 1, none⟩ (.slice (some ⟨w5.heap.size, 0, none⟩) 1 1)).setCell ⟨w.heap.size + 1, 0, none⟩ (.int .i64 2)).setCell ⟨w.heap.size + 1, 1, none⟩ (.slice (some ⟨w6.heap.size + 1, 0, none⟩) 1 1) = W4 at HTR4 HB4 HSZ HSS ⊢
  have hz := HSZ.out
  obtain ⟨s0, s1, s2, s3⟩ := HSS.out
  have hl0 : w.heap.size < W4.heap.size := by omega
  have hl1 : w.heap.size + 1 < W4.heap.size := by omega
  rw [← hz]
  have s0' := (cellB (bAA (w := W4) (o := .cells #[.int .i64 0, .int .i64 1] 2) (o' := .cells #[.int .i64 0, .slice (some ⟨W4.heap.size, 0, none⟩) 2 2] 62)) hl0).trans s0
  have s1' := (cellB (bAA (w := W4) (o := .cells #[.int .i64 0, .int .i64 1] 2) (o' := .cells #[.int .i64 0, .slice (some ⟨W4.heap.size, 0, none⟩) 2 2] 62)) hl0).trans s1
  have s2' := (cellB (bAA (w := W4) (o := .cells #[.int .i64 0, .int .i64 1] 2) (o' := .cells #[.int .i64 0, .slice (some ⟨W4.heap.size, 0, none⟩) 2 2] 62)) hl1).trans s2
  have s3' := (cellB (bAA (w := W4) (o := .cells #[.int .i64 0, .int .i64 1] 2) (o' := .cells #[.int .i64 0, .slice (some ⟨W4.heap.size, 0, none⟩) 2 2] 62)) hl1).trans s3
  rw [← hz] at s3'
  have HIX : instT.Rd ((W4.alloc (.cells #[.int .i64 0, .int .i64 1] 2)).alloc (.cells #[.int .i64 0, .slice (some ⟨W4.heap.size, 0, none⟩) 2 2] 62)) [.int .i64 2, .slice (some ⟨W4.heap.size + 1, 0, none⟩) 1 1] ((2 : Int), [((0 : Int), [0, 1])]) :=
   (consRdP (I64.small (by omega) (by omega)) (rdP_row1 (ok := fun _ => True) (consRdP (I64.small (n := 0) (by omega) (by omega)) ((Ty.Fr.P (fr_intsL (base := 0) (xs := [0, 1]) rfl rfl (fun a ha => by simp at ha; unfold I64; omega) rfl (Nat.zero_le _) (by decide))).mono (fun _ _ _ => trivial))) (by simp) trivial)).rd
  refine bodyPost_ret (v := .tuple #[.agg #[.int .i64 2, .slice (some ⟨w5.heap.size, 0, none⟩) 1 1], .agg #[.int .i64 2, .slice (some ⟨W4.heap.size + 1, 0, none⟩) 1 1]]) (by simp [results, Tryz.results5, go_sem, s0', s1', s2', s3']) rfl ⟨_, _, _, _, rfl, HTR4.out.rd.below bAA, HIX, instOk_eq2, bthen HB4.out bAA⟩
 ·have hI := tb_iff.1 hok
  have HOK := Lib.hid hI
  obtain ⟨⟨u0, r0⟩, ⟨u1, r1⟩, q0, q1⟩ := HR.out.2
  obtain ⟨⟨u2, r2⟩, ⟨u3, r3⟩, q2, q3⟩ := HQ.out.2
  obtain ⟨s0, s1, s2, s3⟩ := set4_cells (show w.heap.size ≠ w.heap.size + 1 by omega) (x := .int .i64 t.1) (y := .slice a n c) (x' := .int .i64 x.1) (y' := .slice a' n' c') r0 r1 r2 r3
  have hn1 : w2.heap.size ≠ w.heap.size := by omega
  have hn2 : w2.heap.size + 1 ≠ w.heap.size := by omega
  clear hok hI
  go_wp2_with fail
  refine wp_region_T (fun w' => w'.cell? ⟨w2.heap.size, 0, none⟩ = some (.int .i64 t.1) ∧ w'.cell? ⟨w2.heap.size, 1, none⟩ = some (.slice a n c) ∧ w'.cell? ⟨w2.heap.size + 1, 0, none⟩ = some (.int .i64 x.1) ∧ w'.cell? ⟨w2.heap.size + 1, 1, none⟩ = some (.slice a' n' c')) [3] (by kernel_rfl) ⟨t0, t1, x0, x1⟩ (fun hHeld => ?_)
  refine wpAnyT_take (i := 0) (v := ?_) rfl (by kernel_rfl) (fun _ _ _ h => h) (Or.inl ⟨by rfl, ?_⟩) (by assumption) ?_
  rotate_left
  ·(intro w hSw; (try dsimp only at hSw); go_simp <;> with_reducible rfl)
  go_simp
  refine wpAnyT_take (i := 1) (v := ?_) rfl (by kernel_rfl) (fun _ _ _ h => h) (Or.inl ⟨by rfl, ?_⟩) (by assumption) ?_
  rotate_left
  ·(intro w hSw; (try dsimp only at hSw); go_simp <;> with_reducible rfl)
  go_simp
  refine wpAnyT_one (i := 2) rfl (by kernel_rfl) (fun K' hK' => ?_)
  go_simp
  refine hK'.out _ _ ⟨(keep2 hn1).trans t0, (keep2 hn1).trans t1, (keep2 hn2).trans x0, (keep2 hn2).trans x1⟩ (fun hHeld => ?_)
  clear hK' K' t0 t1 x0 x1
  refine wpAnyT_last (i := 3) rfl (by kernel_rfl) (by kernel_rfl) (fun K' hK' => ?_)
  go_simp
  refine hK'.out _ _ ?_
  clear hK' K'
  refine wpAnyT_done (by kernel_rfl) ?_ _
  go_simp
  go_wp2_with fail
  refine bodyPost_ret (v := .tuple #[.agg #[.int .i64 t.1, .slice a n c], .agg #[.int .i64 x.1, .slice a' n' c']]) (by simp [results, Tryz.results5, go_sem, s0, s1, s2, s3]) rfl ⟨[.int .i64 t.1, .slice a n c], [.int .i64 x.1, .slice a' n' c'], t, x, rfl, ?_, ?_, HOK.out, ?_⟩
  ·exact (rdP_set (rdP_set (rdP_set (rdP_set HTR.out (by omega)) (by omega)) (by omega)) (by omega)).rd.below bD
  ·exact (rdP_set (rdP_set (rdP_set (rdP_set HXR.out (by omega)) (by omega)) (by omega)) (by omega)).rd.below bD
  ·exact ((((HB.out.setCell (by simp) _).setCell (by simp) _).setCell (by simp) _).setCell (by simp) _).drew
end Go.Proofs.YtmnjlhcbabhhlaaGreat
namespace Go.Proofs.YtmnjlhcbabhhlaaGreat
open Go.RowKit Go.Sort
theorem f6bigY_any (w : World) {v : Value} {xs : List Int} (h : bytesT.Rd w [v] xs) : Calls Tryz.prog 4 #[v] w fun e w' => ∃ b, e = .returned (.bool b) ∧ w = w' := by
 obtain ⟨ad, cap, rfl⟩ := rd_slice h
 clear h
 cases hb : decide ((4096 : Int) < ((xs.length : Nat) : Int))
 all_goals
  go_enter Tryz.func4, Tryz.ntmps4
  go_wp2
  go_ret
  exact ⟨_, rfl, rfl⟩
theorem specHasTuple_any (w : World) {cs : Array Value} {r : Int × List (List Int)} {u : Value} {ys : List Int} (h : relT.Rd w cs.toList r) (hu : intsT.Rd w [u] ys) {s : Int} (hr : relOk s r) :
  Calls Tryz.prog 14 #[.int .i64 s, .agg cs, u] w fun e w' => e = .returned (.tuple #[.bool (tb (ys ∈ r.2)), .int .i64 0]) ∧ Below w.heap.size w w' := by
 have hvo : tb (relOk s r) = true := tb_true hr
 have p1 := (pt_box (T := 43) h)
 have HU := Lib.hid hu
 obtain ⟨u2, hv2, hI, hx⟩ := pair_ex h
 obtain rfl := agg_of hv2
 clear h hx hv2 hu hr
 go_enter Tryz.func14, Tryz.ntmps14
 go_wp2_with fail
 generalize hW : World.alloc w _ = W at p1 ⊢
 have hbW : Below w.heap.size w W := hW ▸ bA
 have HU1 := Lib.hid (HU.out.below hbW)
 clear hW HU
 refine (l01Ok_quiet _ p1 s).mono ?_
 rintro e w1 ⟨rfl, hq⟩
 have hb1 := hq.below
 rw [hvo]
 go_wp2_with fail
 refine (l01Has_quiet _ (p1.below hb1) (HU1.out.below hb1)).mono ?_
 rintro e w2 ⟨rfl, hq2⟩
 have hb2 := hq2.below
 go_wp2_with fail
 go_ret2
 exact ⟨rfl, bthen (bthen hbW hb1) hb2⟩
end Go.Proofs.YtmnjlhcbabhhlaaGreat
namespace Go.Proofs.YtmnjlhcbabhhlaaGreat
open Go.RowKit Go.Sort
/-- what the reference's step answers -/
def ThrC : Prop := ∀ (ok : Nat → Prop) (w : World) (_ : ∀ q, w.heap.size ≤ q → ok q) {ad : Option Addr} {b o m c n : Nat} {P : Rels} {s : Int} (_ : ad = some ⟨b, o, none⟩) (_ : PR ok w b o P) (_ : P.length = m) (_ : RlOk s n P) (_ : 1 ≤ s ∧ s ≤ 4) (_ : n ≤ 100) {i j k : Nat} (_ : i < j) (_ : j < n) (_ : k < n) (_ : k ≠ i) (_ : k ≠ j),
  Calls Tryz.prog 53 #[.int .i64 s, .slice ad m c, .int .i64 (i : Int), .int .i64 (j : Int), .int .i64 (k : Int)] w fun e w' => e = .returned (.bool (nwB s P i j k)) ∧ PR ok w' b o (nwV s P i j k) ∧ TchP (fun q => q = b) w w'
theorem doJ_one {s : Int} {n : Nat} {st : Rels × List Stp} : doJ s n 1 st = st := by simp [doJ, doI]
set_option maxHeartbeats 3200000 in
set_option maxRecDepth 100000 in
theorem l05Pairs_any (hthr : ThrC) (w : World) {bt ot bx ox : Nat} {s : Int} {n T0 B1 : Nat} (t0 : w.cell? ⟨bt, ot, none⟩ = some (.int .i64 s)) (x0 : w.cell? ⟨bx, ox, none⟩ = some (.int .i64 (n : Int))) (hbt : bt < B1) (hbx : bx < B1) (hB1w : B1 ≤ w.heap.size) (hs : 1 ≤ s ∧ s ≤ 4) (hx1 : 1 ≤ n ∧ n ≤ 10) {ad : Option Addr} {b o m c : Nat} {P0 : Rels} (had : 0 < m → ad = some ⟨b, o, none⟩ ∧ B1 ≤ b ∧ PR (fun _ => True) w b o P0) (hm : P0.length = m) (hP : RlOk s n P0) (hT : totP P0 ≤ T0) (hT0 : T0 ≤ 100000) :
  Calls Tryz.prog 23 #[.pointer (some ⟨bt, ot, none⟩), .pointer (some ⟨bx, ox, none⟩), .slice ad m c] w fun e w' => ∃ ov, e = .returned ov ∧ (0 < m → PR (fun _ => True) w' b o (mkP s n (P0, [])).1) ∧ RlOk s n (mkP s n (P0, [])).1 ∧ (Ty.slice pstT).Fr B1 w' [ov] ((mkP s n (P0, [])).2.map pstI) ∧ Below B1 w w' := by
 have HTHR : Hid ThrC := hthr
 have HP := Lib.hid hP
 have HTT := Lib.hid hT
 have HM := Lib.hid hm
 have HB : Hid (0 < m → ad = some ⟨b, o, none⟩ ∧ B1 ≤ b ∧ b < w.heap.size ∧ PR (fun _ => True) w b o P0) := fun hp => ⟨(had hp).1, (had hp).2.1, (had hp).2.2.1, (had hp).2.2⟩
 generalize hst : (P0, ([] : List Stp)) = st0
 have HST : Hid ((P0, ([] : List Stp)) = st0) := hst
 clear hthr hP hT hm had hst
 go_enter Tryz.func23, Tryz.ntmps23
 go_wp2_with fail
 generalize hW3 : World.alloc w _ = w3
 have hb3 : Below w.heap.size w w3 := hW3 ▸ bA
 have hz3 : w.heap.size < w3.heap.size := by rw [← hW3]; simp
 have hM0 : MpR s n B1 w.heap.size b o T0 w3 st0 (.slice (some ⟨w.heap.size, 0, none⟩) 0 0) w3 := by
  rw [← HST.out]
  refine ⟨fun hp => ((HB.out (by rw [← HM.out]; exact hp)).2.2.2.mono fun q hq _ => ?_).below hb3, HP.out, ?_, ?_, Below.refl _ _, Nat.le_refl _⟩
  ·simp [Value.ownBlock]; omega
  ·rw [← hW3]; simpa using Bl.lit0 (E := pstT) (e := 52) (base := w.heap.size) (w := w) (Nat.le_refl _)
  ·exact HTT.out
 have HM0 := Lib.hid hM0
 have hlt := cell_lt t0
 have hlx := cell_lt x0
 replace t0 := (cellB hb3 (by omega)).trans t0
 replace x0 := (cellB hb3 (by omega)).trans x0
 have hbw3 : Below B1 w w3 := hb3.mono hB1w
 have hst0 : totP st0.1 ≤ T0 ∧ st0.2.length = 0 := by rw [← HST.out]; exact ⟨HTT.out, rfl⟩
 have hs00 : st0.1.length = m := by rw [← HST.out]; exact HM.out
 have HST1 : Hid (RlOk s n st0.1) := by rw [← HST.out]; exact HP.out
 generalize hE : w.heap.size = eB at *
 clear hW3 hM0 hb3 HST HM HP HTT
 go_loopg [8, 7] (T0 + 1) (fun g bv ov wr => ∃ (cur : Rels × List Stp) (L : Int), bv = .int .i64 L ∧ MpR s n B1 eB b o T0 w3 cur ov wr ∧ (L ≠ cur.2.length → mkP s n cur = mkP s n st0 ∧ totP cur.1 < g) ∧ (L = cur.2.length → cur = mkP s n st0))
 case atStart => exact ⟨st0, -1, rfl, HM0.out, fun _ => ⟨rfl, by omega⟩, fun h => by omega⟩
 case round =>
  obtain ⟨cur, L, rfl, hmp, hc1, hc0⟩ := hrel
  obtain ⟨wa, rfl⟩ : ∃ wa : World, wa = wr := ⟨_, rfl⟩
  obtain ⟨oa, oc, rfl⟩ := fr_slice (hmp.2.2.1.fr (by rw [List.length_map]; have := hmp.2.2.2.1; unfold capMax; omega))
  rw [List.length_map] at hmp ⊢
  have HMP := Lib.hid hmp
  have hza := HMP.out.2.2.2.2.2
  have hbwa : Below B1 w wa := hbw3.trans HMP.out.2.2.2.2.1
  clear hmp HM0
  by_cases hLc : L = (cur.2.length : Int)
  ·have HE := Lib.hid (hc0 hLc)
   clear hc0 hc1
   go_wp2_with fail
   go_ret
   rw [← HE.out]
   exact ⟨_, rfl, fun hp => (HMP.out.1 (by have := HMP.out.2.1.1; have := HST1.out.1; omega)).mono fun _ _ _ => trivial, HMP.out.2.1, (HMP.out.2.2.1.fr (by rw [List.length_map]; have := HMP.out.2.2.2.1; unfold capMax; omega)).mono (by omega), hbwa⟩
  ·have HC1 := Lib.hid (hc1 hLc)
   have hLn : (L != (cur.2.length : Int)) = true := by simp [hLc]
   clear hc0 hc1 hLc
   go_wp2_with fail
   go_loopw [9, 7] (fun i ov wr => ∃ (j : Nat) (st : Rels × List Stp), 1 ≤ j ∧ j ≤ n ∧ i = .int .i64 j ∧ st = doJ s n j cur ∧ MpR s n B1 eB b o T0 w3 st ov wr) (fun i _ _ => n - (intOf i).toNat)
   case atStart => exact ⟨1, cur, by omega, by omega, rfl, doJ_one.symm, HMP.out⟩
   case round =>
    obtain ⟨j, st1, hj1, hj, rfl, hst1, hm1⟩ := hrel
    obtain ⟨wb, rfl⟩ : ∃ wb : World, wb = wr := ⟨_, rfl⟩
    have HM1 := Lib.hid hm1
    have HS1 := Lib.hid hst1
    have x1 := (cellB HM1.out.2.2.2.2.1 hbx).trans x0
    clear hm1 hst1
    by_cases hjn : j < n
    ·go_wp2_with fail
     go_loopw [10, 7] (fun i ov wr => ∃ (i' : Nat) (st : Rels × List Stp), i' ≤ j ∧ i = .int .i64 i' ∧ st = doI s j n i' st1 ∧ MpR s n B1 eB b o T0 w3 st ov wr) (fun i _ _ => j - (intOf i).toNat)
     case atStart => exact ⟨0, st1, by omega, rfl, by simp [doI], HM1.out⟩
     case round =>
      obtain ⟨i, st2, hi, rfl, hst2, hm2⟩ := hrel
      obtain ⟨wc, rfl⟩ : ∃ wc : World, wc = wr := ⟨_, rfl⟩
      have HM2 := Lib.hid hm2
      have HS2 := Lib.hid hst2
      clear hm2 hst2
      by_cases hij : i < j
      ·go_wp2_with fail
       go_loopw [11, 7] (fun i'' ov wr => ∃ (k : Nat) (st : Rels × List Stp), k ≤ n ∧ i'' = .int .i64 k ∧ st = doK s i j k st2 ∧ MpR s n B1 eB b o T0 w3 st ov wr) (fun i _ _ => n - (intOf i).toNat)
       case atStart => exact ⟨0, st2, by omega, rfl, by simp [doK], HM2.out⟩
       case round =>
        obtain ⟨k, st3, hk, rfl, hst3, hm3⟩ := hrel
        obtain ⟨wd, rfl⟩ : ∃ wd : World, wd = wr := ⟨_, rfl⟩
        have HM3 := Lib.hid hm3
        have HS3 := Lib.hid hst3
        have x2 := (cellB HM3.out.2.2.2.2.1 hbx).trans x0
        clear hm3 hst3
        by_cases hkn : k < n
        ·have hlc : st3.1.length = m := HM3.out.2.1.1.trans (HST1.out.1.symm.trans hs00)
         have hpx : pxN i j < m := by rw [← hlc]; exact HM3.out.2.1.at hij hjn
         have hB := HB.out (by omega)
         have HAD : Hid (ad = some ⟨b, o, none⟩) := hB.1
         have hbb : B1 ≤ b ∧ b < eB := ⟨hB.2.1, hB.2.2.1⟩
         have hzd := HM3.out.2.2.2.2.2
         have t3 := (cellB HM3.out.2.2.2.2.1 hbt).trans t0
         have HLC := Lib.hid hlc
         clear hB hlc
         by_cases hki : k = i
         ·have HSS : Hid (st3 = doK s i j (k + 1) st2) := by unfold Hid; rw [doK_succ, ← HS3.out, prs_no (by simp [hki])]
          have hki' : (k : Int) = (i : Int) := by omega
          go_wp2_with fail
          go_roundw
          case rel => exact ⟨k + 1, st3, by omega, by go_num, HSS.out, HM3.out⟩
          case measure => simp [intOf]; omega
         ·have hki' : ¬ ((k : Int) = (i : Int)) := by omega
          by_cases hkj : k = j
          ·have HSS : Hid (st3 = doK s i j (k + 1) st2) := by unfold Hid; rw [doK_succ, ← HS3.out, prs_no (by simp [hkj])]
           have hnei : ((k : Int) != (i : Int)) = true := by simp [hki']
           have hnej : ((k : Int) != (j : Int)) = false := by simp [hkj]
           clear hkj hki hki'
           go_wp2_with fail
           go_roundw
           case rel => exact ⟨k + 1, st3, by omega, by go_num, HSS.out, HM3.out⟩
           case measure => simp [intOf]; omega
          ·have hkj' : ¬ ((k : Int) = (j : Int)) := by omega
           have hnei : ((k : Int) != (i : Int)) = true := by simp [hki']
           have hnej : ((k : Int) != (j : Int)) = true := by simp [hkj']
           have HKI := Lib.hid hki
           have HKJ := Lib.hid hkj
           clear hki' hkj' hki hkj
           go_wp2_with fail
           clear x2
           refine (HTHR.out _ wd (fun q hq e => by have := HM3.out.2.2.1.own_lt e; omega) HAD.out (HM3.out.1 (by have := HLC.out; omega)) HLC.out HM3.out.2.1 hs (by omega) hij hjn hkn HKI.out HKJ.out).mono ?_
           rintro e wf ⟨rfl, hPR, htf⟩
           have hzf := htf.size
           obtain ⟨hMf, hTf⟩ := MpR.nw (P := st3.1) (S := st3.2) HM3.out hPR htf hij hjn hbb.1 hbb.2 (by omega)
           have HMf := Lib.hid hMf
           clear hMf hPR htf t3
           cases hnb : nwB s st3.1 i j k
           ·have HSS : Hid (st3 = doK s i j (k + 1) st2) := by unfold Hid; rw [doK_succ, ← HS3.out, prs_same (e := (i, j, k)) hnb]
            have hsm := nw_same HM3.out.2.1 hij hjn hnb
            have HMg := Lib.hid (HMf.out.same hsm)
            clear hsm
            go_wp2_with fail
            go_roundw
            case rel => exact ⟨k + 1, st3, by omega, by go_num, HSS.out, HMg.out⟩
            case measure => simp [intOf]; omega
           ·have HSS : Hid ((nwV s st3.1 i j k, st3.2 ++ [(i, j, k)]) = doK s i j (k + 1) st2) := by unfold Hid; rw [doK_succ, ← HS3.out, prs_yes (e := (i, j, k)) ⟨HKI.out, HKJ.out⟩ hnb]
            have HT := Lib.hid (hTf hnb)
            clear hTf
            go_wp2_with (refine wpList_push (E := pstT) _ rfl _ _ 34 52 rfl elPst rfl (HMf.out.2.2.1.below bA (Nat.le_refl _)) rfl (news3' rfl) (fr_pst (i := i) (j := j) (k := k) (by omega) (by omega) (by omega)) (by rw [List.length_map]; have := HT.out; show st3.2.length ≤ _; omega) (by decide) (by omega) (by first | (simp; done) | (simp; omega)) ?_; intro v5 w5 hB5 hg5 hown; have HM5 := Lib.hid (HMf.out.push HT.out bA hg5 hB5 hown hbb.2 (by omega) (by omega)); clear hB5 hg5 hown)
            go_roundw
            case rel => exact ⟨k + 1, (nwV s st3.1 i j k, st3.2 ++ [(i, j, k)]), by omega, by go_num, HSS.out, HM5.out⟩
            case measure => simp [intOf]; omega
        ·obtain rfl : k = n := by omega
         go_wp2_with fail
         go_roundw
         case rel => exact ⟨i + 1, st3, by omega, by go_num, by rw [doI_succ, ← HS2.out, HS3.out], HM3.out⟩
         case measure => simp [intOf]; omega
      ·obtain rfl : i = j := by omega
       go_wp2_with fail
       go_roundw
       case rel => exact ⟨i + 1, st2, by omega, by omega, by go_num, by rw [doJ_succ, ← HS1.out, HS2.out], HM2.out⟩
       case measure => simp [intOf]; omega
    ·obtain rfl : j = n := by omega
     have hsw : st1 = doJ s j j cur := HS1.out
     have hg0 := HC1.out.2
     have HEND : Hid ((cur.2.length : Int) ≠ (st1.2.length : Int) → mkP s j st1 = mkP s j st0 ∧ totP st1.1 < gk - 1) := fun hne => by
      have hmore := mkP_more (s := s) HMP.out.2.1.1 (by rw [← hsw]; omega)
      rw [← hsw] at hmore
      exact ⟨hmore.1.symm.trans HC1.out.1, by omega⟩
     have HEND2 : Hid ((cur.2.length : Int) = (st1.2.length : Int) → st1 = mkP s j st0) := fun he => by
      rw [← HC1.out.1, mkP_end (by rw [← hsw]; omega)]
      exact hsw
     clear hsw
     go_wp2_with fail
     go_roundg (gk - 1)
     case measure => omega
     case rel => exact ⟨st1, (cur.2.length : Int), rfl, HM1.out, HEND.out, HEND2.out⟩
end Go.Proofs.YtmnjlhcbabhhlaaGreat
namespace Go.Proofs.YtmnjlhcbabhhlaaGreat
open Go.RowKit Go.Sort
set_option maxHeartbeats 1600000 in
set_option maxRecDepth 100000 in
theorem specMakePairs_any (hthr : ThrC) (w : World) {cs cs' : Array Value} {t : Int × List (Int × List (List Int))} {x : Int × List (Int × List Int)} (h : tplT.Rd w cs.toList t) (h' : instT.Rd w cs'.toList x) (hok : instOk t x) :
  Calls Tryz.prog 8 #[.agg cs, .agg cs'] w (MkRC w (mkpV t x).1 (mkpV t x).2) := by
 have HTHR : Hid ThrC := hthr
 have p0 : tplT.Pt ((w.alloc (.cells cs 26)).alloc (.cells cs' 29)) (.pointer (some ⟨w.heap.size, 0, none⟩)) t := (pt_box h).below bA
 have p1 : instT.Pt ((w.alloc (.cells cs 26)).alloc (.cells cs' 29)) (.pointer (some ⟨w.heap.size + 1, 0, none⟩)) x := by
  simpa using pt_box (T := 29) (h'.below (bA (o := .cells cs 26)))
 obtain ⟨v1, hv, hI, -⟩ := pair_ex h
 obtain rfl := agg_of hv
 obtain ⟨v2, hv', hI', -⟩ := pair_ex h'
 obtain rfl := agg_of hv'
 have HOK := Lib.hid hok
 have HIO : Hid (tb (instOk t x) = true) := tb_true hok
 have hs := hok.1.1
 unfold sizeOk at hs
 have hx1 := hok.2.1
 have HS := Lib.hid hok.1.1
 obtain ⟨n, hn⟩ : ∃ n : Nat, x.1 = n := ⟨x.1.toNat, by omega⟩
 have hN16 : (t.1 ^ 2).toNat ≤ 16 := by
  have : t.1 * t.1 ≤ 4 * 4 := Int.mul_le_mul hs.2 hs.2 (by omega) (by omega)
  rw [Int.pow_succ, Int.pow_succ, Int.pow_zero, Int.one_mul]
  omega
 have HN : Hid (t.1 ^ 2 = ((t.1 ^ 2).toNat : Int)) := by unfold Hid; have := pow_nn (s := t.1) (by omega) 2; omega
 have HXN : Hid (x.1 = (n : Int)) := hn
 have hxn : x.1.toNat = n := by omega
 have HV : Hid (mkpV t x = mkP t.1 n (allP t x (t.1 ^ 2).toNat n, [])) := by unfold Hid mkpV; rw [hxn]
 have HXT := Lib.hid hxn
 generalize (t.1 ^ 2).toNat = N at *
 rw [hn] at hx1
 clear h hv h' hv' hok hn hxn hthr
 go_enter Tryz.func8, Tryz.ntmps8
 go_wp2_with fail
 generalize hW : World.alloc (World.alloc _ _) _ = W at p0 p1 ⊢
 have hbW : Below w.heap.size w W := hW ▸ bAA
 have hsW : w.heap.size + 2 ≤ W.heap.size := by rw [← hW]; simp
 have t0 : W.cell? ⟨w.heap.size, 0, none⟩ = some (.int .i64 t.1) := by rw [← hW]; simp [go_sem]
 have x0 : W.cell? ⟨w.heap.size + 1, 0, none⟩ = some (.int .i64 (n : Int)) := by rw [← hW, ← HXN.out]; simp [go_sem]
 clear hW
 refine (l05Ok_quiet _ p0 p1).mono ?_
 rintro e w1 ⟨rfl, hq1⟩
 have hb1 := hq1.below
 have hz1 := hb1.size
 have hB1 := bthen hbW hb1
 have hl0 := cell_lt t0
 have hl1 := cell_lt x0
 replace t0 := (cellB hb1 (by omega)).trans t0
 replace x0 := (cellB hb1 (by omega)).trans x0
 rw [HIO.out]
 clear hq1
 go_wp2_with fail
 refine (l05First_any _ (p0.below hb1) (p1.below hb1) HOK.out N HN.out).mono ?_
 rintro e w2 ⟨u, rfl, hf2, hb2⟩
 rw [HXT.out] at hf2
 have hz2 := hb2.size
 obtain ⟨ad, c, hu, hc1, hc2, hex⟩ := Ty.slice_ex hf2.rd
 obtain rfl : u = _ := by simpa using hu
 obtain ⟨b, o, hB0⟩ : ∃ b o, 0 < (allP t x N n).length → ad = some ⟨b, o, none⟩ ∧ w.heap.size + 2 ≤ b ∧ PR (fun _ => True) w2 b o (allP t x N n) := by
  by_cases hp : 0 < (allP t x N n).length
  ·obtain ⟨b, o, rfl, hb, -⟩ := hex hp
   exact ⟨b, o, fun _ => ⟨rfl, by have := (pr_of_fr hf2 hp).1; omega, (pr_of_fr hf2 hp).2.mono fun _ _ _ => trivial⟩⟩
  ·exact ⟨0, 0, fun h => absurd h hp⟩
 clear hex
 generalize hm : (allP t x N n).length = m at hB0 hc1 hc2 ⊢
 have HB := Lib.hid hB0
 have HM := Lib.hid hm
 have HC := Lib.hid (And.intro hc1 hc2)
 replace t0 := (cellB hb2 (by omega)).trans t0
 replace x0 := (cellB hb2 (by omega)).trans x0
 have hbw2 := bthen hB1 hb2
 clear hB0 hf2 hu hm hc1 hc2 p0 p1 hB1 hbW hb1 hb2
 go_wp2_with fail
 refine (l05Pairs_any HTHR.out w2 (s := t.1) (n := n) (T0 := 1600) (B1 := w.heap.size + 2) (P0 := allP t x N n) (b := b) (o := o) t0 x0 (by omega) (by omega) (by omega) hs (by omega) HB.out HM.out (allP_ok HS.out HN.out) (allP_tot hN16 (by omega)) (by omega)).mono ?_
 rintro e w3 ⟨ov, rfl, g1, g2, g3, hb3⟩
 rw [← HV.out] at g1 g2 g3
 have HG1 := Lib.hid g1
 have HG2 := Lib.hid g2
 have HG3 := Lib.hid g3
 have hbw3 := hbw2.trans (hb3.mono (by omega))
 clear g1 g2 g3
 go_wp2_with fail
 go_ret3
 have hlc : (mkpV t x).1.length = m := HG2.out.1.trans ((allP_ok (x := x) (n := n) HS.out HN.out).1.symm.trans HM.out)
 exact ⟨ad, c, ov, by rw [hlc]; rfl, by rw [hlc]; exact pr_rd hlc HC.out.1 HC.out.2 (fun hp => (HB.out hp).1) HG1.out, HG3.out.mono (by omega), hbw3⟩
end Go.Proofs.YtmnjlhcbabhhlaaGreat
