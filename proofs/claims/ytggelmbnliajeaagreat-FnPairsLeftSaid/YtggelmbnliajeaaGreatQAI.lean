/-
Contracts: a relation and a template that are drawn, seldom ones that are not valid.
Contracts: a template that is drawn, seldom one that is not valid.
Contracts: a template and an instance that are drawn, seldom ones that are not valid.
-/
import Derived.Test.YtggelmbnliajeaaGreatQAH
import Derived.Test.YtggelmbnliajeaaGreatQAE
import Derived.Deep.LoopGhost
import Derived.Test.YtggelmbnliajeaaGreatQAG
namespace Go.Proofs.YtggelmbnliajeaaGreat
open Go.RowKit Go.Sort
/-- a number and a relation come back -/
def BnR (sb B : Nat) (K : Int) (w : World) (en : Ending) (w' : World) : Prop := ∃ (sz : Int) (cs : List Value) (r : Int × List (List Int)), en = .returned (.tuple #[.int .i64 sz, .agg cs.toArray]) ∧ relT.Fr w.heap.size w' cs r ∧ SrcR sb B K w' ∧ TchP (fun q => q = sb) w w'
/-- what a drawn relation is behind the changes -/
def BnS (sb B : Nat) (K : Int) (w : World) (b0 g : Nat) (wv : World) : Prop := ∃ (n : Int) (a : Option Addr) (m c : Nat) (T : List (List Int)), wv.cell? ⟨g, 0, none⟩ = some (.int .i64 n) ∧ wv.cell? ⟨g, 1, none⟩ = some (.slice a m c) ∧ relT.Fr b0 wv [.int .i64 n, .slice a m c] (n, T) ∧ ResB w.heap.size wv ∧ SrcR sb B (K + 299) wv ∧ TchP (fun q => q = sb) w wv
theorem fra_of_off {α : Type} {E : Ty α} {e base top g : Nat} {w : World} {v : Value} {ys : List α} (h : Bl (E.off g) e base top w v ys) (hown : v.ownBlock ≠ some g) (hl : ys.length ≤ capMax) : FrA (Ty.slice E) g base w [v] ys := by
 obtain ⟨fp, h1, h2, h3, h4⟩ := h.fr hl
 obtain ⟨ad, cap, hv, h5, h6, h7⟩ := h1
 obtain rfl : v = _ := by simpa using hv
 refine ⟨fp, ⟨ad, cap, rfl, h5, h6, ?_⟩, h2, h3, h4, ?_⟩
 ·rcases h7 with h7 | ⟨h7, b, o, fps, rfl, hb, rfl, h8⟩
  ·exact .inl h7
  ·exact .inr ⟨h7, b, o, fps, rfl, hb, rfl, fun i hi => let ⟨cs, g1, g2⟩ := h8 i hi; ⟨cs, g1.1, g2⟩⟩
 ·rcases h7 with ⟨_, rfl⟩ | ⟨h7, b, o, fps, rfl, hb, rfl, h8⟩
  ·simp
  ·intro hm
   rcases List.mem_cons.1 hm with e1 | hm
   ·subst e1; exact hown rfl
   ·obtain ⟨i, hi, hk⟩ := List.mem_flatMap.1 hm
    obtain ⟨cs, g1, g2⟩ := h8 i (by simpa using hi)
    exact g1.2 hk
/-- the first number of the first row is written -/
theorem rows_put00 {base g : Nat} {w : World} {v : Value} {T : List (List Int)} (h : FrA rowsT g base w [v] T) (h0 : 0 < T.length) (h1 : 0 < (T[0]).length) :
  ∃ b o cap b' o' cap', v = .slice (some ⟨b, o, none⟩) T.length cap ∧ w.cell? ⟨b, o, none⟩ = some (.slice (some ⟨b', o', none⟩) (T[0]).length cap') ∧ (∃ u, w.cell? ⟨b', o', none⟩ = some u) ∧ w.frozen? ⟨b', o', none⟩ = false ∧ base ≤ b' ∧ b' < w.heap.size ∧ base ≤ b ∧ b' ≠ g ∧
   ∀ n, I64 n → rowsT.Fr base (w.setCell ⟨b', o', none⟩ (.int .i64 n)) [v] (T.set 0 ((T[0]).set 0 n)) := by
 obtain ⟨fp, h2, h3, h4, h5, h6⟩ := h
 obtain ⟨b, o, cap, u, f, rfl, hb, hc, hr, hn, hu, hput⟩ := rows_mark h2 h3 h5 h0
 obtain ⟨b', o', cap', rfl, hb', hc', hf', hp'⟩ := ints_mark hr hn hu h1
 have hmem : b' ∈ fp := by
  obtain ⟨_, _, _, fps, e1, _, e2, e3, _⟩ := sl_open h2 h0
  simp only [Value.slice.injEq, Option.some.injEq, Addr.mk.injEq, and_true, true_and] at e1
  obtain ⟨⟨rfl, rfl⟩, rfl⟩ := e1
  obtain ⟨cs, g1, g2⟩ := e3 0 h0
  obtain ⟨ad, cp, rfl, _, _, g3⟩ := g1
  have g4 := g2 0 (by simp)
  simp only [Nat.zero_mul, Nat.add_zero, List.getElem_cons_zero] at g4 hc
  rw [hc] at g4
  simp only [Option.some.injEq, Value.slice.injEq, true_and] at g4
  rcases g3 with ⟨g3, _⟩ | ⟨_, b2, o2, fps2, g5, _, g6, _⟩
  ·omega
  ·rw [← g4.1] at g5
   simp only [Option.some.injEq, Addr.mk.injEq, and_true] at g5
   rw [e2]
   refine List.mem_cons_of_mem _ (List.mem_flatMap.2 ⟨0, by simpa using h0, ?_⟩)
   rw [g6, g5.1]
   exact List.mem_cons_self ..
 have hmem2 : b ∈ fp := by
  obtain ⟨_, _, _, fps, e1, _, e2, _, _⟩ := sl_open h2 h0
  simp only [Value.slice.injEq, Option.some.injEq, Addr.mk.injEq, and_true, true_and] at e1
  obtain ⟨⟨rfl, rfl⟩, rfl⟩ := e1
  rw [e2]
  exact List.mem_cons_self ..
 refine ⟨b, o, cap, b', o', cap', rfl, by simpa using hc, ⟨_, by simpa using hc'⟩, by simpa using hf', h4 _ hmem, hb', h4 _ hmem2, fun e => h6 (e ▸ hmem), fun n hI => ?_⟩
 obtain ⟨q1, q2, q3⟩ := hp' n hI
 simp only [Nat.add_zero] at q1 q2 q3
 obtain ⟨z1, z2, z3⟩ := hput _ _ q3 q1 q2
 exact ⟨fp, z1, h3, h4, z2⟩
set_option maxHeartbeats 6400000 in
set_option maxRecDepth 100000 in
theorem l01Bent_any (w : World) {sb B : Nat} {K : Int} (h : SrcR sb B K w) (hK0 : 0 ≤ K) (hK : K ≤ 1000000) :
  Calls Tryz.prog 95 #[.pointer (some ⟨sb, 0, none⟩)] w (BnR sb B (K + 300) w) := by
 have H := Lib.hid h
 have hsb := h.lt
 have hBs : B ≤ sb := let ⟨_, _, _, _, _, _, _, _, _, _, _, _, _, _, h⟩ := h; h
 clear h
 go_enter Tryz.func95, Tryz.ntmps95
 go_wp2_with fail
 generalize hW : World.alloc w _ = W
 have hbW : Below w.heap.size w W := hW ▸ bA
 have hsW : w.heap.size + 1 = W.heap.size := by rw [← hW]; simp
 have HR : Hid (ResB w.heap.size W) := by
  rw [← hW]
  exact ResB.new rfl rfl
 have HS := Lib.hid (H.out.below hbW)
 clear hW
 refine (l01SizeDrawn_any W HS.out hK0 (by omega)).mono ?_
 rintro e w2 ⟨s, rfl, hs0, hs1, hs2, ht2⟩
 have hz2 := ht2.size
 replace HR := Lib.hid (HR.out.tch ht2 (by omega))
 replace HS := Lib.hid hs2
 have HT := Lib.hid ((TchP.of_below hbW (fun q => q = sb)).then ht2 (fun q _ h => h))
 clear hs2 ht2
 go_wp2_with fail
 refine (l01Any_any w2 HS.out (by omega) (by omega) ⟨hs0, hs1⟩).mono ?_
 rintro e w3 ⟨v, n, T, b0, rfl, hI, hb0, hb1, hB, hTl, hq, hs3, ht3⟩
 obtain ⟨ta, tn, tc, rfl⟩ := ex_slice (hB.fr (by unfold capMax; omega))
 have hz3 := ht3.size
 replace HR := Lib.hid (HR.out.tch ht3 (by omega))
 replace HS := Lib.hid hs3
 replace HT := Lib.hid (HT.out.then ht3 (fun q _ h => h))
 have HB := Lib.hid hB
 have HQ := Lib.hid hq.1
 have hn3 : 1 ≤ n ∧ n ≤ 3 := ⟨hq.1.2.1.1, hq.2⟩
 clear hs3 ht3 hB hq hI
 go_wp2_with fail
 generalize hW4 : World.alloc w3 _ = w4
 have hb4 : Below w3.heap.size w3 w4 := hW4 ▸ bA
 have HD : Hid (DrS intsT 50 sb w b0 w3.heap.size (w3.heap.size + 1) n (.slice ta tn tc) T w4) := DrS.box hW4.symm rfl HB.out hb1 (by omega) hsb
 clear hW4 HB
 replace HR := Lib.hid (HR.out.below hb4 HR.out.1)
 replace HS := Lib.hid (HS.out.below hb4)
 replace HT := Lib.hid (tchW HT.out hb4 (by omega))
 have hz4 : w3.heap.size + 1 ≤ w4.heap.size := HD.out.le
 generalize w3.heap.size = g at *
 refine (pick_any w4 HS.out (by omega) (by omega) (n := 24) (by omega)).mono ?_
 rintro e w5 ⟨x, rfl, hx0, hx1, hs5, ht5⟩
 have hz5 := ht5.size
 replace HR := Lib.hid (HR.out.tch ht5 (by omega))
 replace HD := Lib.hid (HD.out.tch ht5)
 replace HS := Lib.hid hs5
 replace HT := Lib.hid (HT.out.then ht5 (fun q _ h => h))
 clear hs5 ht5
 have c0 := HD.out.c0
 have c1 := HD.out.c1
 have m0 := HD.out.m0
 have m1 := HD.out.m1
 have hgw : w.heap.size + 1 ≤ b0 := by omega
 have hIn : I64 n := I64.small (by omega) (by omega)
 rcases (show x = 0 ∨ x = 1 ∨ x = 2 ∨ x = 3 ∨ (x ≠ 0 ∧ x ≠ 1 ∧ x ≠ 2 ∧ x ≠ 3) by omega) with rfl | rfl | rfl | rfl | hx
 rotate_left 4
 focus
  have e0 : (x == 0) = false := beq_eq_false_iff_ne.2 hx.1
  have e1 : (x == 1) = false := beq_eq_false_iff_ne.2 hx.2.1
  have e2 : (x == 2) = false := beq_eq_false_iff_ne.2 hx.2.2.1
  have e3 : (x == 3) = false := beq_eq_false_iff_ne.2 hx.2.2.2
  clear hx
  go_wp2_with fail
  have HX : Hid (BnS sb B K w b0 g w5) := ⟨n, ta, tn, tc, T, c0, c1, fr_cons hIn ((off_bl HD.out.bl).fr (by unfold capMax; omega)), HR.out, HS.out.mono (by omega), HT.out⟩
  obtain ⟨wv, rfl⟩ : ∃ wv : World, wv = w5 := ⟨_, rfl⟩
 rotate_left
 focus -- another size
  go_wp2_with fail
  generalize hW6 : World.alloc w5 _ = w6
  have hb6 : Below w5.heap.size w5 w6 := hW6 ▸ bA
  have HL : Hid (intsT.Fr w5.heap.size w6 [.slice (some ⟨w5.heap.size, 0, none⟩) 4 4] [0, 5, -1, 1]) := by
   rw [← hW6]
   exact fr_intsL rfl rfl (fun a ha => by simp at ha; unfold I64; omega) rfl (Nat.le_refl _) (by decide)
  clear hW6
  refine (among_any w6 (HS.out.below hb6) (by omega) (by omega) HL.out.rd (by simp) (rdP_fr' HL.out (by omega))).mono ?_
  rintro e w7 ⟨p, -, rfl, hs7, ht7⟩
  have HX : Hid (BnS sb B K w b0 g w7) := by
   have HD7 := (HD.out.below hb6 HD.out.le).tch ht7
   exact ⟨n, ta, tn, tc, T, HD7.c0, HD7.c1, fr_cons hIn ((off_bl HD7.bl).fr (by unfold capMax; omega)), (HR.out.below hb6 HR.out.1).tch ht7 (by omega), hs7.mono (by omega), (tchW HT.out hb6 (by omega)).then ht7 (fun q _ h => h)⟩
  clear hs7 ht7 HL c0 c1 m0 m1
  go_wp2_with fail
  obtain ⟨wv, rfl⟩ : ∃ wv : World, wv = w7 := ⟨_, rfl⟩
 rotate_left
 focus -- another arity
  go_wp2_with fail
  generalize hW6 : World.alloc w5 _ = w6
  have hb6 : Below w5.heap.size w5 w6 := hW6 ▸ bA
  have HL : Hid (intsT.Fr w5.heap.size w6 [.slice (some ⟨w5.heap.size, 0, none⟩) 3 3] [0, 5, n + 1]) := by
   rw [← hW6]
   exact fr_intsL rfl rfl (fun a ha => by simp at ha; unfold I64; omega) rfl (Nat.le_refl _) (by decide)
  clear hW6
  refine (among_any w6 (HS.out.below hb6) (by omega) (by omega) HL.out.rd (by simp) (rdP_fr' HL.out (by omega))).mono ?_
  rintro e w7 ⟨p, hp, rfl, hs7, ht7⟩
  have hIp : I64 p := by simp at hp; unfold I64; omega
  have HD7 := Lib.hid ((HD.out.below hb6 HD.out.le).tch ht7)
  replace c0 := HD7.out.c0
  replace m0 := HD7.out.m0
  have HX : Hid (BnS sb B K w b0 g (w7.setCell ⟨g, 0, none⟩ (.int .i64 p))) := by
   have HD8 := HD7.out.num p
   exact ⟨p, ta, tn, tc, T, HD8.c0, HD8.c1, fr_cons hIp ((off_bl HD8.bl).fr (by unfold capMax; omega)), ((HR.out.below hb6 HR.out.1).tch ht7 (by omega)).other (by omega), (srcS hs7 (by omega) (by omega)).mono (by omega), tchS ((tchW HT.out hb6 (by omega)).then ht7 (fun q _ h => h)) (by omega)⟩
  clear hs7 ht7 HL c1 m1 HD7 hp
  go_wp2_with fail
  generalize w7.setCell ⟨g, 0, none⟩ (.int .i64 p) = wv at HX ⊢
 rotate_left
 focus -- one more row
  go_wp2_with (refine wpList_push (E := intsT.off g) _ rfl _ _ 41 50 rfl elSS rfl ((HD.out.bl.mono (show g + 1 ≤ w5.heap.size by omega)).below (bAA (w := w5)) (Nat.le_refl _)) rfl (news1' (by simp)) (fr_off ((fr_intsL (base := w5.heap.size) (xs := [0, 0]) rfl rfl (fun a ha => by simp at ha; unfold I64; omega) rfl (Nat.le_refl _) (by decide)).below bA) (by omega)) (by omega) (by decide) (by omega) (by first | (simp; done) | (simp; omega)) ?_; intro v6 w6 hB6 hg6 hown6; obtain ⟨a6, n6, c6, rfl⟩ := ex_slice (hB6.fr (by rw [List.length_append]; unfold capMax; simp only [List.length_singleton]; omega)); obtain ⟨k1, km⟩ := (HD.out.below (bAA (w := w5)) HD.out.le).cells hg6)
  have hrow : ∀ b, (Value.slice ta tn tc).ownBlock = some b → b0 ≤ b := fun b hb => HD.out.bl.own hb
  have hrow2 : ∀ b, (Value.slice ta tn tc).ownBlock = some b → b ≠ w.heap.size := fun b hb => by have := hrow b hb; omega
  have HX : Hid (BnS sb B K w b0 g (w6.setCell ⟨g, 1, none⟩ (.slice a6 n6 c6))) := by
   have HD8 := (HD.out.below (bAA (w := w5)) HD.out.le).row hB6 hg6 hown6
   exact ⟨n, a6, n6, c6, _, HD8.c0, HD8.c1, fr_cons hIn ((off_bl HD8.bl).fr (by rw [List.length_append]; unfold capMax; simp only [List.length_singleton]; omega)), ((HR.out.below (bAA (w := w5)) HR.out.1).grown hg6 (fun e => hrow2 _ e rfl)).other (by omega), (srcS (srcG (HS.out.below (bAA (w := w5))) hg6 (fun b hb => by have := hrow b hb; omega)) (by omega) (by omega)).mono (by omega), tchS (tchG (tchW HT.out (bAA (w := w5)) (by omega)) hg6 (fun b hb => by have := hrow b hb; omega)) (by omega)⟩
  clear hrow hrow2 hB6 hg6 hown6 c0 c1 m0 m1
  go_wp2_with fail
  generalize w6.setCell ⟨g, 1, none⟩ (.slice a6 n6 c6) = wv at HX ⊢
 rotate_left
 focus -- the first number
  have HF := Lib.hid ((off_bl HD.out.bl).fr (by unfold capMax; omega))
  rcases Nat.eq_zero_or_pos T.length with h0 | h0
  focus
   obtain rfl := List.eq_nil_of_length_eq_zero h0
   obtain ⟨ad, cap, hv⟩ := fr_slice HF.out
   simp only [Value.slice.injEq, List.length_nil] at hv
   obtain ⟨rfl, rfl, rfl⟩ := hv
   clear h0
   have HX : Hid (BnS sb B K w b0 g w5) := ⟨n, ta, 0, tc, [], c0, c1, fr_cons hIn HF.out, HR.out, HS.out.mono (by omega), HT.out⟩
   go_wp2_with fail
   obtain ⟨wv, rfl⟩ : ∃ wv : World, wv = w5 := ⟨_, rfl⟩
  rotate_left
  focus
   have hr0 := (HQ.out.2.2 0 h0).1.1
   have hT0 : 0 < (T[0]).length := by simp only at hr0; omega
   obtain ⟨b, o, cap, b', o', cap', hv, p0, ⟨u', p1⟩, p2, hb', hbl', hbb, hbg, hput⟩ := rows_put00 (fra_of_off HD.out.bl HD.out.own (by unfold capMax; omega)) h0 hT0
   simp only [Value.slice.injEq] at hv
   obtain ⟨rfl, rfl, rfl⟩ := hv
   have HPUT := Lib.hid hput
   have hTI : (0 : Int) < (T.length : Int) := by omega
   clear hput hr0
   have hv0 : Below w5.heap.size w5 w5.drew := bD
   go_wp2_with fail
   refine wp_region_T (fun w' => w'.cell? ⟨g, 1, none⟩ = some (.slice (some ⟨b, o, none⟩) T.length tc) ∧ w'.cell? ⟨b, o, none⟩ = some (.slice (some ⟨b', o', none⟩) (T[0]).length cap')) [9] (by kernel_rfl) ⟨c1, p0⟩ (fun hHeld => ?_)
   refine wpAnyT_take (i := 0) (v := ?_) rfl (by kernel_rfl) (fun _ _ _ h => h) (Or.inl ⟨by rfl, ?_⟩) (by assumption) ?_
   rotate_left
   ·(intro w hSw; (try dsimp only at hSw); go_simp <;> with_reducible rfl)
   go_simp
   refine wpAnyT_take (i := 1) (v := ?_) rfl (by kernel_rfl) (fun _ _ _ h => h) (Or.inl ⟨by rfl, ?_⟩) (by assumption) ?_
   rotate_left
   ·(intro w hSw; (try dsimp only at hSw); go_simp <;> with_reducible rfl)
   go_simp
   refine wpAnyT_take (i := 2) (v := ?_) rfl (by kernel_rfl) (fun _ _ _ h => h) (Or.inl ⟨by rfl, ?_⟩) (by assumption) ?_
   rotate_left
   ·(intro w hSw; (try dsimp only at hSw); go_simp <;> with_reducible rfl)
   go_simp
   refine wpAnyT_take (i := 3) (v := ?_) rfl (by kernel_rfl) (fun _ _ _ h => h) (Or.inl ⟨by rfl, ?_⟩) (by assumption) ?_
   rotate_left
   ·(intro w hSw; (try dsimp only at hSw); go_simp <;> with_reducible rfl)
   go_simp
   refine wpAnyT_take (i := 4) (v := ?_) rfl (by kernel_rfl) (fun _ _ _ h => h) (Or.inl ⟨by rfl, ?_⟩) (by assumption) ?_
   rotate_left
   ·(intro w hSw; (try dsimp only at hSw); go_simp <;> with_reducible rfl)
   go_simp
   refine wpAnyT_take (i := 5) (v := ?_) rfl (by kernel_rfl) (fun _ _ _ h => h) (Or.inl ⟨by rfl, ?_⟩) (by assumption) ?_
   rotate_left
   ·(intro w hSw; (try dsimp only at hSw); go_simp <;> with_reducible rfl)
   go_simp
   have hbl : b < w5.heap.size := cell_lt p0
   replace HD := Lib.hid (HD.out.below hv0 HD.out.le)
   replace HR := Lib.hid (HR.out.below hv0 HR.out.1)
   replace HS := Lib.hid (HS.out.below hv0)
   replace HT := Lib.hid (tchW HT.out hv0 (by omega))
   replace p0 := (cellB hv0 hbl).trans p0
   have hz0 := hv0.size
   clear c0 c1 m0 m1 HPUT p1 p2 HF hv0
   generalize w5.drew = x0 at *
   refine wpAnyT_one (i := 6) rfl (by kernel_rfl) (fun K' hK' => ?_)
   go_simp
   generalize hWx : World.alloc x0 _ = x1
   have hb1 : Below x0.heap.size x0 x1 := by rw [← hWx]; exact bA
   have HL : Hid (intsT.Fr x0.heap.size x1 [.slice (some ⟨x0.heap.size, 0, none⟩) 2 2] [-1, s]) := by
    rw [← hWx]
    exact fr_intsL rfl rfl (fun a ha => by simp at ha; unfold I64; omega) rfl (Nat.le_refl _) (by decide)
   clear hWx
   have hz1 := hb1.size
   replace HD := Lib.hid (HD.out.below hb1 HD.out.le)
   replace HR := Lib.hid (HR.out.below hb1 HR.out.1)
   replace HS := Lib.hid (HS.out.below hb1)
   replace HT := Lib.hid (tchW HT.out hb1 (by omega))
   replace p0 := (cellB hb1 (by omega)).trans p0
   refine hK'.out _ _ ⟨HD.out.c1, p0⟩ (fun hHeld => ?_)
   clear hK' K'
   refine wpAnyT_one (i := 7) rfl (by kernel_rfl) (fun K' hK' => ?_)
   go_simp
   go_at_call 68
   refine (among_any x1 HS.out (by omega) (by omega) HL.out.rd (by simp) (rdP_fr' HL.out (by omega))).mono ?_
   rintro e x2 ⟨p, hp, rfl, hs2, ht2⟩
   have hIp : I64 p := by simp at hp; unfold I64; omega
   have hz2' := ht2.size
   replace HD := Lib.hid (HD.out.tch ht2)
   replace HR := Lib.hid (HR.out.tch ht2 (by omega))
   replace HS := Lib.hid hs2
   replace HT := Lib.hid (HT.out.then ht2 (fun q _ h => h))
   replace p0 := (ht2.cell (by omega) (by omega)).trans p0
   clear hp hs2 ht2 HL
   dsimp only
   refine hK'.out _ _ ⟨HD.out.c1, p0⟩ (fun hHeld => ?_)
   clear hK' K'
   refine wpAnyT_any (i := 8) (v := ?_) rfl (by kernel_rfl) (fun _ _ _ h => h) (Or.inl ⟨by rfl, ?_⟩) (by first | exact fun _ => by assumption | (intro hp; exact absurd hp (by rw [show pastB _ _ = true by kernel_rfl]; simp))) ?_
   rotate_left
   ·(intro w hSw; (try dsimp only at hSw); go_simp <;> with_reducible rfl)
   try simp only [Act.put]
   obtain ⟨b2, o2, cap2, b3, o3, cap3, hv2, p3, ⟨u4, p4⟩, p5, hb3, hbl3, hbb3, hbg3, hput3⟩ := rows_put00 (fra_of_off HD.out.bl HD.out.own (by unfold capMax; omega)) h0 (by omega)
   simp only [Value.slice.injEq, Option.some.injEq, Addr.mk.injEq, and_true, true_and] at hv2
   obtain ⟨⟨rfl, rfl⟩, rfl⟩ := hv2
   rw [p0] at p3
   simp only [Option.some.injEq, Value.slice.injEq, Addr.mk.injEq, and_true, true_and] at p3
   obtain ⟨⟨rfl, rfl⟩, rfl⟩ := p3
   have HX : Hid (BnS sb B K w b0 g (x2.setCell ⟨b', o', none⟩ (.int .i64 p))) :=
    ⟨n, some ⟨b, o, none⟩, T.length, tc, _, (World.cell?_setCell_other _ _ _ _ (fun e => hbg3 (by simp only [Addr.mk.injEq] at e; exact e.1))).trans HD.out.c0, (World.cell?_setCell_other _ _ _ _ (fun e => hbg3 (by simp only [Addr.mk.injEq] at e; exact e.1))).trans HD.out.c1, fr_cons hIn (hput3 p hIp), HR.out.other (by omega), (srcS HS.out (by omega) (by omega)).mono (by omega), tchS HT.out (by omega)⟩
   refine wpAnyT_last (i := 9) rfl (by kernel_rfl) (by kernel_rfl) (fun K' hK' => ?_)
   go_simp
   refine hK'.out _ _ ?_
   clear hK' K'
   refine wpAnyT_done (by kernel_rfl) ?_ _
   go_simp
   go_wp2_with fail
   generalize x2.setCell ⟨b', o', none⟩ (.int .i64 p) = wv at HX ⊢
 rotate_left
 all_goals
  obtain ⟨n', a', m', c', T', d0, d1, hf, hr, hs, ht⟩ := HX.out
  have HF := Lib.hid hf
  have HRr := Lib.hid hr
  have HSs := Lib.hid hs
  have HTt := Lib.hid ht
  clear hf hr hs ht HX
  refine wp_region_T (fun w' => w'.cell? ⟨g, 0, none⟩ = some (.int .i64 n') ∧ w'.cell? ⟨g, 1, none⟩ = some (.slice a' m' c')) [3] (by kernel_rfl) ⟨d0, d1⟩ (fun hHeld => ?_)
  refine wpAnyT_take (i := 0) (v := ?_) rfl (by kernel_rfl) (fun _ _ _ h => h) (Or.inl ⟨by rfl, ?_⟩) (by assumption) ?_
  rotate_left
  ·(intro w hSw; (try dsimp only at hSw); go_simp <;> with_reducible rfl)
  go_simp
  refine wpAnyT_take (i := 1) (v := ?_) rfl (by kernel_rfl) (fun _ _ _ h => h) (Or.inl ⟨by rfl, ?_⟩) (by assumption) ?_
  rotate_left
  ·(intro w hSw; (try dsimp only at hSw); go_simp <;> with_reducible rfl)
  go_simp
  refine wpAnyT_any (i := 2) (v := ?_) rfl (by kernel_rfl) (fun _ _ _ h => h) (Or.inl ⟨by rfl, ?_⟩) (by first | exact fun _ => by assumption | (intro hp; exact absurd hp (by rw [show pastB _ _ = true by kernel_rfl]; simp))) ?_
  rotate_left
  ·(intro w hSw; (try dsimp only at hSw); go_simp <;> with_reducible rfl)
  try simp only [Act.put]
  obtain ⟨⟨u0, r0⟩, ⟨u1, r1⟩, q0, q1⟩ := HRr.out.2
  have HFv : Hid (relT.Fr w.heap.size ((wv.setCell ⟨w.heap.size, 0, none⟩ (.int .i64 n')).setCell ⟨w.heap.size, 1, none⟩ (.slice a' m' c')) [.int .i64 n', .slice a' m' c'] (n', T')) := ((HF.out.set (a := ⟨w.heap.size, 0, none⟩) (by show w.heap.size < b0; omega)).set (a := ⟨w.heap.size, 1, none⟩) (by show w.heap.size < b0; omega)).mono (by omega)
  have HSv : Hid (SrcR sb B (K + 300) ((wv.setCell ⟨w.heap.size, 0, none⟩ (.int .i64 n')).setCell ⟨w.heap.size, 1, none⟩ (.slice a' m' c'))) := (srcS (srcS HSs.out (by omega) (by omega)) (by omega) (by omega)).mono (by omega)
  have HTv : Hid (TchP (fun q => q = sb) w ((wv.setCell ⟨w.heap.size, 0, none⟩ (.int .i64 n')).setCell ⟨w.heap.size, 1, none⟩ (.slice a' m' c'))) := tchS (tchS HTt.out (Nat.le_refl _)) (Nat.le_refl _)
  obtain ⟨g0, g1⟩ := set2_cells (x := .int .i64 n') (y := .slice a' m' c') r0 r1
  refine wpAnyT_last (i := 3) rfl (by kernel_rfl) (by kernel_rfl) (fun K' hK' => ?_)
  go_simp
  refine hK'.out _ _ ?_
  clear hK' K'
  refine wpAnyT_done (by kernel_rfl) ?_ _
  go_simp
  go_wp2_with fail
  first
   | (refine bodyPost_ret (v := .tuple #[.int .i64 s, .agg #[.int .i64 n', .slice a' m' c']]) ?_ rfl ⟨s, [.int .i64 n', .slice a' m' c'], (n', T'), rfl, HFv.out.below bD, HSv.out.below bD, tchW HTv.out bD (Nat.le_trans HTv.out.size (Nat.le_refl _))⟩; simp [results, Tryz.results95, go_sem, g0, g1]; done)
   | (refine bodyPost_ret (v := .tuple #[.int .i64 p, .agg #[.int .i64 n', .slice a' m' c']]) ?_ rfl ⟨p, [.int .i64 n', .slice a' m' c'], (n', T'), rfl, HFv.out.below bD, HSv.out.below bD, tchW HTv.out bD (Nat.le_trans HTv.out.size (Nat.le_refl _))⟩; simp [results, Tryz.results95, go_sem, g0, g1]; done)
end Go.Proofs.YtggelmbnliajeaaGreat
namespace Go.Proofs.YtggelmbnliajeaaGreat
open Go.RowKit Go.Sort
/-- what a drawn template is behind the changes -/
def TbS (sb B : Nat) (K : Int) (w : World) (b0 g : Nat) (wv : World) : Prop := ∃ (n : Int) (a : Option Addr) (m c : Nat) (T : List (Int × List (List Int))), wv.cell? ⟨g, 0, none⟩ = some (.int .i64 n) ∧ wv.cell? ⟨g, 1, none⟩ = some (.slice a m c) ∧ tplT.Fr b0 wv [.int .i64 n, .slice a m c] (n, T) ∧ T.length ≤ 100 ∧ ResB w.heap.size wv ∧ SrcR sb B (K + 1990) wv ∧ TchP (fun q => q = sb) w wv
theorem elRel2 : ElT Tryz.prog 24 43 2 32 := .mk (z := .agg #[.int .i64 0, .slice none 0 0]) Tryz.underlying24 (by kernel_rfl) rfl (by decide)
set_option maxHeartbeats 6400000 in
set_option maxRecDepth 100000 in
theorem l01TemplateBent_any (w : World) {sb B : Nat} {K : Int} (h : SrcR sb B K w) (hK0 : 0 ≤ K) (hK : K ≤ 100000) :
  Calls Tryz.prog 70 #[.pointer (some ⟨sb, 0, none⟩)] w (FxR tplT (fun t => t.2.length ≤ 100) sb B (K + 2000) w) := by
 have H := Lib.hid h
 have hsb := h.lt
 have hBs : B ≤ sb := let ⟨_, _, _, _, _, _, _, _, _, _, _, _, _, _, h⟩ := h; h
 clear h
 go_enter Tryz.func70, Tryz.ntmps70
 go_wp2_with fail
 generalize hW : World.alloc w _ = W
 have hbW : Below w.heap.size w W := hW ▸ bA
 have hsW : w.heap.size + 1 = W.heap.size := by rw [← hW]; simp
 have HR : Hid (ResB w.heap.size W) := by
  rw [← hW]
  exact ResB.new rfl rfl
 have HS := Lib.hid (H.out.below hbW)
 clear hW
 refine (l01SizeDrawn_any W HS.out hK0 (by omega)).mono ?_
 rintro e w2 ⟨s, rfl, hs0, hs1, hs2, ht2⟩
 have hz2 := ht2.size
 replace HR := Lib.hid (HR.out.tch ht2 (by omega))
 replace HS := Lib.hid hs2
 have HT := Lib.hid ((TchP.of_below hbW (fun q => q = sb)).then ht2 (fun q _ h => h))
 clear hs2 ht2
 go_wp2_with fail
 refine (l01TemplateDrawn_any w2 HS.out (by omega) (by omega) ⟨hs0, hs1⟩).mono ?_
 rintro e w3 ⟨v, n, T, b0, rfl, hI, hb0, hb1, hB, hTl, hq, hs3, ht3⟩
 obtain ⟨ta, tn, tc, rfl⟩ := ex_slice (hB.fr (by unfold capMax; omega))
 have hz3 := ht3.size
 replace HR := Lib.hid (HR.out.tch ht3 (by omega))
 replace HS := Lib.hid hs3
 replace HT := Lib.hid (HT.out.then ht3 (fun q _ h => h))
 have HB := Lib.hid hB
 have hT3 : T.length ≤ 3 := hq.2.1
 have HI := Lib.hid hI
 clear hs3 ht3 hB hq hI hTl
 go_wp2_with fail
 generalize hW4 : World.alloc w3 _ = w4
 have hb4 : Below w3.heap.size w3 w4 := hW4 ▸ bA
 have HD : Hid (DrS relT 43 sb w b0 w3.heap.size (w3.heap.size + 1) n (.slice ta tn tc) T w4) := DrS.box hW4.symm rfl HB.out hb1 (by omega) hsb
 clear hW4 HB
 replace HR := Lib.hid (HR.out.below hb4 HR.out.1)
 replace HS := Lib.hid (HS.out.below hb4)
 replace HT := Lib.hid (tchW HT.out hb4 (by omega))
 have hz4 : w3.heap.size + 1 ≤ w4.heap.size := HD.out.le
 generalize w3.heap.size = g at *
 refine (pick_any w4 HS.out (by omega) (by omega) (n := 20) (by omega)).mono ?_
 rintro e w5 ⟨x, rfl, hx0, hx1, hs5, ht5⟩
 have hz5 := ht5.size
 replace HR := Lib.hid (HR.out.tch ht5 (by omega))
 replace HD := Lib.hid (HD.out.tch ht5)
 replace HS := Lib.hid hs5
 replace HT := Lib.hid (HT.out.then ht5 (fun q _ h => h))
 clear hs5 ht5
 have c0 := HD.out.c0
 have c1 := HD.out.c1
 have m0 := HD.out.m0
 have m1 := HD.out.m1
 have hgw : w.heap.size + 1 ≤ b0 := by omega
 rcases (show x = 0 ∨ x = 1 ∨ x = 2 ∨ (x ≠ 0 ∧ x ≠ 1 ∧ x ≠ 2) by omega) with rfl | rfl | rfl | hx
 rotate_left 3
 focus
  have e0 : (x == 0) = false := beq_eq_false_iff_ne.2 hx.1
  have e1 : (x == 1) = false := beq_eq_false_iff_ne.2 hx.2.1
  have e2 : (x == 2) = false := beq_eq_false_iff_ne.2 hx.2.2
  clear hx
  have HX : Hid (TbS sb B K w b0 g w5) := ⟨n, ta, tn, tc, T, c0, c1, fr_cons HI.out ((off_bl HD.out.bl).fr (by unfold capMax; omega)), by omega, HR.out, HS.out.mono (by omega), HT.out⟩
  obtain ⟨n', a', m', c', T', d0, d1, hf, hTl', hr, hs, ht⟩ := HX.out
  have HF := Lib.hid hf
  have HRr := Lib.hid hr
  have HSs := Lib.hid hs
  have HTt := Lib.hid ht
  obtain ⟨⟨u0, r0⟩, ⟨u1, r1⟩, q0, q1⟩ := hr.2
  obtain ⟨g0, g1⟩ := set2_cells (x := .int .i64 n') (y := .slice a' m' c') r0 r1
  clear hf hr hs ht HX c0 c1 m0 m1
  obtain ⟨wv, rfl⟩ : ∃ wv : World, wv = w5 := ⟨_, rfl⟩
  go_wp2_with fail
 rotate_left
 focus -- another size
  go_wp2_with fail
  generalize hW6 : World.alloc w5 _ = w6
  have hb6 : Below w5.heap.size w5 w6 := hW6 ▸ bA
  have HL : Hid (intsT.Fr w5.heap.size w6 [.slice (some ⟨w5.heap.size, 0, none⟩) 3 3] [0, 5, 1]) := by
   rw [← hW6]
   exact fr_intsL rfl rfl (fun a ha => by simp at ha; unfold I64; omega) rfl (Nat.le_refl _) (by decide)
  clear hW6
  refine (among_any w6 (HS.out.below hb6) (by omega) (by omega) HL.out.rd (by simp) (rdP_fr' HL.out (by omega))).mono ?_
  rintro e w7 ⟨p, hp, rfl, hs7, ht7⟩
  have hIp : I64 p := by simp at hp; unfold I64; omega
  have HD7 := Lib.hid ((HD.out.below hb6 HD.out.le).tch ht7)
  replace c0 := HD7.out.c0
  replace m0 := HD7.out.m0
  have HX : Hid (TbS sb B K w b0 g (w7.setCell ⟨g, 0, none⟩ (.int .i64 p))) := by
   have HD8 := HD7.out.num p
   exact ⟨p, ta, tn, tc, T, HD8.c0, HD8.c1, fr_cons hIp ((off_bl HD8.bl).fr (by unfold capMax; omega)), by omega, ((HR.out.below hb6 HR.out.1).tch ht7 (by omega)).other (by omega), (srcS hs7 (by omega) (by omega)).mono (by omega), tchS ((tchW HT.out hb6 (by omega)).then ht7 (fun q _ h => h)) (by omega)⟩
  obtain ⟨n', a', m', c', T', d0, d1, hf, hTl', hr, hs, ht⟩ := HX.out
  have HF := Lib.hid hf
  have HRr := Lib.hid hr
  have HSs := Lib.hid hs
  have HTt := Lib.hid ht
  obtain ⟨⟨u0, r0⟩, ⟨u1, r1⟩, q0, q1⟩ := hr.2
  obtain ⟨g0, g1⟩ := set2_cells (x := .int .i64 n') (y := .slice a' m' c') r0 r1
  clear hs7 ht7 HL c1 m1 HD7 hp hf hr hs ht HX
  go_upto_region 11 with (fail)
  generalize w7.setCell ⟨g, 0, none⟩ (.int .i64 p) = wv at *
  go_wp2_with fail
 rotate_left
 focus -- one more relation
  go_wp2_with fail
  refine (l01Bent_any w5 HS.out (by omega) (by omega)).mono ?_
  rintro e w6 ⟨sz, cs, r, rfl, hf6, hs6, ht6⟩
  obtain ⟨ga, gc, rfl⟩ := fr_pair hf6
  have hz6 := ht6.size
  replace HR := Lib.hid (HR.out.tch ht6 (by omega))
  replace HD := Lib.hid (HD.out.tch ht6)
  replace HS := Lib.hid hs6
  replace HT := Lib.hid (HT.out.then ht6 (fun q _ h => h))
  have HF6 := Lib.hid hf6
  clear hf6 hs6 ht6 c0 c1 m0 m1
  go_upto_region 7 with (fail)
  generalize hW7 : World.alloc w6 _ = w7
  have hb7 : Below w6.heap.size w6 w7 := hW7 ▸ bA
  have hz7 : w6.heap.size + 1 = w7.heap.size := by rw [← hW7]; simp
  have y0 : w7.cell? ⟨w6.heap.size, 0, none⟩ = some (.int .i64 r.1) := by rw [← hW7]; simp [go_sem]
  have y1 : w7.cell? ⟨w6.heap.size, 1, none⟩ = some (.slice ga r.2.length gc) := by rw [← hW7]; simp [go_sem]
  clear hW7
  replace HR := Lib.hid (HR.out.below hb7 HR.out.1)
  replace HD := Lib.hid (HD.out.below hb7 HD.out.le)
  replace HS := Lib.hid (HS.out.below hb7)
  replace HT := Lib.hid (tchW HT.out hb7 (by omega))
  replace HF6 := Lib.hid (HF6.out.below hb7)
  have c1 := HD.out.c1
  go_upto_region 11 with (refine wpList_push (E := relT.off g) _ rfl _ _ 24 43 rfl elRel2 rfl ((HD.out.bl.mono (show g + 1 ≤ w5.heap.size by omega)).below (bA (w := w7)) (by omega)) rfl (news2' (by simp)) (fr_off (HF6.out.below bA) (by omega)) (by omega) (by decide) (by omega) (by first | (simp; done) | (simp; omega)) ?_; intro v8 w8 hB8 hg8 hown8; obtain ⟨a8, n8, c8, rfl⟩ := ex_slice (hB8.fr (by rw [List.length_append]; unfold capMax; simp only [List.length_singleton]; omega)); obtain ⟨k1, km⟩ := (HD.out.below (bA (w := w7)) HD.out.le).cells hg8)
  have hrow : ∀ b, (Value.slice ta tn tc).ownBlock = some b → b0 ≤ b := fun b hb => HD.out.bl.own hb
  have hrow2 : ∀ b, (Value.slice ta tn tc).ownBlock = some b → b ≠ w.heap.size := fun b hb => by have := hrow b hb; omega
  have HX : Hid (TbS sb B K w b0 g (w8.setCell ⟨g, 1, none⟩ (.slice a8 n8 c8))) := by
   have HD8 := (HD.out.below (bA (w := w7)) HD.out.le).row hB8 hg8 hown8
   exact ⟨n, a8, n8, c8, _, HD8.c0, HD8.c1, fr_cons HI.out ((off_bl HD8.bl).fr (by rw [List.length_append]; unfold capMax; simp only [List.length_singleton]; omega)), by rw [List.length_append, List.length_singleton]; omega, ((HR.out.below (bA (w := w7)) HR.out.1).grown hg8 (fun e => hrow2 _ e rfl)).other (by omega), (srcS (srcG (HS.out.below (bA (w := w7))) hg8 (fun b hb => by have := hrow b hb; omega)) (by omega) (by omega)).mono (by omega), tchS (tchG (tchW HT.out (bA (w := w7)) (by omega)) hg8 (fun b hb => by have := hrow b hb; omega)) (by omega)⟩
  obtain ⟨n', a', m', c', T', d0, d1, hf, hTl', hr, hs, ht⟩ := HX.out
  have HF := Lib.hid hf
  have HRr := Lib.hid hr
  have HSs := Lib.hid hs
  have HTt := Lib.hid ht
  obtain ⟨⟨u0, r0⟩, ⟨u1, r1⟩, q0, q1⟩ := hr.2
  obtain ⟨g0, g1⟩ := set2_cells (x := .int .i64 n') (y := .slice a' m' c') r0 r1
  clear hrow hrow2 hB8 hg8 hown8 c1 hf hr hs ht HX k1 km y0 y1
  generalize w8.setCell ⟨g, 1, none⟩ (.slice a8 n8 c8) = wv at *
  go_wp2_with fail
 rotate_left
 focus -- more relations
  clear c0 c1 m0 m1
  go_wp2_with fail
  go_loopg [38] (20 - T.length) (fun gh _ wr => ∃ (q : Nat) (va : Value) (T2 : List (Int × List (List Int))) (top : Nat), q = gh ∧ q + T2.length = 20 ∧ T2.length ≤ 8 ∧ DrS relT 43 sb w b0 g top n va T2 wr ∧ ResB w.heap.size wr ∧ SrcR sb B (K + 1010 + (T2.length : Int)) wr ∧ TchP (fun q => q = sb) w wr)
  case atStart => exact ⟨_, _, T, _, rfl, by omega, by omega, HD.out, HR.out, HS.out.mono (by omega), HT.out⟩
  clear HD HR HS HT
  obtain ⟨q, va, T2, top, hgq, hgh, hT8, hd, hr, hsr, htc⟩ := hrel
  obtain ⟨wx, rfl⟩ : ∃ wx : World, wx = wr := ⟨_, rfl⟩
  obtain ⟨xa, xn, xc, rfl⟩ := ex_slice (hd.bl.fr (by unfold capMax; omega))
  have HD := Lib.hid hd
  have HR := Lib.hid hr
  have HS := Lib.hid hsr
  have HT := Lib.hid htc
  have hgt := hd.hi
  have hto := hd.le
  have hlen : xn = T2.length := by
   obtain ⟨_, _, hv⟩ := fr_slice (hd.bl.fr (by unfold capMax; omega))
   simp only [Value.slice.injEq] at hv
   exact hv.2.1
  subst hlen
  have c1 := hd.c1
  clear hd hr hsr htc
  have hv0 : Below wx.heap.size wx wx.drew := bD
  go_wp2_with fail
  refine wp_region_T (fun w' => w'.cell? ⟨g, 1, none⟩ = some (.slice xa T2.length xc)) [] (by kernel_rfl) c1 (fun hHeld => ?_)
  refine wpAnyT_take (i := 0) (v := ?_) rfl (by kernel_rfl) (fun _ _ _ h => h) (Or.inl ⟨by rfl, ?_⟩) (by assumption) ?_
  rotate_left
  ·(intro w hSw; (try dsimp only at hSw); go_simp <;> with_reducible rfl)
  go_simp
  refine wpAnyT_take (i := 1) (v := ?_) rfl (by kernel_rfl) (fun _ _ _ h => h) (Or.inl ⟨by rfl, ?_⟩) (by assumption) ?_
  rotate_left
  ·(intro w hSw; (try dsimp only at hSw); go_simp <;> with_reducible rfl)
  go_simp
  refine wpAnyT_take (i := 2) (v := ?_) rfl (by kernel_rfl) (fun _ _ _ h => h) (Or.inl ⟨by rfl, ?_⟩) (by assumption) ?_
  rotate_left
  ·(intro w hSw; (try dsimp only at hSw); go_simp <;> with_reducible rfl)
  go_simp
  refine wpAnyT_take (i := 3) (v := ?_) rfl (by kernel_rfl) (fun _ _ _ h => h) (Or.inl ⟨by rfl, ?_⟩) (by assumption) ?_
  rotate_left
  ·(intro w hSw; (try dsimp only at hSw); go_simp <;> with_reducible rfl)
  go_simp
  replace HD := Lib.hid (HD.out.below hv0 hto)
  replace HR := Lib.hid (HR.out.below hv0 HR.out.1)
  replace HS := Lib.hid (HS.out.below hv0)
  replace HT := Lib.hid (tchW HT.out hv0 (by omega))
  have hzv := hv0.size
  clear c1 hv0
  generalize wx.drew = x0 at *
  refine wpAnyT_one (i := 4) rfl (by kernel_rfl) (fun K' hK' => ?_)
  go_simp
  go_at_call 39
  refine (pick_any x0 HS.out (by omega) (by omega) (n := 2) (by omega)).mono ?_
  rintro e x1 ⟨p, rfl, hp0, hp1, hs1, ht1⟩
  have hzy := ht1.size
  replace HD := Lib.hid (HD.out.tch ht1)
  replace HR := Lib.hid (HR.out.tch ht1 (by omega))
  replace HS := Lib.hid hs1
  replace HT := Lib.hid (HT.out.then ht1 (fun q _ h => h))
  clear hs1 ht1
  obtain ⟨kk, hkk⟩ : ∃ kk : Nat, 6 + p = (kk : Int) := ⟨(6 + p).toNat, by omega⟩
  have hwr : IntKind.i64.wrap (6 + p) = (kk : Int) := by rw [hkk]; exact wrap_small (by omega) (by omega)
  have hk7 : kk ≤ 7 := by omega
  clear hkk
  dsimp only
  refine hK'.out _ _ HD.out.c1 (fun hHeld => ?_)
  clear hK' K'
  refine wpAnyT_take (i := 5) (v := ?_) rfl (by kernel_rfl) (fun _ _ _ h => h) (Or.inl ⟨by rfl, ?_⟩) (by assumption) ?_
  rotate_left
  ·(intro w hSw; (try dsimp only at hSw); go_simp <;> with_reducible rfl)
  go_simp
  refine wpAnyT_take (i := 6) (v := ?_) rfl (by kernel_rfl) (fun _ _ _ h => h) (Or.inl ⟨by rfl, ?_⟩) (by assumption) ?_
  rotate_left
  ·(intro w hSw; (try dsimp only at hSw); go_simp <;> with_reducible rfl)
  go_simp
  clear hwr
  refine wpAnyT_done (by kernel_rfl) ?_ _
  go_simp
  have c1 := HD.out.c1
  have hto1 := HD.out.le
  by_cases hlt : T2.length < kk
  ·have hltI : ((T2.length : Nat) : Int) < (kk : Int) := by omega
   go_wp2_with (refine wpList_push (E := relT.off g) _ rfl _ _ 24 43 rfl elRel2 rfl ((HD.out.bl.mono hto1).below (bA (w := x1)) (Nat.le_refl _)) rfl (news2' (by simp)) (fr_off (fr_cons (base := x1.heap.size) (x := []) (I64.small (n := 1) (by omega) (by omega)) fr_nil) (by omega)) (by omega) (by decide) (by omega) (by first | (simp; done) | (simp; omega)) ?_; intro v8 w8 hB8 hg8 hown8; obtain ⟨a8, n8, c8, rfl⟩ := ex_slice (hB8.fr (by rw [List.length_append]; unfold capMax; simp only [List.length_singleton]; omega)); obtain ⟨k1, km⟩ := (HD.out.below (bA (w := x1)) HD.out.le).cells hg8)
   have hrow : ∀ b, (Value.slice xa T2.length xc).ownBlock = some b → b0 ≤ b := fun b hb => HD.out.bl.own hb
   have hrow2 : ∀ b, (Value.slice xa T2.length xc).ownBlock = some b → b ≠ w.heap.size := fun b hb => by have := hrow b hb; omega
   have HD8 := Lib.hid ((HD.out.below (bA (w := x1)) HD.out.le).row hB8 hg8 hown8)
   have HR8 := Lib.hid (((HR.out.below (bA (w := x1)) HR.out.1).grown hg8 (fun e => hrow2 _ e rfl)).other (b := g) (i := 1) (u := .slice a8 n8 c8) (by omega))
   have HS8 := Lib.hid (srcS (b := g) (i := 1) (u := .slice a8 n8 c8) (srcG (HS.out.below (bA (w := x1))) hg8 (fun b hb => by have := hrow b hb; omega)) (by omega) (by omega))
   have HT8 := Lib.hid (tchS (g := g) (i := 1) (v := .slice a8 n8 c8) (tchG (tchW HT.out (bA (w := x1)) (by omega)) hg8 (fun b hb => by have := hrow b hb; omega)) (by omega))
   clear hrow hrow2 hB8 hg8 hown8 k1 km HD HR HS HT
   obtain ⟨q', rfl⟩ : ∃ q', q = q' + 1 := ⟨q - 1, by omega⟩
   go_roundg q'
   case measure => omega
   case rel => exact ⟨_, _, _, _, rfl, by rw [List.length_append, List.length_singleton]; omega, by rw [List.length_append, List.length_singleton]; omega, HD8.out, HR8.out, HS8.out.mono (by rw [List.length_append, List.length_singleton]; omega), HT8.out⟩
  ·have hltI : ¬ ((T2.length : Nat) : Int) < (kk : Int) := by omega
   have HX : Hid (TbS sb B K w b0 g x1) := ⟨n, xa, T2.length, xc, T2, HD.out.c0, HD.out.c1, fr_cons HI.out ((off_bl HD.out.bl).fr (by unfold capMax; omega)), by omega, HR.out, HS.out.mono (by omega), HT.out⟩
   obtain ⟨n', a', m', c', T', d0, d1, hf, hTl', hr, hs, ht⟩ := HX.out
   have HF := Lib.hid hf
   have HRr := Lib.hid hr
   have HSs := Lib.hid hs
   have HTt := Lib.hid ht
   obtain ⟨⟨u0, r0⟩, ⟨u1, r1⟩, q0, q1⟩ := hr.2
   obtain ⟨g0, g1⟩ := set2_cells (x := .int .i64 n') (y := .slice a' m' c') r0 r1
   clear hf hr hs ht HX c1 HD HR HS HT hHeld
   obtain ⟨wv, rfl⟩ : ∃ wv : World, wv = x1 := ⟨_, rfl⟩
   go_wp2_with fail
   exact bodyPost_ret (v := .agg #[.int .i64 n', .slice a' m' c']) (by simp [results, Tryz.results70, go_sem, g0, g1]) rfl ⟨[.int .i64 n', .slice a' m' c'], (n', T'), rfl, ((HF.out.set (a := ⟨w.heap.size, 0, none⟩) (by show w.heap.size < b0; omega)).set (a := ⟨w.heap.size, 1, none⟩) (by show w.heap.size < b0; omega)).mono (by omega), hTl', (srcS (srcS HSs.out (by omega) (by omega)) (by omega) (by omega)).mono (by omega), tchS (tchS HTt.out (Nat.le_refl _)) (Nat.le_refl _)⟩
 all_goals
  exact bodyPost_ret (v := .agg #[.int .i64 n', .slice a' m' c']) (by simp [results, Tryz.results70, go_sem, g0, g1]) rfl ⟨[.int .i64 n', .slice a' m' c'], (n', T'), rfl, ((HF.out.set (a := ⟨w.heap.size, 0, none⟩) (by show w.heap.size < b0; omega)).set (a := ⟨w.heap.size, 1, none⟩) (by show w.heap.size < b0; omega)).mono (by omega), hTl', (srcS (srcS HSs.out (by omega) (by omega)) (by omega) (by omega)).mono (by omega), tchS (tchS HTt.out (Nat.le_refl _)) (Nat.le_refl _)⟩
end Go.Proofs.YtggelmbnliajeaaGreat
namespace Go.Proofs.YtggelmbnliajeaaGreat
open Go.RowKit Go.Sort
theorem consRdP {α : Type} {E : Ty α} {ok : Nat → Prop} {w : World} {n : Int} {cs : List Value} {x : α} (hI : I64 n) (h : E.RdP ok w cs x) : (Ty.cons E).RdP ok w (.int .i64 n :: cs) (n, x) := let ⟨fp, h1, h2⟩ := h; ⟨fp, ⟨cs, rfl, hI, h1⟩, h2⟩
theorem XrS.inst {e : TypeId} {sb lo g top : Nat} {w0 w : World} {n : Int} {v : Value} {Z : List ((Int × List Int) × (Int × Value))} (h : XrS e sb w0 lo g top n v Z w) (hI : I64 n) (hl : Z.length ≤ 1000000) : instT.RdP (fun q => lo ≤ q) w [.int .i64 n, v] (n, Z.map (·.1)) :=
 consRdP hI (ops_of (Ty.Fr.P ((off_bl h.1.bl).fr (by rw [List.length_map]; unfold capMax; omega))) (fun z hz => (h.2 z hz).mono (fun k _ hk => hk.1)))
theorem pv_ex {w : World} {v : Value} {VS : List (Int × Value)} {e base top : Nat} (h : Bl pvT e base top w v VS) (hl : VS.length ≤ capMax) (h0 : 0 < VS.length) : ∃ b o c, v = .slice (some ⟨b, o, none⟩) VS.length c ∧ b < w.heap.size ∧ base ≤ b ∧ w.cell? ⟨b, o, none⟩ = some (.int .i64 (VS[0]).1) ∧ w.cell? ⟨b, o + 1, none⟩ = some (VS[0]).2 ∧ I64 (VS[0]).1 ∧ (VS[0]).2.oneCell' = true := by
 obtain ⟨fp, ⟨ad, cap, hv, -, -, h3⟩, -, hb, -⟩ := h.fr hl
 obtain rfl : v = _ := by simpa using hv
 rcases h3 with ⟨h3, _⟩ | ⟨_, b, o, fps, rfl, hlt, rfl, h4⟩
 ·omega
 ·obtain ⟨cs, ⟨cs', rfl, hI, rfl, h1, _⟩, h6⟩ := h4 0 h0
  have k0 := h6 0 (by simp)
  have k1 := h6 1 (by simp)
  refine ⟨b, o, cap, rfl, hlt, hb b (List.mem_cons_self ..), ?_, ?_, hI, h1⟩
  ·simpa using k0
  ·simpa using k1
/-- a template and an instance come back -/
def TXR (sb B : Nat) (K : Int) (w : World) (en : Ending) (w' : World) : Prop := ∃ (cs cs' : List Value) (t : Int × List (Int × List (List Int))) (x : Int × List (Int × List Int)), en = .returned (.tuple #[.agg cs.toArray, .agg cs'.toArray]) ∧ tplT.RdP (fun q => w.heap.size ≤ q) w' cs t ∧ instT.RdP (fun q => w.heap.size ≤ q) w' cs' x ∧ SrcR sb B K w' ∧ TchP (fun q => q = sb) w w'
/-- what a drawn template and a drawn instance are behind the changes -/
def TxS (sb B : Nat) (K : Int) (w : World) (gt gx : Nat) (wv : World) : Prop := ∃ (n : Int) (a : Option Addr) (m c : Nat) (T : List (Int × List (List Int))) (n2 : Int) (a2 : Option Addr) (m2 c2 : Nat) (X : List (Int × List Int)), wv.cell? ⟨gt, 0, none⟩ = some (.int .i64 n) ∧ wv.cell? ⟨gt, 1, none⟩ = some (.slice a m c) ∧ wv.cell? ⟨gx, 0, none⟩ = some (.int .i64 n2) ∧ wv.cell? ⟨gx, 1, none⟩ = some (.slice a2 m2 c2) ∧ tplT.RdP (fun q => w.heap.size + 2 ≤ q) wv [.int .i64 n, .slice a m c] (n, T) ∧ instT.RdP (fun q => w.heap.size + 2 ≤ q) wv [.int .i64 n2, .slice a2 m2 c2] (n2, X) ∧ ResB w.heap.size wv ∧ ResB (w.heap.size + 1) wv ∧ SrcR sb B (K + 5000) wv ∧ TchP (fun q => q = sb) w wv
theorem DrS.rdP {α : Type} {E : Ty α} {e : TypeId} {sb lo g top : Nat} {w0 w : World} {n : Int} {v : Value} {T : List α} (h : DrS E e sb w0 lo g top n v T w) (hI : I64 n) (hl : T.length ≤ 1000000) : (Ty.cons (Ty.slice E)).RdP (fun q => lo ≤ q) w [.int .i64 n, v] (n, T) :=
 consRdP hI (Ty.Fr.P ((off_bl h.bl).fr (by unfold capMax; omega)))
theorem rdP_set {α : Type} {E : Ty α} {L b i : Nat} {w : World} {cs : List Value} {x : α} {u : Value} (h : E.RdP (fun q => L ≤ q) w cs x) (hb : b < L) : E.RdP (fun q => L ≤ q) (w.setCell ⟨b, i, none⟩ u) cs x := by
 obtain ⟨fp, h1, h2⟩ := h
 exact ⟨fp, E.same h1 (fun k hk => Below.heap_setCell _ _ _ _ (fun e => by simp at e; have := h2 k hk; omega)), h2⟩
theorem keep2 {w : World} {r b i : Nat} {u v : Value} (hne : b ≠ r) : ((w.setCell ⟨r, 0, none⟩ u).setCell ⟨r, 1, none⟩ v).cell? ⟨b, i, none⟩ = w.cell? ⟨b, i, none⟩ :=
 (World.cell?_setCell_other _ _ _ _ (fun e => by simp only [Addr.mk.injEq] at e; exact hne e.1.symm)).trans (World.cell?_setCell_other _ _ _ _ (fun e => by simp only [Addr.mk.injEq] at e; exact hne e.1.symm))
theorem set4_cells {w : World} {r q : Nat} (hne : r ≠ q) {x y x' y' u v u' v' : Value} (h0 : w.cell? ⟨r, 0, none⟩ = some u) (h1 : w.cell? ⟨r, 1, none⟩ = some v) (h2 : w.cell? ⟨q, 0, none⟩ = some u') (h3 : w.cell? ⟨q, 1, none⟩ = some v') :
  ((((w.setCell ⟨r, 0, none⟩ x).setCell ⟨r, 1, none⟩ y).setCell ⟨q, 0, none⟩ x').setCell ⟨q, 1, none⟩ y').cell? ⟨r, 0, none⟩ = some x ∧ ((((w.setCell ⟨r, 0, none⟩ x).setCell ⟨r, 1, none⟩ y).setCell ⟨q, 0, none⟩ x').setCell ⟨q, 1, none⟩ y').cell? ⟨r, 1, none⟩ = some y ∧
  ((((w.setCell ⟨r, 0, none⟩ x).setCell ⟨r, 1, none⟩ y).setCell ⟨q, 0, none⟩ x').setCell ⟨q, 1, none⟩ y').cell? ⟨q, 0, none⟩ = some x' ∧ ((((w.setCell ⟨r, 0, none⟩ x).setCell ⟨r, 1, none⟩ y).setCell ⟨q, 0, none⟩ x').setCell ⟨q, 1, none⟩ y').cell? ⟨q, 1, none⟩ = some y' := by
 have hoth : ∀ (W : World) (i j : Nat) (z : Value), (W.setCell ⟨q, i, none⟩ z).cell? ⟨r, j, none⟩ = W.cell? ⟨r, j, none⟩ := fun W i j z => World.cell?_setCell_other _ _ _ _ (fun e => by simp only [Addr.mk.injEq] at e; exact hne e.1.symm)
 have hoth2 : ∀ (W : World) (i j : Nat) (z : Value), (W.setCell ⟨r, i, none⟩ z).cell? ⟨q, j, none⟩ = W.cell? ⟨q, j, none⟩ := fun W i j z => World.cell?_setCell_other _ _ _ _ (fun e => by simp only [Addr.mk.injEq] at e; exact hne e.1)
 obtain ⟨a0, a1⟩ := set2_cells (x := x) (y := y) h0 h1
 obtain ⟨b0, b1⟩ := set2_cells (w := (w.setCell ⟨r, 0, none⟩ x).setCell ⟨r, 1, none⟩ y) (x := x') (y := y') (((hoth2 _ _ _ _).trans (hoth2 _ _ _ _)).trans h2) (((hoth2 _ _ _ _).trans (hoth2 _ _ _ _)).trans h3)
 exact ⟨((hoth _ _ _ _).trans (hoth _ _ _ _)).trans a0, ((hoth _ _ _ _).trans (hoth _ _ _ _)).trans a1, b0, b1⟩
set_option maxHeartbeats 12800000 in
set_option maxRecDepth 100000 in
theorem l05Bent_any (w : World) {sb B : Nat} {K : Int} (h : SrcR sb B K w) (hK0 : 0 ≤ K) (hK : K ≤ 10000) :
  Calls Tryz.prog 38 #[.pointer (some ⟨sb, 0, none⟩)] w (TXR sb B (K + 5000) w) := by
 have H := Lib.hid h
 have hsb := h.lt
 have hBs : B ≤ sb := let ⟨_, _, _, _, _, _, _, _, _, _, _, _, _, _, h⟩ := h; h
 clear h
 go_enter Tryz.func38, Tryz.ntmps38
 go_upto_region 1 with (fail)
 generalize hW : World.alloc (World.alloc w _) _ = W
 have hbW : Below w.heap.size w W := hW ▸ bAA
 have hsW : w.heap.size + 2 = W.heap.size := by rw [← hW]; simp
 have HR : Hid (ResB w.heap.size W) := by
  rw [← hW]
  exact (ResB.new rfl rfl).below bA (by simp)
 have HQ : Hid (ResB (w.heap.size + 1) W) := by
  rw [← hW]
  exact ResB.new rfl (by simp)
 have HS := Lib.hid (H.out.below hbW)
 clear hW
 go_wp2_with fail
 generalize hW1 : World.alloc W _ = W1
 have hb1 : Below W.heap.size W W1 := hW1 ▸ bA
 have HL : Hid (intsT.Fr W.heap.size W1 [.slice (some ⟨W.heap.size, 0, none⟩) 5 5] [2, 2, 3, 3, 4]) := by
  rw [← hW1]
  exact fr_intsL rfl rfl (fun a ha => by simp at ha; unfold I64; omega) rfl (Nat.le_refl _) (by decide)
 clear hW1
 have hz1 := hb1.size
 refine (among_any W1 (HS.out.below hb1) (by omega) (by omega) HL.out.rd (by simp) (rdP_fr' HL.out (by omega))).mono ?_
 rintro e w2 ⟨s, hp, rfl, hs2, ht2⟩
 have hsx : 1 ≤ s ∧ s ≤ 4 := by simp at hp; omega
 have hz2 := ht2.size
 replace HR := Lib.hid ((HR.out.below hb1 HR.out.1).tch ht2 (by omega))
 replace HQ := Lib.hid ((HQ.out.below hb1 HQ.out.1).tch ht2 (by omega))
 replace HS := Lib.hid hs2
 have HT := Lib.hid ((TchP.of_below (bthen hbW hb1) (fun q => q = sb)).then ht2 (fun q _ h => h))
 clear hs2 ht2 HL hp
 go_wp2_with fail
 refine (l01TemplateDrawn_any w2 HS.out (by omega) (by omega) hsx).mono ?_
 rintro e w3 ⟨v, n, T, b0, rfl, hI, hb0, hb01, hB, hTl, hq, hs3, ht3⟩
 obtain ⟨ta, tn, tc, rfl⟩ := ex_slice (hB.fr (by unfold capMax; omega))
 have hz3 := ht3.size
 replace HR := Lib.hid (HR.out.tch ht3 (by omega))
 replace HQ := Lib.hid (HQ.out.tch ht3 (by omega))
 replace HS := Lib.hid hs3
 replace HT := Lib.hid (HT.out.then ht3 (fun q _ h => h))
 have HB := Lib.hid hB
 have hT3 : T.length ≤ 3 := hq.2.1
 have HAR : Hid (∀ r ∈ T, 1 ≤ r.1 ∧ r.1 ≤ 3) := fun r hr => ⟨(hq.2.2 r hr).1.2.1.1, (hq.2.2 r hr).2⟩
 have HI := Lib.hid hI
 clear hs3 ht3 hB hq hI hTl
 go_wp2_with fail
 generalize hW4 : World.alloc w3 _ = w4
 have hb4 : Below w3.heap.size w3 w4 := hW4 ▸ bA
 have HD : Hid (DrS relT 43 sb w b0 w3.heap.size (w3.heap.size + 1) n (.slice ta tn tc) T w4) := DrS.box hW4.symm rfl HB.out hb01 (by omega) hsb
 clear hW4 HB
 replace HR := Lib.hid (HR.out.below hb4 HR.out.1)
 replace HQ := Lib.hid (HQ.out.below hb4 HQ.out.1)
 replace HS := Lib.hid (HS.out.below hb4)
 replace HT := Lib.hid (tchW HT.out hb4 (by omega))
 have hz4 : w3.heap.size + 1 ≤ w4.heap.size := HD.out.le
 generalize w3.heap.size = gt at *
 have hgb : w.heap.size + 2 ≤ b0 := by omega
 refine (l05Drawn_any w4 HS.out (by omega) (by omega) HD.out.c1 (by omega) ((Ty.Fr.P ((off_bl HD.out.bl).fr (by unfold capMax; omega))).mono (fun k _ hk => by omega)) (by omega) HAR.out).mono ?_
 rintro e w5 ⟨v, xn, Z, bx, rfl, hxn, hbx, hbx1, hBx, hZl, hZr, hs5, ht5⟩
 have hZm : (Z.map (·.2)).length = Z.length := List.length_map _
 obtain ⟨xa, xm, xc, rfl⟩ := ex_slice (hBx.fr (by rw [hZm]; unfold capMax; omega))
 have hz5 := ht5.size
 replace HR := Lib.hid (HR.out.tch ht5 (by omega))
 replace HQ := Lib.hid (HQ.out.tch ht5 (by omega))
 replace HD := Lib.hid (HD.out.tch ht5)
 replace HS := Lib.hid hs5
 replace HT := Lib.hid (HT.out.then ht5 (fun q _ h => h))
 have HBX := Lib.hid hBx
 have HZR := Lib.hid hZr
 have hIx : I64 xn := I64.small (by omega) (by omega)
 clear hs5 ht5 hBx hZr hZm HAR
 go_wp2_with fail
 generalize hW6 : World.alloc w5 _ = w6
 have hb6 : Below w5.heap.size w5 w6 := hW6 ▸ bA
 have HX : Hid (XrS 62 sb w bx w5.heap.size (w5.heap.size + 1) xn (.slice xa xm xc) Z w6) := ⟨DrS.box hW6.symm rfl HBX.out hbx1 (by omega) hsb, fun z hz => ((HZR.out z hz).mono (fun k hk hh => (⟨hh.1, by omega, hh.2, by omega⟩ : bx ≤ k ∧ k ≠ w5.heap.size ∧ (Value.slice xa xm xc).ownBlock ≠ some k ∧ k < w5.heap.size + 1))).below hb6⟩
 clear hW6 HBX HZR
 replace HR := Lib.hid (HR.out.below hb6 HR.out.1)
 replace HQ := Lib.hid (HQ.out.below hb6 HQ.out.1)
 replace HD := Lib.hid (HD.out.below hb6 HD.out.le)
 replace HS := Lib.hid (HS.out.below hb6)
 replace HT := Lib.hid (tchW HT.out hb6 (by omega))
 have hz6 : w5.heap.size + 1 ≤ w6.heap.size := HX.out.1.le
 generalize w5.heap.size = gx at *
 refine (pick_any w6 HS.out (by omega) (by omega) (n := 24) (by omega)).mono ?_
 rintro e w7 ⟨x, rfl, hx0, hx1, hs7, ht7⟩
 have hz7 := ht7.size
 replace HR := Lib.hid (HR.out.tch ht7 (by omega))
 replace HQ := Lib.hid (HQ.out.tch ht7 (by omega))
 replace HD := Lib.hid (HD.out.tch ht7)
 replace HX := Lib.hid (HX.out.tch ht7)
 replace HS := Lib.hid hs7
 replace HT := Lib.hid (HT.out.then ht7 (fun q _ h => h))
 clear hs7 ht7
 have c0 := HD.out.c0
 have c1 := HD.out.c1
 have m0 := HD.out.m0
 have m1 := HD.out.m1
 have p0 := HX.out.1.c0
 have p1 := HX.out.1.c1
 have k0 := HX.out.1.m0
 have k1 := HX.out.1.m1
 rcases (show x = 0 ∨ x = 1 ∨ x = 2 ∨ x = 3 ∨ (x ≠ 0 ∧ x ≠ 1 ∧ x ≠ 2 ∧ x ≠ 3) by omega) with rfl | rfl | rfl | rfl | hx
 rotate_left 4
 focus
  have e0 : (x == 0) = false := beq_eq_false_iff_ne.2 hx.1
  have e1 : (x == 1) = false := beq_eq_false_iff_ne.2 hx.2.1
  have e2 : (x == 2) = false := beq_eq_false_iff_ne.2 hx.2.2.1
  have e3 : (x == 3) = false := beq_eq_false_iff_ne.2 hx.2.2.2
  clear hx
  have HXX : Hid (TxS sb B K w gt gx w7) := ⟨n, ta, tn, tc, T, xn, xa, xm, xc, _, c0, c1, p0, p1, (HD.out.rdP HI.out (by omega)).mono (fun k _ hk => by omega), (HX.out.inst hIx (by omega)).mono (fun k _ hk => by omega), HR.out, HQ.out, HS.out.mono (by omega), HT.out⟩
  go_wp2_with fail
  clear HD HX HR HQ HS HT c0 c1 m0 m1 p0 p1 k0 k1
  obtain ⟨wv, rfl⟩ : ∃ wv : World, wv = w7 := ⟨_, rfl⟩
 rotate_left
 focus -- another template
  go_wp2_with fail
  refine (l01TemplateBent_any w7 HS.out (by omega) (by omega)).mono ?_
  rintro e w8 ⟨cs, t2, rfl, hf8, hl8, hs8, ht8⟩
  obtain ⟨a8, c8, rfl⟩ := fr_pair hf8
  replace c0 := (ht8.cell (i := 0) (show gt < w7.heap.size by omega) (by omega)).trans c0
  replace c1 := (ht8.cell (i := 1) (show gt < w7.heap.size by omega) (by omega)).trans c1
  replace m0 := (ht8.frozen (i := 0) (show gt < w7.heap.size by omega) (by omega)).trans m0
  replace m1 := (ht8.frozen (i := 1) (show gt < w7.heap.size by omega) (by omega)).trans m1
  have hz8 := ht8.size
  have HXX : Hid (TxS sb B K w gt gx ((w8.setCell ⟨gt, 0, none⟩ (.int .i64 t2.1)).setCell ⟨gt, 1, none⟩ (.slice a8 t2.2.length c8))) := by
   obtain ⟨g0, g1⟩ := set2_cells (x := .int .i64 t2.1) (y := .slice a8 t2.2.length c8) c0 c1
   have hX8 := ((HX.out.tch ht8).other (b := gt) (i := 0) (u := .int .i64 t2.1) (.inl (by omega))).other (b := gt) (i := 1) (u := .slice a8 t2.2.length c8) (.inl (by omega))
   exact ⟨t2.1, a8, t2.2.length, c8, t2.2, xn, xa, xm, xc, _, g0, g1, hX8.1.c0, hX8.1.c1, (Ty.Fr.P ((hf8.set (a := ⟨gt, 0, none⟩) (by show gt < _; omega)).set (a := ⟨gt, 1, none⟩) (by show gt < _; omega))).mono (fun k _ hk => by omega), (hX8.inst hIx (by omega)).mono (fun k _ hk => by omega), ((HR.out.tch ht8 (by omega)).other (by omega)).other (by omega), ((HQ.out.tch ht8 (by omega)).other (by omega)).other (by omega), (srcS (srcS hs8 (by omega) (by omega)) (by omega) (by omega)).mono (by omega), tchS (tchS (HT.out.then ht8 (fun q _ h => h)) (by omega)) (by omega)⟩
  clear hf8 hl8 hs8 ht8 p0 p1 k0 k1
  go_wp2_with fail
  generalize (w8.setCell ⟨gt, 0, none⟩ (.int .i64 t2.1)).setCell ⟨gt, 1, none⟩ (.slice a8 t2.2.length c8) = wv at HXX ⊢
  clear HD HX HR HQ HS HT c0 c1 m0 m1
 rotate_left
 focus -- another number of variables
  go_wp2_with fail
  generalize hW8 : World.alloc w7 _ = w8
  have hb8 : Below w7.heap.size w7 w8 := hW8 ▸ bA
  have HL : Hid (intsT.Fr w7.heap.size w8 [.slice (some ⟨w7.heap.size, 0, none⟩) 3 3] [0, 11, 1]) := by
   rw [← hW8]
   exact fr_intsL rfl rfl (fun a ha => by simp at ha; unfold I64; omega) rfl (Nat.le_refl _) (by decide)
  clear hW8
  refine (among_any w8 (HS.out.below hb8) (by omega) (by omega) HL.out.rd (by simp) (rdP_fr' HL.out (by omega))).mono ?_
  rintro e w9 ⟨p, hp, rfl, hs9, ht9⟩
  have hIp : I64 p := by simp at hp; unfold I64; omega
  have HX9 := Lib.hid ((HX.out.below hb8 HX.out.1.le).tch ht9)
  replace p0 := HX9.out.1.c0
  replace k0 := HX9.out.1.m0
  have HXX : Hid (TxS sb B K w gt gx (w9.setCell ⟨gx, 0, none⟩ (.int .i64 p))) := by
   have hX9 := HX9.out.num p
   have hD9 := ((HD.out.below hb8 HD.out.le).tch ht9).other (b := gx) (i := 0) (u := .int .i64 p) (.inr (by omega))
   exact ⟨n, ta, tn, tc, T, p, xa, xm, xc, _, hD9.c0, hD9.c1, hX9.1.c0, hX9.1.c1, (hD9.rdP HI.out (by omega)).mono (fun k _ hk => by omega), (hX9.inst hIp (by omega)).mono (fun k _ hk => by omega), ((HR.out.below hb8 HR.out.1).tch ht9 (by omega)).other (by omega), ((HQ.out.below hb8 HQ.out.1).tch ht9 (by omega)).other (by omega), (srcS hs9 (by omega) (by omega)).mono (by omega), tchS ((tchW HT.out hb8 (by omega)).then ht9 (fun q _ h => h)) (by omega)⟩
  clear hs9 ht9 HL hp HX9 c0 c1 m0 m1 p1 k1
  go_wp2_with fail
  generalize w9.setCell ⟨gx, 0, none⟩ (.int .i64 p) = wv at HXX ⊢
  clear HD HX HR HQ HS HT
 rotate_left
 focus -- one more constraint
  clear c0 c1 m0 m1 p0 k0 k1
  have hv0 : Below w7.heap.size w7 w7.drew := bD
  go_wp2_with fail
  refine wp_region_T (fun w' => w'.cell? ⟨gx, 1, none⟩ = some (.slice xa xm xc)) [10] (by kernel_rfl) p1 (fun hHeld => ?_)
  refine wpAnyT_take (i := 0) (v := ?_) rfl (by kernel_rfl) (fun _ _ _ h => h) (Or.inl ⟨by rfl, ?_⟩) (by assumption) ?_
  rotate_left
  ·(intro w hSw; (try dsimp only at hSw); go_simp <;> with_reducible rfl)
  go_simp
  refine wpAnyT_take (i := 1) (v := ?_) rfl (by kernel_rfl) (fun _ _ _ h => h) (Or.inl ⟨by rfl, ?_⟩) (by assumption) ?_
  rotate_left
  ·(intro w hSw; (try dsimp only at hSw); go_simp <;> with_reducible rfl)
  go_simp
  refine wpAnyT_take (i := 2) (v := ?_) rfl (by kernel_rfl) (fun _ _ _ h => h) (Or.inl ⟨by rfl, ?_⟩) (by assumption) ?_
  rotate_left
  ·(intro w hSw; (try dsimp only at hSw); go_simp <;> with_reducible rfl)
  go_simp
  refine wpAnyT_take (i := 5) (v := ?_) rfl (by kernel_rfl) (fun _ _ _ h => h) (Or.inl ⟨by rfl, ?_⟩) (by assumption) ?_
  rotate_left
  ·(intro w hSw; (try dsimp only at hSw); go_simp <;> with_reducible rfl)
  go_simp
  replace HX := Lib.hid (HX.out.below hv0 HX.out.1.le)
  replace HD := Lib.hid (HD.out.below hv0 HD.out.le)
  replace HR := Lib.hid (HR.out.below hv0 HR.out.1)
  replace HQ := Lib.hid (HQ.out.below hv0 HQ.out.1)
  replace HS := Lib.hid (HS.out.below hv0)
  replace HT := Lib.hid (tchW HT.out hv0 (by omega))
  have hzv := hv0.size
  clear p1 hv0
  generalize w7.drew = x0 at *
  refine wpAnyT_one (i := 3) rfl (by kernel_rfl) (fun K' hK' => ?_)
  go_simp
  go_at_call 39
  refine (pick_any x0 HS.out (by omega) (by omega) (n := 5) (by omega)).mono ?_
  rintro e x1 ⟨p, rfl, hp0, hp1, hs1, ht1⟩
  have hzy := ht1.size
  replace HX := Lib.hid (HX.out.tch ht1)
  replace HD := Lib.hid (HD.out.tch ht1)
  replace HR := Lib.hid (HR.out.tch ht1 (by omega))
  replace HQ := Lib.hid (HQ.out.tch ht1 (by omega))
  replace HS := Lib.hid hs1
  replace HT := Lib.hid (HT.out.then ht1 (fun q _ h => h))
  clear hs1 ht1
  dsimp only
  refine hK'.out _ _ HX.out.1.c1 (fun hHeld => ?_)
  clear hK' K'
  have hwr : IntKind.i64.wrap (p - 1) = p - 1 := wrap_small (by omega) (by omega)
  refine wpAnyT_take (i := 4) (v := ?_) rfl (by kernel_rfl) (fun _ _ _ h => h) (Or.inl ⟨by rfl, ?_⟩) (by assumption) ?_
  rotate_left
  ·(intro w hSw; (try dsimp only at hSw); go_simp <;> with_reducible rfl)
  go_simp
  clear hwr
  refine wpAnyT_one (i := 6) rfl (by kernel_rfl) (fun K' hK' => ?_)
  go_simp
  go_at_call 39
  refine (pick_any x1 HS.out (by omega) (by omega) (n := 6) (by omega)).mono ?_
  rintro e x2 ⟨p2, rfl, hq0, hq1, hs2, ht2⟩
  have hzz := ht2.size
  replace HX := Lib.hid (HX.out.tch ht2)
  replace HD := Lib.hid (HD.out.tch ht2)
  replace HR := Lib.hid (HR.out.tch ht2 (by omega))
  replace HQ := Lib.hid (HQ.out.tch ht2 (by omega))
  replace HS := Lib.hid hs2
  replace HT := Lib.hid (HT.out.then ht2 (fun q _ h => h))
  clear hs2 ht2
  dsimp only
  refine hK'.out _ _ HX.out.1.c1 (fun hHeld => ?_)
  clear hK' K'
  refine wpAnyT_one (i := 7) rfl (by kernel_rfl) (fun K' hK' => ?_)
  go_simp
  generalize hWx : World.alloc x2 _ = x3
  have hb3 : Below x2.heap.size x2 x3 := by rw [← hWx]; exact bA
  have hs3 : x2.heap.size + 1 = x3.heap.size := by rw [← hWx]; simp
  have HL : Hid (intsT.Fr x2.heap.size x3 [.slice (some ⟨x2.heap.size, 0, none⟩) 2 2] [0, p2]) := by
   rw [← hWx]
   exact fr_intsL rfl rfl (fun a ha => by simp at ha; unfold I64; omega) rfl (Nat.le_refl _) (by decide)
  clear hWx
  have hxl := HX.out.1.le
  have hxh := HX.out.1.hi
  replace HX := Lib.hid (HX.out.below hb3 HX.out.1.le)
  replace HD := Lib.hid (HD.out.below hb3 HD.out.le)
  replace HR := Lib.hid (HR.out.below hb3 HR.out.1)
  replace HQ := Lib.hid (HQ.out.below hb3 HQ.out.1)
  replace HS := Lib.hid (HS.out.below hb3)
  replace HT := Lib.hid (tchW HT.out hb3 (by omega))
  have hIp : I64 (p - 1) := I64.small (by omega) (by omega)
  have HZ : Hid (pvR (fun q => bx ≤ q ∧ q ≠ gx ∧ (Value.slice xa xm xc).ownBlock ≠ some q ∧ q < x3.heap.size) x3 (((p - 1 : Int), [0, p2]), ((p - 1 : Int), Value.slice (some ⟨x2.heap.size, 0, none⟩) 2 2))) := by
   obtain ⟨fp, h1, h2, h3, h4⟩ := HL.out
   refine ⟨rfl, hIp, fp, h1, fun z hz => ?_⟩
   have hz1 := h3 z hz
   have hz2 := intsT.lt h1 z hz
   exact ⟨by omega, by omega, fun e => by have := HX.out.1.bl.lt_top e; omega, hz2⟩
  refine hK'.out _ _ HX.out.1.c1 (fun hHeld => ?_)
  clear hK' K'
  refine wpAnyT_take (i := 8) (v := ?_) rfl (by kernel_rfl) (fun _ _ _ h => h) (Or.inl ⟨by rfl, ?_⟩) (by assumption) ?_
  rotate_left
  ·(intro w hSw; (try dsimp only at hSw); go_simp <;> with_reducible rfl)
  go_simp
  refine wpAnyT_one (i := 9) rfl (by kernel_rfl) (fun K' hK' => ?_)
  go_simp
  refine hK'.out _ _ (by go_keep) (fun hHeld => ?_)
  clear hK' K'
  refine wpAnyT_last (i := 10) rfl (by kernel_rfl) (by kernel_rfl) (fun K' hK' => ?_)
  refine step_push (E := pvT.off gx) _ rfl _ _ 27 62 rfl elCon rfl ((HX.out.1.bl.mono HX.out.1.le).below (bA (w := x3)) (Nat.le_refl _)) rfl news2 (fr_off (fr_pv (base := x3.heap.size) hIp rfl) (by omega)) (by rw [List.length_map]; omega) (by decide) (by omega) (by first | (simp; done) | (simp; omega)) ?_
  intro v6 w8 hB8 hg8 hown8
  obtain ⟨a8, n8, c8, rfl⟩ := ex_slice (hB8.fr (by rw [List.length_append, List.length_map]; unfold capMax; simp only [List.length_singleton]; omega))
  obtain ⟨y1, ym⟩ := (HX.out.1.below (bA (w := x3)) HX.out.1.le).cells hg8
  have hrow : ∀ b, (Value.slice xa xm xc).ownBlock = some b → bx ≤ b := fun b hb => HX.out.1.bl.own hb
  have HXX : Hid (TxS sb B K w gt gx (w8.setCell ⟨gx, 1, none⟩ (.slice a8 n8 c8))) := by
   have hX8 := (HX.out.below (bA (w := x3)) HX.out.1.le).push (z := (((p - 1 : Int), [0, p2]), ((p - 1 : Int), Value.slice (some ⟨x2.heap.size, 0, none⟩) 2 2))) hB8 hg8 hown8 ((HZ.out.below bA).mono (fun z _ hz => ⟨hz.1, hz.2.1, hz.2.2.1, by have := hz.2.2.2; simp; omega⟩))
   have hD8 := ((HD.out.below (bA (w := x3)) HD.out.le).grown hg8 (fun b hb => .inr (by have := hrow b hb; omega))).other (b := gx) (i := 1) (u := .slice a8 n8 c8) (.inr (by omega))
   exact ⟨n, ta, tn, tc, T, xn, a8, n8, c8, _, hD8.c0, hD8.c1, hX8.1.c0, hX8.1.c1, (hD8.rdP HI.out (by omega)).mono (fun k _ hk => by omega), (hX8.inst hIx (by rw [List.length_append, List.length_singleton]; omega)).mono (fun k _ hk => by omega), ((HR.out.below (bA (w := x3)) HR.out.1).grown hg8 (fun e => by have := hrow _ e; omega)).other (by omega), ((HQ.out.below (bA (w := x3)) HQ.out.1).grown hg8 (fun e => by have := hrow _ e; omega)).other (by omega), (srcS (srcG (HS.out.below (bA (w := x3))) hg8 (fun b hb => by have := hrow b hb; omega)) (by omega) (by omega)).mono (by omega), tchS (tchG (tchW HT.out (bA (w := x3)) (by omega)) hg8 (fun b hb => by have := hrow b hb; omega)) (by omega)⟩
  clear hB8 hg8 hown8 hrow HZ HL
  refine hK'.out _ _ ?_
  clear hK' K'
  refine wpAnyT_any (i := 11) (v := ?_) rfl (by kernel_rfl) (fun _ _ _ h => h) (Or.inl ⟨by rfl, ?_⟩) (by first | exact fun _ => by assumption | (intro hp; exact absurd hp (by rw [show pastB _ _ = true by kernel_rfl]; simp))) ?_
  rotate_left
  ·(intro w hSw; (try dsimp only at hSw); go_simp <;> with_reducible rfl)
  try simp only [Act.put]
  refine wpAnyT_last (i := 12) rfl (by kernel_rfl) (by kernel_rfl) (fun K' hK' => ?_)
  go_simp
  refine hK'.out _ _ ?_
  clear hK' K'
  refine wpAnyT_done (by kernel_rfl) ?_ _
  go_simp
  go_wp2_with fail
  generalize w8.setCell ⟨gx, 1, none⟩ (.slice a8 n8 c8) = wv at HXX ⊢
  clear HD HX HR HQ HS HT y1 ym hHeld
 rotate_left
 focus -- more constraints
  clear c0 c1 m0 m1 p0 p1 k0 k1
  go_wp2_with fail
  go_loopg [47] (50 - Z.length) (fun gh _ wr => ∃ (q : Nat) (va : Value) (Z2 : List ((Int × List Int) × (Int × Value))) (top : Nat), q = gh ∧ q + Z2.length = 50 ∧ Z2.length ≤ 26 ∧ XrS 62 sb w bx gx top xn va Z2 wr ∧ DrS relT 43 sb w b0 gt (gt + 1) n (.slice ta tn tc) T wr ∧ ResB w.heap.size wr ∧ ResB (w.heap.size + 1) wr ∧ SrcR sb B (K + 1200 + (Z2.length : Int)) wr ∧ TchP (fun q => q = sb) w wr)
  case atStart => exact ⟨_, _, Z, _, rfl, by omega, by omega, HX.out, HD.out, HR.out, HQ.out, HS.out.mono (by omega), HT.out⟩
  clear HD HX HR HQ HS HT
  obtain ⟨q, va, Z2, top, hgq, hgh, hZ26, hx, hd, hr, hq, hsr, htc⟩ := hrel
  obtain ⟨wx, rfl⟩ : ∃ wx : World, wx = wr := ⟨_, rfl⟩
  have hZm : (Z2.map (·.2)).length = Z2.length := List.length_map _
  obtain ⟨xa, xm, xc, rfl⟩ := ex_slice (hx.1.bl.fr (by rw [hZm]; unfold capMax; omega))
  have hlen : xm = Z2.length := by
   obtain ⟨_, _, hv⟩ := fr_slice (hx.1.bl.fr (by rw [hZm]; unfold capMax; omega))
   simp only [Value.slice.injEq, List.length_map] at hv
   exact hv.2.1
  subst hlen
  have HX := Lib.hid hx
  have HD := Lib.hid hd
  have HR := Lib.hid hr
  have HQ := Lib.hid hq
  have HS := Lib.hid hsr
  have HT := Lib.hid htc
  have hxh := hx.1.hi
  have hto := hx.1.le
  have p1 := hx.1.c1
  clear hx hd hr hq hsr htc hZm
  have hv0 : Below wx.heap.size wx wx.drew := bD
  go_wp2_with fail
  refine wp_region_T (fun w' => w'.cell? ⟨gx, 1, none⟩ = some (.slice xa Z2.length xc)) [] (by kernel_rfl) p1 (fun hHeld => ?_)
  refine wpAnyT_take (i := 0) (v := ?_) rfl (by kernel_rfl) (fun _ _ _ h => h) (Or.inl ⟨by rfl, ?_⟩) (by assumption) ?_
  rotate_left
  ·(intro w hSw; (try dsimp only at hSw); go_simp <;> with_reducible rfl)
  go_simp
  refine wpAnyT_take (i := 1) (v := ?_) rfl (by kernel_rfl) (fun _ _ _ h => h) (Or.inl ⟨by rfl, ?_⟩) (by assumption) ?_
  rotate_left
  ·(intro w hSw; (try dsimp only at hSw); go_simp <;> with_reducible rfl)
  go_simp
  refine wpAnyT_take (i := 2) (v := ?_) rfl (by kernel_rfl) (fun _ _ _ h => h) (Or.inl ⟨by rfl, ?_⟩) (by assumption) ?_
  rotate_left
  ·(intro w hSw; (try dsimp only at hSw); go_simp <;> with_reducible rfl)
  go_simp
  refine wpAnyT_take (i := 3) (v := ?_) rfl (by kernel_rfl) (fun _ _ _ h => h) (Or.inl ⟨by rfl, ?_⟩) (by assumption) ?_
  rotate_left
  ·(intro w hSw; (try dsimp only at hSw); go_simp <;> with_reducible rfl)
  go_simp
  replace HX := Lib.hid (HX.out.below hv0 hto)
  replace HD := Lib.hid (HD.out.below hv0 HD.out.le)
  replace HR := Lib.hid (HR.out.below hv0 HR.out.1)
  replace HQ := Lib.hid (HQ.out.below hv0 HQ.out.1)
  replace HS := Lib.hid (HS.out.below hv0)
  replace HT := Lib.hid (tchW HT.out hv0 (by omega))
  have hzv := hv0.size
  clear p1 hv0
  generalize wx.drew = x0 at *
  refine wpAnyT_one (i := 4) rfl (by kernel_rfl) (fun K' hK' => ?_)
  go_simp
  go_at_call 39
  refine (pick_any x0 HS.out (by omega) (by omega) (n := 2) (by omega)).mono ?_
  rintro e x1 ⟨p, rfl, hp0, hp1, hs1, ht1⟩
  have hzy := ht1.size
  replace HX := Lib.hid (HX.out.tch ht1)
  replace HD := Lib.hid (HD.out.tch ht1)
  replace HR := Lib.hid (HR.out.tch ht1 (by omega))
  replace HQ := Lib.hid (HQ.out.tch ht1 (by omega))
  replace HS := Lib.hid hs1
  replace HT := Lib.hid (HT.out.then ht1 (fun q _ h => h))
  clear hs1 ht1
  obtain ⟨kk, hkk⟩ : ∃ kk : Nat, 24 + p = (kk : Int) := ⟨(24 + p).toNat, by omega⟩
  have hwr : IntKind.i64.wrap (24 + p) = (kk : Int) := by rw [hkk]; exact wrap_small (by omega) (by omega)
  have hk7 : kk ≤ 25 := by omega
  clear hkk
  dsimp only
  refine hK'.out _ _ HX.out.1.c1 (fun hHeld => ?_)
  clear hK' K'
  have p1 := HX.out.1.c1
  refine wpAnyT_take (i := 5) (v := ?_) rfl (by kernel_rfl) (fun _ _ _ h => h) (Or.inl ⟨by rfl, ?_⟩) (by assumption) ?_
  rotate_left
  ·(intro w hSw; (try dsimp only at hSw); go_simp <;> with_reducible rfl)
  go_simp
  clear hwr
  have hto1 := HX.out.1.le
  by_cases hgo : Z2.length < kk ∧ 0 < Z2.length
  ·obtain ⟨hlt, h0⟩ := hgo
   have hltB : decide (Z2.length < kk) = true := decide_eq_true hlt
   have h0I : (0 : Int) < ((Z2.length : Nat) : Int) := by omega
   refine wpAnyT_take (i := 6) (v := ?_) rfl (by kernel_rfl) (fun _ _ _ h => h) (Or.inl ⟨by rfl, ?_⟩) (by assumption) ?_
   rotate_left
   ·(intro w hSw; (try dsimp only at hSw); go_simp <;> with_reducible rfl)
   go_simp
   refine wpAnyT_take (i := 7) (v := ?_) rfl (by kernel_rfl) (fun _ _ _ h => h) (Or.inl ⟨by rfl, ?_⟩) (by assumption) ?_
   rotate_left
   ·(intro w hSw; (try dsimp only at hSw); go_simp <;> with_reducible rfl)
   go_simp
   refine wpAnyT_take (i := 8) (v := ?_) rfl (by kernel_rfl) (fun _ _ _ h => h) (Or.inl ⟨by rfl, ?_⟩) (by assumption) ?_
   rotate_left
   ·(intro w hSw; (try dsimp only at hSw); go_simp <;> with_reducible rfl)
   go_simp
   refine wpAnyT_take (i := 9) (v := ?_) rfl (by kernel_rfl) (fun _ _ _ h => h) (Or.inl ⟨by rfl, ?_⟩) (by assumption) ?_
   rotate_left
   ·(intro w hSw; (try dsimp only at hSw); go_simp <;> with_reducible rfl)
   go_simp
   refine wpAnyT_take (i := 10) (v := ?_) rfl (by kernel_rfl) (fun _ _ _ h => h) (Or.inl ⟨by rfl, ?_⟩) (by assumption) ?_
   rotate_left
   ·(intro w hSw; (try dsimp only at hSw); go_simp <;> with_reducible rfl)
   go_simp
   refine wpAnyT_take (i := 11) (v := ?_) rfl (by kernel_rfl) (fun _ _ _ h => h) (Or.inl ⟨by rfl, ?_⟩) (by assumption) ?_
   rotate_left
   ·(intro w hSw; (try dsimp only at hSw); go_simp <;> with_reducible rfl)
   go_simp
   refine wpAnyT_take (i := 12) (v := ?_) rfl (by kernel_rfl) (fun _ _ _ h => h) (Or.inl ⟨by rfl, ?_⟩) (by assumption) ?_
   rotate_left
   ·(intro w hSw; (try dsimp only at hSw); go_simp <;> with_reducible rfl)
   go_simp
   refine wpAnyT_done (by kernel_rfl) ?_ _
   go_simp
   go_wp2_with fail
   obtain ⟨rb, ro, rc, hv, hrb, hrbx, z0, z1, hzI, hz1⟩ := pv_ex (off_bl HX.out.1.bl) (by rw [List.length_map]; unfold capMax; omega) (by rw [List.length_map]; omega)
   simp only [Value.slice.injEq, List.length_map, true_and] at hv
   obtain ⟨rfl, rfl⟩ := hv
   simp only [List.getElem_map] at z0 z1 hzI hz1
   obtain ⟨zz, hzz⟩ : ∃ zz, Z2[0] = zz := ⟨_, rfl⟩
   have HZ := Lib.hid ((HX.out.2 _ (List.getElem_mem h0)).mono (ok' := fun q => bx ≤ q ∧ q ≠ gx ∧ (Value.slice (some ⟨rb, ro, none⟩) Z2.length xc).ownBlock ≠ some q ∧ q < x1.heap.size) (fun k _ hk => ⟨hk.1, hk.2.1, hk.2.2.1, by omega⟩))
   rw [hzz] at z0 z1 hzI hz1 HZ
   clear hzz
   have hv1 : Below x1.heap.size x1 x1.drew := bD
   refine wp_region_T (fun w' => w'.cell? ⟨gx, 1, none⟩ = some (.slice (some ⟨rb, ro, none⟩) Z2.length xc) ∧ w'.cell? ⟨rb, ro, none⟩ = some (.int .i64 zz.2.1) ∧ w'.cell? ⟨rb, ro + 1, none⟩ = some zz.2.2) [7] (by kernel_rfl) ⟨p1, z0, z1⟩ (fun hHeld => ?_)
   refine wpAnyT_take (i := 0) (v := ?_) rfl (by kernel_rfl) (fun _ _ _ h => h) (Or.inl ⟨by rfl, ?_⟩) (by assumption) ?_
   rotate_left
   ·(intro w hSw; (try dsimp only at hSw); go_simp <;> with_reducible rfl)
   go_simp
   refine wpAnyT_take (i := 1) (v := ?_) rfl (by kernel_rfl) (fun _ _ _ h => h) (Or.inl ⟨by rfl, ?_⟩) (by assumption) ?_
   rotate_left
   ·(intro w hSw; (try dsimp only at hSw); go_simp <;> with_reducible rfl)
   go_simp
   refine wpAnyT_take (i := 2) (v := ?_) rfl (by kernel_rfl) (fun _ _ _ h => h) (Or.inl ⟨by rfl, ?_⟩) (by assumption) ?_
   rotate_left
   ·(intro w hSw; (try dsimp only at hSw); go_simp <;> with_reducible rfl)
   go_simp
   refine wpAnyT_take (i := 3) (v := ?_) rfl (by kernel_rfl) (fun _ _ _ h => h) (Or.inl ⟨by rfl, ?_⟩) (by assumption) ?_
   rotate_left
   ·(intro w hSw; (try dsimp only at hSw); go_simp <;> with_reducible rfl)
   go_simp
   refine wpAnyT_take (i := 4) (v := ?_) rfl (by kernel_rfl) (fun _ _ _ h => h) (Or.inl ⟨by rfl, ?_⟩) (by assumption) ?_
   rotate_left
   ·(intro w hSw; (try dsimp only at hSw); go_simp <;> with_reducible rfl)
   go_simp
   refine wpAnyT_take (i := 5) (v := ?_) rfl (by kernel_rfl) (fun _ _ _ h => h) (Or.inl ⟨by rfl, ?_⟩) (by assumption) ?_
   rotate_left
   ·(intro w hSw; (try dsimp only at hSw); go_simp <;> with_reducible rfl)
   go_simp
   replace HX := Lib.hid (HX.out.below hv1 HX.out.1.le)
   replace HD := Lib.hid (HD.out.below hv1 HD.out.le)
   replace HR := Lib.hid (HR.out.below hv1 HR.out.1)
   replace HQ := Lib.hid (HQ.out.below hv1 HQ.out.1)
   replace HS := Lib.hid (HS.out.below hv1)
   replace HT := Lib.hid (tchW HT.out hv1 (by omega))
   replace HZ := Lib.hid (HZ.out.below hv1)
   have hzx := hv1.size
   clear p1 z0 z1
   generalize x1.drew = y0 at *
   clear hv1
   refine wpAnyT_one (i := 6) rfl (by kernel_rfl) (fun K' hK' => ?_)
   go_simp
   refine hK'.out _ _ ⟨by go_keep, by go_keep, by go_keep⟩ (fun hHeld => ?_)
   clear hK' K'
   refine wpAnyT_last (i := 7) rfl (by kernel_rfl) (by kernel_rfl) (fun K' hK' => ?_)
   refine step_push (E := pvT.off gx) _ rfl _ _ 27 62 rfl elCon rfl ((HX.out.1.bl.mono HX.out.1.le).below (bA (w := y0)) (Nat.le_refl _)) rfl news2 (fr_off (fr_pv (base := y0.heap.size) hzI hz1) (by omega)) (by rw [List.length_map]; omega) (by decide) (by omega) (by first | (simp; done) | (simp; omega)) ?_
   intro v6 w8 hB8 hg8 hown8
   obtain ⟨a8, n8, c8, rfl⟩ := ex_slice (hB8.fr (by rw [List.length_append, List.length_map]; unfold capMax; simp only [List.length_singleton]; omega))
   obtain ⟨y1, ym⟩ := (HX.out.1.below (bA (w := y0)) HX.out.1.le).cells hg8
   have hrow : ∀ b, (Value.slice (some ⟨rb, ro, none⟩) Z2.length xc).ownBlock = some b → bx ≤ b := fun b hb => HX.out.1.bl.own hb
   have HX8 := Lib.hid ((HX.out.below (bA (w := y0)) HX.out.1.le).push (z := zz) hB8 hg8 hown8 ((HZ.out.below bA).mono (fun z _ hz => ⟨hz.1, hz.2.1, hz.2.2.1, by have := hz.2.2.2; simp; omega⟩)))
   have HD8 := Lib.hid (((HD.out.below (bA (w := y0)) HD.out.le).grown hg8 (fun b hb => .inr (by have := hrow b hb; omega))).other (b := gx) (i := 1) (u := .slice a8 n8 c8) (.inr (by omega)))
   have HR8 := Lib.hid (((HR.out.below (bA (w := y0)) HR.out.1).grown hg8 (fun e => by have := hrow _ e; omega)).other (b := gx) (i := 1) (u := .slice a8 n8 c8) (by omega))
   have HQ8 := Lib.hid (((HQ.out.below (bA (w := y0)) HQ.out.1).grown hg8 (fun e => by have := hrow _ e; omega)).other (b := gx) (i := 1) (u := .slice a8 n8 c8) (by omega))
   have HS8 := Lib.hid (srcS (b := gx) (i := 1) (u := .slice a8 n8 c8) (srcG (HS.out.below (bA (w := y0))) hg8 (fun b hb => by have := hrow b hb; omega)) (by omega) (by omega))
   have HT8 := Lib.hid (tchS (g := gx) (i := 1) (v := .slice a8 n8 c8) (tchG (tchW HT.out (bA (w := y0)) (by omega)) hg8 (fun b hb => by have := hrow b hb; omega)) (by omega))
   clear hB8 hg8 hown8 hrow HX HD HR HQ HS HT HZ
   refine hK'.out _ _ ?_
   clear hK' K'
   refine wpAnyT_any (i := 8) (v := ?_) rfl (by kernel_rfl) (fun _ _ _ h => h) (Or.inl ⟨by rfl, ?_⟩) (by first | exact fun _ => by assumption | (intro hp; exact absurd hp (by rw [show pastB _ _ = true by kernel_rfl]; simp))) ?_
   rotate_left
   ·(intro w hSw; (try dsimp only at hSw); go_simp <;> with_reducible rfl)
   try simp only [Act.put]
   refine wpAnyT_last (i := 9) rfl (by kernel_rfl) (by kernel_rfl) (fun K' hK' => ?_)
   go_simp
   refine hK'.out _ _ ?_
   clear hK' K'
   refine wpAnyT_done (by kernel_rfl) ?_ _
   go_simp
   go_wp2_with fail
   obtain ⟨q', rfl⟩ : ∃ q', q = q' + 1 := ⟨q - 1, by omega⟩
   go_roundg q'
   case measure => omega
   case rel => exact ⟨_, _, _, _, rfl, by rw [List.length_append, List.length_singleton]; omega, by rw [List.length_append, List.length_singleton]; omega, HX8.out, HD8.out, HR8.out, HQ8.out, HS8.out.mono (by rw [List.length_append, List.length_singleton]; omega), HT8.out⟩
  ·have HXX : Hid (TxS sb B K w gt gx x1) := ⟨n, ta, tn, tc, T, xn, xa, Z2.length, xc, _, HD.out.c0, HD.out.c1, HX.out.1.c0, HX.out.1.c1, (HD.out.rdP HI.out (by omega)).mono (fun k _ hk => by omega), (HX.out.inst hIx (by omega)).mono (fun k _ hk => by omega), HR.out, HQ.out, HS.out.mono (by omega), HT.out⟩
   by_cases hlt : Z2.length < kk
   focus
    have hltB : decide (Z2.length < kk) = true := decide_eq_true hlt
    have h0N : ¬ 0 < Z2.length := fun h => hgo ⟨hlt, h⟩
    have h0I : ¬ (0 : Int) < ((Z2.length : Nat) : Int) := by omega
    clear hgo
    refine wpAnyT_take (i := 6) (v := ?_) rfl (by kernel_rfl) (fun _ _ _ h => h) (Or.inl ⟨by rfl, ?_⟩) (by assumption) ?_
    rotate_left
    ·(intro w hSw; (try dsimp only at hSw); go_simp <;> with_reducible rfl)
    go_simp
    refine wpAnyT_take (i := 7) (v := ?_) rfl (by kernel_rfl) (fun _ _ _ h => h) (Or.inl ⟨by rfl, ?_⟩) (by assumption) ?_
    rotate_left
    ·(intro w hSw; (try dsimp only at hSw); go_simp <;> with_reducible rfl)
    go_simp
    refine wpAnyT_take (i := 8) (v := ?_) rfl (by kernel_rfl) (fun _ _ _ h => h) (Or.inl ⟨by rfl, ?_⟩) (by assumption) ?_
    rotate_left
    ·(intro w hSw; (try dsimp only at hSw); go_simp <;> with_reducible rfl)
    go_simp
    refine wpAnyT_take (i := 9) (v := ?_) rfl (by kernel_rfl) (fun _ _ _ h => h) (Or.inl ⟨by rfl, ?_⟩) (by assumption) ?_
    rotate_left
    ·(intro w hSw; (try dsimp only at hSw); go_simp <;> with_reducible rfl)
    go_simp
    refine wpAnyT_take (i := 10) (v := ?_) rfl (by kernel_rfl) (fun _ _ _ h => h) (Or.inl ⟨by rfl, ?_⟩) (by assumption) ?_
    rotate_left
    ·(intro w hSw; (try dsimp only at hSw); go_simp <;> with_reducible rfl)
    go_simp
    refine wpAnyT_take (i := 11) (v := ?_) rfl (by kernel_rfl) (fun _ _ _ h => h) (Or.inl ⟨by rfl, ?_⟩) (by assumption) ?_
    rotate_left
    ·(intro w hSw; (try dsimp only at hSw); go_simp <;> with_reducible rfl)
    go_simp
    refine wpAnyT_take (i := 12) (v := ?_) rfl (by kernel_rfl) (fun _ _ _ h => h) (Or.inl ⟨by rfl, ?_⟩) (by assumption) ?_
    rotate_left
    ·(intro w hSw; (try dsimp only at hSw); go_simp <;> with_reducible rfl)
    go_simp
   rotate_left
   focus
    have hltB : decide (Z2.length < kk) = false := decide_eq_false hlt
    refine wpAnyT_take (i := 6) (v := ?_) rfl (by kernel_rfl) (fun _ _ _ h => h) (Or.inl ⟨by rfl, ?_⟩) (by assumption) ?_
    rotate_left
    ·(intro w hSw; (try dsimp only at hSw); go_simp <;> with_reducible rfl)
    go_simp
    refine wpAnyT_take (i := 7) (v := ?_) rfl (by kernel_rfl) (fun _ _ _ h => h) (Or.inl ⟨by rfl, ?_⟩) (by assumption) ?_
    rotate_left
    ·(intro w hSw; (try dsimp only at hSw); go_simp <;> with_reducible rfl)
    go_simp
    refine wpAnyT_take (i := 8) (v := undef) rfl (by kernel_rfl) (fun _ _ _ h => h) (Or.inr ⟨by rfl, rfl⟩) (by assumption) ?_
    go_simp
    refine wpAnyT_take (i := 9) (v := undef) rfl (by kernel_rfl) (fun _ _ _ h => h) (Or.inr ⟨by rfl, rfl⟩) (by assumption) ?_
    go_simp
    refine wpAnyT_take (i := 10) (v := undef) rfl (by kernel_rfl) (fun _ _ _ h => h) (Or.inr ⟨by rfl, rfl⟩) (by assumption) ?_
    go_simp
    refine wpAnyT_take (i := 11) (v := undef) rfl (by kernel_rfl) (fun _ _ _ h => h) (Or.inr ⟨by rfl, rfl⟩) (by assumption) ?_
    go_simp
    refine wpAnyT_take (i := 12) (v := ?_) rfl (by kernel_rfl) (fun _ _ _ h => h) (Or.inl ⟨by rfl, ?_⟩) (by assumption) ?_
    rotate_left
    ·(intro w hSw; (try dsimp only at hSw); go_simp <;> with_reducible rfl)
    go_simp
   all_goals
    refine wpAnyT_done (by kernel_rfl) ?_ _
    go_simp
    clear HD HX HR HQ HS HT p1 hHeld
    go_wp2_with fail
    obtain ⟨wv, rfl⟩ : ∃ wv : World, wv = x1 := ⟨_, rfl⟩
    obtain ⟨n', a', m', c', T', n2, a2, m2, c2, X2, d0, d1, d2, d3, ht, hx, hr, hq, hs, htc⟩ := HXX.out
    have HTR := Lib.hid ht
    have HXR := Lib.hid hx
    have HRr := Lib.hid hr
    have HQq := Lib.hid hq
    have HSs := Lib.hid hs
    have HTt := Lib.hid htc
    clear ht hx hr hq hs htc HXX
    refine wp_region_T (fun w' => w'.cell? ⟨gt, 0, none⟩ = some (.int .i64 n') ∧ w'.cell? ⟨gt, 1, none⟩ = some (.slice a' m' c') ∧ w'.cell? ⟨gx, 0, none⟩ = some (.int .i64 n2) ∧ w'.cell? ⟨gx, 1, none⟩ = some (.slice a2 m2 c2)) [3] (by kernel_rfl) ⟨d0, d1, d2, d3⟩ (fun hHeld => ?_)
    refine wpAnyT_take (i := 0) (v := ?_) rfl (by kernel_rfl) (fun _ _ _ h => h) (Or.inl ⟨by rfl, ?_⟩) (by assumption) ?_
    rotate_left
    ·(intro w hSw; (try dsimp only at hSw); go_simp <;> with_reducible rfl)
    go_simp
    refine wpAnyT_take (i := 1) (v := ?_) rfl (by kernel_rfl) (fun _ _ _ h => h) (Or.inl ⟨by rfl, ?_⟩) (by assumption) ?_
    rotate_left
    ·(intro w hSw; (try dsimp only at hSw); go_simp <;> with_reducible rfl)
    go_simp
    obtain ⟨⟨u0, r0⟩, ⟨u1, r1⟩, q0, q1⟩ := HRr.out.2
    obtain ⟨⟨u2, r2⟩, ⟨u3, r3⟩, q2, q3⟩ := HQq.out.2
    obtain ⟨s0, s1, s2, s3⟩ := set4_cells (show w.heap.size ≠ w.heap.size + 1 by omega) (x := .int .i64 n') (y := .slice a' m' c') (x' := .int .i64 n2) (y' := .slice a2 m2 c2) r0 r1 r2 r3
    have hn1 : gt ≠ w.heap.size := by omega
    have hn2 : gx ≠ w.heap.size := by omega
    refine wpAnyT_one (i := 2) rfl (by kernel_rfl) (fun K' hK' => ?_)
    go_simp
    refine hK'.out _ _ ⟨(keep2 hn1).trans d0, (keep2 hn1).trans d1, (keep2 hn2).trans d2, (keep2 hn2).trans d3⟩ (fun hHeld => ?_)
    clear hK' K' d0 d1 d2 d3
    refine wpAnyT_last (i := 3) rfl (by kernel_rfl) (by kernel_rfl) (fun K' hK' => ?_)
    go_simp
    refine hK'.out _ _ ?_
    clear hK' K'
    refine wpAnyT_done (by kernel_rfl) ?_ _
    go_simp
    go_wp2_with fail
    refine bodyPost_ret (v := .tuple #[.agg #[.int .i64 n', .slice a' m' c'], .agg #[.int .i64 n2, .slice a2 m2 c2]]) (by simp [results, Tryz.results38, go_sem, s0, s1, s2, s3]) rfl ⟨[.int .i64 n', .slice a' m' c'], [.int .i64 n2, .slice a2 m2 c2], (n', T'), (n2, X2), rfl, ?_, ?_, ?_, ?_⟩
    ·exact ((rdP_set (rdP_set (rdP_set (rdP_set HTR.out (by omega)) (by omega)) (by omega)) (by omega)).mono (fun k _ hk => by omega)).below bD
    ·exact ((rdP_set (rdP_set (rdP_set (rdP_set HXR.out (by omega)) (by omega)) (by omega)) (by omega)).mono (fun k _ hk => by omega)).below bD
    ·exact (srcS (srcS (srcS (srcS HSs.out (by omega) (by omega)) (by omega) (by omega)) (by omega) (by omega)) (by omega) (by omega)).below bD
    ·exact tchW (tchS (tchS (tchS (tchS HTt.out (Nat.le_refl _)) (Nat.le_refl _)) (by omega)) (by omega)) bD (by simp only [size_set]; exact HTt.out.size)
 rotate_left
 all_goals
  obtain ⟨n', a', m', c', T', n2, a2, m2, c2, X2, d0, d1, d2, d3, ht, hx, hr, hq, hs, htc⟩ := HXX.out
  have HTR := Lib.hid ht
  have HXR := Lib.hid hx
  have HRr := Lib.hid hr
  have HQq := Lib.hid hq
  have HSs := Lib.hid hs
  have HTt := Lib.hid htc
  clear ht hx hr hq hs htc HXX
  refine wp_region_T (fun w' => w'.cell? ⟨gt, 0, none⟩ = some (.int .i64 n') ∧ w'.cell? ⟨gt, 1, none⟩ = some (.slice a' m' c') ∧ w'.cell? ⟨gx, 0, none⟩ = some (.int .i64 n2) ∧ w'.cell? ⟨gx, 1, none⟩ = some (.slice a2 m2 c2)) [3] (by kernel_rfl) ⟨d0, d1, d2, d3⟩ (fun hHeld => ?_)
  refine wpAnyT_take (i := 0) (v := ?_) rfl (by kernel_rfl) (fun _ _ _ h => h) (Or.inl ⟨by rfl, ?_⟩) (by assumption) ?_
  rotate_left
  ·(intro w hSw; (try dsimp only at hSw); go_simp <;> with_reducible rfl)
  go_simp
  refine wpAnyT_take (i := 1) (v := ?_) rfl (by kernel_rfl) (fun _ _ _ h => h) (Or.inl ⟨by rfl, ?_⟩) (by assumption) ?_
  rotate_left
  ·(intro w hSw; (try dsimp only at hSw); go_simp <;> with_reducible rfl)
  go_simp
  obtain ⟨⟨u0, r0⟩, ⟨u1, r1⟩, q0, q1⟩ := HRr.out.2
  obtain ⟨⟨u2, r2⟩, ⟨u3, r3⟩, q2, q3⟩ := HQq.out.2
  obtain ⟨s0, s1, s2, s3⟩ := set4_cells (show w.heap.size ≠ w.heap.size + 1 by omega) (x := .int .i64 n') (y := .slice a' m' c') (x' := .int .i64 n2) (y' := .slice a2 m2 c2) r0 r1 r2 r3
  have hn1 : gt ≠ w.heap.size := by omega
  have hn2 : gx ≠ w.heap.size := by omega
  refine wpAnyT_one (i := 2) rfl (by kernel_rfl) (fun K' hK' => ?_)
  go_simp
  refine hK'.out _ _ ⟨(keep2 hn1).trans d0, (keep2 hn1).trans d1, (keep2 hn2).trans d2, (keep2 hn2).trans d3⟩ (fun hHeld => ?_)
  clear hK' K' d0 d1 d2 d3
  refine wpAnyT_last (i := 3) rfl (by kernel_rfl) (by kernel_rfl) (fun K' hK' => ?_)
  go_simp
  refine hK'.out _ _ ?_
  clear hK' K'
  refine wpAnyT_done (by kernel_rfl) ?_ _
  go_simp
  go_wp2_with fail
  refine bodyPost_ret (v := .tuple #[.agg #[.int .i64 n', .slice a' m' c'], .agg #[.int .i64 n2, .slice a2 m2 c2]]) (by simp [results, Tryz.results38, go_sem, s0, s1, s2, s3]) rfl ⟨[.int .i64 n', .slice a' m' c'], [.int .i64 n2, .slice a2 m2 c2], (n', T'), (n2, X2), rfl, ?_, ?_, ?_, ?_⟩
  ·exact ((rdP_set (rdP_set (rdP_set (rdP_set HTR.out (by omega)) (by omega)) (by omega)) (by omega)).mono (fun k _ hk => by omega)).below bD
  ·exact ((rdP_set (rdP_set (rdP_set (rdP_set HXR.out (by omega)) (by omega)) (by omega)) (by omega)).mono (fun k _ hk => by omega)).below bD
  ·exact (srcS (srcS (srcS (srcS HSs.out (by omega) (by omega)) (by omega) (by omega)) (by omega) (by omega)) (by omega) (by omega)).below bD
  ·exact tchW (tchS (tchS (tchS (tchS HTt.out (Nat.le_refl _)) (Nat.le_refl _)) (by omega)) (by omega)) bD (by simp only [size_set]; exact HTt.out.size)
end Go.Proofs.YtggelmbnliajeaaGreat
