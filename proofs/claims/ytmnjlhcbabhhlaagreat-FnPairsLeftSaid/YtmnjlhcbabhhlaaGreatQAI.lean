/-
Contracts: a template and an instance that are drawn, seldom ones that are not valid.
-/
import Derived.Test.YtmnjlhcbabhhlaaGreatQAH
import Derived.Test.YtmnjlhcbabhhlaaGreatQAG
namespace Go.Proofs.YtmnjlhcbabhhlaaGreat
open Go.RowKit Go.Sort
theorem consRdP {α : Type} {E : Ty α} {ok : Nat → Prop} {w : World} {n : Int} {cs : List Value} {x : α} (hI : I64 n) (h : E.RdP ok w cs x) : (Ty.cons E).RdP ok w (.int .i64 n :: cs) (n, x) := let ⟨fp, h1, h2⟩ := h; ⟨fp, ⟨cs, rfl, hI, h1⟩, h2⟩
theorem XrS.inst {e : TypeId} {sb lo g top : Nat} {w0 w : World} {n : Int} {v : Value} {Z : List ((Int × List Int) × (Int × Value))} (h : XrS e sb w0 lo g top n v Z w) (hI : I64 n) (hl : Z.length ≤ 1000000) : instT.RdP (fun q => lo ≤ q) w [.int .i64 n, v] (n, Z.map (·.1)) :=
 consRdP hI (ops_of (Ty.Fr.P ((off_bl h.1.bl).fr (by rw [List.length_map]; unfold capMax; omega))) (fun z hz => (h.2 z hz).mono (fun k _ hk => hk.1)))
theorem pv_ex {w : World} {v : Value} {VS : List (Int × Value)} {e base top : Nat} (h : Bl pvT e base top w v VS) (hl : VS.length ≤ capMax) (h0 : 0 < VS.length) : ∃ b o c, v = .slice (some ⟨b, o, none⟩) VS.length c ∧ b < w.heap.size ∧ base ≤ b ∧ w.cell? ⟨b, o, none⟩ = some (.int .i64 (VS[0]).1) ∧ w.cell? ⟨b, o + 1, none⟩ = some (VS[0]).2 ∧ I64 (VS[0]).1 ∧ (VS[0]).2.oneCell' = true := by
 obtain ⟨fp, ⟨ad, cap, hv, -, -, h3⟩, -, hb, -⟩ := h.fr hl
 obtain rfl : v = _ := by simpa using hv
 rcases h3 with ⟨h3, _⟩ | ⟨_, b, o, fps, rfl, hlt, rfl, h4⟩
 ·omega
 ·obtain ⟨cs, ⟨cs', rfl, hI, rfl, h1, _⟩, h6⟩ := h4 0 h0
  have k0 := h6 0 (by simp)
  have k1 := h6 1 (by simp)
  refine ⟨b, o, cap, rfl, hlt, hb b (List.mem_cons_self ..), ?_, ?_, hI, h1⟩
  ·simpa using k0
  ·simpa using k1
/-- a template and an instance come back -/
def TXR (sb B : Nat) (K : Int) (w : World) (en : Ending) (w' : World) : Prop := ∃ (cs cs' : List Value) (t : Int × List (Int × List (List Int))) (x : Int × List (Int × List Int)), en = .returned (.tuple #[.agg cs.toArray, .agg cs'.toArray]) ∧ tplT.RdP (fun q => w.heap.size ≤ q) w' cs t ∧ instT.RdP (fun q => w.heap.size ≤ q) w' cs' x ∧ SrcR sb B K w' ∧ TchP (fun q => q = sb) w w'
/-- what a drawn template and a drawn instance are behind the changes -/
def TxS (sb B : Nat) (K : Int) (w : World) (gt gx : Nat) (wv : World) : Prop := ∃ (n : Int) (a : Option Addr) (m c : Nat) (T : List (Int × List (List Int))) (n2 : Int) (a2 : Option Addr) (m2 c2 : Nat) (X : List (Int × List Int)), wv.cell? ⟨gt, 0, none⟩ = some (.int .i64 n) ∧ wv.cell? ⟨gt, 1, none⟩ = some (.slice a m c) ∧ wv.cell? ⟨gx, 0, none⟩ = some (.int .i64 n2) ∧ wv.cell? ⟨gx, 1, none⟩ = some (.slice a2 m2 c2) ∧ tplT.RdP (fun q => w.heap.size + 2 ≤ q) wv [.int .i64 n, .slice a m c] (n, T) ∧ instT.RdP (fun q => w.heap.size + 2 ≤ q) wv [.int .i64 n2, .slice a2 m2 c2] (n2, X) ∧ ResB w.heap.size wv ∧ ResB (w.heap.size + 1) wv ∧ SrcR sb B (K + 5000) wv ∧ TchP (fun q => q = sb) w wv
theorem DrS.rdP {α : Type} {E : Ty α} {e : TypeId} {sb lo g top : Nat} {w0 w : World} {n : Int} {v : Value} {T : List α} (h : DrS E e sb w0 lo g top n v T w) (hI : I64 n) (hl : T.length ≤ 1000000) : (Ty.cons (Ty.slice E)).RdP (fun q => lo ≤ q) w [.int .i64 n, v] (n, T) :=
 consRdP hI (Ty.Fr.P ((off_bl h.bl).fr (by unfold capMax; omega)))
theorem rdP_set {α : Type} {E : Ty α} {L b i : Nat} {w : World} {cs : List Value} {x : α} {u : Value} (h : E.RdP (fun q => L ≤ q) w cs x) (hb : b < L) : E.RdP (fun q => L ≤ q) (w.setCell ⟨b, i, none⟩ u) cs x := by
 obtain ⟨fp, h1, h2⟩ := h
 exact ⟨fp, E.same h1 (fun k hk => Below.heap_setCell _ _ _ _ (fun e => by simp at e; have := h2 k hk; omega)), h2⟩
theorem keep2 {w : World} {r b i : Nat} {u v : Value} (hne : b ≠ r) : ((w.setCell ⟨r, 0, none⟩ u).setCell ⟨r, 1, none⟩ v).cell? ⟨b, i, none⟩ = w.cell? ⟨b, i, none⟩ :=
 (World.cell?_setCell_other _ _ _ _ (fun e => by simp only [Addr.mk.injEq] at e; exact hne e.1.symm)).trans (World.cell?_setCell_other _ _ _ _ (fun e => by simp only [Addr.mk.injEq] at e; exact hne e.1.symm))
theorem set4_cells {w : World} {r q : Nat} (hne : r ≠ q) {x y x' y' u v u' v' : Value} (h0 : w.cell? ⟨r, 0, none⟩ = some u) (h1 : w.cell? ⟨r, 1, none⟩ = some v) (h2 : w.cell? ⟨q, 0, none⟩ = some u') (h3 : w.cell? ⟨q, 1, none⟩ = some v') :
  ((((w.setCell ⟨r, 0, none⟩ x).setCell ⟨r, 1, none⟩ y).setCell ⟨q, 0, none⟩ x').setCell ⟨q, 1, none⟩ y').cell? ⟨r, 0, none⟩ = some x ∧ ((((w.setCell ⟨r, 0, none⟩ x).setCell ⟨r, 1, none⟩ y).setCell ⟨q, 0, none⟩ x').setCell ⟨q, 1, none⟩ y').cell? ⟨r, 1, none⟩ = some y ∧
  ((((w.setCell ⟨r, 0, none⟩ x).setCell ⟨r, 1, none⟩ y).setCell ⟨q, 0, none⟩ x').setCell ⟨q, 1, none⟩ y').cell? ⟨q, 0, none⟩ = some x' ∧ ((((w.setCell ⟨r, 0, none⟩ x).setCell ⟨r, 1, none⟩ y).setCell ⟨q, 0, none⟩ x').setCell ⟨q, 1, none⟩ y').cell? ⟨q, 1, none⟩ = some y' := by
 have hoth : ∀ (W : World) (i j : Nat) (z : Value), (W.setCell ⟨q, i, none⟩ z).cell? ⟨r, j, none⟩ = W.cell? ⟨r, j, none⟩ := fun W i j z => World.cell?_setCell_other _ _ _ _ (fun e => by simp only [Addr.mk.injEq] at e; exact hne e.1.symm)
 have hoth2 : ∀ (W : World) (i j : Nat) (z : Value), (W.setCell ⟨r, i, none⟩ z).cell? ⟨q, j, none⟩ = W.cell? ⟨q, j, none⟩ := fun W i j z => World.cell?_setCell_other _ _ _ _ (fun e => by simp only [Addr.mk.injEq] at e; exact hne e.1)
 obtain ⟨a0, a1⟩ := set2_cells (x := x) (y := y) h0 h1
 obtain ⟨b0, b1⟩ := set2_cells (w := (w.setCell ⟨r, 0, none⟩ x).setCell ⟨r, 1, none⟩ y) (x := x') (y := y') (((hoth2 _ _ _ _).trans (hoth2 _ _ _ _)).trans h2) (((hoth2 _ _ _ _).trans (hoth2 _ _ _ _)).trans h3)
 exact ⟨((hoth _ _ _ _).trans (hoth _ _ _ _)).trans a0, ((hoth _ _ _ _).trans (hoth _ _ _ _)).trans a1, b0, b1⟩
set_option maxHeartbeats 12800000 in
set_option maxRecDepth 100000 in
theorem l05Bent_any (w : World) {sb B : Nat} {K : Int} (h : SrcR sb B K w) (hK0 : 0 ≤ K) (hK : K ≤ 10000) :
  Calls Tryz.prog 38 #[.pointer (some ⟨sb, 0, none⟩)] w (TXR sb B (K + 5000) w) := by
 have H := Lib.hid h
 have hsb := h.lt
 have hBs : B ≤ sb := let ⟨_, _, _, _, _, _, _, _, _, _, _, _, _, _, h⟩ := h; h
 clear h
 go_enter Tryz.func38, Tryz.ntmps38
 go_upto_region 1 with (fail)
 generalize hW : World.alloc (World.alloc w _) _ = W
 have hbW : Below w.heap.size w W := hW ▸ bAA
 have hsW : w.heap.size + 2 = W.heap.size := by rw [← hW]; simp
 have HR : Hid (ResB w.heap.size W) := by
  rw [← hW]
  exact (ResB.new rfl rfl).below bA (by simp)
 have HQ : Hid (ResB (w.heap.size + 1) W) := by
  rw [← hW]
  exact ResB.new rfl (by simp)
 have HS := Lib.hid (H.out.below hbW)
 clear hW
 go_wp2_with fail
 generalize hW1 : World.alloc W _ = W1
 have hb1 : Below W.heap.size W W1 := hW1 ▸ bA
 have HL : Hid (intsT.Fr W.heap.size W1 [.slice (some ⟨W.heap.size, 0, none⟩) 5 5] [2, 2, 3, 3, 4]) := by
  rw [← hW1]
  exact fr_intsL rfl rfl (fun a ha => by simp at ha; unfold I64; omega) rfl (Nat.le_refl _) (by decide)
 clear hW1
 have hz1 := hb1.size
 refine (among_any W1 (HS.out.below hb1) (by omega) (by omega) HL.out.rd (by simp) (rdP_fr' HL.out (by omega))).mono ?_
 rintro e w2 ⟨s, hp, rfl, hs2, ht2⟩
 have hsx : 1 ≤ s ∧ s ≤ 4 := by simp at hp; omega
 have hz2 := ht2.size
 replace HR := Lib.hid ((HR.out.below hb1 HR.out.1).tch ht2 (by omega))
 replace HQ := Lib.hid ((HQ.out.below hb1 HQ.out.1).tch ht2 (by omega))
 replace HS := Lib.hid hs2
 have HT := Lib.hid ((TchP.of_below (bthen hbW hb1) (fun q => q = sb)).then ht2 (fun q _ h => h))
 clear hs2 ht2 HL hp
 go_wp2_with fail
 refine (l01TemplateDrawn_any w2 HS.out (by omega) (by omega) hsx).mono ?_
 rintro e w3 ⟨v, n, T, b0, rfl, hI, hb0, hb01, hB, hTl, hq, hs3, ht3⟩
 obtain ⟨ta, tn, tc, rfl⟩ := ex_slice (hB.fr (by unfold capMax; omega))
 have hz3 := ht3.size
 replace HR := Lib.hid (HR.out.tch ht3 (by omega))
 replace HQ := Lib.hid (HQ.out.tch ht3 (by omega))
 replace HS := Lib.hid hs3
 replace HT := Lib.hid (HT.out.then ht3 (fun q _ h => h))
 have HB := Lib.hid hB
 have hT3 : T.length ≤ 3 := hq.2.1
 have HAR : Hid (∀ r ∈ T, 1 ≤ r.1 ∧ r.1 ≤ 3) := fun r hr => ⟨(hq.2.2 r hr).1.2.1.1, (hq.2.2 r hr).2⟩
 have HI := Lib.hid hI
 clear hs3 ht3 hB hq hI hTl
 go_wp2_with fail
 generalize hW4 : World.alloc w3 _ = w4
 have hb4 : Below w3.heap.size w3 w4 := hW4 ▸ bA
 have HD : Hid (DrS relT 43 sb w b0 w3.heap.size (w3.heap.size + 1) n (.slice ta tn tc) T w4) := DrS.box hW4.symm rfl HB.out hb01 (by omega) hsb
 clear hW4 HB
 replace HR := Lib.hid (HR.out.below hb4 HR.out.1)
 replace HQ := Lib.hid (HQ.out.below hb4 HQ.out.1)
 replace HS := Lib.hid (HS.out.below hb4)
 replace HT := Lib.hid (tchW HT.out hb4 (by omega))
 have hz4 : w3.heap.size + 1 ≤ w4.heap.size := HD.out.le
 generalize w3.heap.size = gt at *
 have hgb : w.heap.size + 2 ≤ b0 := by omega
 refine (l05Drawn_any w4 HS.out (by omega) (by omega) HD.out.c1 (by omega) ((Ty.Fr.P ((off_bl HD.out.bl).fr (by unfold capMax; omega))).mono (fun k _ hk => by omega)) (by omega) HAR.out).mono ?_
 rintro e w5 ⟨v, xn, Z, bx, rfl, hxn, hbx, hbx1, hBx, hZl, hZr, hs5, ht5⟩
 have hZm : (Z.map (·.2)).length = Z.length := List.length_map _
 obtain ⟨xa, xm, xc, rfl⟩ := ex_slice (hBx.fr (by rw [hZm]; unfold capMax; omega))
 have hz5 := ht5.size
 replace HR := Lib.hid (HR.out.tch ht5 (by omega))
 replace HQ := Lib.hid (HQ.out.tch ht5 (by omega))
 replace HD := Lib.hid (HD.out.tch ht5)
 replace HS := Lib.hid hs5
 replace HT := Lib.hid (HT.out.then ht5 (fun q _ h => h))
 have HBX := Lib.hid hBx
 have HZR := Lib.hid hZr
 have hIx : I64 xn := I64.small (by omega) (by omega)
 clear hs5 ht5 hBx hZr hZm HAR
 go_wp2_with fail
 generalize hW6 : World.alloc w5 _ = w6
 have hb6 : Below w5.heap.size w5 w6 := hW6 ▸ bA
 have HX : Hid (XrS 62 sb w bx w5.heap.size (w5.heap.size + 1) xn (.slice xa xm xc) Z w6) := ⟨DrS.box hW6.symm rfl HBX.out hbx1 (by omega) hsb, fun z hz => ((HZR.out z hz).mono (fun k hk hh => (⟨hh.1, by omega, hh.2, by omega⟩ : bx ≤ k ∧ k ≠ w5.heap.size ∧ (Value.slice xa xm xc).ownBlock ≠ some k ∧ k < w5.heap.size + 1))).below hb6⟩
 clear hW6 HBX HZR
 replace HR := Lib.hid (HR.out.below hb6 HR.out.1)
 replace HQ := Lib.hid (HQ.out.below hb6 HQ.out.1)
 replace HD := Lib.hid (HD.out.below hb6 HD.out.le)
 replace HS := Lib.hid (HS.out.below hb6)
 replace HT := Lib.hid (tchW HT.out hb6 (by omega))
 have hz6 : w5.heap.size + 1 ≤ w6.heap.size := HX.out.1.le
 generalize w5.heap.size = gx at *
 refine (pick_any w6 HS.out (by omega) (by omega) (n := 24) (by omega)).mono ?_
 rintro e w7 ⟨x, rfl, hx0, hx1, hs7, ht7⟩
 have hz7 := ht7.size
 replace HR := Lib.hid (HR.out.tch ht7 (by omega))
 replace HQ := Lib.hid (HQ.out.tch ht7 (by omega))
 replace HD := Lib.hid (HD.out.tch ht7)
 replace HX := Lib.hid (HX.out.tch ht7)
 replace HS := Lib.hid hs7
 replace HT := Lib.hid (HT.out.then ht7 (fun q _ h => h))
 clear hs7 ht7
 have c0 := HD.out.c0
 have c1 := HD.out.c1
 have m0 := HD.out.m0
 have m1 := HD.out.m1
 have p0 := HX.out.1.c0
 have p1 := HX.out.1.c1
 have k0 := HX.out.1.m0
 have k1 := HX.out.1.m1
 rcases (show x = 0 ∨ x = 1 ∨ x = 2 ∨ x = 3 ∨ (x ≠ 0 ∧ x ≠ 1 ∧ x ≠ 2 ∧ x ≠ 3) by omega) with rfl | rfl | rfl | rfl | hx
 rotate_left 4
 focus
  have e0 : (x == 0) = false := beq_eq_false_iff_ne.2 hx.1
  have e1 : (x == 1) = false := beq_eq_false_iff_ne.2 hx.2.1
  have e2 : (x == 2) = false := beq_eq_false_iff_ne.2 hx.2.2.1
  have e3 : (x == 3) = false := beq_eq_false_iff_ne.2 hx.2.2.2
  clear hx
  have HXX : Hid (TxS sb B K w gt gx w7) := ⟨n, ta, tn, tc, T, xn, xa, xm, xc, _, c0, c1, p0, p1, (HD.out.rdP HI.out (by omega)).mono (fun k _ hk => by omega), (HX.out.inst hIx (by omega)).mono (fun k _ hk => by omega), HR.out, HQ.out, HS.out.mono (by omega), HT.out⟩
  go_wp2_with fail
  clear HD HX HR HQ HS HT c0 c1 m0 m1 p0 p1 k0 k1
  obtain ⟨wv, rfl⟩ : ∃ wv : World, wv = w7 := ⟨_, rfl⟩
 rotate_left
 focus -- another template
  go_wp2_with fail
  refine (l01TemplateBent_any w7 HS.out (by omega) (by omega)).mono ?_
  rintro e w8 ⟨cs, t2, rfl, hf8, hl8, hs8, ht8⟩
  obtain ⟨a8, c8, rfl⟩ := fr_pair hf8
  replace c0 := (ht8.cell (i := 0) (show gt < w7.heap.size by omega) (by omega)).trans c0
  replace c1 := (ht8.cell (i := 1) (show gt < w7.heap.size by omega) (by omega)).trans c1
  replace m0 := (ht8.frozen (i := 0) (show gt < w7.heap.size by omega) (by omega)).trans m0
  replace m1 := (ht8.frozen (i := 1) (show gt < w7.heap.size by omega) (by omega)).trans m1
  have hz8 := ht8.size
  have HXX : Hid (TxS sb B K w gt gx ((w8.setCell ⟨gt, 0, none⟩ (.int .i64 t2.1)).setCell ⟨gt, 1, none⟩ (.slice a8 t2.2.length c8))) := by
   obtain ⟨g0, g1⟩ := set2_cells (x := .int .i64 t2.1) (y := .slice a8 t2.2.length c8) c0 c1
   have hX8 := ((HX.out.tch ht8).other (b := gt) (i := 0) (u := .int .i64 t2.1) (.inl (by omega))).other (b := gt) (i := 1) (u := .slice a8 t2.2.length c8) (.inl (by omega))
   exact ⟨t2.1, a8, t2.2.length, c8, t2.2, xn, xa, xm, xc, _, g0, g1, hX8.1.c0, hX8.1.c1, (Ty.Fr.P ((hf8.set (a := ⟨gt, 0, none⟩) (by show gt < _; omega)).set (a := ⟨gt, 1, none⟩) (by show gt < _; omega))).mono (fun k _ hk => by omega), (hX8.inst hIx (by omega)).mono (fun k _ hk => by omega), ((HR.out.tch ht8 (by omega)).other (by omega)).other (by omega), ((HQ.out.tch ht8 (by omega)).other (by omega)).other (by omega), (srcS (srcS hs8 (by omega) (by omega)) (by omega) (by omega)).mono (by omega), tchS (tchS (HT.out.then ht8 (fun q _ h => h)) (by omega)) (by omega)⟩
  clear hf8 hl8 hs8 ht8 p0 p1 k0 k1
  go_wp2_with fail
  generalize (w8.setCell ⟨gt, 0, none⟩ (.int .i64 t2.1)).setCell ⟨gt, 1, none⟩ (.slice a8 t2.2.length c8) = wv at HXX ⊢
  clear HD HX HR HQ HS HT c0 c1 m0 m1
 rotate_left
 focus -- another number of variables
  go_wp2_with fail
  generalize hW8 : World.alloc w7 _ = w8
  have hb8 : Below w7.heap.size w7 w8 := hW8 ▸ bA
  have HL : Hid (intsT.Fr w7.heap.size w8 [.slice (some ⟨w7.heap.size, 0, none⟩) 3 3] [0, 11, 1]) := by
   rw [← hW8]
   exact fr_intsL rfl rfl (fun a ha => by simp at ha; unfold I64; omega) rfl (Nat.le_refl _) (by decide)
  clear hW8
  refine (among_any w8 (HS.out.below hb8) (by omega) (by omega) HL.out.rd (by simp) (rdP_fr' HL.out (by omega))).mono ?_
  rintro e w9 ⟨p, hp, rfl, hs9, ht9⟩
  have hIp : I64 p := by simp at hp; unfold I64; omega
  have HX9 := Lib.hid ((HX.out.below hb8 HX.out.1.le).tch ht9)
  replace p0 := HX9.out.1.c0
  replace k0 := HX9.out.1.m0
  have HXX : Hid (TxS sb B K w gt gx (w9.setCell ⟨gx, 0, none⟩ (.int .i64 p))) := by
   have hX9 := HX9.out.num p
   have hD9 := ((HD.out.below hb8 HD.out.le).tch ht9).other (b := gx) (i := 0) (u := .int .i64 p) (.inr (by omega))
   exact ⟨n, ta, tn, tc, T, p, xa, xm, xc, _, hD9.c0, hD9.c1, hX9.1.c0, hX9.1.c1, (hD9.rdP HI.out (by omega)).mono (fun k _ hk => by omega), (hX9.inst hIp (by omega)).mono (fun k _ hk => by omega), ((HR.out.below hb8 HR.out.1).tch ht9 (by omega)).other (by omega), ((HQ.out.below hb8 HQ.out.1).tch ht9 (by omega)).other (by omega), (srcS hs9 (by omega) (by omega)).mono (by omega), tchS ((tchW HT.out hb8 (by omega)).then ht9 (fun q _ h => h)) (by omega)⟩
  clear hs9 ht9 HL hp HX9 c0 c1 m0 m1 p1 k1
  go_wp2_with fail
  generalize w9.setCell ⟨gx, 0, none⟩ (.int .i64 p) = wv at HXX ⊢
  clear HD HX HR HQ HS HT
 rotate_left
 focus -- one more constraint
  clear c0 c1 m0 m1 p0 k0 k1
  have hv0 : Below w7.heap.size w7 w7.drew := bD
  go_wp2_with fail
  refine wp_region_T (fun w' => w'.cell? ⟨gx, 1, none⟩ = some (.slice xa xm xc)) [10] (by kernel_rfl) p1 (fun hHeld => ?_)
  refine wpAnyT_take (i := 0) (v := ?_) rfl (by kernel_rfl) (fun _ _ _ h => h) (Or.inl ⟨by rfl, ?_⟩) (by assumption) ?_
  rotate_left
  ·(intro w hSw; (try dsimp only at hSw); go_simp <;> with_reducible rfl)
  go_simp
  refine wpAnyT_take (i := 1) (v := ?_) rfl (by kernel_rfl) (fun _ _ _ h => h) (Or.inl ⟨by rfl, ?_⟩) (by assumption) ?_
  rotate_left
  ·(intro w hSw; (try dsimp only at hSw); go_simp <;> with_reducible rfl)
  go_simp
  refine wpAnyT_take (i := 2) (v := ?_) rfl (by kernel_rfl) (fun _ _ _ h => h) (Or.inl ⟨by rfl, ?_⟩) (by assumption) ?_
  rotate_left
  ·(intro w hSw; (try dsimp only at hSw); go_simp <;> with_reducible rfl)
  go_simp
  refine wpAnyT_take (i := 5) (v := ?_) rfl (by kernel_rfl) (fun _ _ _ h => h) (Or.inl ⟨by rfl, ?_⟩) (by assumption) ?_
  rotate_left
  ·(intro w hSw; (try dsimp only at hSw); go_simp <;> with_reducible rfl)
  go_simp
  replace HX := Lib.hid (HX.out.below hv0 HX.out.1.le)
  replace HD := Lib.hid (HD.out.below hv0 HD.out.le)
  replace HR := Lib.hid (HR.out.below hv0 HR.out.1)
  replace HQ := Lib.hid (HQ.out.below hv0 HQ.out.1)
  replace HS := Lib.hid (HS.out.below hv0)
  replace HT := Lib.hid (tchW HT.out hv0 (by omega))
  have hzv := hv0.size
  clear p1 hv0
  generalize w7.drew = x0 at *
  refine wpAnyT_one (i := 3) rfl (by kernel_rfl) (fun K' hK' => ?_)
  go_simp
  go_at_call 39
  refine (pick_any x0 HS.out (by omega) (by omega) (n := 5) (by omega)).mono ?_
  rintro e x1 ⟨p, rfl, hp0, hp1, hs1, ht1⟩
  have hzy := ht1.size
  replace HX := Lib.hid (HX.out.tch ht1)
  replace HD := Lib.hid (HD.out.tch ht1)
  replace HR := Lib.hid (HR.out.tch ht1 (by omega))
  replace HQ := Lib.hid (HQ.out.tch ht1 (by omega))
  replace HS := Lib.hid hs1
  replace HT := Lib.hid (HT.out.then ht1 (fun q _ h => h))
  clear hs1 ht1
  dsimp only
  refine hK'.out _ _ HX.out.1.c1 (fun hHeld => ?_)
  clear hK' K'
  have hwr : IntKind.i64.wrap (p - 1) = p - 1 := wrap_small (by omega) (by omega)
  refine wpAnyT_take (i := 4) (v := ?_) rfl (by kernel_rfl) (fun _ _ _ h => h) (Or.inl ⟨by rfl, ?_⟩) (by assumption) ?_
  rotate_left
  ·(intro w hSw; (try dsimp only at hSw); go_simp <;> with_reducible rfl)
  go_simp
  clear hwr
  refine wpAnyT_one (i := 6) rfl (by kernel_rfl) (fun K' hK' => ?_)
  go_simp
  go_at_call 39
  refine (pick_any x1 HS.out (by omega) (by omega) (n := 6) (by omega)).mono ?_
  rintro e x2 ⟨p2, rfl, hq0, hq1, hs2, ht2⟩
  have hzz := ht2.size
  replace HX := Lib.hid (HX.out.tch ht2)
  replace HD := Lib.hid (HD.out.tch ht2)
  replace HR := Lib.hid (HR.out.tch ht2 (by omega))
  replace HQ := Lib.hid (HQ.out.tch ht2 (by omega))
  replace HS := Lib.hid hs2
  replace HT := Lib.hid (HT.out.then ht2 (fun q _ h => h))
  clear hs2 ht2
  dsimp only
  refine hK'.out _ _ HX.out.1.c1 (fun hHeld => ?_)
  clear hK' K'
  refine wpAnyT_one (i := 7) rfl (by kernel_rfl) (fun K' hK' => ?_)
  go_simp
  generalize hWx : World.alloc x2 _ = x3
  have hb3 : Below x2.heap.size x2 x3 := by rw [← hWx]; exact bA
  have hs3 : x2.heap.size + 1 = x3.heap.size := by rw [← hWx]; simp
  have HL : Hid (intsT.Fr x2.heap.size x3 [.slice (some ⟨x2.heap.size, 0, none⟩) 2 2] [0, p2]) := by
   rw [← hWx]
   exact fr_intsL rfl rfl (fun a ha => by simp at ha; unfold I64; omega) rfl (Nat.le_refl _) (by decide)
  clear hWx
  have hxl := HX.out.1.le
  have hxh := HX.out.1.hi
  replace HX := Lib.hid (HX.out.below hb3 HX.out.1.le)
  replace HD := Lib.hid (HD.out.below hb3 HD.out.le)
  replace HR := Lib.hid (HR.out.below hb3 HR.out.1)
  replace HQ := Lib.hid (HQ.out.below hb3 HQ.out.1)
  replace HS := Lib.hid (HS.out.below hb3)
  replace HT := Lib.hid (tchW HT.out hb3 (by omega))
  have hIp : I64 (p - 1) := I64.small (by omega) (by omega)
  have HZ : Hid (pvR (fun q => bx ≤ q ∧ q ≠ gx ∧ (Value.slice xa xm xc).ownBlock ≠ some q ∧ q < x3.heap.size) x3 (((p - 1 : Int), [0, p2]), ((p - 1 : Int), Value.slice (some ⟨x2.heap.size, 0, none⟩) 2 2))) := by
   obtain ⟨fp, h1, h2, h3, h4⟩ := HL.out
   refine ⟨rfl, hIp, fp, h1, fun z hz => ?_⟩
   have hz1 := h3 z hz
   have hz2 := intsT.lt h1 z hz
   exact ⟨by omega, by omega, fun e => by have := HX.out.1.bl.lt_top e; omega, hz2⟩
  refine hK'.out _ _ HX.out.1.c1 (fun hHeld => ?_)
  clear hK' K'
  refine wpAnyT_take (i := 8) (v := ?_) rfl (by kernel_rfl) (fun _ _ _ h => h) (Or.inl ⟨by rfl, ?_⟩) (by assumption) ?_
  rotate_left
  ·(intro w hSw; (try dsimp only at hSw); go_simp <;> with_reducible rfl)
  go_simp
  refine wpAnyT_one (i := 9) rfl (by kernel_rfl) (fun K' hK' => ?_)
  go_simp
  refine hK'.out _ _ (by go_keep) (fun hHeld => ?_)
  clear hK' K'
  refine wpAnyT_last (i := 10) rfl (by kernel_rfl) (by kernel_rfl) (fun K' hK' => ?_)
  refine step_push (E := pvT.off gx) _ rfl _ _ 27 62 rfl elCon rfl ((HX.out.1.bl.mono HX.out.1.le).below (bA (w := x3)) (Nat.le_refl _)) rfl news2 (fr_off (fr_pv (base := x3.heap.size) hIp rfl) (by omega)) (by rw [List.length_map]; omega) (by decide) (by omega) (by first | (simp; done) | (simp; omega)) ?_
  intro v6 w8 hB8 hg8 hown8
  obtain ⟨a8, n8, c8, rfl⟩ := ex_slice (hB8.fr (by rw [List.length_append, List.length_map]; unfold capMax; simp only [List.length_singleton]; omega))
  obtain ⟨y1, ym⟩ := (HX.out.1.below (bA (w := x3)) HX.out.1.le).cells hg8
  have hrow : ∀ b, (Value.slice xa xm xc).ownBlock = some b → bx ≤ b := fun b hb => HX.out.1.bl.own hb
  have HXX : Hid (TxS sb B K w gt gx (w8.setCell ⟨gx, 1, none⟩ (.slice a8 n8 c8))) := by
   have hX8 := (HX.out.below (bA (w := x3)) HX.out.1.le).push (z := (((p - 1 : Int), [0, p2]), ((p - 1 : Int), Value.slice (some ⟨x2.heap.size, 0, none⟩) 2 2))) hB8 hg8 hown8 ((HZ.out.below bA).mono (fun z _ hz => ⟨hz.1, hz.2.1, hz.2.2.1, by have := hz.2.2.2; simp; omega⟩))
   have hD8 := ((HD.out.below (bA (w := x3)) HD.out.le).grown hg8 (fun b hb => .inr (by have := hrow b hb; omega))).other (b := gx) (i := 1) (u := .slice a8 n8 c8) (.inr (by omega))
   exact ⟨n, ta, tn, tc, T, xn, a8, n8, c8, _, hD8.c0, hD8.c1, hX8.1.c0, hX8.1.c1, (hD8.rdP HI.out (by omega)).mono (fun k _ hk => by omega), (hX8.inst hIx (by rw [List.length_append, List.length_singleton]; omega)).mono (fun k _ hk => by omega), ((HR.out.below (bA (w := x3)) HR.out.1).grown hg8 (fun e => by have := hrow _ e; omega)).other (by omega), ((HQ.out.below (bA (w := x3)) HQ.out.1).grown hg8 (fun e => by have := hrow _ e; omega)).other (by omega), (srcS (srcG (HS.out.below (bA (w := x3))) hg8 (fun b hb => by have := hrow b hb; omega)) (by omega) (by omega)).mono (by omega), tchS (tchG (tchW HT.out (bA (w := x3)) (by omega)) hg8 (fun b hb => by have := hrow b hb; omega)) (by omega)⟩
  clear hB8 hg8 hown8 hrow HZ HL
  refine hK'.out _ _ ?_
  clear hK' K'
  refine wpAnyT_any (i := 11) (v := ?_) rfl (by kernel_rfl) (fun _ _ _ h => h) (Or.inl ⟨by rfl, ?_⟩) (by first | exact fun _ => by assumption | (intro hp; exact absurd hp (by rw [show pastB _ _ = true by kernel_rfl]; simp))) ?_
  rotate_left
  ·(intro w hSw; (try dsimp only at hSw); go_simp <;> with_reducible rfl)
  try simp only [Act.put]
  refine wpAnyT_last (i := 12) rfl (by kernel_rfl) (by kernel_rfl) (fun K' hK' => ?_)
  go_simp
  refine hK'.out _ _ ?_
  clear hK' K'
  refine wpAnyT_done (by kernel_rfl) ?_ _
  go_simp
  go_wp2_with fail
  generalize w8.setCell ⟨gx, 1, none⟩ (.slice a8 n8 c8) = wv at HXX ⊢
  clear HD HX HR HQ HS HT y1 ym hHeld
 rotate_left
 focus -- more constraints
  clear c0 c1 m0 m1 p0 p1 k0 k1
  go_wp2_with fail
  go_loopg [47] (50 - Z.length) (fun gh _ wr => ∃ (q : Nat) (va : Value) (Z2 : List ((Int × List Int) × (Int × Value))) (top : Nat), q = gh ∧ q + Z2.length = 50 ∧ Z2.length ≤ 26 ∧ XrS 62 sb w bx gx top xn va Z2 wr ∧ DrS relT 43 sb w b0 gt (gt + 1) n (.slice ta tn tc) T wr ∧ ResB w.heap.size wr ∧ ResB (w.heap.size + 1) wr ∧ SrcR sb B (K + 1200 + (Z2.length : Int)) wr ∧ TchP (fun q => q = sb) w wr)
  case atStart => exact ⟨_, _, Z, _, rfl, by omega, by omega, HX.out, HD.out, HR.out, HQ.out, HS.out.mono (by omega), HT.out⟩
  clear HD HX HR HQ HS HT
  obtain ⟨q, va, Z2, top, hgq, hgh, hZ26, hx, hd, hr, hq, hsr, htc⟩ := hrel
  obtain ⟨wx, rfl⟩ : ∃ wx : World, wx = wr := ⟨_, rfl⟩
  have hZm : (Z2.map (·.2)).length = Z2.length := List.length_map _
  obtain ⟨xa, xm, xc, rfl⟩ := ex_slice (hx.1.bl.fr (by rw [hZm]; unfold capMax; omega))
  have hlen : xm = Z2.length := by
   obtain ⟨_, _, hv⟩ := fr_slice (hx.1.bl.fr (by rw [hZm]; unfold capMax; omega))
   simp only [Value.slice.injEq, List.length_map] at hv
   exact hv.2.1
  subst hlen
  have HX := Lib.hid hx
  have HD := Lib.hid hd
  have HR := Lib.hid hr
  have HQ := Lib.hid hq
  have HS := Lib.hid hsr
  have HT := Lib.hid htc
  have hxh := hx.1.hi
  have hto := hx.1.le
  have p1 := hx.1.c1
  clear hx hd hr hq hsr htc hZm
  have hv0 : Below wx.heap.size wx wx.drew := bD
  go_wp2_with fail
  refine wp_region_T (fun w' => w'.cell? ⟨gx, 1, none⟩ = some (.slice xa Z2.length xc)) [] (by kernel_rfl) p1 (fun hHeld => ?_)
  refine wpAnyT_take (i := 0) (v := ?_) rfl (by kernel_rfl) (fun _ _ _ h => h) (Or.inl ⟨by rfl, ?_⟩) (by assumption) ?_
  rotate_left
  ·(intro w hSw; (try dsimp only at hSw); go_simp <;> with_reducible rfl)
  go_simp
  refine wpAnyT_take (i := 1) (v := ?_) rfl (by kernel_rfl) (fun _ _ _ h => h) (Or.inl ⟨by rfl, ?_⟩) (by assumption) ?_
  rotate_left
  ·(intro w hSw; (try dsimp only at hSw); go_simp <;> with_reducible rfl)
  go_simp
  refine wpAnyT_take (i := 2) (v := ?_) rfl (by kernel_rfl) (fun _ _ _ h => h) (Or.inl ⟨by rfl, ?_⟩) (by assumption) ?_
  rotate_left
  ·(intro w hSw; (try dsimp only at hSw); go_simp <;> with_reducible rfl)
  go_simp
  refine wpAnyT_take (i := 3) (v := ?_) rfl (by kernel_rfl) (fun _ _ _ h => h) (Or.inl ⟨by rfl, ?_⟩) (by assumption) ?_
  rotate_left
  ·(intro w hSw; (try dsimp only at hSw); go_simp <;> with_reducible rfl)
  go_simp
  replace HX := Lib.hid (HX.out.below hv0 hto)
  replace HD := Lib.hid (HD.out.below hv0 HD.out.le)
  replace HR := Lib.hid (HR.out.below hv0 HR.out.1)
  replace HQ := Lib.hid (HQ.out.below hv0 HQ.out.1)
  replace HS := Lib.hid (HS.out.below hv0)
  replace HT := Lib.hid (tchW HT.out hv0 (by omega))
  have hzv := hv0.size
  clear p1 hv0
  generalize wx.drew = x0 at *
  refine wpAnyT_one (i := 4) rfl (by kernel_rfl) (fun K' hK' => ?_)
  go_simp
  go_at_call 39
  refine (pick_any x0 HS.out (by omega) (by omega) (n := 2) (by omega)).mono ?_
  rintro e x1 ⟨p, rfl, hp0, hp1, hs1, ht1⟩
  have hzy := ht1.size
  replace HX := Lib.hid (HX.out.tch ht1)
  replace HD := Lib.hid (HD.out.tch ht1)
  replace HR := Lib.hid (HR.out.tch ht1 (by omega))
  replace HQ := Lib.hid (HQ.out.tch ht1 (by omega))
  replace HS := Lib.hid hs1
  replace HT := Lib.hid (HT.out.then ht1 (fun q _ h => h))
  clear hs1 ht1
  obtain ⟨kk, hkk⟩ : ∃ kk : Nat, 24 + p = (kk : Int) := ⟨(24 + p).toNat, by omega⟩
  have hwr : IntKind.i64.wrap (24 + p) = (kk : Int) := by rw [hkk]; exact wrap_small (by omega) (by omega)
  have hk7 : kk ≤ 25 := by omega
  clear hkk
  dsimp only
  refine hK'.out _ _ HX.out.1.c1 (fun hHeld => ?_)
  clear hK' K'
  have p1 := HX.out.1.c1
  refine wpAnyT_take (i := 5) (v := ?_) rfl (by kernel_rfl) (fun _ _ _ h => h) (Or.inl ⟨by rfl, ?_⟩) (by assumption) ?_
  rotate_left
  ·(intro w hSw; (try dsimp only at hSw); go_simp <;> with_reducible rfl)
  go_simp
  clear hwr
  have hto1 := HX.out.1.le
  by_cases hgo : Z2.length < kk ∧ 0 < Z2.length
  ·obtain ⟨hlt, h0⟩ := hgo
   have hltB : decide (Z2.length < kk) = true := decide_eq_true hlt
   have h0I : (0 : Int) < ((Z2.length : Nat) : Int) := by omega
   refine wpAnyT_take (i := 6) (v := ?_) rfl (by kernel_rfl) (fun _ _ _ h => h) (Or.inl ⟨by rfl, ?_⟩) (by assumption) ?_
   rotate_left
   ·(intro w hSw; (try dsimp only at hSw); go_simp <;> with_reducible rfl)
   go_simp
   refine wpAnyT_take (i := 7) (v := ?_) rfl (by kernel_rfl) (fun _ _ _ h => h) (Or.inl ⟨by rfl, ?_⟩) (by assumption) ?_
   rotate_left
   ·(intro w hSw; (try dsimp only at hSw); go_simp <;> with_reducible rfl)
   go_simp
   refine wpAnyT_take (i := 8) (v := ?_) rfl (by kernel_rfl) (fun _ _ _ h => h) (Or.inl ⟨by rfl, ?_⟩) (by assumption) ?_
   rotate_left
   ·(intro w hSw; (try dsimp only at hSw); go_simp <;> with_reducible rfl)
   go_simp
   refine wpAnyT_take (i := 9) (v := ?_) rfl (by kernel_rfl) (fun _ _ _ h => h) (Or.inl ⟨by rfl, ?_⟩) (by assumption) ?_
   rotate_left
   ·(intro w hSw; (try dsimp only at hSw); go_simp <;> with_reducible rfl)
   go_simp
   refine wpAnyT_take (i := 10) (v := ?_) rfl (by kernel_rfl) (fun _ _ _ h => h) (Or.inl ⟨by rfl, ?_⟩) (by assumption) ?_
   rotate_left
   ·(intro w hSw; (try dsimp only at hSw); go_simp <;> with_reducible rfl)
   go_simp
   refine wpAnyT_take (i := 11) (v := ?_) rfl (by kernel_rfl) (fun _ _ _ h => h) (Or.inl ⟨by rfl, ?_⟩) (by assumption) ?_
   rotate_left
   ·(intro w hSw; (try dsimp only at hSw); go_simp <;> with_reducible rfl)
   go_simp
   refine wpAnyT_take (i := 12) (v := ?_) rfl (by kernel_rfl) (fun _ _ _ h => h) (Or.inl ⟨by rfl, ?_⟩) (by assumption) ?_
   rotate_left
   ·(intro w hSw; (try dsimp only at hSw); go_simp <;> with_reducible rfl)
   go_simp
   refine wpAnyT_done (by kernel_rfl) ?_ _
   go_simp
   go_wp2_with fail
   obtain ⟨rb, ro, rc, hv, hrb, hrbx, z0, z1, hzI, hz1⟩ := pv_ex (off_bl HX.out.1.bl) (by rw [List.length_map]; unfold capMax; omega) (by rw [List.length_map]; omega)
   simp only [Value.slice.injEq, List.length_map, true_and] at hv
   obtain ⟨rfl, rfl⟩ := hv
   simp only [List.getElem_map] at z0 z1 hzI hz1
   obtain ⟨zz, hzz⟩ : ∃ zz, Z2[0] = zz := ⟨_, rfl⟩
   have HZ := Lib.hid ((HX.out.2 _ (List.getElem_mem h0)).mono (ok' := fun q => bx ≤ q ∧ q ≠ gx ∧ (Value.slice (some ⟨rb, ro, none⟩) Z2.length xc).ownBlock ≠ some q ∧ q < x1.heap.size) (fun k _ hk => ⟨hk.1, hk.2.1, hk.2.2.1, by omega⟩))
   rw [hzz] at z0 z1 hzI hz1 HZ
   clear hzz
   have hv1 : Below x1.heap.size x1 x1.drew := bD
   refine wp_region_T (fun w' => w'.cell? ⟨gx, 1, none⟩ = some (.slice (some ⟨rb, ro, none⟩) Z2.length xc) ∧ w'.cell? ⟨rb, ro, none⟩ = some (.int .i64 zz.2.1) ∧ w'.cell? ⟨rb, ro + 1, none⟩ = some zz.2.2) [7] (by kernel_rfl) ⟨p1, z0, z1⟩ (fun hHeld => ?_)
   refine wpAnyT_take (i := 0) (v := ?_) rfl (by kernel_rfl) (fun _ _ _ h => h) (Or.inl ⟨by rfl, ?_⟩) (by assumption) ?_
   rotate_left
   ·(intro w hSw; (try dsimp only at hSw); go_simp <;> with_reducible rfl)
   go_simp
   refine wpAnyT_take (i := 1) (v := ?_) rfl (by kernel_rfl) (fun _ _ _ h => h) (Or.inl ⟨by rfl, ?_⟩) (by assumption) ?_
   rotate_left
   ·(intro w hSw; (try dsimp only at hSw); go_simp <;> with_reducible rfl)
   go_simp
   refine wpAnyT_take (i := 2) (v := ?_) rfl (by kernel_rfl) (fun _ _ _ h => h) (Or.inl ⟨by rfl, ?_⟩) (by assumption) ?_
   rotate_left
   ·(intro w hSw; (try dsimp only at hSw); go_simp <;> with_reducible rfl)
   go_simp
   refine wpAnyT_take (i := 3) (v := ?_) rfl (by kernel_rfl) (fun _ _ _ h => h) (Or.inl ⟨by rfl, ?_⟩) (by assumption) ?_
   rotate_left
   ·(intro w hSw; (try dsimp only at hSw); go_simp <;> with_reducible rfl)
   go_simp
   refine wpAnyT_take (i := 4) (v := ?_) rfl (by kernel_rfl) (fun _ _ _ h => h) (Or.inl ⟨by rfl, ?_⟩) (by assumption) ?_
   rotate_left
   ·(intro w hSw; (try dsimp only at hSw); go_simp <;> with_reducible rfl)
   go_simp
   refine wpAnyT_take (i := 5) (v := ?_) rfl (by kernel_rfl) (fun _ _ _ h => h) (Or.inl ⟨by rfl, ?_⟩) (by assumption) ?_
   rotate_left
   ·(intro w hSw; (try dsimp only at hSw); go_simp <;> with_reducible rfl)
   go_simp
   replace HX := Lib.hid (HX.out.below hv1 HX.out.1.le)
   replace HD := Lib.hid (HD.out.below hv1 HD.out.le)
   replace HR := Lib.hid (HR.out.below hv1 HR.out.1)
   replace HQ := Lib.hid (HQ.out.below hv1 HQ.out.1)
   replace HS := Lib.hid (HS.out.below hv1)
   replace HT := Lib.hid (tchW HT.out hv1 (by omega))
   replace HZ := Lib.hid (HZ.out.below hv1)
   have hzx := hv1.size
   clear p1 z0 z1
   generalize x1.drew = y0 at *
   clear hv1
   refine wpAnyT_one (i := 6) rfl (by kernel_rfl) (fun K' hK' => ?_)
   go_simp
   refine hK'.out _ _ ⟨by go_keep, by go_keep, by go_keep⟩ (fun hHeld => ?_)
   clear hK' K'
   refine wpAnyT_last (i := 7) rfl (by kernel_rfl) (by kernel_rfl) (fun K' hK' => ?_)
   refine step_push (E := pvT.off gx) _ rfl _ _ 27 62 rfl elCon rfl ((HX.out.1.bl.mono HX.out.1.le).below (bA (w := y0)) (Nat.le_refl _)) rfl news2 (fr_off (fr_pv (base := y0.heap.size) hzI hz1) (by omega)) (by rw [List.length_map]; omega) (by decide) (by omega) (by first | (simp; done) | (simp; omega)) ?_
   intro v6 w8 hB8 hg8 hown8
   obtain ⟨a8, n8, c8, rfl⟩ := ex_slice (hB8.fr (by rw [List.length_append, List.length_map]; unfold capMax; simp only [List.length_singleton]; omega))
   obtain ⟨y1, ym⟩ := (HX.out.1.below (bA (w := y0)) HX.out.1.le).cells hg8
   have hrow : ∀ b, (Value.slice (some ⟨rb, ro, none⟩) Z2.length xc).ownBlock = some b → bx ≤ b := fun b hb => HX.out.1.bl.own hb
   have HX8 := Lib.hid ((HX.out.below (bA (w := y0)) HX.out.1.le).push (z := zz) hB8 hg8 hown8 ((HZ.out.below bA).mono (fun z _ hz => ⟨hz.1, hz.2.1, hz.2.2.1, by have := hz.2.2.2; simp; omega⟩)))
   have HD8 := Lib.hid (((HD.out.below (bA (w := y0)) HD.out.le).grown hg8 (fun b hb => .inr (by have := hrow b hb; omega))).other (b := gx) (i := 1) (u := .slice a8 n8 c8) (.inr (by omega)))
   have HR8 := Lib.hid (((HR.out.below (bA (w := y0)) HR.out.1).grown hg8 (fun e => by have := hrow _ e; omega)).other (b := gx) (i := 1) (u := .slice a8 n8 c8) (by omega))
   have HQ8 := Lib.hid (((HQ.out.below (bA (w := y0)) HQ.out.1).grown hg8 (fun e => by have := hrow _ e; omega)).other (b := gx) (i := 1) (u := .slice a8 n8 c8) (by omega))
   have HS8 := Lib.hid (srcS (b := gx) (i := 1) (u := .slice a8 n8 c8) (srcG (HS.out.below (bA (w := y0))) hg8 (fun b hb => by have := hrow b hb; omega)) (by omega) (by omega))
   have HT8 := Lib.hid (tchS (g := gx) (i := 1) (v := .slice a8 n8 c8) (tchG (tchW HT.out (bA (w := y0)) (by omega)) hg8 (fun b hb => by have := hrow b hb; omega)) (by omega))
   clear hB8 hg8 hown8 hrow HX HD HR HQ HS HT HZ
   refine hK'.out _ _ ?_
   clear hK' K'
   refine wpAnyT_any (i := 8) (v := ?_) rfl (by kernel_rfl) (fun _ _ _ h => h) (Or.inl ⟨by rfl, ?_⟩) (by first | exact fun _ => by assumption | (intro hp; exact absurd hp (by rw [show pastB _ _ = true by kernel_rfl]; simp))) ?_
   rotate_left
   ·(intro w hSw; (try dsimp only at hSw); go_simp <;> with_reducible rfl)
   try simp only [Act.put]
   refine wpAnyT_last (i := 9) rfl (by kernel_rfl) (by kernel_rfl) (fun K' hK' => ?_)
   go_simp
   refine hK'.out _ _ ?_
   clear hK' K'
   refine wpAnyT_done (by kernel_rfl) ?_ _
   go_simp
   go_wp2_with fail
   obtain ⟨q', rfl⟩ : ∃ q', q = q' + 1 := ⟨q - 1, by omega⟩
   go_roundg q'
   case measure => omega
   case rel => exact ⟨_, _, _, _, rfl, by rw [List.length_append, List.length_singleton]; omega, by rw [List.length_append, List.length_singleton]; omega, HX8.out, HD8.out, HR8.out, HQ8.out, HS8.out.mono (by rw [List.length_append, List.length_singleton]; omega), HT8.out⟩
  ·have HXX : Hid (TxS sb B K w gt gx x1) := ⟨n, ta, tn, tc, T, xn, xa, Z2.length, xc, _, HD.out.c0, HD.out.c1, HX.out.1.c0, HX.out.1.c1, (HD.out.rdP HI.out (by omega)).mono (fun k _ hk => by omega), (HX.out.inst hIx (by omega)).mono (fun k _ hk => by omega), HR.out, HQ.out, HS.out.mono (by omega), HT.out⟩
   by_cases hlt : Z2.length < kk
   focus
    have hltB : decide (Z2.length < kk) = true := decide_eq_true hlt
    have h0N : ¬ 0 < Z2.length := fun h => hgo ⟨hlt, h⟩
    have h0I : ¬ (0 : Int) < ((Z2.length : Nat) : Int) := by omega
    clear hgo
    refine wpAnyT_take (i := 6) (v := ?_) rfl (by kernel_rfl) (fun _ _ _ h => h) (Or.inl ⟨by rfl, ?_⟩) (by assumption) ?_
    rotate_left
    ·(intro w hSw; (try dsimp only at hSw); go_simp <;> with_reducible rfl)
    go_simp
    refine wpAnyT_take (i := 7) (v := ?_) rfl (by kernel_rfl) (fun _ _ _ h => h) (Or.inl ⟨by rfl, ?_⟩) (by assumption) ?_
    rotate_left
    ·(intro w hSw; (try dsimp only at hSw); go_simp <;> with_reducible rfl)
    go_simp
    refine wpAnyT_take (i := 8) (v := ?_) rfl (by kernel_rfl) (fun _ _ _ h => h) (Or.inl ⟨by rfl, ?_⟩) (by assumption) ?_
    rotate_left
    ·(intro w hSw; (try dsimp only at hSw); go_simp <;> with_reducible rfl)
    go_simp
    refine wpAnyT_take (i := 9) (v := ?_) rfl (by kernel_rfl) (fun _ _ _ h => h) (Or.inl ⟨by rfl, ?_⟩) (by assumption) ?_
    rotate_left
    ·(intro w hSw; (try dsimp only at hSw); go_simp <;> with_reducible rfl)
    go_simp
    refine wpAnyT_take (i := 10) (v := ?_) rfl (by kernel_rfl) (fun _ _ _ h => h) (Or.inl ⟨by rfl, ?_⟩) (by assumption) ?_
    rotate_left
    ·(intro w hSw; (try dsimp only at hSw); go_simp <;> with_reducible rfl)
    go_simp
    refine wpAnyT_take (i := 11) (v := ?_) rfl (by kernel_rfl) (fun _ _ _ h => h) (Or.inl ⟨by rfl, ?_⟩) (by assumption) ?_
    rotate_left
    ·(intro w hSw; (try dsimp only at hSw); go_simp <;> with_reducible rfl)
    go_simp
    refine wpAnyT_take (i := 12) (v := ?_) rfl (by kernel_rfl) (fun _ _ _ h => h) (Or.inl ⟨by rfl, ?_⟩) (by assumption) ?_
    rotate_left
    ·(intro w hSw; (try dsimp only at hSw); go_simp <;> with_reducible rfl)
    go_simp
   rotate_left
   focus
    have hltB : decide (Z2.length < kk) = false := decide_eq_false hlt
    refine wpAnyT_take (i := 6) (v := ?_) rfl (by kernel_rfl) (fun _ _ _ h => h) (Or.inl ⟨by rfl, ?_⟩) (by assumption) ?_
    rotate_left
    ·(intro w hSw; (try dsimp only at hSw); go_simp <;> with_reducible rfl)
    go_simp
    refine wpAnyT_take (i := 7) (v := ?_) rfl (by kernel_rfl) (fun _ _ _ h => h) (Or.inl ⟨by rfl, ?_⟩) (by assumption) ?_
    rotate_left
    ·(intro w hSw; (try dsimp only at hSw); go_simp <;> with_reducible rfl)
    go_simp
    refine wpAnyT_take (i := 8) (v := undef) rfl (by kernel_rfl) (fun _ _ _ h => h) (Or.inr ⟨by rfl, rfl⟩) (by assumption) ?_
    go_simp
    refine wpAnyT_take (i := 9) (v := undef) rfl (by kernel_rfl) (fun _ _ _ h => h) (Or.inr ⟨by rfl, rfl⟩) (by assumption) ?_
    go_simp
    refine wpAnyT_take (i := 10) (v := undef) rfl (by kernel_rfl) (fun _ _ _ h => h) (Or.inr ⟨by rfl, rfl⟩) (by assumption) ?_
    go_simp
    refine wpAnyT_take (i := 11) (v := undef) rfl (by kernel_rfl) (fun _ _ _ h => h) (Or.inr ⟨by rfl, rfl⟩) (by assumption) ?_
    go_simp
    refine wpAnyT_take (i := 12) (v := ?_) rfl (by kernel_rfl) (fun _ _ _ h => h) (Or.inl ⟨by rfl, ?_⟩) (by assumption) ?_
    rotate_left
    ·(intro w hSw; (try dsimp only at hSw); go_simp <;> with_reducible rfl)
    go_simp
   all_goals
    refine wpAnyT_done (by kernel_rfl) ?_ _
    go_simp
    clear HD HX HR HQ HS HT p1 hHeld
    go_wp2_with fail
    obtain ⟨wv, rfl⟩ : ∃ wv : World, wv = x1 := ⟨_, rfl⟩
    obtain ⟨n', a', m', c', T', n2, a2, m2, c2, X2, d0, d1, d2, d3, ht, hx, hr, hq, hs, htc⟩ := HXX.out
    have HTR := Lib.hid ht
    have HXR := Lib.hid hx
    have HRr := Lib.hid hr
    have HQq := Lib.hid hq
    have HSs := Lib.hid hs
    have HTt := Lib.hid htc
    clear ht hx hr hq hs htc HXX
    refine wp_region_T (fun w' => w'.cell? ⟨gt, 0, none⟩ = some (.int .i64 n') ∧ w'.cell? ⟨gt, 1, none⟩ = some (.slice a' m' c') ∧ w'.cell? ⟨gx, 0, none⟩ = some (.int .i64 n2) ∧ w'.cell? ⟨gx, 1, none⟩ = some (.slice a2 m2 c2)) [3] (by kernel_rfl) ⟨d0, d1, d2, d3⟩ (fun hHeld => ?_)
    refine wpAnyT_take (i := 0) (v := ?_) rfl (by kernel_rfl) (fun _ _ _ h => h) (Or.inl ⟨by rfl, ?_⟩) (by assumption) ?_
    rotate_left
    ·(intro w hSw; (try dsimp only at hSw); go_simp <;> with_reducible rfl)
    go_simp
    refine wpAnyT_take (i := 1) (v := ?_) rfl (by kernel_rfl) (fun _ _ _ h => h) (Or.inl ⟨by rfl, ?_⟩) (by assumption) ?_
    rotate_left
    ·(intro w hSw; (try dsimp only at hSw); go_simp <;> with_reducible rfl)
    go_simp
    obtain ⟨⟨u0, r0⟩, ⟨u1, r1⟩, q0, q1⟩ := HRr.out.2
    obtain ⟨⟨u2, r2⟩, ⟨u3, r3⟩, q2, q3⟩ := HQq.out.2
    obtain ⟨s0, s1, s2, s3⟩ := set4_cells (show w.heap.size ≠ w.heap.size + 1 by omega) (x := .int .i64 n') (y := .slice a' m' c') (x' := .int .i64 n2) (y' := .slice a2 m2 c2) r0 r1 r2 r3
    have hn1 : gt ≠ w.heap.size := by omega
    have hn2 : gx ≠ w.heap.size := by omega
    refine wpAnyT_one (i := 2) rfl (by kernel_rfl) (fun K' hK' => ?_)
    go_simp
    refine hK'.out _ _ ⟨(keep2 hn1).trans d0, (keep2 hn1).trans d1, (keep2 hn2).trans d2, (keep2 hn2).trans d3⟩ (fun hHeld => ?_)
    clear hK' K' d0 d1 d2 d3
    refine wpAnyT_last (i := 3) rfl (by kernel_rfl) (by kernel_rfl) (fun K' hK' => ?_)
    go_simp
    refine hK'.out _ _ ?_
    clear hK' K'
    refine wpAnyT_done (by kernel_rfl) ?_ _
    go_simp
    go_wp2_with fail
    refine bodyPost_ret (v := .tuple #[.agg #[.int .i64 n', .slice a' m' c'], .agg #[.int .i64 n2, .slice a2 m2 c2]]) (by simp [results, Tryz.results38, go_sem, s0, s1, s2, s3]) rfl ⟨[.int .i64 n', .slice a' m' c'], [.int .i64 n2, .slice a2 m2 c2], (n', T'), (n2, X2), rfl, ?_, ?_, ?_, ?_⟩
    ·exact ((rdP_set (rdP_set (rdP_set (rdP_set HTR.out (by omega)) (by omega)) (by omega)) (by omega)).mono (fun k _ hk => by omega)).below bD
    ·exact ((rdP_set (rdP_set (rdP_set (rdP_set HXR.out (by omega)) (by omega)) (by omega)) (by omega)).mono (fun k _ hk => by omega)).below bD
    ·exact (srcS (srcS (srcS (srcS HSs.out (by omega) (by omega)) (by omega) (by omega)) (by omega) (by omega)) (by omega) (by omega)).below bD
    ·exact tchW (tchS (tchS (tchS (tchS HTt.out (Nat.le_refl _)) (Nat.le_refl _)) (by omega)) (by omega)) bD (by simp only [size_set]; exact HTt.out.size)
 rotate_left
 all_goals
  obtain ⟨n', a', m', c', T', n2, a2, m2, c2, X2, d0, d1, d2, d3, ht, hx, hr, hq, hs, htc⟩ := HXX.out
  have HTR := Lib.hid ht
  have HXR := Lib.hid hx
  have HRr := Lib.hid hr
  have HQq := Lib.hid hq
  have HSs := Lib.hid hs
  have HTt := Lib.hid htc
  clear ht hx hr hq hs htc HXX
  refine wp_region_T (fun w' => w'.cell? ⟨gt, 0, none⟩ = some (.int .i64 n') ∧ w'.cell? ⟨gt, 1, none⟩ = some (.slice a' m' c') ∧ w'.cell? ⟨gx, 0, none⟩ = some (.int .i64 n2) ∧ w'.cell? ⟨gx, 1, none⟩ = some (.slice a2 m2 c2)) [3] (by kernel_rfl) ⟨d0, d1, d2, d3⟩ (fun hHeld => ?_)
  refine wpAnyT_take (i := 0) (v := ?_) rfl (by kernel_rfl) (fun _ _ _ h => h) (Or.inl ⟨by rfl, ?_⟩) (by assumption) ?_
  rotate_left
  ·(intro w hSw; (try dsimp only at hSw); go_simp <;> with_reducible rfl)
  go_simp
  refine wpAnyT_take (i := 1) (v := ?_) rfl (by kernel_rfl) (fun _ _ _ h => h) (Or.inl ⟨by rfl, ?_⟩) (by assumption) ?_
  rotate_left
  ·(intro w hSw; (try dsimp only at hSw); go_simp <;> with_reducible rfl)
  go_simp
  obtain ⟨⟨u0, r0⟩, ⟨u1, r1⟩, q0, q1⟩ := HRr.out.2
  obtain ⟨⟨u2, r2⟩, ⟨u3, r3⟩, q2, q3⟩ := HQq.out.2
  obtain ⟨s0, s1, s2, s3⟩ := set4_cells (show w.heap.size ≠ w.heap.size + 1 by omega) (x := .int .i64 n') (y := .slice a' m' c') (x' := .int .i64 n2) (y' := .slice a2 m2 c2) r0 r1 r2 r3
  have hn1 : gt ≠ w.heap.size := by omega
  have hn2 : gx ≠ w.heap.size := by omega
  refine wpAnyT_one (i := 2) rfl (by kernel_rfl) (fun K' hK' => ?_)
  go_simp
  refine hK'.out _ _ ⟨(keep2 hn1).trans d0, (keep2 hn1).trans d1, (keep2 hn2).trans d2, (keep2 hn2).trans d3⟩ (fun hHeld => ?_)
  clear hK' K' d0 d1 d2 d3
  refine wpAnyT_last (i := 3) rfl (by kernel_rfl) (by kernel_rfl) (fun K' hK' => ?_)
  go_simp
  refine hK'.out _ _ ?_
  clear hK' K'
  refine wpAnyT_done (by kernel_rfl) ?_ _
  go_simp
  go_wp2_with fail
  refine bodyPost_ret (v := .tuple #[.agg #[.int .i64 n', .slice a' m' c'], .agg #[.int .i64 n2, .slice a2 m2 c2]]) (by simp [results, Tryz.results38, go_sem, s0, s1, s2, s3]) rfl ⟨[.int .i64 n', .slice a' m' c'], [.int .i64 n2, .slice a2 m2 c2], (n', T'), (n2, X2), rfl, ?_, ?_, ?_, ?_⟩
  ·exact ((rdP_set (rdP_set (rdP_set (rdP_set HTR.out (by omega)) (by omega)) (by omega)) (by omega)).mono (fun k _ hk => by omega)).below bD
  ·exact ((rdP_set (rdP_set (rdP_set (rdP_set HXR.out (by omega)) (by omega)) (by omega)) (by omega)).mono (fun k _ hk => by omega)).below bD
  ·exact (srcS (srcS (srcS (srcS HSs.out (by omega) (by omega)) (by omega) (by omega)) (by omega) (by omega)) (by omega) (by omega)).below bD
  ·exact tchW (tchS (tchS (tchS (tchS HTt.out (Nat.le_refl _)) (Nat.le_refl _)) (by omega)) (by omega)) bD (by simp only [size_set]; exact HTt.out.size)
end Go.Proofs.YtmnjlhcbabhhlaaGreat
