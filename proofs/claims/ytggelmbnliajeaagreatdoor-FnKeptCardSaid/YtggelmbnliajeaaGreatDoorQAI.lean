/-
Contracts: slices.CompactFunc on rows of numbers, in place.
Contracts: a relation made of one to three tuples.
The library's contracts, laid at this seat's program. Written by the kit's lay-shelf and lay-plain: its numbers hold for that seat alone (shelf2.py).
Contracts: rows of numbers sorted by the library, at any length.
Contracts: a relation made of tuples, however many.
Contracts: the closure of tuples under operations, checked, the program's.
Contracts: the closure of tuples under operations, checked, the reference's.
The marks of the laws: mark writes numbers from k on into all memory of a datum, held finds them there.
ClosureOf: its bounds, as the law asks them.
Plain: what CloneUpTo answers.
-/
import Derived.Test.YtggelmbnliajeaaGreatDoorQAH
import Derived.Lib.SliceRun
import Derived.Test.YtggelmbnliajeaaGreatDoorQAE
import Derived.Test.YtggelmbnliajeaaGreatDoorQAF
import Derived.Ground.SlsfProg
import Derived.Shelf.SlSortCmp.Whole1
import Derived.Shelf.SlSortCmp.NoneTotal
import Derived.Test.YtggelmbnliajeaaGreatDoorProg
import Derived.Test.YtggelmbnliajeaaGreatDoorQAG
import Derived.Test.YtggelmbnliajeaaGreatDoorQAA
import Derived.Test.YtggelmbnliajeaaGreatDoorQAC
namespace Go.Proofs.YtggelmbnliajeaaGreatDoor
open Go.RowKit Go.Sort
theorem makeRel2_any (w : World) {v u : Value} {xs ys : List Int} (h : intsT.Rd w [v] xs) (h' : intsT.Rd w [u] ys) :
  Calls Tryz.prog 111 #[v, u] w fun e w' => e = .returned (.bool (eqB xs ys)) ∧ Quiet w w' := by
 have H := Lib.hid h
 have H' := Lib.hid h'
 clear h h'
 go_enter Tryz.func111, Tryz.ntmps111
 go_wp2_with fail
 refine (Equal_quiet w H.out H'.out).mono ?_
 rintro e w1 ⟨rfl, hq⟩
 go_wp2_with fail
 go_ret
 exact ⟨rfl, hq⟩
set_option maxHeartbeats 3200000 in
set_option maxRecDepth 100000 in
theorem compactRows_any (w : World) {b o n c : Nat} {L : List PV} (hL : L.length = n) (h : SR w b o L) (hn : 1 ≤ n ∧ n ≤ 1000000) (hc : n ≤ c) :
  Calls Tryz.prog 110 #[.slice (some ⟨b, o, none⟩) n c, .func (.func 111) #[] #[]] w fun e w' => e = .returned (.slice (some ⟨b, o, none⟩) (ddL L).length c) ∧ SR w' b o (ddL L) ∧ TchP (fun q => q = b) w w' := by
 have H := Lib.hid h
 have HL := Lib.hid hL
 by_cases hn1 : n = 1
 ·have HD : Hid (ddL L = L ∧ (ddL L).length = 1) := by
   unfold Hid
   rw [hn1] at hL
   obtain ⟨a, rfl⟩ := List.length_eq_one_iff.1 hL
   exact ⟨by simp [ddL], by simp [ddL]⟩
  clear h hL HL
  subst hn1
  go_enter Tryz.func110, Tryz.ntmps110
  go_wp2_with fail
  go_ret
  exact ⟨by rw [HD.out.2]; rfl, by rw [HD.out.1]; exact H.out, TchP.refl _ _⟩
 have hn2 : 2 ≤ n := by omega
 have hd : decide ((n : Int) < 2) = false := by simp; omega
 have hd' : decide (n < 2) = false := by simp; omega
 clear h hL hn1
 go_enter Tryz.func110, Tryz.ntmps110
 go_wp2_with fail
 go_loopw [5] (fun i wr => ∃ k : Nat, 1 ≤ k ∧ k ≤ n ∧ i = .int .i64 k ∧ cmA L k ∧ SR wr b o L ∧ TchP (fun q => q = b) w wr) (fun i _ => n - (intOf i).toNat)
 case atStart => exact ⟨1, Nat.le_refl _, by omega, rfl, cmA_one (by rw [HL.out]; omega), H.out, TchP.refl _ _⟩
 case round =>
  obtain ⟨k, hk1, hk, rfl, hA, hS, hT⟩ := hrel
  obtain ⟨wv, rfl⟩ : ∃ wv : World, wv = wr := ⟨_, rfl⟩
  have HA := Lib.hid hA
  have HS := Lib.hid hS
  have HT := Lib.hid hT
  clear hA hS hT
  by_cases hkn : k < n
  ·obtain ⟨p, hp⟩ : ∃ p, k = p + 1 := ⟨k - 1, by omega⟩
   have hw : IntKind.i64.wrap ((k : Int) - 1) = (p : Int) := by rw [wrap_small (by omega) (by omega)]; omega
   have hpn : p < n := by omega
   have hkL : k < L.length := by rw [HL.out]; exact hkn
   have hpL : p < L.length := by rw [HL.out]; exact hpn
   have HP : Hid (k - 1 = p) := by unfold Hid; omega
   obtain ⟨e1, r1⟩ := HS.out.2.2 k hkL
   obtain ⟨e0, r0⟩ := HS.out.2.2 p hpL
   have R1 := Lib.hid r1.rd
   have R0 := Lib.hid r0.rd
   have HY : Hid (eqB (L[k]).2 (L[p]).2 = true → cmB L L k (k + 1)) := fun h => cmB_start hk1 hkL HA.out (by have e := eqB_iff.1 h; subst hp; exact e)
   have HN : Hid (eqB (L[k]).2 (L[p]).2 = false → cmA L (k + 1)) := fun h => cmA_step hk1 hkL HA.out (by
    intro e
    subst hp
    have : eqB (L[p + 1]).2 (L[p]).2 = true := eqB_iff.2 e
    rw [h] at this
    cases this)
   generalize hv1 : (L[k]).1 = v1 at e1 r1 R1
   generalize hv0 : (L[p]).1 = v0 at e0 r0 R0
   generalize (L[k]).2 = y1 at r1 R1 HY HN
   generalize (L[p]).2 = y0 at r0 R0 HY HN
   obtain ⟨ax1, cx1, rfl⟩ := rd_slice R1.out
   obtain ⟨ax0, cx0, rfl⟩ := rd_slice R0.out
   clear hp r1 r0 hv1 hv0 hkL hpL
   go_wp2_with fail
   refine wp_region_T (fun w' => w'.cell? ⟨b, o + k, none⟩ = some (.slice ax1 y1.length cx1) ∧ w'.cell? ⟨b, o + p, none⟩ = some (.slice ax0 y0.length cx0)) [] (by kernel_rfl) ⟨e1, e0⟩ (fun hHeld => ?_)
   refine wpAnyT_take (i := 0) (v := ?_) rfl (by kernel_rfl) (fun _ _ _ h => h) (Or.inl ⟨by rfl, ?_⟩) (by assumption) ?_
   rotate_left
   ·(intro w hSw; (try dsimp only at hSw); go_simp <;> with_reducible rfl)
   go_simp
   refine wpAnyT_take (i := 1) (v := ?_) rfl (by kernel_rfl) (fun _ _ _ h => h) (Or.inl ⟨by rfl, ?_⟩) (by assumption) ?_
   rotate_left
   ·(intro w hSw; (try dsimp only at hSw); go_simp <;> with_reducible rfl)
   go_simp
   refine wpAnyT_take (i := 2) (v := ?_) rfl (by kernel_rfl) (fun _ _ _ h => h) (Or.inl ⟨by rfl, ?_⟩) (by assumption) ?_
   rotate_left
   ·(intro w hSw; (try dsimp only at hSw); go_simp <;> with_reducible rfl)
   go_simp
   refine wpAnyT_take (i := 3) (v := ?_) rfl (by kernel_rfl) (fun _ _ _ h => h) (Or.inl ⟨by rfl, ?_⟩) (by assumption) ?_
   rotate_left
   ·(intro w hSw; (try dsimp only at hSw); go_simp <;> with_reducible rfl)
   go_simp
   refine wpAnyT_take (i := 4) (v := ?_) rfl (by kernel_rfl) (fun _ _ _ h => h) (Or.inl ⟨by rfl, ?_⟩) (by assumption) ?_
   rotate_left
   ·(intro w hSw; (try dsimp only at hSw); go_simp <;> with_reducible rfl)
   go_simp
   refine wpAnyT_take (i := 5) (v := ?_) rfl (by kernel_rfl) (fun _ _ _ h => h) (Or.inl ⟨by rfl, ?_⟩) (by assumption) ?_
   rotate_left
   ·(intro w hSw; (try dsimp only at hSw); go_simp <;> with_reducible rfl)
   go_simp
   refine wpAnyT_take (i := 6) (v := ?_) rfl (by kernel_rfl) (fun _ _ _ h => h) (Or.inl ⟨by rfl, ?_⟩) (by assumption) ?_
   rotate_left
   ·(intro w hSw; (try dsimp only at hSw); go_simp <;> with_reducible rfl)
   go_simp
   refine wpAnyT_take (i := 7) (v := ?_) rfl (by kernel_rfl) (fun _ _ _ h => h) (Or.inl ⟨by rfl, ?_⟩) (by assumption) ?_
   rotate_left
   ·(intro w hSw; (try dsimp only at hSw); go_simp <;> with_reducible rfl)
   go_simp
   refine wpAnyT_take (i := 8) (v := ?_) rfl (by kernel_rfl) (fun _ _ _ h => h) (Or.inl ⟨by rfl, ?_⟩) (by assumption) ?_
   rotate_left
   ·(intro w hSw; (try dsimp only at hSw); go_simp <;> with_reducible rfl)
   go_simp
   refine wpAnyT_take (i := 9) (v := ?_) rfl (by kernel_rfl) (fun _ _ _ h => h) (Or.inl ⟨by rfl, ?_⟩) (by assumption) ?_
   rotate_left
   ·(intro w hSw; (try dsimp only at hSw); go_simp <;> with_reducible rfl)
   go_simp
   have hv : Below wv.heap.size wv wv.drew := bD
   have R1d := Lib.hid (R1.out.below hv)
   have R0d := Lib.hid (R0.out.below hv)
   have HSd := Lib.hid (HS.out.below hv)
   have HTd := Lib.hid (HT.out.then (TchP.of_below hv _) (fun _ _ h => h))
   clear e1 e0 R1 R0
   generalize wv.drew = x0 at hHeld hv R1d R0d HSd HTd ⊢
   obtain ⟨e1, e0⟩ := hHeld
   refine wpAnyT_one (i := 10) rfl (by kernel_rfl) (fun K hK => ?_)
   go_simp
   go_at_call 111
   refine (makeRel2_any x0 R1d.out R0d.out).mono ?_
   rintro e x9 ⟨rfl, hq9⟩
   have hb9 := hq9.below
   have hsb := HSd.out.1
   replace e1 := (cellB hb9 (by omega)).trans e1
   replace e0 := (cellB hb9 (by omega)).trans e0
   replace HSd := Lib.hid (HSd.out.below hb9)
   replace HTd := Lib.hid (HTd.out.then (TchP.of_below hb9 _) (fun _ _ h => h))
   dsimp only
   refine hK.out _ _ ⟨e1, e0⟩ (fun hHeld => ?_)
   clear hK K
   refine wpAnyT_done (by kernel_rfl) ?_ _
   go_simp
   clear e1 e0 hHeld R1d R0d
   cases hq : eqB y1 y0
   ·go_wp2_with fail
    go_roundw
    case rel => exact ⟨k + 1, by omega, by omega, by go_num, HN.out hq, HSd.out, HTd.out⟩
    case measure => simp [intOf]; omega
   ·go_wp2_with fail
    go_loopw [5, 7] (fun i j wr => ∃ (kk k2 : Nat) (M : List PV), i = .int .i64 kk ∧ j = .int .i64 k2 ∧ 1 ≤ k2 ∧ k + k2 ≤ n ∧ cmB L M kk (k + k2) ∧ SR wr b o M ∧ TchP (fun q => q = b) w wr) (fun _ j _ => n - (k + (intOf j).toNat))
    case atStart => exact ⟨k, 1, L, rfl, rfl, Nat.le_refl _, by omega, HY.out hq, HSd.out, HTd.out⟩
    case round =>
     obtain ⟨kk, k2, M, rfl, rfl, hk2, hkn2, hB, hSM, hTM⟩ := hrel
     obtain ⟨wq, rfl⟩ : ∃ wq : World, wq = wr := ⟨_, rfl⟩
     have hkk1 := hB.1
     have hkk2 := hB.2.1
     have HML : Hid (M.length = n) := hB.2.2.2.1.trans HL.out
     have HB := Lib.hid hB
     have HSM := Lib.hid hSM
     have HTM := Lib.hid hTM
     clear hB hSM hTM
     by_cases hlt : k + k2 < n
     ·obtain ⟨p2, hp2⟩ : ∃ p2, k2 = p2 + 1 := ⟨k2 - 1, by omega⟩
      have hw2 : IntKind.i64.wrap ((k2 : Int) - 1) = (p2 : Int) := by rw [wrap_small (by omega) (by omega)]; omega
      have hjL : k + k2 < L.length := by rw [HL.out]; exact hlt
      have hqL : k + p2 < L.length := by rw [HL.out]; omega
      have hjM : k + k2 < M.length := by rw [HML.out]; exact hlt
      have hqM : k + p2 < M.length := by rw [HML.out]; omega
      have hkM : kk < M.length := by rw [HML.out]; omega
      have g1 : M[k + k2] = L[k + k2] := by have h := HB.out.2.2.2.2.1 (k + k2) (by omega); rw [List.getElem?_eq_getElem hjM, List.getElem?_eq_getElem hjL] at h; exact Option.some.inj h
      have g0 : M[k + p2] = L[k + p2] := by have h := HB.out.2.2.2.2.1 (k + p2) (by omega); rw [List.getElem?_eq_getElem hqM, List.getElem?_eq_getElem hqL] at h; exact Option.some.inj h
      obtain ⟨e1, r1⟩ := HSM.out.2.2 _ hjM
      obtain ⟨e0, r0⟩ := HSM.out.2.2 _ hqM
      have ek := (HSM.out.2.2 _ hkM).1
      have fk := HSM.out.2.1 (o + kk)
      rw [g1] at e1 r1
      rw [g0] at e0 r0
      rw [show o + (k + k2) = o + k + k2 by omega] at e1
      rw [show o + (k + p2) = o + k + p2 by omega] at e0
      have R1 := Lib.hid r1.rd
      have R0 := Lib.hid r0.rd
      have HY2 : Hid (eqB (L[k + k2]).2 (L[k + p2]).2 = true → cmB L M kk (k + (k2 + 1))) := fun h => cmB_skip hjL HB.out (by have e := eqB_iff.1 h; subst hp2; exact e)
      have HN2 : Hid (eqB (L[k + k2]).2 (L[k + p2]).2 = false → cmB L (M.set kk L[k + k2]) (kk + 1) (k + (k2 + 1))) := fun h => cmB_keep hjL HB.out (by
       intro e
       subst hp2
       have : eqB (L[k + (p2 + 1)]).2 (L[k + p2]).2 = true := eqB_iff.2 e
       rw [h] at this
       cases this)
      have HST : Hid (∀ W, SR W b o M → intsT.RdP (fun q => q ≠ b) W [(L[k + k2]).1] (L[k + k2]).2 → SR (W.setCell ⟨b, o + kk, none⟩ (L[k + k2]).1) b o (M.set kk L[k + k2])) := fun W h1 h2 => h1.set hkM h2
      have HR1 := Lib.hid r1
      generalize hx1 : L[k + k2] = x1 at e1 r1 R1 HY2 HN2 HST HR1
      generalize L[k + p2] = x0' at e0 r0 R0 HY2 HN2
      generalize (M[kk]).1 = vk at ek
      obtain ⟨v1, y1'⟩ := x1
      obtain ⟨v0, y0'⟩ := x0'
      dsimp only at e1 e0 r1 r0 R1 R0 HY2 HN2 HST HR1
      obtain ⟨ax1', cx1', rfl⟩ := rd_slice R1.out
      obtain ⟨ax0', cx0', rfl⟩ := rd_slice R0.out
      have hl1 : k2 < n - k := by omega
      have hl0 : p2 < n - k := by omega
      clear hp2 r1 r0 hx1 hjL hqL hjM hqM hkM g1 g0
      go_wp2_with fail
      refine wp_region_T (fun w' => w'.cell? ⟨b, o + k + k2, none⟩ = some (.slice ax1' y1'.length cx1') ∧ w'.cell? ⟨b, o + k + p2, none⟩ = some (.slice ax0' y0'.length cx0') ∧ w'.cell? ⟨b, o + kk, none⟩ = some vk) [] (by kernel_rfl) ⟨e1, e0, ek⟩ (fun hHeld => ?_)
      refine wpAnyT_take (i := 0) (v := ?_) rfl (by kernel_rfl) (fun _ _ _ h => h) (Or.inl ⟨by rfl, ?_⟩) (by assumption) ?_
      rotate_left
      ·(intro w hSw; (try dsimp only at hSw); go_simp <;> with_reducible rfl)
      go_simp
      refine wpAnyT_take (i := 1) (v := ?_) rfl (by kernel_rfl) (fun _ _ _ h => h) (Or.inl ⟨by rfl, ?_⟩) (by assumption) ?_
      rotate_left
      ·(intro w hSw; (try dsimp only at hSw); go_simp <;> with_reducible rfl)
      go_simp
      refine wpAnyT_take (i := 2) (v := ?_) rfl (by kernel_rfl) (fun _ _ _ h => h) (Or.inl ⟨by rfl, ?_⟩) (by assumption) ?_
      rotate_left
      ·(intro w hSw; (try dsimp only at hSw); go_simp <;> with_reducible rfl)
      go_simp
      refine wpAnyT_take (i := 3) (v := ?_) rfl (by kernel_rfl) (fun _ _ _ h => h) (Or.inl ⟨by rfl, ?_⟩) (by assumption) ?_
      rotate_left
      ·(intro w hSw; (try dsimp only at hSw); go_simp <;> with_reducible rfl)
      go_simp
      refine wpAnyT_take (i := 4) (v := ?_) rfl (by kernel_rfl) (fun _ _ _ h => h) (Or.inl ⟨by rfl, ?_⟩) (by assumption) ?_
      rotate_left
      ·(intro w hSw; (try dsimp only at hSw); go_simp <;> with_reducible rfl)
      go_simp
      refine wpAnyT_take (i := 5) (v := ?_) rfl (by kernel_rfl) (fun _ _ _ h => h) (Or.inl ⟨by rfl, ?_⟩) (by assumption) ?_
      rotate_left
      ·(intro w hSw; (try dsimp only at hSw); go_simp <;> with_reducible rfl)
      go_simp
      refine wpAnyT_take (i := 6) (v := ?_) rfl (by kernel_rfl) (fun _ _ _ h => h) (Or.inl ⟨by rfl, ?_⟩) (by assumption) ?_
      rotate_left
      ·(intro w hSw; (try dsimp only at hSw); go_simp <;> with_reducible rfl)
      go_simp
      refine wpAnyT_take (i := 7) (v := ?_) rfl (by kernel_rfl) (fun _ _ _ h => h) (Or.inl ⟨by rfl, ?_⟩) (by assumption) ?_
      rotate_left
      ·(intro w hSw; (try dsimp only at hSw); go_simp <;> with_reducible rfl)
      go_simp
      refine wpAnyT_take (i := 8) (v := ?_) rfl (by kernel_rfl) (fun _ _ _ h => h) (Or.inl ⟨by rfl, ?_⟩) (by assumption) ?_
      rotate_left
      ·(intro w hSw; (try dsimp only at hSw); go_simp <;> with_reducible rfl)
      go_simp
      refine wpAnyT_take (i := 9) (v := ?_) rfl (by kernel_rfl) (fun _ _ _ h => h) (Or.inl ⟨by rfl, ?_⟩) (by assumption) ?_
      rotate_left
      ·(intro w hSw; (try dsimp only at hSw); go_simp <;> with_reducible rfl)
      go_simp
      have hv2 : Below wq.heap.size wq wq.drew := bD
      have R1e := Lib.hid (R1.out.below hv2)
      have R0e := Lib.hid (R0.out.below hv2)
      have HSe := Lib.hid (HSM.out.below hv2)
      have HTe := Lib.hid (HTM.out.then (TchP.of_below hv2 _) (fun _ _ h => h))
      have HR1e := Lib.hid (HR1.out.below hv2)
      clear e1 e0 ek fk R1 R0 HR1
      generalize wq.drew = x2 at hHeld hv2 R1e R0e HSe HTe HR1e ⊢
      obtain ⟨e1, e0, ek⟩ := hHeld
      refine wpAnyT_one (i := 10) rfl (by kernel_rfl) (fun K hK => ?_)
      go_simp
      go_at_call 111
      refine (makeRel2_any x2 R1e.out R0e.out).mono ?_
      rintro e x9 ⟨rfl, hq9⟩
      have hb9 := hq9.below
      have hsb := HSe.out.1
      replace e1 := (cellB hb9 (by omega)).trans e1
      replace e0 := (cellB hb9 (by omega)).trans e0
      replace ek := (cellB hb9 (by omega)).trans ek
      replace HR1e := Lib.hid (HR1e.out.below hb9)
      replace HSe := Lib.hid (HSe.out.below hb9)
      replace HTe := Lib.hid (HTe.out.then (TchP.of_below hb9 _) (fun _ _ h => h))
      dsimp only
      refine hK.out _ _ ⟨e1, e0, ek⟩ (fun hHeld => ?_)
      clear hK K
      refine wpAnyT_take (i := 11) (v := ?_) rfl (by kernel_rfl) (fun _ _ _ h => h) (Or.inl ⟨by rfl, ?_⟩) (by assumption) ?_
      rotate_left
      ·(intro w hSw; (try dsimp only at hSw); go_simp <;> with_reducible rfl)
      go_simp
      refine wpAnyT_done (by kernel_rfl) ?_ _
      go_simp
      clear hHeld R1e R0e
      have fk := HSe.out.2.1 (o + kk)
      cases hq2 : eqB y1' y0'
      ·go_wp2_with fail
       go_roundw
       case rel => exact ⟨kk + 1, k2 + 1, _, by go_num, by go_num, by omega, by omega, HN2.out hq2, HST.out _ HSe.out HR1e.out, HTe.out.then tchP_cell (fun _ _ h => h)⟩
       case measure => simp [intOf]; omega
      ·go_wp2_with fail
       go_roundw
       case rel => exact ⟨kk, k2 + 1, M, rfl, by go_num, by omega, by omega, HY2.out hq2, HSe.out, HTe.out⟩
       case measure => simp [intOf]; omega
     ·have hend : k + k2 = n := by omega
      have hkn3 : kk < n := by omega
      have hcl : ∀ ty, (Builtin.clear_ #[23] ty #[.slice (some ⟨b, o + kk, none⟩) (n - kk) (c - kk)]).run Tryz.prog wq = .ok (.tuple #[]) (wq.setCells b (o + kk) (List.replicate (n - kk) (.slice none 0 0))) :=
       fun ty => Lib.run_clear_slice wq 23 42 ty (.slice none 0 0) (by kernel_rfl) (fun _ => by kernel_rfl) rfl rfl b (o + kk) _ _ (by omega) (fun j hj => by
        rw [show o + kk + j = o + (kk + j) by omega, (HSM.out.2.2 (kk + j) (by rw [HML.out]; omega)).1]; rfl) (fun j hj => HSM.out.2.1 _)
      have HE : Hid ((ddL L).length = kk ∧ ddL L = M.take kk) := by
       have h := HB.out
       rw [hend, ← HL.out] at h
       exact ⟨cmB_len h, cmB_end h⟩
      go_wp2_with fail
      go_ret
      refine ⟨by rw [HE.out.1]; rfl, ?_⟩
      obtain ⟨g1, g2⟩ := SR.clear (b := b) (o := o) (L := ddL L) (List.replicate (n - kk) (.slice none 0 0)) kk wq (by rw [HE.out.1]; exact Nat.le_refl _) (by rw [HE.out.2]; exact HSM.out.take kk)
      exact ⟨g1, HTM.out.then g2 (fun _ _ h => h)⟩
  ·obtain rfl : k = n := by omega
   go_wp2_with fail
   go_ret
   have e : ddL L = L := cmA_end (by rw [HL.out]; exact HA.out)
   exact ⟨by rw [e, HL.out]; rfl, by rw [e]; exact HS.out, HT.out⟩
end Go.Proofs.YtggelmbnliajeaaGreatDoor
namespace Go.Proofs.YtggelmbnliajeaaGreatDoor
open Go.RowKit Go.Sort
end Go.Proofs.YtggelmbnliajeaaGreatDoor
namespace Go.Proofs
open Go.Shelf
def Tryz.laysSlF6_f80_ren : Go.Shelf.Ren := ⟨fun | 6 => 80 | 15 => 131 | 14 => 130 | 28 => 149 | 29 => 150 | 20 => 141 | 21 => 142 | 22 => 143 | 23 => 144 | 24 => 145 | 25 => 146 | 26 => 147 | 27 => 148 | 46 => 156 | 47 => 157 | 48 => 158 | 49 => 159 | 50 => 160 | 57 => 163 | n => n, fun | 22 => 23 | 24 => 42 | 25 => 107 | 3 => 3 | 39 => 148 | 0 => 0 | 53 => 165 | 55 => 134 | 4 => 4 | 46 => 159 | 45 => 158 | 50 => 139 | 5 => 5 | 9 => 9 | 66 => 170 | 70 => 174 | 76 => 176 | 77 => 177 | n => n, fun | n => n⟩
theorem Tryz.laysSlF6_f80 : Go.Proofs.SlLaysF.n6 Tryz.prog Tryz.laysSlF6_f80_ren := {
 mixed := by kernel_rfl
 f6 := ⟨Tryz.f80.name, by decide, Tryz.func80.trans (congrArg some (by kernel_rfl))⟩
 f14 := ⟨Tryz.f130.name, by decide, Tryz.func130.trans (congrArg some (by kernel_rfl))⟩
 f15 := Tryz.func131.trans (congrArg some (by kernel_rfl))
 f20 := ⟨Tryz.f141.name, by decide, Tryz.func141.trans (congrArg some (by kernel_rfl))⟩
 f21 := ⟨Tryz.f142.name, by decide, Tryz.func142.trans (congrArg some (by kernel_rfl))⟩
 f22 := ⟨Tryz.f143.name, by decide, Tryz.func143.trans (congrArg some (by kernel_rfl))⟩
 f23 := ⟨Tryz.f144.name, by decide, Tryz.func144.trans (congrArg some (by kernel_rfl))⟩
 f24 := ⟨Tryz.f145.name, by decide, Tryz.func145.trans (congrArg some (by kernel_rfl))⟩
 f25 := ⟨Tryz.f146.name, by decide, Tryz.func146.trans (congrArg some (by kernel_rfl))⟩
 f26 := ⟨Tryz.f147.name, by decide, Tryz.func147.trans (congrArg some (by kernel_rfl))⟩
 f27 := ⟨Tryz.f148.name, by decide, Tryz.func148.trans (congrArg some (by kernel_rfl))⟩
 f28 := Tryz.func149.trans (congrArg some (by kernel_rfl))
 f29 := Tryz.func150.trans (congrArg some (by kernel_rfl))
 f46 := ⟨Tryz.f156.name, by decide, Tryz.func156.trans (congrArg some (by kernel_rfl))⟩
 f47 := Tryz.func157.trans (congrArg some (by kernel_rfl))
 f48 := Tryz.func158.trans (congrArg some (by kernel_rfl))
 f49 := ⟨Tryz.f159.name, by decide, Tryz.func159.trans (congrArg some (by kernel_rfl))⟩
 f50 := ⟨Tryz.f160.name, by decide, Tryz.func160.trans (congrArg some (by kernel_rfl))⟩
 f57 := ⟨Tryz.f163.name, by decide, Tryz.func163.trans (congrArg some (by kernel_rfl))⟩
 t0 := Tryz.underlying0
 a0 := Tryz.isAgg0
 z0 := Tryz.sizeOf0
 v0 := Tryz.zeroValue0
 t3 := Tryz.underlying3
 a3 := Tryz.isAgg3
 z3 := Tryz.sizeOf3
 v3 := Tryz.zeroValue3
 t4 := Tryz.underlying4
 a4 := Tryz.isAgg4
 z4 := Tryz.sizeOf4
 v4 := Tryz.zeroValue4
 t5 := Tryz.underlying5
 a5 := Tryz.isAgg5
 z5 := Tryz.sizeOf5
 v5 := Tryz.zeroValue5
 t9 := Tryz.underlying9
 a9 := Tryz.isAgg9
 z9 := Tryz.sizeOf9
 v9 := Tryz.zeroValue9
 t22 := Tryz.underlying23
 a22 := Tryz.isAgg23
 z22 := Tryz.sizeOf23
 v22 := Tryz.zeroValue23
 a24 := Tryz.isAgg42
 z24 := Tryz.sizeOf42
 t25 := Tryz.underlying107
 a25 := Tryz.isAgg107
 z25 := Tryz.sizeOf107
 v25 := Tryz.zeroValue107
 t39 := Tryz.underlying148
 a39 := Tryz.isAgg148
 z39 := Tryz.sizeOf148
 v39 := Tryz.zeroValue148
 t45 := Tryz.underlying158
 a45 := Tryz.isAgg158
 z45 := Tryz.sizeOf158
 v45 := Tryz.zeroValue158
 t46 := Tryz.underlying159
 a46 := Tryz.isAgg159
 z46 := Tryz.sizeOf159
 v46 := Tryz.zeroValue159
 t50 := Tryz.underlying139
 a50 := Tryz.isAgg139
 z50 := Tryz.sizeOf139
 v50 := Tryz.zeroValue139
 t53 := Tryz.underlying165
 a53 := Tryz.isAgg165
 z53 := Tryz.sizeOf165
 v53 := Tryz.zeroValue165
 t55 := Tryz.underlying134
 a55 := Tryz.isAgg134
 z55 := Tryz.sizeOf134
 v55 := Tryz.zeroValue134
 t66 := Tryz.underlying170
 a66 := Tryz.isAgg170
 z66 := Tryz.sizeOf170
 v66 := Tryz.zeroValue170
 t70 := Tryz.underlying174
 a70 := Tryz.isAgg174
 z70 := Tryz.sizeOf174
 v70 := Tryz.zeroValue174
 t76 := Tryz.underlying176
 a76 := Tryz.isAgg176
 z76 := Tryz.sizeOf176
 v76 := Tryz.zeroValue176
 t77 := Tryz.underlying177
 a77 := Tryz.isAgg177
 z77 := Tryz.sizeOf177
 v77 := Tryz.zeroValue177 }
open Go.RowKit Go.Lib Go.Sort in
/-- **slices.SortFunc, IN THE DOCUMENTATION's OWN TERMS: A PERMUTATION OF WHAT THE ROW HELD, SORTED BY 'cmp(a, b) < 0'.** Which of two equals comes first is left open ("The sort is not guaranteed to be stable"). (LAID AT THE INSTANCE 'slices.SortFunc[[][]int64,[]int64]': no walk: one application.) -/
theorem Tryz.slices_SortFunc {α : Type} [Inhabited α] (enc : α → Value) (h1 : OneCell enc) (cf : α → α → Int) (hO : SWO (ltOf cf)) (g : Nat) (cb : Array Value) (blk off cap : Nat) (d : Array α) (w : World) (eg : ∀ args w, (callFunc g args).run Tryz.prog w = .ok (.enter g args) w) (hcmp : CmpLays1 Tryz.prog g cb enc cf blk off d.size w) (hH : Holds enc w blk off d) (hblk : blk < w.heap.size) (hsz : d.size < 4611686018427387904) :
  Calls Tryz.prog 80 #[.slice (some ⟨blk, off, none⟩) d.size cap, .func (.func g) #[] cb] w fun e w' =>
   e = .returned (.tuple #[]) ∧ ∃ d' n os, PermIn 0 d.size d d' ∧ SortedIn (ltOf cf) 0 d.size d' ∧ w' = sortWorld enc w blk off n d' os := Any.slices_SortFunc Tryz.laysSlF6_f80 enc h1 cf hO g cb blk off cap d w eg hcmp hH hblk hsz
open Go.RowKit Go.Lib Go.Sort in
theorem Tryz.slices_SortFunc_none (p : Option Addr) (cap : Nat) (fv : Value) (w : World) : Calls Tryz.prog 80 #[.slice p 0 cap, fv] w fun e w' => e = .returned (.tuple #[]) ∧ w' = w := AnyF.slices_SortFunc_none { Tryz.laysSlF6_f80 with } p cap fv w
end Go.Proofs
namespace Go.Proofs.YtggelmbnliajeaaGreatDoor
open Go.RowKit Go.Sort
/-- the row at a number -/
def pvAt (L : List PV) (i : Nat) : PV := L.getD i (.slice none 0 0, [])
theorem pvAt_get {L : List PV} {i : Nat} (h : i < L.length) : pvAt L i = L[i] := by simp [pvAt, List.getD_eq_getElem?_getD, h]
theorem pvAt_map {L : List PV} {n : Nat} (h : L.length = n) : (List.range n).map (pvAt L) = L := by
 refine List.ext_getElem (by simp [h]) fun i h1 h2 => ?_
 rw [List.getElem_map, List.getElem_range, pvAt_get]
theorem rd_none {w : World} : intsT.Rd w [.slice none 0 0] [] := ⟨[], none, 0, rfl, Nat.zero_le _, Nat.zero_le _, .inl ⟨rfl, rfl⟩⟩
theorem cmpL_no {a b c : List Int} (h : ¬ cmpL a b < 0) (h' : ¬ cmpL b c < 0) : ¬ cmpL a c < 0 := fun h2 => by
 rcases cmpL_total h with e | e
 ·subst e; exact h' h2
 ·rcases cmpL_total h' with e' | e'
  ·subst e'; exact h h2
  ·have := ltL_trans (ltL_trans e' e) h2
   unfold ltL at this
   rw [cmpL_self] at this
   omega
open Go.Proofs in
theorem swo_rows (L : List PV) : SWO (Go.Proofs.ltOf fun i j : Nat => cmpL (pvAt L i).2 (pvAt L j).2) where
 irrefl := fun x => decide_eq_false (by show ¬ cmpL (pvAt L x).2 (pvAt L x).2 < 0; rw [cmpL_self]; omega)
 trans := fun x y z h1 h2 => by
  have g1 : cmpL (pvAt L x).2 (pvAt L y).2 < 0 := of_decide_eq_true h1
  have g2 : cmpL (pvAt L y).2 (pvAt L z).2 < 0 := of_decide_eq_true h2
  have g3 : cmpL (pvAt L x).2 (pvAt L z).2 < 0 := ltL_trans g1 g2
  exact decide_eq_true g3
 ntrans := fun x y z h1 h2 => by
  have g1 : ¬ cmpL (pvAt L x).2 (pvAt L y).2 < 0 := of_decide_eq_false h1
  have g2 : ¬ cmpL (pvAt L y).2 (pvAt L z).2 < 0 := of_decide_eq_false h2
  exact decide_eq_false (cmpL_no g1 g2)
theorem tchP_sortWorld {α : Type} [Inhabited α] {enc : α → Value} {w : World} {b o m : Nat} {d : Array α} {os : Array Obj} : TchP (fun q => q = b) w (Go.Proofs.sortWorld enc w b o m d os) where
 os := rfl
 tape := rfl
 output := rfl
 size := by simp only [Go.Proofs.sortWorld, Go.Sort.grow, Array.size_append, Go.Sort.size_putRow]; exact Nat.le_add_right _ _
 block := fun k hk hn => by
  unfold Go.Proofs.sortWorld
  rw [Go.Sort.heap_grow_old _ _ (by rw [Go.Sort.size_putRow]; exact hk)]
  simp only [Go.Sort.putRow, Go.Sort.mapBlock, Go.Sort.ahead, Array.getElem?_modify]
  rw [if_neg (fun e => hn e.symm)]
theorem frozen_sortWorld {α : Type} [Inhabited α] {enc : α → Value} {w : World} {b o m : Nat} {d : Array α} {os : Array Obj} (hb : b < w.heap.size) (i : Nat) : (Go.Proofs.sortWorld enc w b o m d os).frozen? ⟨b, i, none⟩ = w.frozen? ⟨b, i, none⟩ := by
 unfold Go.Proofs.sortWorld
 rw [Go.Sort.frozen?_grow _ _ _ (by rw [Go.Sort.size_putRow]; exact hb), Go.Sort.frozen?_putRow]
 rfl
theorem sortAll_any (w : World) {b o n c : Nat} {L0 : List PV} (hL : L0.length = n) (h : SR w b o L0) (hn : n ≤ 1000000) (g : Nat) (eg : ∀ args w, (callFunc g args).run Tryz.prog w = .ok (.enter g args) w)
  (hc : ∀ (W : World) (v u : Value) (xs ys : List Int), intsT.Rd W [v] xs → intsT.Rd W [u] ys → Calls Tryz.prog g #[v, u] W fun e w' => e = .returned (.int .i64 (cmpL xs ys)) ∧ W = w') :
  Calls Tryz.prog 80 #[.slice (some ⟨b, o, none⟩) n c, .func (.func g) #[] #[]] w fun e w' => e = .returned (.tuple #[]) ∧ ∃ L : List PV, L.Perm L0 ∧ L.Pairwise leP ∧ SR w' b o L ∧ TchP (fun q => q = b) w w' := by
 have h1 : Go.Proofs.OneCell (fun i : Nat => (pvAt L0 i).1) := fun i => by
  by_cases hi : i < L0.length
  ·show (pvAt L0 i).1.oneCell' = true
   rw [pvAt_get hi]
   obtain ⟨ad, cap, e⟩ := rd_slice (h.2.2 i hi).2.rd
   rw [e]; rfl
  ·show (pvAt L0 i).1.oneCell' = true
   simp only [pvAt, List.getD_eq_getElem?_getD, List.getElem?_eq_none (Nat.le_of_not_lt hi)]
   rfl
 have hrd : ∀ (W : World), TchP (fun q => q = b) w W → ∀ i, intsT.Rd W [(pvAt L0 i).1] (pvAt L0 i).2 := fun W hW i => by
  by_cases hi : i < L0.length
  ·rw [pvAt_get hi]
   exact ((h.2.2 i hi).2.tchP hW (fun k _ h1 h2 => h1 h2)).rd
  ·simp only [pvAt, List.getD_eq_getElem?_getD, List.getElem?_eq_none (Nat.le_of_not_lt hi)]
   exact rd_none
 have hH : Go.Sort.Holds (fun i : Nat => (pvAt L0 i).1) w b o (Array.range n) := fun j hj => by
  have hj' : j < n := by simpa using hj
  rw [getElem!_pos _ j hj, Array.getElem_range]
  refine ⟨?_, h.2.1 _⟩
  show _ = some (pvAt L0 j).1
  rw [pvAt_get (by omega)]
  exact (h.2.2 j (by omega)).1
 have key := Tryz.slices_SortFunc (fun i : Nat => (pvAt L0 i).1) h1 (fun i j => cmpL (pvAt L0 i).2 (pvAt L0 j).2) (swo_rows L0) g #[] b o c (Array.range n) w eg (fun m os dk _ x y => by
  refine (hc _ _ _ _ _ (hrd _ tchP_sortWorld x) (hrd _ tchP_sortWorld y)).mono ?_
  rintro e w' ⟨rfl, rfl⟩
  exact ⟨rfl, 0, #[], by rw [Go.Sort.grow_empty]; rfl⟩) hH h.1 (by rw [Array.size_range]; omega)
 rw [Array.size_range] at key
 refine key.mono ?_
 rintro e w' ⟨rfl, d', m, os, ⟨p1, -, p3⟩, hs, rfl⟩
 have hd : d'.size = n := by rw [p1, Array.size_range]
 have p4 : d'.toList.Perm (List.range n) := by
  rw [show d'.extract 0 n = d' by rw [← hd, Array.extract_size], show (Array.range n).extract 0 n = Array.range n by rw [Array.extract_eq_self_iff]; simp] at p3
  simpa using p3
 refine ⟨rfl, d'.toList.map (pvAt L0), ?_, ?_, ⟨?_, ?_, ?_⟩, tchP_sortWorld⟩
 ·have := p4.map (pvAt L0)
  rwa [pvAt_map hL] at this
 ·rw [List.pairwise_map, List.pairwise_iff_getElem]
  intro i j hi hj hij
  have hi' : i < d'.size := by simpa using hi
  have hj' : j < d'.size := by simpa using hj
  have := hs i j (Nat.zero_le _) hij (by simpa [p1] using hj')
  rw [getElem!_pos d' j hj', getElem!_pos d' i hi'] at this
  exact leP_of (of_decide_eq_false this)
 ·exact Nat.lt_of_lt_of_le h.1 tchP_sortWorld.size
 ·intro i
  rw [frozen_sortWorld h.1]
  exact h.2.1 i
 ·intro i hi
  have hi' : i < d'.size := by simpa using hi
  have hc2 := (Go.Proofs.holds_sortWorld (fun i : Nat => (pvAt L0 i).1) w b o m (Array.range n) d' os h.1 hH (by rw [p1]) i hi').1
  rw [getElem!_pos d' i hi'] at hc2
  simp only [List.getElem_map, Array.getElem_toList]
  refine ⟨hc2, ?_⟩
  have hx : d'[i] < n := by
   have : d'[i] ∈ List.range n := p4.mem_iff.1 (by simp)
   simpa using this
  rw [pvAt_get (by omega)]
  exact (h.2.2 _ (by omega)).2.tchP tchP_sortWorld (fun k _ h1 h2 => h1 h2)
theorem compact0_any (w : World) {ad : Option Addr} {c : Nat} : Calls Tryz.prog 110 #[.slice ad 0 c, .func (.func 111) #[] #[]] w fun e w' => e = .returned (.slice ad 0 c) ∧ w = w' := by
 go_enter Tryz.func110, Tryz.ntmps110
 go_wp2_with fail
 go_ret
 exact ⟨rfl, rfl⟩
end Go.Proofs.YtggelmbnliajeaaGreatDoor
namespace Go.Proofs.YtggelmbnliajeaaGreatDoor
open Go.RowKit Go.Sort
/-- new memory: a relation of these tuples, in order -/
def MkRel (ts : List (List Int)) (ar : Int) (w : World) (e : Ending) (w' : World) : Prop := ∃ M : List (List Int), M.Pairwise ltL ∧ (∀ l, l ∈ M ↔ l ∈ ts) ∧ RetA relT w (ar, M) e w'
set_option maxHeartbeats 1600000 in
theorem makeRel0_any (w : World) {v : Value} (h : rowsT.Rd w [v] []) {ar : Int} (har : I64 ar) : Calls Tryz.prog 50 #[.int .i64 ar, v] w (MkRel [] ar w) := by
 obtain ⟨ad, cap, rfl⟩ := rd_slice h
 have H := Lib.hid h
 have HAR := Lib.hid har
 clear h har
 go_enter Tryz.func50, Tryz.ntmps50
 go_wp2_with fail
 generalize hW : World.alloc w _ = W
 have hbW : Below w.heap.size w W := hW ▸ bA
 have hsW : w.heap.size + 1 ≤ W.heap.size := by rw [← hW]; simp
 obtain ⟨z0, f0⟩ : ∃ z, W.cell? ⟨w.heap.size, 0, none⟩ = some z := ⟨_, by rw [← hW]; simp [go_sem]; rfl⟩
 obtain ⟨z1, f1⟩ : ∃ z, W.cell? ⟨w.heap.size, 1, none⟩ = some z := ⟨_, by rw [← hW]; simp [go_sem]; rfl⟩
 have y0 : W.frozen? ⟨w.heap.size, 0, none⟩ = false := by rw [← hW]; simp [go_sem]
 have y1 : W.frozen? ⟨w.heap.size, 1, none⟩ = false := by rw [← hW]; simp [go_sem]
 clear hW
 refine (ownLists_any W (H.out.below hbW) (by simp) (by simp)).mono ?_
 rintro e w1 ⟨u1, rfl, hf, hb1⟩
 obtain ⟨a1, c1, rfl⟩ := fr_slice hf
 have hz1 := hb1.size
 replace f0 := (cellB hb1 (by omega)).trans f0
 replace f1 := (cellB hb1 (by omega)).trans f1
 replace y0 := (frozenB hb1 (by omega)).trans y0
 replace y1 := (frozenB hb1 (by omega)).trans y1
 have hbw1 := bthen hbW hb1
 clear hf
 rw [List.length_nil]
 go_wp2_with fail
 refine (Tryz.slices_SortFunc_none a1 c1 _ w1).mono ?_
 rintro e w2 ⟨rfl, rfl⟩
 go_wp2_with fail
 refine (compact0_any _).mono ?_
 rintro e w3 ⟨rfl, rfl⟩
 go_wp2_with fail
 obtain ⟨g0, g1⟩ := set2_cells (x := .int .i64 ar) (y := .slice a1 0 c1) f0 f1
 refine bodyPost_ret (v := .agg #[.int .i64 ar, .slice a1 0 c1]) (by simp [results, Tryz.results50, go_sem, g0, g1]) rfl ⟨[], List.Pairwise.nil, fun l => Iff.rfl, _, rfl, ?_, ?_⟩
 ·exact fr_cons HAR.out fr_nil
 ·exact (hbw1.setCell (by simp) _).setCell (by simp) _
set_option maxHeartbeats 1600000 in
theorem makeRelP_any (w : World) {v : Value} {ts : List (List Int)} (h : rowsT.Rd w [v] ts) (hn : 1 ≤ ts.length ∧ ts.length ≤ 1000000) (hl2 : ∀ y ∈ ts, y.length ≤ 1000000) {ar : Int} (har : I64 ar) :
  Calls Tryz.prog 50 #[.int .i64 ar, v] w (MkRel ts ar w) := by
 obtain ⟨ad, cap, rfl⟩ := rd_slice h
 have H := Lib.hid h
 have HL2 := Lib.hid hl2
 have HAR := Lib.hid har
 clear h hl2 har
 go_enter Tryz.func50, Tryz.ntmps50
 go_wp2_with fail
 generalize hW : World.alloc w _ = W
 have hbW : Below w.heap.size w W := hW ▸ bA
 have hsW : w.heap.size + 1 ≤ W.heap.size := by rw [← hW]; simp
 obtain ⟨z0, f0⟩ : ∃ z, W.cell? ⟨w.heap.size, 0, none⟩ = some z := ⟨_, by rw [← hW]; simp [go_sem]; rfl⟩
 obtain ⟨z1, f1⟩ : ∃ z, W.cell? ⟨w.heap.size, 1, none⟩ = some z := ⟨_, by rw [← hW]; simp [go_sem]; rfl⟩
 have y0 : W.frozen? ⟨w.heap.size, 0, none⟩ = false := by rw [← hW]; simp [go_sem]
 have y1 : W.frozen? ⟨w.heap.size, 1, none⟩ = false := by rw [← hW]; simp [go_sem]
 clear hW
 refine (ownLists_any W (H.out.below hbW) (by omega) HL2.out).mono ?_
 rintro e w1 ⟨u1, rfl, hf, hb1⟩
 obtain ⟨a1, c1, rfl⟩ := fr_slice hf
 have hcap : ts.length ≤ c1 := by obtain ⟨_, ⟨_, _, hv, hc, _⟩, _⟩ := hf; simp at hv; omega
 obtain ⟨b, o, rfl⟩ : ∃ b o, a1 = some ⟨b, o, none⟩ := by
  obtain ⟨_, _, hv, _, _, hc⟩ := Ty.slice_ex hf.rd
  obtain ⟨b, o, h, _⟩ := hc (by omega)
  simp at hv
  exact ⟨b, o, by rw [hv.1, h]⟩
 obtain ⟨hbb, L0, hL0, hS, hR⟩ := sr_of_fr hf (by omega)
 have hLl : L0.length = ts.length := by rw [← hL0, List.length_map]
 have HLl := Lib.hid hLl
 have HL0 := Lib.hid hL0
 have HS := Lib.hid hS
 have HR := Lib.hid hR
 have hz1 := hb1.size
 replace f0 := (cellB hb1 (by omega)).trans f0
 replace f1 := (cellB hb1 (by omega)).trans f1
 replace y0 := (frozenB hb1 (by omega)).trans y0
 replace y1 := (frozenB hb1 (by omega)).trans y1
 have hbw1 := bthen hbW hb1
 clear hf hL0 hS hR hLl
 go_wp2_with fail
 refine (sortAll_any w1 HLl.out HS.out (by omega) 109 (enters Tryz.func109 (by kernel_rfl) rfl) (fun W v u xs ys h1 h2 => makeRel1_any W h1 h2)).mono ?_
 rintro e w2 ⟨rfl, L1, hp1, hle, hS2, hT2⟩
 have HS2 := Lib.hid hS2
 have HP1 := Lib.hid hp1
 have HLE := Lib.hid hle
 have hb2 : Below W.heap.size w1 w2 := hT2.below hb1.size (fun k hk e => by omega)
 have HR2 : Hid (SRf W.heap.size w2 L1) := (HR.out.tch HS.out.apart hT2).perm hp1
 have hz2 := hT2.size
 have HLl2 : Hid (L1.length = ts.length) := hp1.length_eq.trans HLl.out
 replace f0 := (cellB hb2 (show w.heap.size < W.heap.size by omega)).trans f0
 replace f1 := (cellB hb2 (show w.heap.size < W.heap.size by omega)).trans f1
 replace y0 := (frozenB hb2 (show w.heap.size < W.heap.size by omega)).trans y0
 replace y1 := (frozenB hb2 (show w.heap.size < W.heap.size by omega)).trans y1
 clear hS2 hT2 hp1 hle
 go_wp2_with fail
 refine (compactRows_any w2 HLl2.out HS2.out (by omega) hcap).mono ?_
 rintro e w3 ⟨rfl, hS3, hT3⟩
 have HS3 := Lib.hid hS3
 have hb3 : Below W.heap.size w2 w3 := hT3.below (by omega) (fun k hk e => by omega)
 have HR3 : Hid (SRf W.heap.size w3 (ddL L1)) := (HR2.out.tch HS2.out.apart hT3).sub (ddL_sub _)
 have hz3 := hT3.size
 replace f0 := (cellB hb3 (show w.heap.size < W.heap.size by omega)).trans f0
 replace f1 := (cellB hb3 (show w.heap.size < W.heap.size by omega)).trans f1
 replace y0 := (frozenB hb3 (show w.heap.size < W.heap.size by omega)).trans y0
 replace y1 := (frozenB hb3 (show w.heap.size < W.heap.size by omega)).trans y1
 obtain ⟨M, hM⟩ : ∃ M, M = (ddL L1).map (·.2) := ⟨_, rfl⟩
 have HPW : Hid (M.Pairwise ltL) := by unfold Hid; rw [hM]; exact dd_pw HLE.out
 have HME : Hid (∀ l, l ∈ M ↔ l ∈ ts) := fun l => by
  rw [hM, dd_mem, ← HL0.out, List.mem_map, List.mem_map]
  exact exists_congr fun p => and_congr_left fun _ => HP1.out.mem_iff
 have HF : Hid (rowsT.Fr W.heap.size w3 [.slice (some ⟨b, o, none⟩) (ddL L1).length c1] M) := by
  have hlen : (ddL L1).length ≤ ts.length := Nat.le_trans (ddL_len _) (Nat.le_of_eq HLl2.out)
  have := fr_of_sr (c := c1) HS3.out HR3.out hbb rfl (by omega) (by unfold capMax; omega)
  rw [← hM] at this
  exact this
 have hbw3 : Below w.heap.size w w3 := hbw1.trans ((hb2.mono (by omega)).trans (hb3.mono (by omega)))
 have HN : Hid ((ddL L1).length = M.length) := by unfold Hid; rw [hM, List.length_map]
 rw [HN.out] at HF ⊢
 clear hS3 hT3 HS3 HR3 HLl2 HS2 HR2 HN hM
 go_wp2_with fail
 obtain ⟨g0, g1⟩ := set2_cells (x := .int .i64 ar) (y := .slice (some ⟨b, o, none⟩) M.length c1) f0 f1
 refine bodyPost_ret (v := .agg #[.int .i64 ar, .slice (some ⟨b, o, none⟩) M.length c1]) (by simp [results, Tryz.results50, go_sem, g0, g1]) rfl ⟨M, HPW.out, HME.out, _, rfl, ?_, ?_⟩
 ·exact ((fr_cons HAR.out HF.out).mono (by omega : w.heap.size + 1 ≤ W.heap.size)).set (by simp) |>.set (by simp) |>.mono (by omega)
 ·exact (hbw3.setCell (by simp) _).setCell (by simp) _
theorem makeRelN_any (w : World) {v : Value} {ts : List (List Int)} (h : rowsT.Rd w [v] ts) (hn : ts.length ≤ 1000000) (hl2 : ∀ y ∈ ts, y.length ≤ 1000000) {ar : Int} (har : I64 ar) : Calls Tryz.prog 50 #[.int .i64 ar, v] w (MkRel ts ar w) := by
 rcases Nat.eq_zero_or_pos ts.length with h0 | h0
 ·obtain rfl := List.eq_nil_of_length_eq_zero h0
  exact makeRel0_any w h har
 ·exact makeRelP_any w h ⟨h0, hn⟩ hl2 har
end Go.Proofs.YtggelmbnliajeaaGreatDoor
namespace Go.Proofs.YtggelmbnliajeaaGreatDoor
open Go.RowKit Go.Sort
theorem tupsB_eq {s ar : Int} {ts : List (List Int)} (ha : inB ar 1 4 = true) : anyB (fun l => !tb (rowOk s ar l)) ts = !(tupsB s ar ts) := by
 cases h : tupsB s ar ts
 ·cases h2 : anyB (fun l => !tb (rowOk s ar l)) ts
  ·unfold anyB at h2
   rw [List.any_eq_false] at h2
   have : tupsB s ar ts = true := tb_true ⟨inB_true.1 ha, fun l hl => by have := h2 l hl; simpa [tb_iff] using this⟩
   rw [h] at this
   cases this
  ·rfl
 ·have h1 := tb_iff.1 h
  unfold anyB
  rw [List.any_eq_false.2]
  ·rfl
  intro l hl
  simp [tb_true (h1.2 l hl)]
theorem tupsB_no {s ar : Int} {ts : List (List Int)} (ha : inB ar 1 4 = false) : tupsB s ar ts = false := tb_false fun hh => by
 have := inB_true.2 hh.1
 rw [ha] at this
 cases this
theorem relOk_pw {s : Int} {an : Nat} {M : List (List Int)} (hs : sizeOk s) (han : 1 ≤ an ∧ an ≤ 4) (hP : M.Pairwise ltL) (hM : ∀ l ∈ M, tupP s an l) : relOk s ((an : Int), M) := by
 refine ⟨hs, ⟨?_, ?_⟩, fun i hi => ⟨⟨?_, ?_⟩, fun h0 => ?_⟩⟩
 ·show (1 : Int) ≤ an; omega
 ·show (an : Int) ≤ 4; omega
 ·have h1 := hM _ (List.getElem_mem (l := M) hi)
  show ((M[i].length : Nat) : Int) = (an : Int)
  rw [h1.1]
 ·exact (hM _ (List.getElem_mem (l := M) hi)).2
 ·have hi' : i < M.length := hi
  exact List.pairwise_iff_getElem.1 hP (i - 1) i (by omega) hi' (by omega)
theorem nodup_le {α : Type} [DecidableEq α] : ∀ {l m : List α}, l.Nodup → (∀ a ∈ l, a ∈ m) → l.length ≤ m.length
 | [], m, _, _ => Nat.zero_le _
 | a :: l, m, h, hs => by
  have h1 := List.nodup_cons.1 h
  have h2 : l.length ≤ (m.erase a).length := nodup_le h1.2 fun b hb => by
   have hne : b ≠ a := fun e => h1.1 (e ▸ hb)
   exact (List.mem_erase_of_ne hne).2 (hs b (List.mem_cons_of_mem _ hb))
  have h3 := List.length_erase_of_mem (hs a (List.mem_cons_self ..))
  have h4 : 0 < m.length := List.length_pos_of_mem (hs a (List.mem_cons_self ..))
  simp only [List.length_cons]
  omega
theorem tups_le {s : Int} {an N : Nat} {A : List (List Int)} (hs : 1 ≤ s) (hN : s ^ an = (N : Int)) (hn : A.Nodup) (hA : ∀ l ∈ A, tupP s an l) : A.length ≤ N := by
 have h1 := nodup_le (m := (List.range N).map fun i : Nat => digL s i an) hn fun l hl => by
  have ht := hA l hl
  have hb := idx_lt hs ht.1 ht.2
  have e := dig_of hs ht.1 ht.2
  rw [hN] at hb
  refine List.mem_map.2 ⟨(idxL s 0 l).toNat, by simp; omega, ?_⟩
  rw [show (((idxL s 0 l).toNat : Nat) : Int) = idxL s 0 l by omega]
  exact e
 simpa using h1
theorem clo_mono {s : Int} {ops : List (Int × List Int)} {ar : Nat} {T T' : List (List Int)} (h : ∀ l, l ∈ T → l ∈ T') {l : List Int} (hl : Clo s ops ar T l) : Clo s ops ar T' l := by
 induction hl with
 | base h1 => exact .base (h _ h1)
 | step hf hl _ ih => exact .step hf hl ih
theorem AddI.rows {P : Program} {km em te B bs ba mb : Nat} {w : World} {v : Value} {vs : List Value} {A : List (List Int)} (h : AddI P km em te B bs ba mb w v vs A) (hl : A.length ≤ 100000000) : rowsT.Rd w [v] A :=
 rows_of_vals (h.row.fr (by rw [h.len]; unfold capMax; omega)).rd h.len (fun i h1 h2 => (h.rd i h1 h2).rd)
theorem fieldRelC (w : World) (n : Int) (ad : Option Addr) (m c : Nat) : (Instr.field 27 (.agg #[.int .i64 n, .slice ad m c]) 1).run Tryz.prog w = .ok (.slice ad m c) w := by kernel_rfl
theorem ClosureOf1_any (w : World) {b1 b2 : Nat} {u : Value} {x : List Int} (h : intsT.Rd w [u] x) {s ar : Int} (hs : 1 ≤ s ∧ s ≤ 4) (t0 : w.cell? ⟨b1, 0, none⟩ = some (.int .i64 s)) (u0 : w.cell? ⟨b2, 0, none⟩ = some (.int .i64 ar)) :
  Calls Tryz.prog 46 #[u, .pointer (some ⟨b1, 0, none⟩), .pointer (some ⟨b2, 0, none⟩)] w fun e w' => e = .returned (.bool (!(tb (rowOk s ar x)))) ∧ Below w.heap.size w w' := by
 have HX := Lib.hid h
 obtain ⟨ad, cap, rfl⟩ := rd_slice h
 clear h
 go_enter Tryz.func46, Tryz.ntmps46
 go_wp2_with fail
 refine (areValues_any w HX.out s ar (by omega) (by omega)).mono ?_
 rintro e w1 ⟨rfl, hbb⟩
 go_wp2_with fail
 go_ret
 exact ⟨rfl, hbb⟩
set_option maxHeartbeats 6400000 in
set_option maxRecDepth 100000 in
theorem ClosureOf_any (w : World) {vo : Value} {ops : List (Int × List Int)} (hops : opsT.Rd w [vo] ops) {vt : Value} {ts : List (List Int)} (hts : rowsT.Rd w [vt] ts) (s ar : Int) (hb : tupsB s ar ts = true → ts.length ≤ 1000000) :
  Calls Tryz.prog 10 #[.int .i64 s, .int .i64 ar, vo, vt] w (RetAC relT w (coV s ar ops ts) (coC s ar ops ts)) := by
 have H := Lib.hid hops
 have HT := Lib.hid hts
 have HB := Lib.hid hb
 obtain ⟨oa, oc, rfl⟩ := rd_slice hops
 obtain ⟨ta, tc, rfl⟩ := rd_slice hts
 clear hops hts hb
 go_enter Tryz.func10, Tryz.ntmps10
 go_wp2_with fail
 generalize hW : World.alloc (World.alloc (World.alloc w _) _) _ = W
 have hbW : Below w.heap.size w W := hW ▸ bthen bAA bA
 have hsW : w.heap.size + 3 ≤ W.heap.size := by rw [← hW]; simp
 have t0 : W.cell? ⟨w.heap.size, 0, none⟩ = some (.int .i64 s) := by rw [← hW]; simp [go_sem]
 have u0 : W.cell? ⟨w.heap.size + 1, 0, none⟩ = some (.int .i64 ar) := by rw [← hW]; simp [go_sem]
 have r0 : W.cell? ⟨w.heap.size + 1 + 1, 0, none⟩ = some (.int .i64 0) := by rw [← hW]; simp [go_sem]
 have r1 : W.cell? ⟨w.heap.size + 1 + 1, 1, none⟩ = some (.slice none 0 0) := by rw [← hW]; simp [go_sem]
 have q0 : W.frozen? ⟨w.heap.size + 1 + 1, 0, none⟩ = false := by rw [← hW]; simp [go_sem]
 have q1 : W.frozen? ⟨w.heap.size + 1 + 1, 1, none⟩ = false := by rw [← hW]; simp [go_sem]
 clear hW
 refine (areOpsN_any W (H.out.below hbW) s).mono ?_
 rintro e w1 ⟨rfl, hb1⟩
 have hB1 := bthen hbW hb1
 have hz1 := hb1.size
 replace t0 := (cellB hb1 (by omega)).trans t0
 replace u0 := (cellB hb1 (by omega)).trans u0
 replace r0 := (cellB hb1 (by omega)).trans r0
 replace r1 := (cellB hb1 (by omega)).trans r1
 replace q0 := (frozenB hb1 (by omega)).trans q0
 replace q1 := (frozenB hb1 (by omega)).trans q1
 cases h1 : opsB s ops
 ·have HC := Lib.hid (coC_no1 (ar := ar) (ts := ts) h1)
  have HV : Hid (coV s ar ops ts = (0, [])) := coV_no (by rw [HC.out]; decide)
  have HZ0 := Lib.hid (fun (x y : Value) => res2_0 (x := x) (y := y) r0)
  have HZ1 := Lib.hid (fun (x y : Value) => res2_1 (x := x) (y := y) r1)
  go_wp2_with fail
  refine bodyPost_ret (v := .tuple #[.agg #[.int .i64 0, .slice none 0 0], .int .i64 1]) (by simp [results, Tryz.results10, go_sem, HZ0.out, HZ1.out]) rfl ⟨[.int .i64 0, .slice none 0 0], by rw [HC.out], ?_, res2_b hB1 (by omega)⟩
  rw [HV.out]
  exact fr_rel0
 have HOK := Lib.hid (opsB_yes h1)
 by_cases h2 : 64 < ops.length
 ·have hd : decide ((64 : Int) < (ops.length : Int)) = true := by simp; omega
  have hd' : decide (64 < ops.length) = true := by simp; omega
  have HC := Lib.hid (coC_no2 (ar := ar) (ts := ts) h1 hd')
  have HV : Hid (coV s ar ops ts = (0, [])) := coV_no (by rw [HC.out]; decide)
  have HZ0 := Lib.hid (fun (x y : Value) => res2_0 (x := x) (y := y) r0)
  have HZ1 := Lib.hid (fun (x y : Value) => res2_1 (x := x) (y := y) r1)
  clear h2
  go_wp2_with fail
  refine bodyPost_ret (v := .tuple #[.agg #[.int .i64 0, .slice none 0 0], .int .i64 3]) (by simp [results, Tryz.results10, go_sem, HZ0.out, HZ1.out]) rfl ⟨[.int .i64 0, .slice none 0 0], by rw [HC.out], ?_, res2_b hB1 (by omega)⟩
  rw [HV.out]
  exact fr_rel0
 have hd : decide ((64 : Int) < (ops.length : Int)) = false := by simp; omega
 have hd' : decide (64 < ops.length) = false := by simp; omega
 have HD := Lib.hid hd'
 have H1 := Lib.hid h1
 have hs4 : 1 ≤ s ∧ s ≤ 4 := HOK.out.1
 clear h2 h1
 go_wp2_with fail
 refine (isArity_any ar _).mono ?_
 rintro e _ ⟨rfl, rfl⟩
 cases ha : inB ar 1 4
 ·have HC := Lib.hid (coC_no3 (ar := ar) (ts := ts) H1.out HD.out (tupsB_no ha))
  have HV : Hid (coV s ar ops ts = (0, [])) := coV_no (by rw [HC.out]; decide)
  have HZ0 := Lib.hid (fun (x y : Value) => res2_0 (x := x) (y := y) r0)
  have HZ1 := Lib.hid (fun (x y : Value) => res2_1 (x := x) (y := y) r1)
  go_wp2_with fail
  refine bodyPost_ret (v := .tuple #[.agg #[.int .i64 0, .slice none 0 0], .int .i64 2]) (by simp [results, Tryz.results10, go_sem, HZ0.out, HZ1.out]) rfl ⟨[.int .i64 0, .slice none 0 0], by rw [HC.out], ?_, res2_b hB1 (by omega)⟩
  rw [HV.out]
  exact fr_rel0
 have HTB := Lib.hid (tupsB_eq (s := s) (ts := ts) ha)
 have ha4 := inB_true.1 ha
 have HPF : Hid (∀ W', Below w1.heap.size w1 W' → ∀ k (h : k < ts.length) (x : Value), intsT.Rd W' [x] ts[k] → Calls Tryz.prog 46 (#[x] ++ #[.pointer (some ⟨w.heap.size, 0, none⟩), .pointer (some ⟨w.heap.size + 1, 0, none⟩)]) W' fun e W'' => e = .returned (.bool ((fun l => !(tb (rowOk s ar l))) ts[k])) ∧ Below W'.heap.size W' W'') := by
  intro W' hW' k hk x hx
  have hz := hW'.size
  exact ClosureOf1_any W' hx (by omega) ((cellB hW' (by omega)).trans t0) ((cellB hW' (by omega)).trans u0)
 clear ha
 go_wp2_with fail
 refine (ContainsFuncInts_any _ (HT.out.below hB1) (fun l => !(tb (rowOk s ar l))) 46 _ (enters Tryz.func46 (by kernel_rfl) rfl) HPF.out).mono ?_
 rintro e w2 ⟨rfl, hb2⟩
 rw [HTB.out]
 have hB2 := bthen hB1 hb2
 have hz2 := hb2.size
 replace t0 := (cellB hb2 (by omega)).trans t0
 replace u0 := (cellB hb2 (by omega)).trans u0
 replace r0 := (cellB hb2 (by omega)).trans r0
 replace r1 := (cellB hb2 (by omega)).trans r1
 replace q0 := (frozenB hb2 (by omega)).trans q0
 replace q1 := (frozenB hb2 (by omega)).trans q1
 clear HPF HTB
 cases h3 : tupsB s ar ts
 ·have HC := Lib.hid (coC_no3 (ar := ar) (ts := ts) H1.out HD.out h3)
  have HV : Hid (coV s ar ops ts = (0, [])) := coV_no (by rw [HC.out]; decide)
  have HZ0 := Lib.hid (fun (x y : Value) => res2_0 (x := x) (y := y) r0)
  have HZ1 := Lib.hid (fun (x y : Value) => res2_1 (x := x) (y := y) r1)
  go_wp2_with fail
  refine bodyPost_ret (v := .tuple #[.agg #[.int .i64 0, .slice none 0 0], .int .i64 2]) (by simp [results, Tryz.results10, go_sem, HZ0.out, HZ1.out]) rfl ⟨[.int .i64 0, .slice none 0 0], by rw [HC.out], ?_, res2_b hB2 (by omega)⟩
  rw [HV.out]
  exact fr_rel0
 have HC := Lib.hid (coC_ok (ar := ar) (ts := ts) H1.out HD.out h3)
 have HV := Lib.hid (coV_ok HC.out)
 have HTS := Lib.hid (tb_iff.1 h3)
 have HTL := Lib.hid (HB.out h3)
 obtain ⟨an, han⟩ : ∃ an : Nat, ar = (an : Int) := ⟨ar.toNat, by omega⟩
 subst han
 have han4 : 1 ≤ an ∧ an ≤ 4 := by omega
 obtain ⟨N, hN⟩ : ∃ N : Nat, s ^ an = (N : Int) := ⟨(s ^ an).toNat, by have := pow_nn (s := s) (by omega) an; omega⟩
 have hN256 : N ≤ 256 := by
  have h1 : s ^ an ≤ 256 := by
   refine Int.le_trans (pow_mono' (by omega) (show s ≤ 4 by omega) an) ?_
   rcases (show an = 1 ∨ an = 2 ∨ an = 3 ∨ an = 4 by omega) with e | e | e | e <;> rw [e] <;> decide
  omega
 have HN := Lib.hid hN
 have HTP : Hid (∀ l ∈ ts, tupP s an l) := fun l hl => by
  obtain ⟨g1, g2⟩ := HTS.out.2 l hl
  exact ⟨by omega, g2⟩
 clear hN h3 HTS
 go_wp2_with fail
 refine (power_any w2 s (an : Int) (by omega) (by omega) (by omega)).mono ?_
 rintro e _ ⟨rfl, rfl⟩
 rw [Int.toNat_natCast, HN.out]
 go_wp2_with fail
 have hfld := fieldRelC
 refine wp_region_T (fun w' => w'.cell? ⟨w.heap.size, 0, none⟩ = some (.int .i64 s) ∧ w'.cell? ⟨w.heap.size + 1, 0, none⟩ = some (.int .i64 (an : Int))) [] (by kernel_rfl) ⟨t0, u0⟩ (fun hHeld => ?_)
 refine wpAnyT_take (i := 0) (v := ?_) rfl (by kernel_rfl) (fun _ _ _ h => h) (Or.inl ⟨by rfl, ?_⟩) (by assumption) ?_
 rotate_left
 ·(intro w hSw; (try dsimp only at hSw); go_simp <;> with_reducible rfl)
 go_simp
 refine wpAnyT_take (i := 1) (v := ?_) rfl (by kernel_rfl) (fun _ _ _ h => h) (Or.inl ⟨by rfl, ?_⟩) (by assumption) ?_
 rotate_left
 ·(intro w hSw; (try dsimp only at hSw); go_simp <;> with_reducible rfl)
 go_simp
 refine wpAnyT_take (i := 2) (v := ?_) rfl (by kernel_rfl) (fun _ _ _ h => h) (Or.inl ⟨by rfl, ?_⟩) (by assumption) ?_
 rotate_left
 ·(intro w hSw; (try dsimp only at hSw); go_simp <;> with_reducible rfl)
 go_simp
 refine wpAnyT_take (i := 3) (v := ?_) rfl (by kernel_rfl) (fun _ _ _ h => h) (Or.inl ⟨by rfl, ?_⟩) (by assumption) ?_
 rotate_left
 ·(intro w hSw; (try dsimp only at hSw); go_simp <;> with_reducible rfl)
 go_simp
 refine wpAnyT_take (i := 6) (v := ?_) rfl (by kernel_rfl) (fun _ _ _ h => h) (Or.inl ⟨by rfl, ?_⟩) (by assumption) ?_
 rotate_left
 ·(intro w hSw; (try dsimp only at hSw); go_simp <;> with_reducible rfl)
 go_simp
 refine wpAnyT_one (i := 4) rfl (by kernel_rfl) (fun K hK => ?_)
 go_simp
 have hb3 : Below w2.heap.size w2 w2.drew := bD
 have hB3 := bthen hB2 hb3
 refine (makeRelN_any w2.drew (HT.out.below hB3) HTL.out (fun y hy => by rw [(HTP.out y hy).1]; omega) (ar := (an : Int)) (I64.small (by omega) (by omega))).mono ?_
 rintro e w4 ⟨M, hMP, hMM, cs4, rfl, hf4, hb4⟩
 have HMP := Lib.hid hMP
 have HMM := Lib.hid hMM
 obtain ⟨a4, c4, rfl⟩ := fr_pair hf4
 have hB34 : Below w2.heap.size w2 w4 := bthen hb3 hb4
 have hB4 := bthen hB2 hB34
 have hz4 := hB34.size
 replace t0 := (cellB hB34 (by omega)).trans t0
 replace u0 := (cellB hB34 (by omega)).trans u0
 replace r0 := (cellB hB34 (by omega)).trans r0
 replace r1 := (cellB hB34 (by omega)).trans r1
 replace q0 := (frozenB hB34 (by omega)).trans q0
 replace q1 := (frozenB hB34 (by omega)).trans q1
 have HR4 : Hid (rowsT.Rd w4 [.slice a4 M.length c4] M) := by
  obtain ⟨fp, ⟨cs', he, -, h3⟩, -⟩ := hf4
  simp only [List.cons.injEq, true_and] at he
  rw [← he] at h3
  exact ⟨fp, h3⟩
 have HMT : Hid (∀ l ∈ M, tupP s an l) := fun l hl => HTP.out l ((HMM.out l).1 hl)
 have HML : Hid (M.length ≤ 256) := by
  have hrel := relOk_pw (M := M) HOK.out.1 han4 HMP.out HMT.out
  exact (rel_bd hrel).1
 clear hMP hMM hf4 hb4 hHeld
 dsimp only
 refine hK.out _ _ ⟨t0, u0⟩ (fun hHeld => ?_)
 clear hK K
 refine wpAnyT_take (i := 5) (v := ?_) rfl (by kernel_rfl) (fun _ _ _ h => h) (Or.inl ⟨by rfl, ?_⟩) (by assumption) ?_
 rotate_left
 ·(intro w hSw; (try dsimp only at hSw); go_simp <;> with_reducible rfl)
 go_simp
 refine wpAnyT_one (i := 7) rfl (by kernel_rfl) (fun K hK => ?_)
 go_simp
 have HCLO : Hid (Calls Tryz.prog 49 #[.int .i64 s, .slice oa ops.length oc, .slice a4 M.length c4, .int .i64 (N : Int)] w4 (CloA Tryz.prog 9 4 42 s ops an M N w4)) := closure_any w4 (H.out.below hB4) HOK.out.1 HOK.out.2 HR4.out (by omega) HMT.out (by have := HML.out; omega) (by omega)
 refine HCLO.out.mono ?_
 rintro e w5 ⟨v5, vs5, A5, bs, ba, mb, rfl, hI5, hcl5, hall5, hb5, hA5⟩
 have HI5 := Lib.hid hI5
 have HALL : Hid (A5.length ≤ N ∧ ∀ l, l ∈ A5 ↔ Clo s ops an ts l) := by
  have h1 := tups_le (by omega) HN.out hcl5.nd (fun l hl => clo_in HOK.out.2 HMT.out (hcl5.clo l hl))
  refine ⟨h1, fun l => (hall5 h1 l).trans ⟨clo_mono fun x hx => (HMM.out x).1 hx, clo_mono fun x hx => (HMM.out x).2 hx⟩⟩
 obtain ⟨ad5, cp5, hv5, -⟩ := hI5.shape
 subst hv5
 have hB45 : Below w2.heap.size w2 w5 := bthen hB34 hb5
 have hB5 := bthen hB2 hB45
 have hz5 := hb5.size
 replace t0 := (cellB hb5 (by omega)).trans t0
 replace u0 := (cellB hb5 (by omega)).trans u0
 replace r0 := (cellB hb5 (by omega)).trans r0
 replace r1 := (cellB hb5 (by omega)).trans r1
 replace q0 := (frozenB hb5 (by omega)).trans q0
 replace q1 := (frozenB hb5 (by omega)).trans q1
 have HR5 : Hid (rowsT.Rd w5 [.slice ad5 A5.length cp5] A5) := HI5.out.rows (by omega)
 clear hI5 hcl5 hall5 HCLO hHeld HI5 HR4
 dsimp only
 refine hK.out _ _ ⟨t0, u0⟩ (fun hHeld => ?_)
 clear hK K
 refine wpAnyT_take (i := 8) (v := ?_) rfl (by kernel_rfl) (fun _ _ _ h => h) (Or.inl ⟨by rfl, ?_⟩) (by assumption) ?_
 rotate_left
 ·(intro w hSw; (try dsimp only at hSw); go_simp <;> with_reducible rfl)
 go_simp
 refine wpAnyT_take (i := 9) (v := ?_) rfl (by kernel_rfl) (fun _ _ _ h => h) (Or.inl ⟨by rfl, ?_⟩) (by assumption) ?_
 rotate_left
 ·(intro w hSw; (try dsimp only at hSw); go_simp <;> with_reducible rfl)
 go_simp
 refine wpAnyT_take (i := 10) (v := ?_) rfl (by kernel_rfl) (fun _ _ _ h => h) (Or.inl ⟨by rfl, ?_⟩) (by assumption) ?_
 rotate_left
 ·(intro w hSw; (try dsimp only at hSw); go_simp <;> with_reducible rfl)
 go_simp
 refine wpAnyT_take (i := 11) (v := ?_) rfl (by kernel_rfl) (fun _ _ _ h => h) (Or.inl ⟨by rfl, ?_⟩) (by assumption) ?_
 rotate_left
 ·(intro w hSw; (try dsimp only at hSw); go_simp <;> with_reducible rfl)
 go_simp
 refine wpAnyT_take (i := 12) (v := ?_) rfl (by kernel_rfl) (fun _ _ _ h => h) (Or.inl ⟨by rfl, ?_⟩) (by assumption) ?_
 rotate_left
 ·(intro w hSw; (try dsimp only at hSw); go_simp <;> with_reducible rfl)
 go_simp
 refine wpAnyT_done (by kernel_rfl) ?_ _
 go_simp
 go_wp2_with fail
 refine (makeRelN_any w5 HR5.out (by omega) (fun y hy => by rw [(clo_in HOK.out.2 HTP.out ((HALL.out.2 y).1 hy)).1]; omega) (ar := (an : Int)) (I64.small (by omega) (by omega))).mono ?_
 rintro e w6 ⟨R, hRP, hRM, cs6, rfl, hf6, hb6⟩
 have HV6 : Hid (((an : Int), R) = coV s an ops ts) := by
  unfold Hid
  rw [HV.out, Int.toNat_natCast, cloL_eq HOK.out.1 han4 HOK.out.2 HTP.out hRP (fun l => (hRM l).trans (HALL.out.2 l))]
 obtain ⟨a6, c6, rfl⟩ := fr_pair hf6
 have HF6 := Lib.hid hf6
 have hB6 := bthen hB5 hb6
 have hz6 := hb6.size
 replace r0 := (cellB hb6 (by omega)).trans r0
 replace r1 := (cellB hb6 (by omega)).trans r1
 replace q0 := (frozenB hb6 (by omega)).trans q0
 replace q1 := (frozenB hb6 (by omega)).trans q1
 have HZ0 := Lib.hid (fun (x y : Value) => res2_0 (x := x) (y := y) r0)
 have HZ1 := Lib.hid (fun (x y : Value) => res2_1 (x := x) (y := y) r1)
 clear hRP hRM hf6 hb6 t0 u0 hHeld
 go_wp2_with fail
 refine bodyPost_ret (v := .tuple #[.agg #[.int .i64 (an : Int), .slice a6 R.length c6], .int .i64 0]) (by simp [results, Tryz.results10, go_sem, HZ0.out, HZ1.out]) rfl ⟨[.int .i64 (an : Int), .slice a6 R.length c6], by rw [HC.out], ?_, res2_b hB6 (by omega)⟩
 rw [← HV6.out]
 exact (fr_set2 HF6.out (by omega)).mono (by omega)
end Go.Proofs.YtggelmbnliajeaaGreatDoor
namespace Go.Proofs.YtggelmbnliajeaaGreatDoor
open Go.RowKit Go.Sort
theorem clo_empty {s : Int} {ops : List (Int × List Int)} {ar : Nat} {T : List (List Int)} (ho : ∀ f ∈ ops, opOk s f) (hT : ∀ l, l ∉ T) {l : List Int} (h : Clo s ops ar T l) : False := by
 induction h with
 | base h => exact hT _ h
 | @step f ts hf hl _ ih =>
  have := (ho _ hf).2.1.1
  cases ts with
  | nil => simp at hl; omega
  | cons a ts => exact ih a (List.mem_cons_self ..)
theorem co_yes {s ar : Int} {ops : List (Int × List Int)} {ts : List (List Int)} (h1 : opsB s ops = true) (h2 : decide (64 < ops.length) = false) : coC s ar ops ts = mrC s ar ts := by
 cases h : tupsB s ar ts
 ·rw [coC_no3 h1 h2 h, (mr_no h).2]
 ·rw [coC_ok h1 h2 h, (mr_yes h).2]
set_option maxHeartbeats 6400000 in
set_option maxRecDepth 100000 in
theorem specClosureOf_any (w : World) {vo : Value} {ops : List (Int × List Int)} (hops : opsT.Rd w [vo] ops) {vt : Value} {ts : List (List Int)} (hts : rowsT.Rd w [vt] ts) (s ar : Int) (hl : ts.length ≤ 2000000) :
  Calls Tryz.prog 7 #[.int .i64 s, .int .i64 ar, vo, vt] w (RetAC relT w (coV s ar ops ts) (coC s ar ops ts)) := by
 have H := Lib.hid hops
 have HT := Lib.hid hts
 obtain ⟨oa, oc, rfl⟩ := rd_slice hops
 obtain ⟨ta, tc, rfl⟩ := rd_slice hts
 clear hops hts
 go_enter Tryz.func7, Tryz.ntmps7
 go_wp2_with fail
 generalize hW : World.alloc w _ = W
 have hbW : Below w.heap.size w W := hW ▸ bA
 have hsW : w.heap.size + 1 ≤ W.heap.size := by rw [← hW]; simp
 have r0 : W.cell? ⟨w.heap.size, 0, none⟩ = some (.int .i64 0) := by rw [← hW]; simp [go_sem]
 have r1 : W.cell? ⟨w.heap.size, 1, none⟩ = some (.slice none 0 0) := by rw [← hW]; simp [go_sem]
 have q0 : W.frozen? ⟨w.heap.size, 0, none⟩ = false := by rw [← hW]; simp [go_sem]
 have q1 : W.frozen? ⟨w.heap.size, 1, none⟩ = false := by rw [← hW]; simp [go_sem]
 clear hW
 refine (l02All_any W (H.out.below hbW) s).mono ?_
 rintro e w1 ⟨rfl, hqq1⟩
 have hb1 := hqq1.below
 have hB1 := bthen hbW hb1
 have hz1 := hb1.size
 replace r0 := (cellB hb1 (by omega)).trans r0
 replace r1 := (cellB hb1 (by omega)).trans r1
 replace q0 := (frozenB hb1 (by omega)).trans q0
 replace q1 := (frozenB hb1 (by omega)).trans q1
 clear hqq1
 cases h1 : opsB s ops
 ·have HC := Lib.hid (coC_no1 (ar := ar) (ts := ts) h1)
  have HV : Hid (coV s ar ops ts = (0, [])) := coV_no (by rw [HC.out]; decide)
  have HZ0 := Lib.hid (fun (x y : Value) => res2_0 (x := x) (y := y) r0)
  have HZ1 := Lib.hid (fun (x y : Value) => res2_1 (x := x) (y := y) r1)
  go_wp2_with fail
  refine bodyPost_ret (v := .tuple #[.agg #[.int .i64 0, .slice none 0 0], .int .i64 1]) (by simp [results, Tryz.results7, go_sem, HZ0.out, HZ1.out]) rfl ⟨[.int .i64 0, .slice none 0 0], by rw [HC.out], ?_, res2_b hB1 (by omega)⟩
  rw [HV.out]
  exact fr_rel0
 have HOK := Lib.hid (opsB_yes h1)
 by_cases h2 : 64 < ops.length
 ·have hd : decide ((64 : Int) < (ops.length : Int)) = true := by simp; omega
  have hd' : decide (64 < ops.length) = true := by simp; omega
  have HC := Lib.hid (coC_no2 (ar := ar) (ts := ts) h1 hd')
  have HV : Hid (coV s ar ops ts = (0, [])) := coV_no (by rw [HC.out]; decide)
  have HZ0 := Lib.hid (fun (x y : Value) => res2_0 (x := x) (y := y) r0)
  have HZ1 := Lib.hid (fun (x y : Value) => res2_1 (x := x) (y := y) r1)
  clear h2
  go_wp2_with fail
  refine bodyPost_ret (v := .tuple #[.agg #[.int .i64 0, .slice none 0 0], .int .i64 3]) (by simp [results, Tryz.results7, go_sem, HZ0.out, HZ1.out]) rfl ⟨[.int .i64 0, .slice none 0 0], by rw [HC.out], ?_, res2_b hB1 (by omega)⟩
  rw [HV.out]
  exact fr_rel0
 have hd : decide ((64 : Int) < (ops.length : Int)) = false := by simp; omega
 have hd' : decide (64 < ops.length) = false := by simp; omega
 have HD := Lib.hid hd'
 have H1 := Lib.hid h1
 have hs4 : 1 ≤ s ∧ s ≤ 4 := HOK.out.1
 have HCC : Hid (coC s ar ops ts = mrC s ar ts) := co_yes h1 hd'
 clear h2 h1
 go_wp2_with fail
 refine (specMakeRel_any w1 (HT.out.below hB1) hl HOK.out.1 ar).mono ?_
 rintro e w2 ⟨cs2, rfl, hf2, hb2⟩
 have hB2 := bthen hB1 hb2
 have hz2 := hb2.size
 replace r0 := (cellB hb2 (by omega)).trans r0
 replace r1 := (cellB hb2 (by omega)).trans r1
 replace q0 := (frozenB hb2 (by omega)).trans q0
 replace q1 := (frozenB hb2 (by omega)).trans q1
 cases h3 : tupsB s ar ts
 ·have HM := Lib.hid (mr_no h3)
  have HC : Hid (coC s ar ops ts = 2) := HCC.out.trans HM.out.2
  have HV : Hid (coV s ar ops ts = (0, [])) := coV_no (by rw [HC.out]; decide)
  rw [HM.out.2]
  obtain ⟨a2, c2, rfl⟩ := fr_pair hf2
  have hw2 : w.heap.size < w2.heap.size := by omega
  have HZ0 := Lib.hid (fun (x y : Value) (q : Obj) => (cellB (bA (w := (w2.setCell ⟨w.heap.size, 0, none⟩ x).setCell ⟨w.heap.size, 1, none⟩ y) (o := q)) (show w.heap.size < _ by simpa [World.setCell] using hw2)).trans (res2_0 (x := x) (y := y) r0))
  have HZ1 := Lib.hid (fun (x y : Value) (q : Obj) => (cellB (bA (w := (w2.setCell ⟨w.heap.size, 0, none⟩ x).setCell ⟨w.heap.size, 1, none⟩ y) (o := q)) (show w.heap.size < _ by simpa [World.setCell] using hw2)).trans (res2_1 (x := x) (y := y) r1))
  have e0 : ∀ q, (w2.alloc q).cell? ⟨w.heap.size, 0, none⟩ = some (.int .i64 0) := fun q => (cellB bA (by omega)).trans r0
  have e1 : ∀ q, (w2.alloc q).cell? ⟨w.heap.size, 1, none⟩ = some (.slice none 0 0) := fun q => (cellB bA (by omega)).trans r1
  have e2 : ∀ q, (w2.alloc q).frozen? ⟨w.heap.size, 0, none⟩ = false := fun q => (frozenB bA (by omega)).trans q0
  have e3 : ∀ q, (w2.alloc q).frozen? ⟨w.heap.size, 1, none⟩ = false := fun q => (frozenB bA (by omega)).trans q1
  clear hf2
  go_wp2_with fail
  refine bodyPost_ret (v := .tuple #[.agg #[.int .i64 0, .slice none 0 0], .int .i64 2]) (by simp [results, Tryz.results7, go_sem, HZ0.out, HZ1.out]) rfl ⟨[.int .i64 0, .slice none 0 0], by rw [HC.out], ?_, (res2_b hB2 (by omega)).alloc (by simp [World.setCell]; omega) _⟩
  rw [HV.out]
  exact fr_rel0
 have HM := Lib.hid (mr_yes h3)
 have HC : Hid (coC s ar ops ts = 0) := HCC.out.trans HM.out.2
 have HV := Lib.hid (coV_ok HC.out)
 rw [HM.out.2]
 rw [HM.out.1] at hf2
 have HTS := Lib.hid (tb_iff.1 h3)
 obtain ⟨an, han⟩ : ∃ an : Nat, ar = (an : Int) := ⟨ar.toNat, by have := HTS.out.1; omega⟩
 subst han
 have han4 : 1 ≤ an ∧ an ≤ 4 := by have := HTS.out.1; omega
 obtain ⟨N, hN⟩ : ∃ N : Nat, s ^ an = (N : Int) := ⟨(s ^ an).toNat, by have := pow_nn (s := s) (by omega) an; omega⟩
 rw [Int.toNat_natCast, hN, Int.toNat_natCast] at hf2
 have HN := Lib.hid hN
 have HTP : Hid (∀ l ∈ ts, tupP s an l) := fun l hl => by
  obtain ⟨g1, g2⟩ := HTS.out.2 l hl
  exact ⟨by omega, g2⟩
 obtain ⟨R, hR⟩ : ∃ R, R = setR s an N ts := ⟨_, rfl⟩
 rw [← hR] at hf2
 have HRM : Hid (∀ l, l ∈ R ↔ l ∈ ts) := fun l => by rw [hR]; exact setR_mem (by omega) HN.out HTP.out
 have HRO : Hid (relOk s ((an : Int), R)) := by unfold Hid; rw [hR]; exact relL_ok HOK.out.1 han4 HN.out
 obtain ⟨a2, c2, rfl⟩ := fr_pair hf2
 have HF2 := Lib.hid hf2
 clear hN h3 HTS hf2 hR
 have hw2 : w.heap.size < w2.heap.size := by omega
 have e0 : ∀ q, (w2.alloc q).cell? ⟨w.heap.size, 0, none⟩ = some (.int .i64 0) := fun q => (cellB bA hw2).trans r0
 have e1 : ∀ q, (w2.alloc q).cell? ⟨w.heap.size, 1, none⟩ = some (.slice none 0 0) := fun q => (cellB bA hw2).trans r1
 have e2 : ∀ q, (w2.alloc q).frozen? ⟨w.heap.size, 0, none⟩ = false := fun q => (frozenB bA hw2).trans q0
 have e3 : ∀ q, (w2.alloc q).frozen? ⟨w.heap.size, 1, none⟩ = false := fun q => (frozenB bA hw2).trans q1
 by_cases hR0 : R.length = 0
 ·have HV0 : Hid ((((an : Nat) : Int), R) = coV s an ops ts) := by
   obtain rfl := List.eq_nil_of_length_eq_zero hR0
   unfold Hid
   rw [HV.out, Int.toNat_natCast, cloL_eq HOK.out.1 han4 HOK.out.2 HTP.out List.Pairwise.nil (fun l => ⟨fun h => (by cases h), fun h => (clo_empty HOK.out.2 (fun l hl => (by have := (HRM.out l).2 hl; cases this)) h).elim⟩)]
  have hd0 : ((R.length : Int) == 0) = true := by rw [hR0]; rfl
  have HZ0 := Lib.hid (fun (x y : Value) (q : Obj) => (cellB (bA (w := (w2.setCell ⟨w.heap.size, 0, none⟩ x).setCell ⟨w.heap.size, 1, none⟩ y) (o := q)) (show w.heap.size < _ by simpa [World.setCell] using hw2)).trans (res2_0 (x := x) (y := y) r0))
  have HZ1 := Lib.hid (fun (x y : Value) (q : Obj) => (cellB (bA (w := (w2.setCell ⟨w.heap.size, 0, none⟩ x).setCell ⟨w.heap.size, 1, none⟩ y) (o := q)) (show w.heap.size < _ by simpa [World.setCell] using hw2)).trans (res2_1 (x := x) (y := y) r1))
  clear hR0
  go_wp2_with fail
  refine bodyPost_ret (v := .tuple #[.agg #[.int .i64 (an : Int), .slice a2 R.length c2], .int .i64 0]) (by simp [results, Tryz.results7, go_sem, HZ0.out, HZ1.out]) rfl ⟨[.int .i64 (an : Int), .slice a2 R.length c2], by rw [HC.out], ?_, (res2_b hB2 (by omega)).alloc (by simp [World.setCell]; omega) _⟩
  rw [← HV0.out]
  exact ((fr_set2 HF2.out (by omega)).below bA).mono (by omega)
 have hn0 : ((R.length : Nat) : Int) ≠ 0 := by omega
 have hd0 : ((R.length : Int) == 0) = false := by simpa using hn0
 clear hn0
 clear hR0
 have hbx : relT.Pt (w2.alloc (.cells #[.int .i64 (an : Int), .slice a2 R.length c2] 27)) (.pointer (some ⟨w2.heap.size, 0, none⟩)) ((an : Int), R) := pt_box (T := 27) HF2.out.rd
 have HBX := Lib.hid hbx
 clear hbx
 go_wp2_with fail
 clear e0 e1 e2 e3
 generalize hWb : World.alloc w2 _ = wb at HBX ⊢
 have hbb : Below w2.heap.size w2 wb := hWb ▸ bA
 have hBb := bthen hB2 hbb
 have hzb := hbb.size
 replace r0 := (cellB hbb (by omega)).trans r0
 replace r1 := (cellB hbb (by omega)).trans r1
 replace q0 := (frozenB hbb (by omega)).trans q0
 replace q1 := (frozenB hbb (by omega)).trans q1
 clear hWb
 refine (l01SetOf3_any wb HBX.out HRO.out an N rfl HN.out).mono ?_
 rintro e w3 ⟨bx, g, rfl, hset, hgs, hb3⟩
 have HSET := Lib.hid hset
 have hB3 := bthen hBb hb3
 have hz3 := hb3.size
 have hwb : w.heap.size < wb.heap.size := by omega
 replace r0 := (cellB hb3 hwb).trans r0
 replace r1 := (cellB hb3 hwb).trans r1
 replace q0 := (frozenB hb3 hwb).trans q0
 replace q1 := (frozenB hb3 hwb).trans q1
 have HRT : Hid (∀ l ∈ R, tupP s an l) := fun l hl => HTP.out l ((HRM.out l).1 hl)
 have HOP : Hid (opsT.RdP (fun q => q ≠ g) w3 [.slice oa ops.length oc] ops) := by
  obtain ⟨fp, h1, h2⟩ := H.out.B
  exact ⟨fp, opsT.same h1 (fun k hk => hB3.block k (h2 k hk)), fun k hk e => by have := h2 k hk; omega⟩
 clear hset
 go_wp2_with fail
 refine (l02Closure_any w3 HSET.out HOK.out.1 han4 HN.out HRT.out HOP.out HOK.out.2).mono ?_
 rintro e w4 ⟨cs4, M, rfl, hf4, hrok, hmem, hT4⟩
 have hMp : M.Pairwise ltL := sortedL_pw (relOk_sorted hrok)
 have HV4 : Hid ((((an : Nat) : Int), M) = coV s an ops ts) := by
  unfold Hid
  rw [HV.out, Int.toNat_natCast, cloL_eq HOK.out.1 han4 HOK.out.2 HTP.out hMp (fun l => (hmem l).trans ⟨clo_mono fun x hx => (HRM.out x).1 hx, clo_mono fun x hx => (HRM.out x).2 hx⟩)]
 obtain ⟨a4, c4, rfl⟩ := fr_pair hf4
 have HF4 := Lib.hid hf4
 have hb4 : Below wb.heap.size w3 w4 := hT4.below hz3 (fun k hk e => by omega)
 have hB4 : Below w.heap.size w w4 := hB3.trans (hb4.mono (by omega))
 replace r0 := (cellB hb4 hwb).trans r0
 replace r1 := (cellB hb4 hwb).trans r1
 replace q0 := (frozenB hb4 hwb).trans q0
 replace q1 := (frozenB hb4 hwb).trans q1
 have HZ0 := Lib.hid (fun (x y : Value) => res2_0 (x := x) (y := y) r0)
 have HZ1 := Lib.hid (fun (x y : Value) => res2_1 (x := x) (y := y) r1)
 clear hf4 hrok hmem hT4
 go_wp2_with fail
 refine bodyPost_ret (v := .tuple #[.agg #[.int .i64 (an : Int), .slice a4 M.length c4], .int .i64 0]) (by simp [results, Tryz.results7, go_sem, HZ0.out, HZ1.out]) rfl ⟨[.int .i64 (an : Int), .slice a4 M.length c4], by rw [HC.out], ?_, res2_b hB4 (by omega)⟩
 rw [← HV4.out]
 exact (fr_set2 HF4.out (by omega)).mono (by omega)
end Go.Proofs.YtggelmbnliajeaaGreatDoor
namespace Go.Proofs.YtggelmbnliajeaaGreatDoor
open Go.RowKit Go.Sort

end Go.Proofs.YtggelmbnliajeaaGreatDoor
namespace Go.Proofs.YtggelmbnliajeaaGreatDoor
open Go.RowKit Go.Sort
end Go.Proofs.YtggelmbnliajeaaGreatDoor
namespace Go.Proofs.YtggelmbnliajeaaGreatDoor
open Go.RowKit Go.Sort
theorem nodup_leL {α : Type} [DecidableEq α] : ∀ {l m : List α}, l.Nodup → (∀ a ∈ l, a ∈ m) → l.length ≤ m.length
 | [], m, _, _ => Nat.zero_le _
 | a :: l, m, h, hs => by
  have h1 := List.nodup_cons.1 h
  have h2 : l.length ≤ (m.erase a).length := nodup_leL h1.2 fun b hb => by
   have hne : b ≠ a := fun e => h1.1 (e ▸ hb)
   exact (List.mem_erase_of_ne hne).2 (hs b (List.mem_cons_of_mem _ hb))
  have h3 := List.length_erase_of_mem (hs a (List.mem_cons_self ..))
  have h4 : 0 < m.length := List.length_pos_of_mem (hs a (List.mem_cons_self ..))
  simp only [List.length_cons]
  omega
/-- the closure has many members -/
def cloBig (s : Int) (ops : List (Int × List Int)) (n : Nat) (T : List (List Int)) : Prop := ∃ A : List (List Int), A.Nodup ∧ (∀ l ∈ A, Clo s ops n T l) ∧ 64 < A.length
def cloIs (s : Int) (ops : List (Int × List Int)) (n : Nat) (T M : List (List Int)) : Prop := M.Pairwise ltL ∧ ∀ l, l ∈ M ↔ Clo s ops n T l
open Classical in
/-- the closure, in order -/
noncomputable def cloM (s : Int) (ops : List (Int × List Int)) (n : Nat) (T : List (List Int)) : List (List Int) := if h : ∃ M, cloIs s ops n T M then Classical.choose h else []
theorem cloM_eq {s : Int} {ops : List (Int × List Int)} {n : Nat} {T M : List (List Int)} (h : cloIs s ops n T M) : M = cloM s ops n T := by
 have hx : ∃ M, cloIs s ops n T M := ⟨M, h⟩
 unfold cloM
 rw [dif_pos hx]
 have h2 := Classical.choose_spec hx
 exact pw_ext h.1 h2.1 fun a => (h.2 a).trans (h2.2 a).symm
theorem ltL_ne {a b : List Int} (h : ltL a b) : a ≠ b := fun e => by
 subst e
 unfold ltL at h
 rw [cmpL_self] at h
 omega
theorem pw_nodup {M : List (List Int)} (h : M.Pairwise ltL) : M.Nodup := List.Pairwise.imp (fun h => ltL_ne h) h
theorem big_no {s : Int} {ops : List (Int × List Int)} {n : Nat} {T M : List (List Int)} (hM : ∀ l, l ∈ M ↔ Clo s ops n T l) (hl : M.length ≤ 64) : ¬ cloBig s ops n T := fun ⟨A, h1, h2, h3⟩ => by
 have := nodup_leL h1 fun a ha => (hM a).2 (h2 a ha)
 omega
/-- the tables of the projections -/
def projs (s : Int) (ar N : Nat) : List (List Int) := (List.range ar).map fun p => projT s ar N p
noncomputable def cuT (s : Int) (ar : Nat) : List (List Int) := projs s ar (s ^ ar).toNat
noncomputable def cuC (s ar : Int) (ops : List (Int × List Int)) : Int := match opsB s ops with
 | false => 1
 | true => match decide (64 < ops.length) with
  | true => 3
  | false => match inB ar 1 3 with
   | false => 2
   | true => match tb (cloBig s ops (s ^ ar.toNat).toNat (cuT s ar.toNat)) with
    | true => 3
    | false => 0
noncomputable def cuV (s ar : Int) (ops : List (Int × List Int)) : List (Int × List Int) := match cuC s ar ops == 0 with
 | true => (cloM s ops (s ^ ar.toNat).toNat (cuT s ar.toNat)).map fun t => (ar, t)
 | false => []
section
variable {s ar : Int} {ops : List (Int × List Int)}
theorem cuC_1 (h : opsB s ops = false) : cuC s ar ops = 1 := by simp only [cuC, h]
theorem cuC_2 (h : opsB s ops = true) (h2 : decide (64 < ops.length) = true) : cuC s ar ops = 3 := by simp only [cuC, h, h2]
theorem cuC_3 (h : opsB s ops = true) (h2 : decide (64 < ops.length) = false) (h3 : inB ar 1 3 = false) : cuC s ar ops = 2 := by simp only [cuC, h, h2, h3]
theorem cuC_4 (h : opsB s ops = true) (h2 : decide (64 < ops.length) = false) (h3 : inB ar 1 3 = true) (h4 : cloBig s ops (s ^ ar.toNat).toNat (cuT s ar.toNat)) : cuC s ar ops = 3 := by simp only [cuC, h, h2, h3, tb_true h4]
theorem cuC_5 (h : opsB s ops = true) (h2 : decide (64 < ops.length) = false) (h3 : inB ar 1 3 = true) (h4 : ¬ cloBig s ops (s ^ ar.toNat).toNat (cuT s ar.toNat)) : cuC s ar ops = 0 := by simp only [cuC, h, h2, h3, tb_false h4]
theorem cuV_no (h : cuC s ar ops ≠ 0) : cuV s ar ops = [] := by
 have : (cuC s ar ops == 0) = false := by simpa using h
 simp [cuV, this]
theorem cuV_ok {M : List (List Int)} (h : cuC s ar ops = 0) (hM : cloIs s ops (s ^ ar.toNat).toNat (cuT s ar.toNat) M) : cuV s ar ops = M.map fun t => (ar, t) := by
 simp only [cuV, h, ← cloM_eq hM]
 rfl
theorem proj_in {s : Int} {ar N p : Nat} (hs : 1 ≤ s) (hp : p < ar) : tupP s N (projT s ar N p) := by
 refine ⟨tabOf_len, fun a ha => ?_⟩
 obtain ⟨k, _, rfl⟩ := List.mem_map.1 ha
 have hpl : p < (digL s (k : Int) ar).length := by rw [digL_len]; exact hp
 have e : (digL s (k : Int) ar).getD p 0 = (digL s (k : Int) ar)[p] := by rw [List.getD_eq_getElem?_getD, List.getElem?_eq_getElem hpl]; rfl
 show 0 ≤ (digL s (k : Int) ar).getD p 0 ∧ (digL s (k : Int) ar).getD p 0 ≤ s - 1
 rw [e]
 exact digL_in hs _ (List.getElem_mem hpl)
theorem projs_in {s : Int} {ar N : Nat} (hs : 1 ≤ s) : ∀ l ∈ projs s ar N, tupP s N l := fun l hl => by
 obtain ⟨p, hp, rfl⟩ := List.mem_map.1 hl
 exact proj_in hs (by simpa using hp)
theorem projs_len {s : Int} {ar N : Nat} : (projs s ar N).length = ar := by simp [projs]
end
end Go.Proofs.YtggelmbnliajeaaGreatDoor
