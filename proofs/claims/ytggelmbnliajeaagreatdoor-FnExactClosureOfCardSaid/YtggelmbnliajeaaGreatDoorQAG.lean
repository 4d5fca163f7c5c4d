/-
Contracts: the closure of lists under operations, the program's.
Plain: a few rows sorted by insertion, and equal neighbours dropped.
A row of rows while it is sorted: its cells, and what they read outside it.
Contracts: a few rows sorted by insertion, in place.
Contracts: slices.SortFunc on one to three rows of numbers.
Plain: what slices.CompactFunc leaves of a row, step by step.
A row of rows: from its reading to its cells, and back.
Contracts: slices.CompactFunc on rows of numbers, in place.
Contracts: a relation made of one to three tuples.
The library's contracts, laid at this seat's program. Written by the kit's lay-shelf and lay-plain: its numbers hold for that seat alone (shelf2.py).
Contracts: rows of numbers sorted by the library, at any length.
Contracts: a relation made of tuples, however many.
-/
import Derived.Test.YtggelmbnliajeaaGreatDoorQAF
import Derived.Test.YtggelmbnliajeaaGreatDoorQAE
import Derived.Test.YtggelmbnliajeaaGreatDoorQAC
import Derived.Test.YtggelmbnliajeaaGreatDoorQAB
import Derived.Lib.SliceRun
import Derived.Test.YtggelmbnliajeaaGreatDoorQAD
import Derived.Ground.SlsfProg
import Derived.Shelf.SlSortCmp.Whole1
import Derived.Shelf.SlSortCmp.NoneTotal
import Derived.Test.YtggelmbnliajeaaGreatDoorProg
namespace Go.Proofs.YtggelmbnliajeaaGreatDoor
open Go.RowKit Go.Sort
theorem AddI.shape {P : Program} {km em te B bs ba mb : Nat} {w : World} {v : Value} {vs : List Value} {A : List (List Int)} (h : AddI P km em te B bs ba mb w v vs A) : ∃ ad cap, v = .slice ad A.length cap ∧ (0 < A.length → ∃ g, ad = some ⟨g, 0, none⟩ ∧ A.length ≤ cap) := by
 obtain ⟨o1, -, -⟩ := bl_val_own h.row
 rcases o1.2 with ⟨rfl, h0⟩ | ⟨g', cap', cur, rfl, _, _, hc, _⟩
 ·have : A.length = 0 := by rw [← h.len]; exact h0
  exact ⟨none, 0, by rw [this], fun h => by omega⟩
 ·exact ⟨_, cap', by rw [h.len], fun _ => ⟨g', rfl, by rw [← h.len]; exact hc⟩⟩
/-- what the closure hands back: a row of lists, each told apart, of the closure; all of it, if they are not too many -/
def CloA (P : Program) (km em te : Nat) (s : Int) (ops : List (Int × List Int)) (ar : Nat) (T : List (List Int)) (most : Nat) (w : World) (e : Ending) (w' : World) : Prop :=
 ∃ (v : Value) (vs : List Value) (A : List (List Int)) (bs ba mb : Nat), e = .returned (.tuple #[v, .bool (decide (A.length ≤ most))]) ∧ AddI P km em te w.heap.size bs ba mb w' v vs A ∧ ClI s ops ar T A ∧ (A.length ≤ most → ∀ l, l ∈ A ↔ Clo s ops ar T l) ∧ Below w.heap.size w w' ∧ A.length ≤ 1000000
set_option maxHeartbeats 6400000 in
set_option maxRecDepth 100000 in
theorem closure_any (w : World) {vo : Value} {ops : List (Int × List Int)} (hops : opsT.Rd w [vo] ops) {s : Int} (hs : sizeOk s) (ho : ∀ f ∈ ops, opOk s f) {vl : Value} {T : List (List Int)} (hl : rowsT.Rd w [vl] T) {ar : Nat} (har : ar ≤ 1000) (hT : ∀ l ∈ T, tupP s ar l) (hTl : T.length ≤ 300) {most : Nat} (hm : most ≤ 299) :
  Calls Tryz.prog 49 #[.int .i64 s, vo, vl, .int .i64 (most : Int)] w (CloA Tryz.prog 9 4 42 s ops ar T most w) := by
 obtain ⟨oad, ocap, hov, -, hol, hoc⟩ := pairs_ex hops
 obtain rfl : vo = _ := by simpa using hov
 obtain ⟨lad, lcap, hlv, -, -, hlc⟩ := slices_ex hl
 obtain rfl : vl = _ := by simpa using hlv
 have hs4 : 1 ≤ s ∧ s ≤ 4 := hs
 have HO := Lib.hid ho
 have HT := Lib.hid hT
 have HOC := Lib.hid hoc
 have HLC := Lib.hid hlc
 have HS := Lib.hid hs
 clear hops hov hl hlv hs ho hT hoc hlc
 have hmm : ∀ W : World, (Instr.makeMap 130 none).run Tryz.prog W = .ok (.map (some W.heap.size)) (W.alloc (.map #[] 0)) := fun W => by simp [Instr.makeMap]
 go_enter Tryz.func49, Tryz.ntmps49
 go_wp2_with fail
 clear hmm
 generalize hW : World.alloc _ _ = W
 have HI0 : Hid (AddI Tryz.prog 9 4 42 w.heap.size (w.heap.size + 1) (w.heap.size + 1 + 1 + 1) w.heap.size W (.slice (some ⟨w.heap.size + 1 + 1, 0, none⟩) 0 0) [] []) := by
  have h1 := SeenM.made (P := Tryz.prog) (k := 9) (e := 4) w
  have hb2 : Below (w.alloc (.map #[] 0)).heap.size (w.alloc (.map #[] 0)) W := by rw [← hW]; exact ((bA.alloc (by simp) _).alloc (by simp) _)
  have hb3 : Below (w.heap.size + 3) (((w.alloc (.map #[] 0)).alloc (.cells #[.map (some w.heap.size)] 130)).alloc (.cells #[] 42)) W := by rw [← hW]; exact (Below.refl _ _).alloc (by simp) _
  have hl0 : Bl Ty.val 42 w.heap.size (w.heap.size + 3) (((w.alloc (.map #[] 0)).alloc (.cells #[.map (some w.heap.size)] 130)).alloc (.cells #[] 42)) (.slice (some ⟨w.heap.size + 1 + 1, 0, none⟩) 0 0) [] := by
   have := Bl.lit0 (E := Ty.val) (e := 42) (base := w.heap.size) (w := (w.alloc (.map #[] 0)).alloc (.cells #[.map (some w.heap.size)] 130)) (by simp; omega)
   simpa using this
  have hsz : W.heap.size = w.heap.size + 4 := by rw [← hW]; simp
  refine ⟨by rw [← hW]; simp [go_sem], by rw [← hW]; simp [go_sem], by rw [← hW]; simp [go_sem], ⟨[], 0, h1.block (hb2.block _ h1.lt), Nat.zero_le _, fun s => by simp⟩, (hl0.below hb3 (Nat.le_refl _)).mono (by omega), rfl, fun i h => absurd h (Nat.not_lt_zero _), ⟨by omega, by omega, by omega, by first | (simp [Value.ownBlock]; done) | (simp [Value.ownBlock]; omega), by first | (simp [Value.ownBlock]; done) | (simp [Value.ownBlock]; omega), by first | (simp [Value.ownBlock]; done) | (simp [Value.ownBlock]; omega)⟩, ⟨by omega, by omega, Nat.le_refl _⟩, fun l hl => by cases hl⟩
 have hbW : Below w.heap.size w W := by rw [← hW]; exact ((bAA.alloc (by simp; omega) _).alloc (by simp; omega) _)
 clear hW
 go_loopw [23] (fun i wr => ∃ (k : Nat) (v' : Value) (vs' : List Value) (A' : List (List Int)), k ≤ T.length ∧ i = .int .i64 k ∧ AddI Tryz.prog 9 4 42 w.heap.size (w.heap.size + 1) (w.heap.size + 1 + 1 + 1) w.heap.size wr v' vs' A' ∧ A'.length ≤ k ∧ A'.Nodup ∧ (∀ l, l ∈ A' ↔ l ∈ T.take k) ∧ Below w.heap.size w wr) (fun i _ => T.length - (intOf i).toNat)
 case atStart => exact ⟨0, _, _, [], Nat.zero_le _, rfl, HI0.out, Nat.le_refl _, List.nodup_nil, fun l => by simp, hbW⟩
 case round =>
  obtain ⟨k, v1, vs1, A1, hk, rfl, hI1, hA1, hnd1, hmem1, hb1⟩ := hrel
  obtain ⟨wv, rfl⟩ : ∃ wv : World, wv = wr := ⟨_, rfl⟩
  have HI1 := Lib.hid hI1
  have HND1 := Lib.hid hnd1
  have HMEM1 := Lib.hid hmem1
  clear hI1 hnd1 hmem1
  by_cases hkl : k < T.length
  ·obtain ⟨lb, lo, rfl, hlb, hlce⟩ := HLC.out (by omega)
   obtain ⟨y, hry, hcy⟩ := hlce k hkl
   have e0 := (cellB hb1 hlb).trans hcy
   have HTK := Lib.hid (HT.out _ (List.getElem_mem hkl))
   have HDG : Hid (dgs T[k]) := fun a ha => by have := HTK.out.2 a ha; omega
   have HU : Hid (intsT.RdP (avd (w.heap.size + 1) (w.heap.size + 1 + 1 + 1) w.heap.size v1) wv [y] T[k]) := by
    obtain ⟨fp, h1, h2⟩ := hry.B
    exact ⟨fp, intsT.same h1 (fun q hq => hb1.block q (h2 q hq)), fun q hq => by have := h2 q hq; exact ⟨by omega, by omega, by omega, fun e => by have := HI1.out.row.own e; omega⟩⟩
   have HMK : Hid (∀ l, l ∈ adL A1 T[k] ↔ l ∈ T.take (k + 1)) := fun l => by
    rw [← take_snoc hkl, List.mem_append, List.mem_singleton, ← HMEM1.out l]
    constructor
    ·exact adL_in
    ·rintro (h | h)
     ·exact adL_pre.subset h
     ·rw [h]; exact adL_mem
   have HNDK : Hid ((adL A1 T[k]).Nodup) := by
    unfold Hid
    by_cases e : T[k] ∈ A1
    ·rw [adL_yes e]; exact HND1.out
    ·rw [adL_no e]
     exact List.nodup_append.2 ⟨HND1.out, by simp, fun a ha b hb e2 => by rw [List.mem_singleton.1 hb] at e2; subst e2; exact e ha⟩
   have hlen := HTK.out.1
   have HLEN : Hid ((T[k]).length ≤ 1000) := by unfold Hid; rw [hlen]; exact har
   clear hlce hry hcy hlen
   generalize hTk : T[k] = tk at *
   obtain ⟨ya, yc, rfl⟩ := rd_slice HU.out.rd
   clear hTk
   go_wp2_with fail
   refine (add_any wv HI1.out HU.out HDG.out HLEN.out (by omega) hb1.size).mono ?_
   rintro e w2 ⟨rfl, v2, vs2, hst2, hvs2, hF2, hown2⟩
   have HST2 := Lib.hid hst2
   have HB2 : Hid (Below w.heap.size w w2) := hb1.trans (hF2.1.below hb1.size (fun q hq hh => by
    rcases hh with hh | hh | hh
    ·omega
    ·omega
    ·have := HI1.out.row.own hh; omega))
   clear hst2 hvs2 hF2 hown2
   go_wp2_with fail
   go_roundw
   case rel => exact ⟨k + 1, v2, vs2, _, by omega, by go_num, HST2.out, Nat.le_trans adL_len (by omega), HNDK.out, HMK.out, HB2.out⟩
   case measure => simp [intOf]; omega
  ·obtain rfl : k = T.length := by omega
   have HCLI : Hid (ClI s ops ar T A1) := ⟨HND1.out, fun l hl => .base (by have := (HMEM1.out l).1 hl; rwa [List.take_length] at this), fun l hl => (HMEM1.out l).2 (by rw [List.take_length]; exact hl)⟩
   have HA1 : Hid (A1.length ≤ 300) := by unfold Hid; omega
   clear HND1 HMEM1
   go_wp2_with fail
   go_loopw [15] (fun i wr => ∃ (d : Nat) (v' : Value) (vs' : List Value) (A' : List (List Int)), i = .int .i64 d ∧ d ≤ A'.length ∧ AddI Tryz.prog 9 4 42 w.heap.size (w.heap.size + 1) (w.heap.size + 1 + 1 + 1) w.heap.size wr v' vs' A' ∧ ClI s ops ar T A' ∧ (A'.length ≤ most → DoneTo s ops ar A' d) ∧ Below w.heap.size w wr ∧ A'.length ≤ 1000000) (fun i _ => most + 1 - (intOf i).toNat)
   case atStart => exact ⟨0, v1, _, A1, by first | rfl | go_num, Nat.zero_le _, HI1.out, HCLI.out, fun _ => done_zero, hb1, by have := HA1.out; omega⟩
   case round =>
    obtain ⟨d, v2, vs2, A2, rfl, hdl, hI2, hcl2, hdn2, hb2, hA2⟩ := hrel
    obtain ⟨wq, rfl⟩ : ∃ wq : World, wq = wr := ⟨_, rfl⟩
    have HI2 := Lib.hid hI2
    have HCL2 := Lib.hid hcl2
    have HDN2 := Lib.hid hdn2
    have c0 := hI2.ca
    obtain ⟨ad2, cp2, hv2, hsh⟩ := hI2.shape
    subst hv2
    have HSH := Lib.hid hsh
    clear hI2 hcl2 hdn2 hsh HI1 HCLI
    by_cases hd : d < A2.length
    ·by_cases hm2 : A2.length ≤ most
     ·have ht1 : decide ((d : Int) < (A2.length : Int)) = true := by simp; omega
      have ht2 : decide ((A2.length : Int) ≤ (most : Int)) = true := by simp; omega
      obtain ⟨g2, rfl, hcp2⟩ := HSH.out (by omega)
      have HDN2' := Lib.hid (HDN2.out hm2)
      clear HDN2 HSH
      go_wp2_with fail
      go_loopw [45] (fun i wr => ∃ (ii : Nat) (v' : Value) (vs' : List Value) (A' : List (List Int)), ii ≤ ops.length ∧ i = .int .i64 ii ∧ AddI Tryz.prog 9 4 42 w.heap.size (w.heap.size + 1) (w.heap.size + 1 + 1 + 1) w.heap.size wr v' vs' A' ∧ A2 <+: A' ∧ ClI s ops ar T A' ∧ (∀ j (h : j < ops.length), j < ii → CmbP s ops[j] ar (A2.take (d + 1)) A') ∧ A'.length ≤ most ∧ Below w.heap.size w wr) (fun i _ => ops.length - (intOf i).toNat)
      case atStart => exact ⟨0, _, vs2, A2, Nat.zero_le _, by first | rfl | go_num, HI2.out, List.prefix_refl _, HCL2.out, fun j h hj => absurd hj (Nat.not_lt_zero _), hm2, hb2⟩
      case round =>
       obtain ⟨ii, v3, vs3, A3, hii, rfl, hI3, hpre3, hcl3, hdn3, hA3, hb3⟩ := hrel
       obtain ⟨wz, rfl⟩ : ∃ wz : World, wz = wr := ⟨_, rfl⟩
       have HI3 := Lib.hid hI3
       have HPRE3 := Lib.hid hpre3
       have HCL3 := Lib.hid hcl3
       have HDN3 := Lib.hid hdn3
       have hle3 : A2.length ≤ A3.length := hpre3.length_le
       obtain ⟨ad3, cp3, hv3, hsh3⟩ := hI3.shape
       subst hv3
       obtain ⟨g3, rfl, hcp3⟩ := hsh3 (by omega)
       have c3 := hI3.ca
       clear hI3 hpre3 hcl3 hdn3 hsh3 c0
       by_cases hil : ii < ops.length
       ·obtain ⟨ob, oo, rfl, hob, hoce⟩ := HOC.out (by omega)
        obtain ⟨tv, htv, hIf, hc0, hc1⟩ := hoce ii hil
        have e0 := (cellB hb3 hob).trans hc0
        have e1 := (cellB hb3 hob).trans hc1
        have HFM := Lib.hid (List.getElem_mem hil)
        have HFR : Hid (opT.RdP (fun k => k < w.heap.size) wz [.int .i64 (ops[ii]).1, tv] ops[ii]) := by
         obtain ⟨fp, h1, h2⟩ := htv.B
         exact ⟨fp, ⟨[tv], rfl, hIf, intsT.same h1 (fun k hk => hb3.block k (h2 k hk))⟩, h2⟩
        have HDNF : Hid (∀ A' : List (List Int), A3 <+: A' → CmbP s ops[ii] ar (A3.take (d + 1)) A' → ∀ j (h : j < ops.length), j < ii + 1 → CmbP s ops[j] ar (A2.take (d + 1)) A') := fun A' h1 h2 j hj hlt => by
         by_cases e : j = ii
         ·subst e; rw [take_pre HPRE3.out (by omega)] at h2; exact h2
         ·exact cmbP_more (HDN3.out j hj (by omega)) (fun l hl => h1.subset hl)
        generalize hf : ops[ii] = f at HFM HFR HDNF e0
        obtain ⟨fa, ft⟩ := f
        have hsl := rd_slice htv
        rw [hf] at hsl
        obtain ⟨ta, tc, rfl⟩ := hsl
        clear hoce htv hIf hc0 hc1 hf
        dsimp only at e0 HFR ⊢
        go_wp2_with fail
        generalize hWa : World.alloc wz _ = wa
        have hba : Below wz.heap.size wz wa := hWa ▸ bA
        have hsa : wz.heap.size < wa.heap.size := by rw [← hWa]; simp
        have o0 : wa.cell? ⟨wz.heap.size, 0, none⟩ = some (.int .i64 fa) := by rw [← hWa]; simp [go_sem]
        have o1 : wa.cell? ⟨wz.heap.size, 1, none⟩ = some (.slice ta ft.length tc) := by rw [← hWa]; simp [go_sem]
        clear hWa
        have hlt3 := HI3.out.lt
        replace c3 := (cellB hba hlt3.2.1).trans c3
        have hw1 : IntKind.i64.wrap ((d : Int) + 1) = (d : Int) + 1 := wrap_small (by omega) (by omega)
        have hn1 : (0 : Int) ≤ (d : Int) + 1 := by omega
        have hn2 : (d : Int) + 1 ≤ (cp3 : Int) := by omega
        have hn3 : ((d : Int) + 1).toNat = d + 1 := by omega
        refine wp_region_T (fun w' => w'.cell? ⟨wz.heap.size, 0, none⟩ = some (.int .i64 fa) ∧ w'.cell? ⟨wz.heap.size, 1, none⟩ = some (.slice ta ft.length tc) ∧ w'.cell? ⟨w.heap.size + 1 + 1 + 1, 0, none⟩ = some (.slice (some ⟨g3, 0, none⟩) A3.length cp3)) [7] (by kernel_rfl) ⟨o0, o1, c3⟩ (fun hHeld => ?_)
        refine wpAnyT_take (i := 0) (v := ?_) rfl (by kernel_rfl) (fun _ _ _ h => h) (Or.inl ⟨by rfl, ?_⟩) (by assumption) ?_
        rotate_left
        ·(intro w hSw; (try dsimp only at hSw); go_simp <;> with_reducible rfl)
        go_simp
        refine wpAnyT_take (i := 1) (v := ?_) rfl (by kernel_rfl) (fun _ _ _ h => h) (Or.inl ⟨by rfl, ?_⟩) (by assumption) ?_
        rotate_left
        ·(intro w hSw; (try dsimp only at hSw); go_simp <;> with_reducible rfl)
        go_simp
        refine wpAnyT_take (i := 2) (v := ?_) rfl (by kernel_rfl) (fun _ _ _ h => h) (Or.inl ⟨by rfl, ?_⟩) (by assumption) ?_
        rotate_left
        ·(intro w hSw; (try dsimp only at hSw); go_simp <;> with_reducible rfl)
        go_simp
        refine wpAnyT_take (i := 3) (v := ?_) rfl (by kernel_rfl) (fun _ _ _ h => h) (Or.inl ⟨by rfl, ?_⟩) (by assumption) ?_
        rotate_left
        ·(intro w hSw; (try dsimp only at hSw); go_simp <;> with_reducible rfl)
        go_simp
        refine wpAnyT_take (i := 4) (v := ?_) rfl (by kernel_rfl) (fun _ _ _ h => h) (Or.inl ⟨by rfl, ?_⟩) (by assumption) ?_
        rotate_left
        ·(intro w hSw; (try dsimp only at hSw); go_simp <;> with_reducible rfl)
        go_simp
        refine wpAnyT_take (i := 5) (v := ?_) rfl (by kernel_rfl) (fun _ _ _ h => h) (Or.inl ⟨by rfl, ?_⟩) (by assumption) ?_
        rotate_left
        ·(intro w hSw; (try dsimp only at hSw); go_simp <;> with_reducible rfl)
        go_simp
        refine wpAnyT_take (i := 6) (v := ?_) rfl (by kernel_rfl) (fun _ _ _ h => h) (Or.inl ⟨by rfl, ?_⟩) (by assumption) ?_
        rotate_left
        ·(intro w hSw; (try dsimp only at hSw); go_simp <;> with_reducible rfl)
        go_simp
        refine wpAnyT_last (i := 7) rfl (by kernel_rfl) (by kernel_rfl) (fun K hK => ?_)
        go_simp
        have hbd : Below wz.heap.size wz wa.drew := bthen hba bD
        have hB4 : w.heap.size ≤ wa.drew.heap.size := Nat.le_trans hb3.size hbd.size
        refine (combine_any wa.drew (HI3.out.below hbd (Nat.le_refl _)) HS.out HFM.out HO.out HT.out har HCL3.out (cs := #[.int .i64 fa, .slice ta ft.length tc]) ((HFR.out.below hba).below bD) rfl ⟨by omega, by omega, by omega⟩ (by omega) hB4).mono ?_
        rintro e w4 ⟨rfl, v4, vs4, A4, hI4, hpre4, hcl4, hcmb4, hb4, hA4⟩
        have HI4 := Lib.hid hI4
        have HCL4 := Lib.hid hcl4
        have HDN4 := Lib.hid (HDNF.out A4 hpre4 hcmb4)
        have HPRE4 := Lib.hid (HPRE3.out.trans hpre4)
        have hle4 : A3.length ≤ A4.length := hpre4.length_le
        have hb04 : Below w.heap.size w w4 := (hb3.trans (hbd.mono hb3.size)).trans hb4
        obtain ⟨ad4, cp4, hv4, -⟩ := hI4.shape
        subst hv4
        have c4 := hI4.ca
        clear hI4 hcl4 hcmb4 hpre4 hb4 HFR HDNF hHeld o0 o1 c3 HI3
        dsimp only
        refine hK.out _ _ ?_
        clear hK K
        refine wpAnyT_done (by kernel_rfl) ?_ _
        go_simp
        by_cases hm4 : A4.length ≤ most
        ·have ht4 : decide ((most : Int) < (A4.length : Int)) = false := by simp; omega
         have ht4' : decide (most < A4.length) = false := by simp; omega
         go_wp2_with fail
         go_roundw
         case rel => exact ⟨ii + 1, _, vs4, A4, by omega, by go_num, HI4.out, HPRE4.out, HCL4.out, HDN4.out, hm4, hb04⟩
         case measure => simp [intOf]; omega
        ·have ht4 : decide ((most : Int) < (A4.length : Int)) = true := by simp; omega
         have ht4' : decide (most < A4.length) = true := by simp; omega
         go_wp2_with fail
         go_roundw
         case rel => exact ⟨d + 1, _, vs4, A4, by go_num, by omega, HI4.out, HCL4.out, fun h => absurd h hm4, hb04, hA4⟩
         case measure => simp [intOf]; omega
       ·obtain rfl : ii = ops.length := by omega
        have HDE : Hid (DoneTo s ops ar A3 (d + 1)) := done_succ (done_more HDN2'.out HPRE3.out (by omega)) (fun f hf => by
         obtain ⟨j, hj, rfl⟩ := List.mem_iff_getElem.1 hf
         rw [take_pre HPRE3.out (by omega)]
         exact HDN3.out j hj hj)
        go_wp2_with fail
        go_roundw
        case rel => exact ⟨d + 1, _, vs3, A3, by go_num, by omega, HI3.out, HCL3.out, fun _ => HDE.out, hb3, by omega⟩
        case measure => simp [intOf]; omega
     ·have hb : decide ((A2.length : Int) ≤ (most : Int)) = false := by simp; omega
      have hb' : decide (A2.length ≤ most) = false := by simp; omega
      have HR : Hid (decide (A2.length ≤ most) = false) := hb'
      go_wp2_with fail
      go_quiet (fail)
      go_wp2_with fail
      go_ret2
      exact ⟨_, vs2, A2, _, _, _, by rw [HR.out]; rfl, HI2.out.below (Quiet.drewN wq _).below (Nat.le_refl _), HCL2.out, fun h => absurd h hm2, bDN hb2, hA2⟩
    ·have hb : decide ((d : Int) < (A2.length : Int)) = false := by simp; omega
     have hb' : decide (d < A2.length) = false := by simp; omega
     go_wp2_with fail
     go_quiet (fail)
     go_wp2_with fail
     go_ret2
     obtain rfl : d = A2.length := by omega
     exact ⟨_, vs2, A2, _, _, _, by first | rfl | simp, HI2.out.below (Quiet.drewN wq _).below (Nat.le_refl _), HCL2.out, fun h l => done_end HO.out HCL2.out (HDN2.out h), bDN hb2, hA2⟩
end Go.Proofs.YtggelmbnliajeaaGreatDoor
namespace Go.Proofs.YtggelmbnliajeaaGreatDoor
open Go.RowKit Go.Sort
/-- a row as it stands in memory, and what it reads -/
abbrev PV := Value × List Int
theorem cmpL_total : ∀ {a b : List Int}, ¬ cmpL a b < 0 → a = b ∨ ltL b a
 | [], [], _ => .inl rfl
 | [], _ :: _, h => by simp [cmpL] at h
 | _ :: _, [], _ => .inr (by simp [ltL, cmpL])
 | x :: a, y :: b, h => by
  unfold ltL
  simp only [cmpL] at h ⊢
  by_cases e : x = y
  ·subst e
   simp only [if_true] at h ⊢
   rcases cmpL_total h with h1 | h1
   ·exact .inl (by rw [h1])
   ·exact .inr h1
  ·rw [if_neg e, cmpI_neg] at h
   rw [if_neg (fun e' => e e'.symm), cmpI_neg]
   exact .inr (by omega)
def leP (a b : PV) : Prop := a.2 = b.2 ∨ ltL a.2 b.2
theorem leP_of {a b : PV} (h : ¬ cmpL b.2 a.2 < 0) : leP a b := (cmpL_total h).elim (fun e => .inl e.symm) .inr
/-- equal neighbours dropped -/
def ddL : List PV → List PV
 | [] => []
 | [a] => [a]
 | a :: b :: l => if a.2 = b.2 then ddL (a :: l) else a :: ddL (b :: l)
theorem dd_mem : ∀ {L : List PV} {x : List Int}, x ∈ (ddL L).map (·.2) ↔ x ∈ L.map (·.2)
 | [], x => by simp [ddL]
 | [a], x => by simp [ddL]
 | a :: b :: l, x => by
  unfold ddL
  split
  ·rename_i h
   rw [dd_mem]
   simp only [List.map_cons, List.mem_cons]
   rw [← h]
   simp
  ·rw [List.map_cons, List.mem_cons, dd_mem, List.map_cons (a := a), List.mem_cons]
termination_by L => L.length
theorem dd_pw : ∀ {L : List PV}, L.Pairwise leP → ((ddL L).map (·.2)).Pairwise ltL
 | [], _ => by simp [ddL]
 | [a], _ => by simp [ddL]
 | a :: b :: l, h => by
  obtain ⟨h1, h2⟩ := List.pairwise_cons.1 h
  obtain ⟨h3, h4⟩ := List.pairwise_cons.1 h2
  unfold ddL
  split
  ·exact dd_pw (List.pairwise_cons.2 ⟨fun y hy => h1 y (List.mem_cons_of_mem _ hy), h4⟩)
  ·rename_i hne
   rw [List.map_cons, List.pairwise_cons]
   refine ⟨fun y hy => ?_, dd_pw h2⟩
   have hab : ltL a.2 b.2 := (h1 b (List.mem_cons_self ..)).elim (fun e => absurd e hne) id
   rw [dd_mem] at hy
   obtain ⟨z, hz, rfl⟩ := List.mem_map.1 hy
   rcases List.mem_cons.1 hz with rfl | hz
   ·exact hab
   ·rcases h3 z hz with e | e
    ·rw [← e]; exact hab
    ·exact ltL_trans hab e
termination_by L => L.length
end Go.Proofs.YtggelmbnliajeaaGreatDoor
namespace Go.Proofs.YtggelmbnliajeaaGreatDoor
open Go.RowKit Go.Sort
/-- block b holds the values of L from place o on; what they read lies elsewhere -/
def SR (w : World) (b o : Nat) (L : List PV) : Prop := b < w.heap.size ∧ (∀ i, w.frozen? ⟨b, i, none⟩ = false) ∧ ∀ i (h : i < L.length), w.cell? ⟨b, o + i, none⟩ = some (L[i]).1 ∧ intsT.RdP (fun q => q ≠ b) w [(L[i]).1] (L[i]).2
theorem SR.below {w w' : World} {b o : Nat} {L : List PV} (h : SR w b o L) (hb : Below w.heap.size w w') : SR w' b o L :=
 ⟨Nat.lt_of_lt_of_le h.1 hb.size, fun i => (frozenB hb h.1).trans (h.2.1 i), fun i hi => ⟨(cellB hb h.1).trans (h.2.2 i hi).1, (h.2.2 i hi).2.below hb⟩⟩
theorem tchP_cell {w : World} {b i : Nat} {v : Value} : TchP (fun q => q = b) w (w.setCell ⟨b, i, none⟩ v) :=
 ⟨rfl, rfl, rfl, Nat.le_of_eq (size_set ..).symm, fun _ _ hn => Below.heap_setCell _ _ _ _ (fun e => hn e)⟩
theorem SR.set {w : World} {b o : Nat} {L : List PV} (h : SR w b o L) {j : Nat} (hj : j < L.length) {x : PV} (hx : intsT.RdP (fun q => q ≠ b) w [x.1] x.2) : SR (w.setCell ⟨b, o + j, none⟩ x.1) b o (L.set j x) := by
 have hr : ∀ (y : PV), intsT.RdP (fun q => q ≠ b) w [y.1] y.2 → intsT.RdP (fun q => q ≠ b) (w.setCell ⟨b, o + j, none⟩ x.1) [y.1] y.2 := fun y hy => hy.tchP tchP_cell fun k _ hk e => hk e
 refine ⟨by rw [size_set]; exact h.1, fun i => (World.frozen?_setCell _ _ _ _).trans (h.2.1 i), fun i hi => ?_⟩
 have hi' : i < L.length := by simpa using hi
 rw [List.getElem_set]
 by_cases e : j = i
 ·subst e
  simp only [if_true]
  exact ⟨World.cell?_setCell_same _ _ _ (h.2.2 j hj).1, hr x hx⟩
 ·simp only [if_neg e]
  exact ⟨(World.cell?_setCell_other _ _ _ _ (by simp)).trans (h.2.2 i hi').1, hr _ (h.2.2 i hi').2⟩
end Go.Proofs.YtggelmbnliajeaaGreatDoor
namespace Go.Proofs.YtggelmbnliajeaaGreatDoor
open Go.RowKit Go.Sort
theorem makeRel1_any (w : World) {v u : Value} {xs ys : List Int} (h : intsT.Rd w [v] xs) (h' : intsT.Rd w [u] ys) :
  Calls Tryz.prog 109 #[v, u] w fun e w' => e = .returned (.int .i64 (cmpL xs ys)) ∧ w = w' := by
 have H := Lib.hid h
 have H' := Lib.hid h'
 clear h h'
 go_enter Tryz.func109, Tryz.ntmps109
 go_wp2_with fail
 refine (Compare_any w H.out H'.out).mono ?_
 rintro e _ ⟨rfl, rfl⟩
 go_wp2_with fail
 go_ret
 exact ⟨rfl, rfl⟩
end Go.Proofs.YtggelmbnliajeaaGreatDoor
namespace Go.Proofs.YtggelmbnliajeaaGreatDoor
open Go.RowKit Go.Sort
end Go.Proofs.YtggelmbnliajeaaGreatDoor
namespace Go.Proofs.YtggelmbnliajeaaGreatDoor
open Go.RowKit Go.Sort
/-- what is kept of a row behind an element: what differs from its left neighbour -/
def kpL : PV → List PV → List PV
 | _, [] => []
 | p, x :: l => match decide (x.2 = p.2) with
  | true => kpL x l
  | false => x :: kpL x l
theorem kpL_yes {p x : PV} {l : List PV} (h : x.2 = p.2) : kpL p (x :: l) = kpL x l := by simp only [kpL, decide_eq_true h]
theorem kpL_no {p x : PV} {l : List PV} (h : x.2 ≠ p.2) : kpL p (x :: l) = x :: kpL x l := by simp only [kpL, decide_eq_false h]
theorem kpL_cong {p q : PV} (h : p.2 = q.2) : ∀ (l : List PV), kpL p l = kpL q l
 | [] => rfl
 | x :: l => by
  by_cases h1 : x.2 = p.2
  ·rw [kpL_yes h1, kpL_yes (h1.trans h)]
  ·rw [kpL_no h1, kpL_no (fun e => h1 (e.trans h.symm))]
theorem ddL_kp : ∀ (l : List PV) (a : PV), ddL (a :: l) = a :: kpL a l
 | [], a => by simp [ddL, kpL]
 | b :: l, a => by
  unfold ddL
  by_cases h : a.2 = b.2
  ·rw [if_pos h, ddL_kp l a, kpL_yes h.symm, kpL_cong h]
  ·rw [if_neg h, ddL_kp l b, kpL_no (fun e => h e.symm)]
theorem ddL_len : ∀ (L : List PV), (ddL L).length ≤ L.length
 | [] => by simp [ddL]
 | a :: l => by
  rw [ddL_kp]
  have : ∀ (l : List PV) (p : PV), (kpL p l).length ≤ l.length := fun l => by
   induction l with
   | nil => intro p; exact Nat.le_refl _
   | cons x l ih =>
    intro p
    by_cases h : x.2 = p.2
    ·rw [kpL_yes h]; exact Nat.le_succ_of_le (ih x)
    ·rw [kpL_no h]; exact Nat.succ_le_succ (ih x)
  simpa using this l a
/-- up to place k nothing has fallen out -/
def cmA (L : List PV) (k : Nat) : Prop := ∃ h : k - 1 < L.length, L.take k ++ kpL (L[k - 1]) (L.drop k) = ddL L
theorem cmA_one {L : List PV} (h : 0 < L.length) : cmA L 1 := by
 cases L with
 | nil => simp at h
 | cons a l => exact ⟨by simp, by simp [ddL_kp]⟩
theorem cmA_step {L : List PV} {k : Nat} (hk : 1 ≤ k) (hl : k < L.length) (h : cmA L k) (hne : (L[k]).2 ≠ (L[k - 1]'(by omega)).2) : cmA L (k + 1) := by
 obtain ⟨h1, h2⟩ := h
 refine ⟨by simpa using hl, ?_⟩
 rw [← h2, List.take_succ_eq_append_getElem hl, List.drop_eq_getElem_cons hl, kpL_no hne, List.append_assoc]
 simp
theorem cmA_end {L : List PV} (h : cmA L L.length) : ddL L = L := by
 obtain ⟨h1, h2⟩ := h
 rw [← h2]
 simp [kpL]
/-- behind the first equal neighbours: M is written up to k, what stands from j - 1 on is L's -/
def cmB (L M : List PV) (k j : Nat) : Prop := 1 ≤ k ∧ k < j ∧ j ≤ L.length ∧ M.length = L.length ∧ (∀ i, j - 1 ≤ i → M[i]? = L[i]?) ∧ ∃ h : j - 1 < L.length, M.take k ++ kpL (L[j - 1]) (L.drop j) = ddL L
theorem cmB_start {L : List PV} {k : Nat} (hk : 1 ≤ k) (hl : k < L.length) (h : cmA L k) (he : (L[k]).2 = (L[k - 1]'(by omega)).2) : cmB L L k (k + 1) := by
 obtain ⟨h1, h2⟩ := h
 refine ⟨hk, by omega, by omega, rfl, fun _ _ => rfl, by simpa using hl, ?_⟩
 rw [← h2, List.drop_eq_getElem_cons hl, kpL_yes he]
 simp
theorem cmB_skip {L M : List PV} {k j : Nat} (hj : j < L.length) (h : cmB L M k j) (he : (L[j]).2 = (L[j - 1]'(by omega)).2) : cmB L M k (j + 1) := by
 obtain ⟨h0, h1, h2, h3, h4, h5, h6⟩ := h
 refine ⟨h0, by omega, by omega, h3, fun i hi => h4 i (by omega), by simpa using hj, ?_⟩
 rw [← h6, List.drop_eq_getElem_cons hj, kpL_yes he]
 simp
theorem cmB_keep {L M : List PV} {k j : Nat} (hj : j < L.length) (h : cmB L M k j) (hne : (L[j]).2 ≠ (L[j - 1]'(by omega)).2) : cmB L (M.set k L[j]) (k + 1) (j + 1) := by
 obtain ⟨h0, h1, h2, h3, h4, h5, h6⟩ := h
 refine ⟨by omega, by omega, by omega, by simpa using h3, fun i hi => ?_, by simpa using hj, ?_⟩
 ·rw [List.getElem?_set_ne (by omega)]
  exact h4 i (by omega)
 ·rw [← h6, List.drop_eq_getElem_cons hj, kpL_no hne, List.take_succ_eq_append_getElem (by rw [List.length_set, h3]; omega), List.getElem_set_self, List.take_set_of_le (Nat.le_refl _), List.append_assoc]
  simp
theorem cmB_end {L M : List PV} {k : Nat} (h : cmB L M k L.length) : ddL L = M.take k := by
 obtain ⟨h0, h1, h2, h3, h4, h5, h6⟩ := h
 rw [← h6]
 simp [kpL]
theorem cmB_len {L M : List PV} {k : Nat} (h : cmB L M k L.length) : (ddL L).length = k := by
 rw [cmB_end h, List.length_take, h.2.2.2.1]
 have := h.2.1
 omega
end Go.Proofs.YtggelmbnliajeaaGreatDoor
namespace Go.Proofs.YtggelmbnliajeaaGreatDoor
open Go.RowKit Go.Sort
/-- the block of a row of numbers -/
def bkV : Value → List Nat
 | .slice (some a) n _ => if n = 0 then [] else [a.block]
 | _ => []
theorem bkV_ints {w : World} {v : Value} {x : List Int} {fp : List Nat} (h : intsT.rd w [v] x fp) : fp = bkV v := by
 obtain ⟨ad, cap, hv, h1, h2, h3⟩ := h
 obtain rfl : v = _ := by simpa using hv
 rcases h3 with ⟨h0, rfl⟩ | ⟨h0, b, o, fps, rfl, hb, rfl, h4⟩
 ·cases ad <;> simp [bkV, h0]
 ·have e : (List.range x.length).flatMap fps = [] := by
   rw [List.flatMap_eq_nil_iff]
   intro i hi
   obtain ⟨cs, ⟨_, _, e⟩, _⟩ := h4 i (by simpa using hi)
   exact e
  rw [e]
  simp only [bkV]
  rw [if_neg (by omega)]
/-- the rows' blocks: each once, new, and free -/
def SRf (base : Nat) (w : World) (L : List PV) : Prop := (L.flatMap (fun p => bkV p.1)).Nodup ∧ ∀ p ∈ L, ∀ k ∈ bkV p.1, base ≤ k ∧ k < w.heap.size ∧ ∀ o, w.frozen? ⟨k, o, none⟩ = false
theorem SRf.perm {base : Nat} {w : World} {L M : List PV} (h : SRf base w L) (hp : M.Perm L) : SRf base w M := ⟨(hp.flatMap_right _).nodup_iff.2 h.1, fun p hp' => h.2 p (hp.mem_iff.1 hp')⟩
theorem sub_flat {α β : Type} {f : α → List β} {M L : List α} (h : M.Sublist L) : (M.flatMap f).Sublist (L.flatMap f) := by
 induction h with
 | slnil => exact List.Sublist.refl _
 | cons a _ ih => rw [List.flatMap_cons]; exact ih.trans (List.sublist_append_right _ _)
 | cons_cons a _ ih => rw [List.flatMap_cons, List.flatMap_cons]; exact (List.Sublist.refl _).append ih
theorem SRf.sub {base : Nat} {w : World} {L M : List PV} (h : SRf base w L) (hp : M.Sublist L) : SRf base w M := ⟨(sub_flat hp).nodup h.1, fun p hp' => h.2 p (hp.subset hp')⟩
theorem sr_of_fr {w : World} {base b o n c : Nat} {xs : List (List Int)} (h : rowsT.Fr base w [.slice (some ⟨b, o, none⟩) n c] xs) (h0 : 0 < xs.length) : base ≤ b ∧ ∃ L : List PV, L.map (·.2) = xs ∧ SR w b o L ∧ SRf base w L := by
 obtain ⟨fp, ⟨ad, cap, hv, h1, h2, h3⟩, hnd, hge, hun⟩ := h
 simp only [List.cons.injEq, Value.slice.injEq, and_true] at hv
 obtain ⟨rfl, rfl, rfl⟩ := hv
 rcases h3 with ⟨h4, -⟩ | ⟨-, b', o', fps, he, hb, rfl, h4⟩
 ·omega
 simp only [Option.some.injEq, Addr.mk.injEq, and_true] at he
 obtain ⟨rfl, rfl⟩ := he
 have hv : ∀ i : Fin xs.length, ∃ v, intsT.rd w [v] xs[i] (fps i) ∧ w.cell? ⟨b, o + i, none⟩ = some v := fun i => by
  obtain ⟨cs, h5, h6⟩ := h4 i i.2
  obtain ⟨ad, cap, rfl, _⟩ := id h5
  refine ⟨_, h5, ?_⟩
  have := h6 0 (by simp)
  simpa [Ty.slice] using this
 have hfp : ∀ i : Fin xs.length, bkV (Classical.choose (hv i)) = fps i := fun i => (bkV_ints (Classical.choose_spec (hv i)).1).symm
 have hin : ∀ (i : Fin xs.length), ∀ k ∈ fps i, k ∈ (List.range xs.length).flatMap fps := fun i k hk => List.mem_flatMap.2 ⟨i, by simp, hk⟩
 refine ⟨hge b (List.mem_cons_self ..), List.ofFn (fun i => (Classical.choose (hv i), xs[i])), ?_, ⟨hb, fun i => hun b (List.mem_cons_self ..) i, fun i hi => ?_⟩, ?_, ?_⟩
 ·rw [List.map_ofFn]
  refine List.ext_getElem (by simp) fun i h h' => ?_
  simp
 ·have hi' : i < xs.length := by simpa using hi
  obtain ⟨g1, g2⟩ := Classical.choose_spec (hv ⟨i, hi'⟩)
  rw [List.getElem_ofFn]
  refine ⟨g2, _, g1, fun k hk e => ?_⟩
  subst e
  exact (List.nodup_cons.1 hnd).1 (List.mem_flatMap.2 ⟨i, by simpa using hi', hk⟩)
 ·have e : (List.ofFn (fun i : Fin xs.length => (Classical.choose (hv i), xs[i]))).flatMap (fun p : PV => bkV p.1) = (List.range xs.length).flatMap fps := by
   rw [List.flatMap_def, List.flatMap_def, List.map_ofFn]
   congr 1
   refine List.ext_getElem (by simp) fun i h h' => ?_
   rw [List.getElem_ofFn, List.getElem_map, List.getElem_range]
   exact hfp _
  rw [e]
  exact (List.nodup_cons.1 hnd).2
 ·intro p hp k hk
  obtain ⟨i, rfl⟩ := List.mem_ofFn.1 hp
  dsimp only at hk
  rw [hfp] at hk
  have hm := List.mem_cons_of_mem b (hin i k hk)
  exact ⟨hge k hm, Ty.lt intsT (Classical.choose_spec (hv i)).1 k hk, fun o => hun k hm o⟩
theorem flat_get {L : List PV} : (List.range L.length).flatMap (fun i => bkV (L.getD i (undef, [])).1) = L.flatMap (fun p => bkV p.1) := by
 rw [List.flatMap_def, List.flatMap_def]
 congr 1
 refine List.ext_getElem (by simp) fun i h h' => ?_
 have hi : i < L.length := by simpa using h
 simp [List.getD_eq_getElem?_getD, hi]
theorem fr_of_sr {w : World} {base b o m c : Nat} {L : List PV} (h : SR w b o L) (hf : SRf base w L) (hb : base ≤ b) (hm : L.length = m) (hc : m ≤ c) (hl : m ≤ capMax) : rowsT.Fr base w [.slice (some ⟨b, o, none⟩) m c] (L.map (·.2)) := by
 subst hm
 rcases Nat.eq_zero_or_pos L.length with h0 | h0
 ·obtain rfl : L = [] := List.eq_nil_of_length_eq_zero h0
  exact fr_nil
 have hlen : (L.map (fun p : PV => p.2)).length = L.length := by simp
 have hne : ∀ k ∈ L.flatMap (fun p => bkV p.1), k ≠ b := fun k hk => by
  obtain ⟨p, hp, hk⟩ := List.mem_flatMap.1 hk
  obtain ⟨i, hi, rfl⟩ := List.mem_iff_getElem.1 hp
  obtain ⟨fp, h1, h2⟩ := (h.2.2 i hi).2
  rw [bkV_ints h1] at h2
  exact h2 k hk
 refine ⟨b :: (List.range (L.map (fun p : PV => p.2)).length).flatMap (fun i => bkV (L.getD i (undef, [])).1), ⟨some ⟨b, o, none⟩, c, by simp, by simpa using hc, by simpa using hl, .inr ⟨by simpa using h0, b, o, _, rfl, h.1, rfl, fun i hi => ?_⟩⟩, ?_, ?_, ?_⟩
 ·have hi' : i < L.length := by simpa using hi
  obtain ⟨g1, fp, g2, g3⟩ := h.2.2 i hi'
  refine ⟨[(L[i]).1], ?_, fun j hj => ?_⟩
  ·rw [List.getElem_map]
   have e : (L.getD i (undef, [])).1 = (L[i]).1 := by simp [List.getD_eq_getElem?_getD, hi']
   rw [e, ← bkV_ints g2]
   exact g2
  ·obtain rfl : j = 0 := by simp at hj; omega
   simpa [Ty.slice] using g1
 ·rw [hlen, flat_get]
  exact List.nodup_cons.2 ⟨fun hm => hne b hm rfl, hf.1⟩
 ·rw [hlen, flat_get]
  intro k hk
  rcases List.mem_cons.1 hk with rfl | hk
  ·exact hb
  ·obtain ⟨p, hp, hk⟩ := List.mem_flatMap.1 hk
   exact (hf.2 p hp k hk).1
 ·rw [hlen, flat_get]
  intro k hk i
  rcases List.mem_cons.1 hk with rfl | hk
  ·exact h.2.1 i
  ·obtain ⟨p, hp, hk⟩ := List.mem_flatMap.1 hk
   exact (hf.2 p hp k hk).2.2 i
/-- the rows stay when the row of rows alone is written -/
theorem SRf.tch {base b : Nat} {w w' : World} {L : List PV} (h : SRf base w L) (hn : ∀ p ∈ L, ∀ k ∈ bkV p.1, k ≠ b) (ht : TchP (fun q => q = b) w w') : SRf base w' L :=
 ⟨h.1, fun p hp k hk => ⟨(h.2 p hp k hk).1, Nat.lt_of_lt_of_le (h.2 p hp k hk).2.1 ht.size, fun o => (ht.frozen (h.2 p hp k hk).2.1 (hn p hp k hk)).trans ((h.2 p hp k hk).2.2 o)⟩⟩
theorem SR.apart {w : World} {b o : Nat} {L : List PV} (h : SR w b o L) : ∀ p ∈ L, ∀ k ∈ bkV p.1, k ≠ b := fun p hp k hk => by
 obtain ⟨i, hi, rfl⟩ := List.mem_iff_getElem.1 hp
 obtain ⟨fp, h1, h2⟩ := (h.2.2 i hi).2
 rw [bkV_ints h1] at h2
 exact h2 k hk
theorem SR.take {w : World} {b o : Nat} {L : List PV} (h : SR w b o L) (k : Nat) : SR w b o (L.take k) := ⟨h.1, h.2.1, fun i hi => by
 rw [List.getElem_take]
 exact h.2.2 i (by rw [List.length_take] at hi; omega)⟩
/-- cells behind a row's first ones are written -/
theorem SR.high {w : World} {b o j : Nat} {v : Value} {L : List PV} (h : SR w b o L) (hj : L.length ≤ j) : SR (w.setCell ⟨b, o + j, none⟩ v) b o L :=
 ⟨by rw [size_set]; exact h.1, fun i => (World.frozen?_setCell _ _ _ _).trans (h.2.1 i), fun i hi => ⟨(World.cell?_setCell_other _ _ _ _ (by intro e; simp only [Addr.mk.injEq] at e; omega)).trans (h.2.2 i hi).1, (h.2.2 i hi).2.tchP tchP_cell fun k _ hk e => hk e⟩⟩
theorem SR.clear {b o : Nat} {L : List PV} : ∀ (zs : List Value) (k : Nat) (w : World), L.length ≤ k → SR w b o L → SR (w.setCells b (o + k) zs) b o L ∧ TchP (fun q => q = b) w (w.setCells b (o + k) zs)
 | [], k, w, _, h => ⟨h, TchP.refl _ _⟩
 | z :: zs, k, w, hk, h => by
  obtain ⟨h1, h2⟩ := SR.clear zs (k + 1) _ (by omega) (h.high (v := z) hk)
  exact ⟨h1, tchP_cell.then h2 (fun _ _ h => h)⟩
theorem kpL_sub : ∀ (l : List PV) (p : PV), (kpL p l).Sublist l
 | [], _ => List.Sublist.refl _
 | x :: l, p => by
  by_cases h : x.2 = p.2
  ·rw [kpL_yes h]; exact (kpL_sub l x).cons _
  ·rw [kpL_no h]; exact (kpL_sub l x).cons_cons _
theorem ddL_sub : ∀ (L : List PV), (ddL L).Sublist L
 | [] => by simp [ddL]
 | a :: l => by rw [ddL_kp]; exact (kpL_sub l a).cons_cons _
end Go.Proofs.YtggelmbnliajeaaGreatDoor
namespace Go.Proofs.YtggelmbnliajeaaGreatDoor
open Go.RowKit Go.Sort
theorem makeRel2_any (w : World) {v u : Value} {xs ys : List Int} (h : intsT.Rd w [v] xs) (h' : intsT.Rd w [u] ys) :
  Calls Tryz.prog 111 #[v, u] w fun e w' => e = .returned (.bool (eqB xs ys)) ∧ Quiet w w' := by
 have H := Lib.hid h
 have H' := Lib.hid h'
 clear h h'
 go_enter Tryz.func111, Tryz.ntmps111
 go_wp2_with fail
 refine (Equal_quiet w H.out H'.out).mono ?_
 rintro e w1 ⟨rfl, hq⟩
 go_wp2_with fail
 go_ret
 exact ⟨rfl, hq⟩
set_option maxHeartbeats 3200000 in
set_option maxRecDepth 100000 in
theorem compactRows_any (w : World) {b o n c : Nat} {L : List PV} (hL : L.length = n) (h : SR w b o L) (hn : 1 ≤ n ∧ n ≤ 1000000) (hc : n ≤ c) :
  Calls Tryz.prog 110 #[.slice (some ⟨b, o, none⟩) n c, .func (.func 111) #[] #[]] w fun e w' => e = .returned (.slice (some ⟨b, o, none⟩) (ddL L).length c) ∧ SR w' b o (ddL L) ∧ TchP (fun q => q = b) w w' := by
 have H := Lib.hid h
 have HL := Lib.hid hL
 by_cases hn1 : n = 1
 ·have HD : Hid (ddL L = L ∧ (ddL L).length = 1) := by
   unfold Hid
   rw [hn1] at hL
   obtain ⟨a, rfl⟩ := List.length_eq_one_iff.1 hL
   exact ⟨by simp [ddL], by simp [ddL]⟩
  clear h hL HL
  subst hn1
  go_enter Tryz.func110, Tryz.ntmps110
  go_wp2_with fail
  go_ret
  exact ⟨by rw [HD.out.2]; rfl, by rw [HD.out.1]; exact H.out, TchP.refl _ _⟩
 have hn2 : 2 ≤ n := by omega
 have hd : decide ((n : Int) < 2) = false := by simp; omega
 have hd' : decide (n < 2) = false := by simp; omega
 clear h hL hn1
 go_enter Tryz.func110, Tryz.ntmps110
 go_wp2_with fail
 go_loopw [5] (fun i wr => ∃ k : Nat, 1 ≤ k ∧ k ≤ n ∧ i = .int .i64 k ∧ cmA L k ∧ SR wr b o L ∧ TchP (fun q => q = b) w wr) (fun i _ => n - (intOf i).toNat)
 case atStart => exact ⟨1, Nat.le_refl _, by omega, rfl, cmA_one (by rw [HL.out]; omega), H.out, TchP.refl _ _⟩
 case round =>
  obtain ⟨k, hk1, hk, rfl, hA, hS, hT⟩ := hrel
  obtain ⟨wv, rfl⟩ : ∃ wv : World, wv = wr := ⟨_, rfl⟩
  have HA := Lib.hid hA
  have HS := Lib.hid hS
  have HT := Lib.hid hT
  clear hA hS hT
  by_cases hkn : k < n
  ·obtain ⟨p, hp⟩ : ∃ p, k = p + 1 := ⟨k - 1, by omega⟩
   have hw : IntKind.i64.wrap ((k : Int) - 1) = (p : Int) := by rw [wrap_small (by omega) (by omega)]; omega
   have hpn : p < n := by omega
   have hkL : k < L.length := by rw [HL.out]; exact hkn
   have hpL : p < L.length := by rw [HL.out]; exact hpn
   have HP : Hid (k - 1 = p) := by unfold Hid; omega
   obtain ⟨e1, r1⟩ := HS.out.2.2 k hkL
   obtain ⟨e0, r0⟩ := HS.out.2.2 p hpL
   have R1 := Lib.hid r1.rd
   have R0 := Lib.hid r0.rd
   have HY : Hid (eqB (L[k]).2 (L[p]).2 = true → cmB L L k (k + 1)) := fun h => cmB_start hk1 hkL HA.out (by have e := eqB_iff.1 h; subst hp; exact e)
   have HN : Hid (eqB (L[k]).2 (L[p]).2 = false → cmA L (k + 1)) := fun h => cmA_step hk1 hkL HA.out (by
    intro e
    subst hp
    have : eqB (L[p + 1]).2 (L[p]).2 = true := eqB_iff.2 e
    rw [h] at this
    cases this)
   generalize hv1 : (L[k]).1 = v1 at e1 r1 R1
   generalize hv0 : (L[p]).1 = v0 at e0 r0 R0
   generalize (L[k]).2 = y1 at r1 R1 HY HN
   generalize (L[p]).2 = y0 at r0 R0 HY HN
   obtain ⟨ax1, cx1, rfl⟩ := rd_slice R1.out
   obtain ⟨ax0, cx0, rfl⟩ := rd_slice R0.out
   clear hp r1 r0 hv1 hv0 hkL hpL
   go_wp2_with fail
   refine wp_region_T (fun w' => w'.cell? ⟨b, o + k, none⟩ = some (.slice ax1 y1.length cx1) ∧ w'.cell? ⟨b, o + p, none⟩ = some (.slice ax0 y0.length cx0)) [] (by kernel_rfl) ⟨e1, e0⟩ (fun hHeld => ?_)
   refine wpAnyT_take (i := 0) (v := ?_) rfl (by kernel_rfl) (fun _ _ _ h => h) (Or.inl ⟨by rfl, ?_⟩) (by assumption) ?_
   rotate_left
   ·(intro w hSw; (try dsimp only at hSw); go_simp <;> with_reducible rfl)
   go_simp
   refine wpAnyT_take (i := 1) (v := ?_) rfl (by kernel_rfl) (fun _ _ _ h => h) (Or.inl ⟨by rfl, ?_⟩) (by assumption) ?_
   rotate_left
   ·(intro w hSw; (try dsimp only at hSw); go_simp <;> with_reducible rfl)
   go_simp
   refine wpAnyT_take (i := 2) (v := ?_) rfl (by kernel_rfl) (fun _ _ _ h => h) (Or.inl ⟨by rfl, ?_⟩) (by assumption) ?_
   rotate_left
   ·(intro w hSw; (try dsimp only at hSw); go_simp <;> with_reducible rfl)
   go_simp
   refine wpAnyT_take (i := 3) (v := ?_) rfl (by kernel_rfl) (fun _ _ _ h => h) (Or.inl ⟨by rfl, ?_⟩) (by assumption) ?_
   rotate_left
   ·(intro w hSw; (try dsimp only at hSw); go_simp <;> with_reducible rfl)
   go_simp
   refine wpAnyT_take (i := 4) (v := ?_) rfl (by kernel_rfl) (fun _ _ _ h => h) (Or.inl ⟨by rfl, ?_⟩) (by assumption) ?_
   rotate_left
   ·(intro w hSw; (try dsimp only at hSw); go_simp <;> with_reducible rfl)
   go_simp
   refine wpAnyT_take (i := 5) (v := ?_) rfl (by kernel_rfl) (fun _ _ _ h => h) (Or.inl ⟨by rfl, ?_⟩) (by assumption) ?_
   rotate_left
   ·(intro w hSw; (try dsimp only at hSw); go_simp <;> with_reducible rfl)
   go_simp
   refine wpAnyT_take (i := 6) (v := ?_) rfl (by kernel_rfl) (fun _ _ _ h => h) (Or.inl ⟨by rfl, ?_⟩) (by assumption) ?_
   rotate_left
   ·(intro w hSw; (try dsimp only at hSw); go_simp <;> with_reducible rfl)
   go_simp
   refine wpAnyT_take (i := 7) (v := ?_) rfl (by kernel_rfl) (fun _ _ _ h => h) (Or.inl ⟨by rfl, ?_⟩) (by assumption) ?_
   rotate_left
   ·(intro w hSw; (try dsimp only at hSw); go_simp <;> with_reducible rfl)
   go_simp
   refine wpAnyT_take (i := 8) (v := ?_) rfl (by kernel_rfl) (fun _ _ _ h => h) (Or.inl ⟨by rfl, ?_⟩) (by assumption) ?_
   rotate_left
   ·(intro w hSw; (try dsimp only at hSw); go_simp <;> with_reducible rfl)
   go_simp
   refine wpAnyT_take (i := 9) (v := ?_) rfl (by kernel_rfl) (fun _ _ _ h => h) (Or.inl ⟨by rfl, ?_⟩) (by assumption) ?_
   rotate_left
   ·(intro w hSw; (try dsimp only at hSw); go_simp <;> with_reducible rfl)
   go_simp
   have hv : Below wv.heap.size wv wv.drew := bD
   have R1d := Lib.hid (R1.out.below hv)
   have R0d := Lib.hid (R0.out.below hv)
   have HSd := Lib.hid (HS.out.below hv)
   have HTd := Lib.hid (HT.out.then (TchP.of_below hv _) (fun _ _ h => h))
   clear e1 e0 R1 R0
   generalize wv.drew = x0 at hHeld hv R1d R0d HSd HTd ⊢
   obtain ⟨e1, e0⟩ := hHeld
   refine wpAnyT_one (i := 10) rfl (by kernel_rfl) (fun K hK => ?_)
   go_simp
   go_at_call 111
   refine (makeRel2_any x0 R1d.out R0d.out).mono ?_
   rintro e x9 ⟨rfl, hq9⟩
   have hb9 := hq9.below
   have hsb := HSd.out.1
   replace e1 := (cellB hb9 (by omega)).trans e1
   replace e0 := (cellB hb9 (by omega)).trans e0
   replace HSd := Lib.hid (HSd.out.below hb9)
   replace HTd := Lib.hid (HTd.out.then (TchP.of_below hb9 _) (fun _ _ h => h))
   dsimp only
   refine hK.out _ _ ⟨e1, e0⟩ (fun hHeld => ?_)
   clear hK K
   refine wpAnyT_done (by kernel_rfl) ?_ _
   go_simp
   clear e1 e0 hHeld R1d R0d
   cases hq : eqB y1 y0
   ·go_wp2_with fail
    go_roundw
    case rel => exact ⟨k + 1, by omega, by omega, by go_num, HN.out hq, HSd.out, HTd.out⟩
    case measure => simp [intOf]; omega
   ·go_wp2_with fail
    go_loopw [5, 7] (fun i j wr => ∃ (kk k2 : Nat) (M : List PV), i = .int .i64 kk ∧ j = .int .i64 k2 ∧ 1 ≤ k2 ∧ k + k2 ≤ n ∧ cmB L M kk (k + k2) ∧ SR wr b o M ∧ TchP (fun q => q = b) w wr) (fun _ j _ => n - (k + (intOf j).toNat))
    case atStart => exact ⟨k, 1, L, rfl, rfl, Nat.le_refl _, by omega, HY.out hq, HSd.out, HTd.out⟩
    case round =>
     obtain ⟨kk, k2, M, rfl, rfl, hk2, hkn2, hB, hSM, hTM⟩ := hrel
     obtain ⟨wq, rfl⟩ : ∃ wq : World, wq = wr := ⟨_, rfl⟩
     have hkk1 := hB.1
     have hkk2 := hB.2.1
     have HML : Hid (M.length = n) := hB.2.2.2.1.trans HL.out
     have HB := Lib.hid hB
     have HSM := Lib.hid hSM
     have HTM := Lib.hid hTM
     clear hB hSM hTM
     by_cases hlt : k + k2 < n
     ·obtain ⟨p2, hp2⟩ : ∃ p2, k2 = p2 + 1 := ⟨k2 - 1, by omega⟩
      have hw2 : IntKind.i64.wrap ((k2 : Int) - 1) = (p2 : Int) := by rw [wrap_small (by omega) (by omega)]; omega
      have hjL : k + k2 < L.length := by rw [HL.out]; exact hlt
      have hqL : k + p2 < L.length := by rw [HL.out]; omega
      have hjM : k + k2 < M.length := by rw [HML.out]; exact hlt
      have hqM : k + p2 < M.length := by rw [HML.out]; omega
      have hkM : kk < M.length := by rw [HML.out]; omega
      have g1 : M[k + k2] = L[k + k2] := by have h := HB.out.2.2.2.2.1 (k + k2) (by omega); rw [List.getElem?_eq_getElem hjM, List.getElem?_eq_getElem hjL] at h; exact Option.some.inj h
      have g0 : M[k + p2] = L[k + p2] := by have h := HB.out.2.2.2.2.1 (k + p2) (by omega); rw [List.getElem?_eq_getElem hqM, List.getElem?_eq_getElem hqL] at h; exact Option.some.inj h
      obtain ⟨e1, r1⟩ := HSM.out.2.2 _ hjM
      obtain ⟨e0, r0⟩ := HSM.out.2.2 _ hqM
      have ek := (HSM.out.2.2 _ hkM).1
      have fk := HSM.out.2.1 (o + kk)
      rw [g1] at e1 r1
      rw [g0] at e0 r0
      rw [show o + (k + k2) = o + k + k2 by omega] at e1
      rw [show o + (k + p2) = o + k + p2 by omega] at e0
      have R1 := Lib.hid r1.rd
      have R0 := Lib.hid r0.rd
      have HY2 : Hid (eqB (L[k + k2]).2 (L[k + p2]).2 = true → cmB L M kk (k + (k2 + 1))) := fun h => cmB_skip hjL HB.out (by have e := eqB_iff.1 h; subst hp2; exact e)
      have HN2 : Hid (eqB (L[k + k2]).2 (L[k + p2]).2 = false → cmB L (M.set kk L[k + k2]) (kk + 1) (k + (k2 + 1))) := fun h => cmB_keep hjL HB.out (by
       intro e
       subst hp2
       have : eqB (L[k + (p2 + 1)]).2 (L[k + p2]).2 = true := eqB_iff.2 e
       rw [h] at this
       cases this)
      have HST : Hid (∀ W, SR W b o M → intsT.RdP (fun q => q ≠ b) W [(L[k + k2]).1] (L[k + k2]).2 → SR (W.setCell ⟨b, o + kk, none⟩ (L[k + k2]).1) b o (M.set kk L[k + k2])) := fun W h1 h2 => h1.set hkM h2
      have HR1 := Lib.hid r1
      generalize hx1 : L[k + k2] = x1 at e1 r1 R1 HY2 HN2 HST HR1
      generalize L[k + p2] = x0' at e0 r0 R0 HY2 HN2
      generalize (M[kk]).1 = vk at ek
      obtain ⟨v1, y1'⟩ := x1
      obtain ⟨v0, y0'⟩ := x0'
      dsimp only at e1 e0 r1 r0 R1 R0 HY2 HN2 HST HR1
      obtain ⟨ax1', cx1', rfl⟩ := rd_slice R1.out
      obtain ⟨ax0', cx0', rfl⟩ := rd_slice R0.out
      have hl1 : k2 < n - k := by omega
      have hl0 : p2 < n - k := by omega
      clear hp2 r1 r0 hx1 hjL hqL hjM hqM hkM g1 g0
      go_wp2_with fail
      refine wp_region_T (fun w' => w'.cell? ⟨b, o + k + k2, none⟩ = some (.slice ax1' y1'.length cx1') ∧ w'.cell? ⟨b, o + k + p2, none⟩ = some (.slice ax0' y0'.length cx0') ∧ w'.cell? ⟨b, o + kk, none⟩ = some vk) [] (by kernel_rfl) ⟨e1, e0, ek⟩ (fun hHeld => ?_)
      refine wpAnyT_take (i := 0) (v := ?_) rfl (by kernel_rfl) (fun _ _ _ h => h) (Or.inl ⟨by rfl, ?_⟩) (by assumption) ?_
      rotate_left
      ·(intro w hSw; (try dsimp only at hSw); go_simp <;> with_reducible rfl)
      go_simp
      refine wpAnyT_take (i := 1) (v := ?_) rfl (by kernel_rfl) (fun _ _ _ h => h) (Or.inl ⟨by rfl, ?_⟩) (by assumption) ?_
      rotate_left
      ·(intro w hSw; (try dsimp only at hSw); go_simp <;> with_reducible rfl)
      go_simp
      refine wpAnyT_take (i := 2) (v := ?_) rfl (by kernel_rfl) (fun _ _ _ h => h) (Or.inl ⟨by rfl, ?_⟩) (by assumption) ?_
      rotate_left
      ·(intro w hSw; (try dsimp only at hSw); go_simp <;> with_reducible rfl)
      go_simp
      refine wpAnyT_take (i := 3) (v := ?_) rfl (by kernel_rfl) (fun _ _ _ h => h) (Or.inl ⟨by rfl, ?_⟩) (by assumption) ?_
      rotate_left
      ·(intro w hSw; (try dsimp only at hSw); go_simp <;> with_reducible rfl)
      go_simp
      refine wpAnyT_take (i := 4) (v := ?_) rfl (by kernel_rfl) (fun _ _ _ h => h) (Or.inl ⟨by rfl, ?_⟩) (by assumption) ?_
      rotate_left
      ·(intro w hSw; (try dsimp only at hSw); go_simp <;> with_reducible rfl)
      go_simp
      refine wpAnyT_take (i := 5) (v := ?_) rfl (by kernel_rfl) (fun _ _ _ h => h) (Or.inl ⟨by rfl, ?_⟩) (by assumption) ?_
      rotate_left
      ·(intro w hSw; (try dsimp only at hSw); go_simp <;> with_reducible rfl)
      go_simp
      refine wpAnyT_take (i := 6) (v := ?_) rfl (by kernel_rfl) (fun _ _ _ h => h) (Or.inl ⟨by rfl, ?_⟩) (by assumption) ?_
      rotate_left
      ·(intro w hSw; (try dsimp only at hSw); go_simp <;> with_reducible rfl)
      go_simp
      refine wpAnyT_take (i := 7) (v := ?_) rfl (by kernel_rfl) (fun _ _ _ h => h) (Or.inl ⟨by rfl, ?_⟩) (by assumption) ?_
      rotate_left
      ·(intro w hSw; (try dsimp only at hSw); go_simp <;> with_reducible rfl)
      go_simp
      refine wpAnyT_take (i := 8) (v := ?_) rfl (by kernel_rfl) (fun _ _ _ h => h) (Or.inl ⟨by rfl, ?_⟩) (by assumption) ?_
      rotate_left
      ·(intro w hSw; (try dsimp only at hSw); go_simp <;> with_reducible rfl)
      go_simp
      refine wpAnyT_take (i := 9) (v := ?_) rfl (by kernel_rfl) (fun _ _ _ h => h) (Or.inl ⟨by rfl, ?_⟩) (by assumption) ?_
      rotate_left
      ·(intro w hSw; (try dsimp only at hSw); go_simp <;> with_reducible rfl)
      go_simp
      have hv2 : Below wq.heap.size wq wq.drew := bD
      have R1e := Lib.hid (R1.out.below hv2)
      have R0e := Lib.hid (R0.out.below hv2)
      have HSe := Lib.hid (HSM.out.below hv2)
      have HTe := Lib.hid (HTM.out.then (TchP.of_below hv2 _) (fun _ _ h => h))
      have HR1e := Lib.hid (HR1.out.below hv2)
      clear e1 e0 ek fk R1 R0 HR1
      generalize wq.drew = x2 at hHeld hv2 R1e R0e HSe HTe HR1e ⊢
      obtain ⟨e1, e0, ek⟩ := hHeld
      refine wpAnyT_one (i := 10) rfl (by kernel_rfl) (fun K hK => ?_)
      go_simp
      go_at_call 111
      refine (makeRel2_any x2 R1e.out R0e.out).mono ?_
      rintro e x9 ⟨rfl, hq9⟩
      have hb9 := hq9.below
      have hsb := HSe.out.1
      replace e1 := (cellB hb9 (by omega)).trans e1
      replace e0 := (cellB hb9 (by omega)).trans e0
      replace ek := (cellB hb9 (by omega)).trans ek
      replace HR1e := Lib.hid (HR1e.out.below hb9)
      replace HSe := Lib.hid (HSe.out.below hb9)
      replace HTe := Lib.hid (HTe.out.then (TchP.of_below hb9 _) (fun _ _ h => h))
      dsimp only
      refine hK.out _ _ ⟨e1, e0, ek⟩ (fun hHeld => ?_)
      clear hK K
      refine wpAnyT_take (i := 11) (v := ?_) rfl (by kernel_rfl) (fun _ _ _ h => h) (Or.inl ⟨by rfl, ?_⟩) (by assumption) ?_
      rotate_left
      ·(intro w hSw; (try dsimp only at hSw); go_simp <;> with_reducible rfl)
      go_simp
      refine wpAnyT_done (by kernel_rfl) ?_ _
      go_simp
      clear hHeld R1e R0e
      have fk := HSe.out.2.1 (o + kk)
      cases hq2 : eqB y1' y0'
      ·go_wp2_with fail
       go_roundw
       case rel => exact ⟨kk + 1, k2 + 1, _, by go_num, by go_num, by omega, by omega, HN2.out hq2, HST.out _ HSe.out HR1e.out, HTe.out.then tchP_cell (fun _ _ h => h)⟩
       case measure => simp [intOf]; omega
      ·go_wp2_with fail
       go_roundw
       case rel => exact ⟨kk, k2 + 1, M, rfl, by go_num, by omega, by omega, HY2.out hq2, HSe.out, HTe.out⟩
       case measure => simp [intOf]; omega
     ·have hend : k + k2 = n := by omega
      have hkn3 : kk < n := by omega
      have hcl : ∀ ty, (Builtin.clear_ #[23] ty #[.slice (some ⟨b, o + kk, none⟩) (n - kk) (c - kk)]).run Tryz.prog wq = .ok (.tuple #[]) (wq.setCells b (o + kk) (List.replicate (n - kk) (.slice none 0 0))) :=
       fun ty => Lib.run_clear_slice wq 23 42 ty (.slice none 0 0) (by kernel_rfl) (fun _ => by kernel_rfl) rfl rfl b (o + kk) _ _ (by omega) (fun j hj => by
        rw [show o + kk + j = o + (kk + j) by omega, (HSM.out.2.2 (kk + j) (by rw [HML.out]; omega)).1]; rfl) (fun j hj => HSM.out.2.1 _)
      have HE : Hid ((ddL L).length = kk ∧ ddL L = M.take kk) := by
       have h := HB.out
       rw [hend, ← HL.out] at h
       exact ⟨cmB_len h, cmB_end h⟩
      go_wp2_with fail
      go_ret
      refine ⟨by rw [HE.out.1]; rfl, ?_⟩
      obtain ⟨g1, g2⟩ := SR.clear (b := b) (o := o) (L := ddL L) (List.replicate (n - kk) (.slice none 0 0)) kk wq (by rw [HE.out.1]; exact Nat.le_refl _) (by rw [HE.out.2]; exact HSM.out.take kk)
      exact ⟨g1, HTM.out.then g2 (fun _ _ h => h)⟩
  ·obtain rfl : k = n := by omega
   go_wp2_with fail
   go_ret
   have e : ddL L = L := cmA_end (by rw [HL.out]; exact HA.out)
   exact ⟨by rw [e, HL.out]; rfl, by rw [e]; exact HS.out, HT.out⟩
end Go.Proofs.YtggelmbnliajeaaGreatDoor
namespace Go.Proofs.YtggelmbnliajeaaGreatDoor
open Go.RowKit Go.Sort
end Go.Proofs.YtggelmbnliajeaaGreatDoor
namespace Go.Proofs
open Go.Shelf
def Tryz.laysSlF6_f80_ren : Go.Shelf.Ren := ⟨fun | 6 => 80 | 15 => 131 | 14 => 130 | 28 => 149 | 29 => 150 | 20 => 141 | 21 => 142 | 22 => 143 | 23 => 144 | 24 => 145 | 25 => 146 | 26 => 147 | 27 => 148 | 46 => 156 | 47 => 157 | 48 => 158 | 49 => 159 | 50 => 160 | 57 => 163 | n => n, fun | 22 => 23 | 24 => 42 | 25 => 107 | 3 => 3 | 39 => 148 | 0 => 0 | 53 => 165 | 55 => 134 | 4 => 4 | 46 => 159 | 45 => 158 | 50 => 139 | 5 => 5 | 9 => 9 | 66 => 170 | 70 => 174 | 76 => 176 | 77 => 177 | n => n, fun | n => n⟩
theorem Tryz.laysSlF6_f80 : Go.Proofs.SlLaysF.n6 Tryz.prog Tryz.laysSlF6_f80_ren := {
 mixed := by kernel_rfl
 f6 := ⟨Tryz.f80.name, by decide, Tryz.func80.trans (congrArg some (by kernel_rfl))⟩
 f14 := ⟨Tryz.f130.name, by decide, Tryz.func130.trans (congrArg some (by kernel_rfl))⟩
 f15 := Tryz.func131.trans (congrArg some (by kernel_rfl))
 f20 := ⟨Tryz.f141.name, by decide, Tryz.func141.trans (congrArg some (by kernel_rfl))⟩
 f21 := ⟨Tryz.f142.name, by decide, Tryz.func142.trans (congrArg some (by kernel_rfl))⟩
 f22 := ⟨Tryz.f143.name, by decide, Tryz.func143.trans (congrArg some (by kernel_rfl))⟩
 f23 := ⟨Tryz.f144.name, by decide, Tryz.func144.trans (congrArg some (by kernel_rfl))⟩
 f24 := ⟨Tryz.f145.name, by decide, Tryz.func145.trans (congrArg some (by kernel_rfl))⟩
 f25 := ⟨Tryz.f146.name, by decide, Tryz.func146.trans (congrArg some (by kernel_rfl))⟩
 f26 := ⟨Tryz.f147.name, by decide, Tryz.func147.trans (congrArg some (by kernel_rfl))⟩
 f27 := ⟨Tryz.f148.name, by decide, Tryz.func148.trans (congrArg some (by kernel_rfl))⟩
 f28 := Tryz.func149.trans (congrArg some (by kernel_rfl))
 f29 := Tryz.func150.trans (congrArg some (by kernel_rfl))
 f46 := ⟨Tryz.f156.name, by decide, Tryz.func156.trans (congrArg some (by kernel_rfl))⟩
 f47 := Tryz.func157.trans (congrArg some (by kernel_rfl))
 f48 := Tryz.func158.trans (congrArg some (by kernel_rfl))
 f49 := ⟨Tryz.f159.name, by decide, Tryz.func159.trans (congrArg some (by kernel_rfl))⟩
 f50 := ⟨Tryz.f160.name, by decide, Tryz.func160.trans (congrArg some (by kernel_rfl))⟩
 f57 := ⟨Tryz.f163.name, by decide, Tryz.func163.trans (congrArg some (by kernel_rfl))⟩
 t0 := Tryz.underlying0
 a0 := Tryz.isAgg0
 z0 := Tryz.sizeOf0
 v0 := Tryz.zeroValue0
 t3 := Tryz.underlying3
 a3 := Tryz.isAgg3
 z3 := Tryz.sizeOf3
 v3 := Tryz.zeroValue3
 t4 := Tryz.underlying4
 a4 := Tryz.isAgg4
 z4 := Tryz.sizeOf4
 v4 := Tryz.zeroValue4
 t5 := Tryz.underlying5
 a5 := Tryz.isAgg5
 z5 := Tryz.sizeOf5
 v5 := Tryz.zeroValue5
 t9 := Tryz.underlying9
 a9 := Tryz.isAgg9
 z9 := Tryz.sizeOf9
 v9 := Tryz.zeroValue9
 t22 := Tryz.underlying23
 a22 := Tryz.isAgg23
 z22 := Tryz.sizeOf23
 v22 := Tryz.zeroValue23
 a24 := Tryz.isAgg42
 z24 := Tryz.sizeOf42
 t25 := Tryz.underlying107
 a25 := Tryz.isAgg107
 z25 := Tryz.sizeOf107
 v25 := Tryz.zeroValue107
 t39 := Tryz.underlying148
 a39 := Tryz.isAgg148
 z39 := Tryz.sizeOf148
 v39 := Tryz.zeroValue148
 t45 := Tryz.underlying158
 a45 := Tryz.isAgg158
 z45 := Tryz.sizeOf158
 v45 := Tryz.zeroValue158
 t46 := Tryz.underlying159
 a46 := Tryz.isAgg159
 z46 := Tryz.sizeOf159
 v46 := Tryz.zeroValue159
 t50 := Tryz.underlying139
 a50 := Tryz.isAgg139
 z50 := Tryz.sizeOf139
 v50 := Tryz.zeroValue139
 t53 := Tryz.underlying165
 a53 := Tryz.isAgg165
 z53 := Tryz.sizeOf165
 v53 := Tryz.zeroValue165
 t55 := Tryz.underlying134
 a55 := Tryz.isAgg134
 z55 := Tryz.sizeOf134
 v55 := Tryz.zeroValue134
 t66 := Tryz.underlying170
 a66 := Tryz.isAgg170
 z66 := Tryz.sizeOf170
 v66 := Tryz.zeroValue170
 t70 := Tryz.underlying174
 a70 := Tryz.isAgg174
 z70 := Tryz.sizeOf174
 v70 := Tryz.zeroValue174
 t76 := Tryz.underlying176
 a76 := Tryz.isAgg176
 z76 := Tryz.sizeOf176
 v76 := Tryz.zeroValue176
 t77 := Tryz.underlying177
 a77 := Tryz.isAgg177
 z77 := Tryz.sizeOf177
 v77 := Tryz.zeroValue177 }
open Go.RowKit Go.Lib Go.Sort in
open Go.RowKit Go.Lib Go.Sort in
/-- **slices.SortFunc, IN THE DOCUMENTATION's OWN TERMS: A PERMUTATION OF WHAT THE ROW HELD, SORTED BY 'cmp(a, b) < 0'.** Which of two equals comes first is left open ("The sort is not guaranteed to be stable"). (LAID AT THE INSTANCE 'slices.SortFunc[[][]int64,[]int64]': no walk: one application.) -/
theorem Tryz.slices_SortFunc {α : Type} [Inhabited α] (enc : α → Value) (h1 : OneCell enc) (cf : α → α → Int) (hO : SWO (ltOf cf)) (g : Nat) (cb : Array Value) (blk off cap : Nat) (d : Array α) (w : World) (eg : ∀ args w, (callFunc g args).run Tryz.prog w = .ok (.enter g args) w) (hcmp : CmpLays1 Tryz.prog g cb enc cf blk off d.size w) (hH : Holds enc w blk off d) (hblk : blk < w.heap.size) (hsz : d.size < 4611686018427387904) :
  Calls Tryz.prog 80 #[.slice (some ⟨blk, off, none⟩) d.size cap, .func (.func g) #[] cb] w fun e w' =>
   e = .returned (.tuple #[]) ∧ ∃ d' n os, PermIn 0 d.size d d' ∧ SortedIn (ltOf cf) 0 d.size d' ∧ w' = sortWorld enc w blk off n d' os := Any.slices_SortFunc Tryz.laysSlF6_f80 enc h1 cf hO g cb blk off cap d w eg hcmp hH hblk hsz
open Go.RowKit Go.Lib Go.Sort in
theorem Tryz.slices_SortFunc_none (p : Option Addr) (cap : Nat) (fv : Value) (w : World) : Calls Tryz.prog 80 #[.slice p 0 cap, fv] w fun e w' => e = .returned (.tuple #[]) ∧ w' = w := AnyF.slices_SortFunc_none { Tryz.laysSlF6_f80 with } p cap fv w
end Go.Proofs
namespace Go.Proofs.YtggelmbnliajeaaGreatDoor
open Go.RowKit Go.Sort
/-- the row at a number -/
def pvAt (L : List PV) (i : Nat) : PV := L.getD i (.slice none 0 0, [])
theorem pvAt_get {L : List PV} {i : Nat} (h : i < L.length) : pvAt L i = L[i] := by simp [pvAt, List.getD_eq_getElem?_getD, h]
theorem pvAt_map {L : List PV} {n : Nat} (h : L.length = n) : (List.range n).map (pvAt L) = L := by
 refine List.ext_getElem (by simp [h]) fun i h1 h2 => ?_
 rw [List.getElem_map, List.getElem_range, pvAt_get]
theorem rd_none {w : World} : intsT.Rd w [.slice none 0 0] [] := ⟨[], none, 0, rfl, Nat.zero_le _, Nat.zero_le _, .inl ⟨rfl, rfl⟩⟩
theorem cmpL_no {a b c : List Int} (h : ¬ cmpL a b < 0) (h' : ¬ cmpL b c < 0) : ¬ cmpL a c < 0 := fun h2 => by
 rcases cmpL_total h with e | e
 ·subst e; exact h' h2
 ·rcases cmpL_total h' with e' | e'
  ·subst e'; exact h h2
  ·have := ltL_trans (ltL_trans e' e) h2
   unfold ltL at this
   rw [cmpL_self] at this
   omega
open Go.Proofs in
theorem swo_rows (L : List PV) : SWO (Go.Proofs.ltOf fun i j : Nat => cmpL (pvAt L i).2 (pvAt L j).2) where
 irrefl := fun x => decide_eq_false (by show ¬ cmpL (pvAt L x).2 (pvAt L x).2 < 0; rw [cmpL_self]; omega)
 trans := fun x y z h1 h2 => by
  have g1 : cmpL (pvAt L x).2 (pvAt L y).2 < 0 := of_decide_eq_true h1
  have g2 : cmpL (pvAt L y).2 (pvAt L z).2 < 0 := of_decide_eq_true h2
  have g3 : cmpL (pvAt L x).2 (pvAt L z).2 < 0 := ltL_trans g1 g2
  exact decide_eq_true g3
 ntrans := fun x y z h1 h2 => by
  have g1 : ¬ cmpL (pvAt L x).2 (pvAt L y).2 < 0 := of_decide_eq_false h1
  have g2 : ¬ cmpL (pvAt L y).2 (pvAt L z).2 < 0 := of_decide_eq_false h2
  exact decide_eq_false (cmpL_no g1 g2)
theorem tchP_sortWorld {α : Type} [Inhabited α] {enc : α → Value} {w : World} {b o m : Nat} {d : Array α} {os : Array Obj} : TchP (fun q => q = b) w (Go.Proofs.sortWorld enc w b o m d os) where
 os := rfl
 tape := rfl
 output := rfl
 size := by simp only [Go.Proofs.sortWorld, Go.Sort.grow, Array.size_append, Go.Sort.size_putRow]; exact Nat.le_add_right _ _
 block := fun k hk hn => by
  unfold Go.Proofs.sortWorld
  rw [Go.Sort.heap_grow_old _ _ (by rw [Go.Sort.size_putRow]; exact hk)]
  simp only [Go.Sort.putRow, Go.Sort.mapBlock, Go.Sort.ahead, Array.getElem?_modify]
  rw [if_neg (fun e => hn e.symm)]
theorem frozen_sortWorld {α : Type} [Inhabited α] {enc : α → Value} {w : World} {b o m : Nat} {d : Array α} {os : Array Obj} (hb : b < w.heap.size) (i : Nat) : (Go.Proofs.sortWorld enc w b o m d os).frozen? ⟨b, i, none⟩ = w.frozen? ⟨b, i, none⟩ := by
 unfold Go.Proofs.sortWorld
 rw [Go.Sort.frozen?_grow _ _ _ (by rw [Go.Sort.size_putRow]; exact hb), Go.Sort.frozen?_putRow]
 rfl
theorem sortAll_any (w : World) {b o n c : Nat} {L0 : List PV} (hL : L0.length = n) (h : SR w b o L0) (hn : n ≤ 1000000) (g : Nat) (eg : ∀ args w, (callFunc g args).run Tryz.prog w = .ok (.enter g args) w)
  (hc : ∀ (W : World) (v u : Value) (xs ys : List Int), intsT.Rd W [v] xs → intsT.Rd W [u] ys → Calls Tryz.prog g #[v, u] W fun e w' => e = .returned (.int .i64 (cmpL xs ys)) ∧ W = w') :
  Calls Tryz.prog 80 #[.slice (some ⟨b, o, none⟩) n c, .func (.func g) #[] #[]] w fun e w' => e = .returned (.tuple #[]) ∧ ∃ L : List PV, L.Perm L0 ∧ L.Pairwise leP ∧ SR w' b o L ∧ TchP (fun q => q = b) w w' := by
 have h1 : Go.Proofs.OneCell (fun i : Nat => (pvAt L0 i).1) := fun i => by
  by_cases hi : i < L0.length
  ·show (pvAt L0 i).1.oneCell' = true
   rw [pvAt_get hi]
   obtain ⟨ad, cap, e⟩ := rd_slice (h.2.2 i hi).2.rd
   rw [e]; rfl
  ·show (pvAt L0 i).1.oneCell' = true
   simp only [pvAt, List.getD_eq_getElem?_getD, List.getElem?_eq_none (Nat.le_of_not_lt hi)]
   rfl
 have hrd : ∀ (W : World), TchP (fun q => q = b) w W → ∀ i, intsT.Rd W [(pvAt L0 i).1] (pvAt L0 i).2 := fun W hW i => by
  by_cases hi : i < L0.length
  ·rw [pvAt_get hi]
   exact ((h.2.2 i hi).2.tchP hW (fun k _ h1 h2 => h1 h2)).rd
  ·simp only [pvAt, List.getD_eq_getElem?_getD, List.getElem?_eq_none (Nat.le_of_not_lt hi)]
   exact rd_none
 have hH : Go.Sort.Holds (fun i : Nat => (pvAt L0 i).1) w b o (Array.range n) := fun j hj => by
  have hj' : j < n := by simpa using hj
  rw [getElem!_pos _ j hj, Array.getElem_range]
  refine ⟨?_, h.2.1 _⟩
  show _ = some (pvAt L0 j).1
  rw [pvAt_get (by omega)]
  exact (h.2.2 j (by omega)).1
 have key := Tryz.slices_SortFunc (fun i : Nat => (pvAt L0 i).1) h1 (fun i j => cmpL (pvAt L0 i).2 (pvAt L0 j).2) (swo_rows L0) g #[] b o c (Array.range n) w eg (fun m os dk _ x y => by
  refine (hc _ _ _ _ _ (hrd _ tchP_sortWorld x) (hrd _ tchP_sortWorld y)).mono ?_
  rintro e w' ⟨rfl, rfl⟩
  exact ⟨rfl, 0, #[], by rw [Go.Sort.grow_empty]; rfl⟩) hH h.1 (by rw [Array.size_range]; omega)
 rw [Array.size_range] at key
 refine key.mono ?_
 rintro e w' ⟨rfl, d', m, os, ⟨p1, -, p3⟩, hs, rfl⟩
 have hd : d'.size = n := by rw [p1, Array.size_range]
 have p4 : d'.toList.Perm (List.range n) := by
  rw [show d'.extract 0 n = d' by rw [← hd, Array.extract_size], show (Array.range n).extract 0 n = Array.range n by rw [Array.extract_eq_self_iff]; simp] at p3
  simpa using p3
 refine ⟨rfl, d'.toList.map (pvAt L0), ?_, ?_, ⟨?_, ?_, ?_⟩, tchP_sortWorld⟩
 ·have := p4.map (pvAt L0)
  rwa [pvAt_map hL] at this
 ·rw [List.pairwise_map, List.pairwise_iff_getElem]
  intro i j hi hj hij
  have hi' : i < d'.size := by simpa using hi
  have hj' : j < d'.size := by simpa using hj
  have := hs i j (Nat.zero_le _) hij (by simpa [p1] using hj')
  rw [getElem!_pos d' j hj', getElem!_pos d' i hi'] at this
  exact leP_of (of_decide_eq_false this)
 ·exact Nat.lt_of_lt_of_le h.1 tchP_sortWorld.size
 ·intro i
  rw [frozen_sortWorld h.1]
  exact h.2.1 i
 ·intro i hi
  have hi' : i < d'.size := by simpa using hi
  have hc2 := (Go.Proofs.holds_sortWorld (fun i : Nat => (pvAt L0 i).1) w b o m (Array.range n) d' os h.1 hH (by rw [p1]) i hi').1
  rw [getElem!_pos d' i hi'] at hc2
  simp only [List.getElem_map, Array.getElem_toList]
  refine ⟨hc2, ?_⟩
  have hx : d'[i] < n := by
   have : d'[i] ∈ List.range n := p4.mem_iff.1 (by simp)
   simpa using this
  rw [pvAt_get (by omega)]
  exact (h.2.2 _ (by omega)).2.tchP tchP_sortWorld (fun k _ h1 h2 => h1 h2)
theorem compact0_any (w : World) {ad : Option Addr} {c : Nat} : Calls Tryz.prog 110 #[.slice ad 0 c, .func (.func 111) #[] #[]] w fun e w' => e = .returned (.slice ad 0 c) ∧ w = w' := by
 go_enter Tryz.func110, Tryz.ntmps110
 go_wp2_with fail
 go_ret
 exact ⟨rfl, rfl⟩
end Go.Proofs.YtggelmbnliajeaaGreatDoor
namespace Go.Proofs.YtggelmbnliajeaaGreatDoor
open Go.RowKit Go.Sort
/-- new memory: a relation of these tuples, in order -/
def MkRel (ts : List (List Int)) (ar : Int) (w : World) (e : Ending) (w' : World) : Prop := ∃ M : List (List Int), M.Pairwise ltL ∧ (∀ l, l ∈ M ↔ l ∈ ts) ∧ RetA relT w (ar, M) e w'
set_option maxHeartbeats 1600000 in
theorem makeRel0_any (w : World) {v : Value} (h : rowsT.Rd w [v] []) {ar : Int} (har : I64 ar) : Calls Tryz.prog 50 #[.int .i64 ar, v] w (MkRel [] ar w) := by
 obtain ⟨ad, cap, rfl⟩ := rd_slice h
 have H := Lib.hid h
 have HAR := Lib.hid har
 clear h har
 go_enter Tryz.func50, Tryz.ntmps50
 go_wp2_with fail
 generalize hW : World.alloc w _ = W
 have hbW : Below w.heap.size w W := hW ▸ bA
 have hsW : w.heap.size + 1 ≤ W.heap.size := by rw [← hW]; simp
 obtain ⟨z0, f0⟩ : ∃ z, W.cell? ⟨w.heap.size, 0, none⟩ = some z := ⟨_, by rw [← hW]; simp [go_sem]; rfl⟩
 obtain ⟨z1, f1⟩ : ∃ z, W.cell? ⟨w.heap.size, 1, none⟩ = some z := ⟨_, by rw [← hW]; simp [go_sem]; rfl⟩
 have y0 : W.frozen? ⟨w.heap.size, 0, none⟩ = false := by rw [← hW]; simp [go_sem]
 have y1 : W.frozen? ⟨w.heap.size, 1, none⟩ = false := by rw [← hW]; simp [go_sem]
 clear hW
 refine (ownLists_any W (H.out.below hbW) (by simp) (by simp)).mono ?_
 rintro e w1 ⟨u1, rfl, hf, hb1⟩
 obtain ⟨a1, c1, rfl⟩ := fr_slice hf
 have hz1 := hb1.size
 replace f0 := (cellB hb1 (by omega)).trans f0
 replace f1 := (cellB hb1 (by omega)).trans f1
 replace y0 := (frozenB hb1 (by omega)).trans y0
 replace y1 := (frozenB hb1 (by omega)).trans y1
 have hbw1 := bthen hbW hb1
 clear hf
 rw [List.length_nil]
 go_wp2_with fail
 refine (Tryz.slices_SortFunc_none a1 c1 _ w1).mono ?_
 rintro e w2 ⟨rfl, rfl⟩
 go_wp2_with fail
 refine (compact0_any _).mono ?_
 rintro e w3 ⟨rfl, rfl⟩
 go_wp2_with fail
 obtain ⟨g0, g1⟩ := set2_cells (x := .int .i64 ar) (y := .slice a1 0 c1) f0 f1
 refine bodyPost_ret (v := .agg #[.int .i64 ar, .slice a1 0 c1]) (by simp [results, Tryz.results50, go_sem, g0, g1]) rfl ⟨[], List.Pairwise.nil, fun l => Iff.rfl, _, rfl, ?_, ?_⟩
 ·exact fr_cons HAR.out fr_nil
 ·exact (hbw1.setCell (by simp) _).setCell (by simp) _
set_option maxHeartbeats 1600000 in
theorem makeRelP_any (w : World) {v : Value} {ts : List (List Int)} (h : rowsT.Rd w [v] ts) (hn : 1 ≤ ts.length ∧ ts.length ≤ 1000000) (hl2 : ∀ y ∈ ts, y.length ≤ 1000000) {ar : Int} (har : I64 ar) :
  Calls Tryz.prog 50 #[.int .i64 ar, v] w (MkRel ts ar w) := by
 obtain ⟨ad, cap, rfl⟩ := rd_slice h
 have H := Lib.hid h
 have HL2 := Lib.hid hl2
 have HAR := Lib.hid har
 clear h hl2 har
 go_enter Tryz.func50, Tryz.ntmps50
 go_wp2_with fail
 generalize hW : World.alloc w _ = W
 have hbW : Below w.heap.size w W := hW ▸ bA
 have hsW : w.heap.size + 1 ≤ W.heap.size := by rw [← hW]; simp
 obtain ⟨z0, f0⟩ : ∃ z, W.cell? ⟨w.heap.size, 0, none⟩ = some z := ⟨_, by rw [← hW]; simp [go_sem]; rfl⟩
 obtain ⟨z1, f1⟩ : ∃ z, W.cell? ⟨w.heap.size, 1, none⟩ = some z := ⟨_, by rw [← hW]; simp [go_sem]; rfl⟩
 have y0 : W.frozen? ⟨w.heap.size, 0, none⟩ = false := by rw [← hW]; simp [go_sem]
 have y1 : W.frozen? ⟨w.heap.size, 1, none⟩ = false := by rw [← hW]; simp [go_sem]
 clear hW
 refine (ownLists_any W (H.out.below hbW) (by omega) HL2.out).mono ?_
 rintro e w1 ⟨u1, rfl, hf, hb1⟩
 obtain ⟨a1, c1, rfl⟩ := fr_slice hf
 have hcap : ts.length ≤ c1 := by obtain ⟨_, ⟨_, _, hv, hc, _⟩, _⟩ := hf; simp at hv; omega
 obtain ⟨b, o, rfl⟩ : ∃ b o, a1 = some ⟨b, o, none⟩ := by
  obtain ⟨_, _, hv, _, _, hc⟩ := Ty.slice_ex hf.rd
  obtain ⟨b, o, h, _⟩ := hc (by omega)
  simp at hv
  exact ⟨b, o, by rw [hv.1, h]⟩
 obtain ⟨hbb, L0, hL0, hS, hR⟩ := sr_of_fr hf (by omega)
 have hLl : L0.length = ts.length := by rw [← hL0, List.length_map]
 have HLl := Lib.hid hLl
 have HL0 := Lib.hid hL0
 have HS := Lib.hid hS
 have HR := Lib.hid hR
 have hz1 := hb1.size
 replace f0 := (cellB hb1 (by omega)).trans f0
 replace f1 := (cellB hb1 (by omega)).trans f1
 replace y0 := (frozenB hb1 (by omega)).trans y0
 replace y1 := (frozenB hb1 (by omega)).trans y1
 have hbw1 := bthen hbW hb1
 clear hf hL0 hS hR hLl
 go_wp2_with fail
 refine (sortAll_any w1 HLl.out HS.out (by omega) 109 (enters Tryz.func109 (by kernel_rfl) rfl) (fun W v u xs ys h1 h2 => makeRel1_any W h1 h2)).mono ?_
 rintro e w2 ⟨rfl, L1, hp1, hle, hS2, hT2⟩
 have HS2 := Lib.hid hS2
 have HP1 := Lib.hid hp1
 have HLE := Lib.hid hle
 have hb2 : Below W.heap.size w1 w2 := hT2.below hb1.size (fun k hk e => by omega)
 have HR2 : Hid (SRf W.heap.size w2 L1) := (HR.out.tch HS.out.apart hT2).perm hp1
 have hz2 := hT2.size
 have HLl2 : Hid (L1.length = ts.length) := hp1.length_eq.trans HLl.out
 replace f0 := (cellB hb2 (show w.heap.size < W.heap.size by omega)).trans f0
 replace f1 := (cellB hb2 (show w.heap.size < W.heap.size by omega)).trans f1
 replace y0 := (frozenB hb2 (show w.heap.size < W.heap.size by omega)).trans y0
 replace y1 := (frozenB hb2 (show w.heap.size < W.heap.size by omega)).trans y1
 clear hS2 hT2 hp1 hle
 go_wp2_with fail
 refine (compactRows_any w2 HLl2.out HS2.out (by omega) hcap).mono ?_
 rintro e w3 ⟨rfl, hS3, hT3⟩
 have HS3 := Lib.hid hS3
 have hb3 : Below W.heap.size w2 w3 := hT3.below (by omega) (fun k hk e => by omega)
 have HR3 : Hid (SRf W.heap.size w3 (ddL L1)) := (HR2.out.tch HS2.out.apart hT3).sub (ddL_sub _)
 have hz3 := hT3.size
 replace f0 := (cellB hb3 (show w.heap.size < W.heap.size by omega)).trans f0
 replace f1 := (cellB hb3 (show w.heap.size < W.heap.size by omega)).trans f1
 replace y0 := (frozenB hb3 (show w.heap.size < W.heap.size by omega)).trans y0
 replace y1 := (frozenB hb3 (show w.heap.size < W.heap.size by omega)).trans y1
 obtain ⟨M, hM⟩ : ∃ M, M = (ddL L1).map (·.2) := ⟨_, rfl⟩
 have HPW : Hid (M.Pairwise ltL) := by unfold Hid; rw [hM]; exact dd_pw HLE.out
 have HME : Hid (∀ l, l ∈ M ↔ l ∈ ts) := fun l => by
  rw [hM, dd_mem, ← HL0.out, List.mem_map, List.mem_map]
  exact exists_congr fun p => and_congr_left fun _ => HP1.out.mem_iff
 have HF : Hid (rowsT.Fr W.heap.size w3 [.slice (some ⟨b, o, none⟩) (ddL L1).length c1] M) := by
  have hlen : (ddL L1).length ≤ ts.length := Nat.le_trans (ddL_len _) (Nat.le_of_eq HLl2.out)
  have := fr_of_sr (c := c1) HS3.out HR3.out hbb rfl (by omega) (by unfold capMax; omega)
  rw [← hM] at this
  exact this
 have hbw3 : Below w.heap.size w w3 := hbw1.trans ((hb2.mono (by omega)).trans (hb3.mono (by omega)))
 have HN : Hid ((ddL L1).length = M.length) := by unfold Hid; rw [hM, List.length_map]
 rw [HN.out] at HF ⊢
 clear hS3 hT3 HS3 HR3 HLl2 HS2 HR2 HN hM
 go_wp2_with fail
 obtain ⟨g0, g1⟩ := set2_cells (x := .int .i64 ar) (y := .slice (some ⟨b, o, none⟩) M.length c1) f0 f1
 refine bodyPost_ret (v := .agg #[.int .i64 ar, .slice (some ⟨b, o, none⟩) M.length c1]) (by simp [results, Tryz.results50, go_sem, g0, g1]) rfl ⟨M, HPW.out, HME.out, _, rfl, ?_, ?_⟩
 ·exact ((fr_cons HAR.out HF.out).mono (by omega : w.heap.size + 1 ≤ W.heap.size)).set (by simp) |>.set (by simp) |>.mono (by omega)
 ·exact (hbw3.setCell (by simp) _).setCell (by simp) _
theorem makeRelN_any (w : World) {v : Value} {ts : List (List Int)} (h : rowsT.Rd w [v] ts) (hn : ts.length ≤ 1000000) (hl2 : ∀ y ∈ ts, y.length ≤ 1000000) {ar : Int} (har : I64 ar) : Calls Tryz.prog 50 #[.int .i64 ar, v] w (MkRel ts ar w) := by
 rcases Nat.eq_zero_or_pos ts.length with h0 | h0
 ·obtain rfl := List.eq_nil_of_length_eq_zero h0
  exact makeRel0_any w h har
 ·exact makeRelP_any w h ⟨h0, hn⟩ hl2 har
end Go.Proofs.YtggelmbnliajeaaGreatDoor
