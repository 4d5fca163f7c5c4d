/-
Choices from bytes: a drawn relation, a drawn template.
Choices from bytes: a drawn template.
Choices from bytes: a drawn template of few tuples.
Choices from bytes: a drawn template by its bytes; a projection.
Choices from bytes: a drawn operation.
An operation drawn from its bytes; whether operations, and lists of them, are the same.
Contracts: the operation of a function of lists; projections, checked.
Contracts: a projection, checked.
Contracts: compositions of operations.
Contracts: compositions of operations, checked.
Contracts: the laws' own small functions on bytes; plain facts on the operations that are found.
Contracts: whether two relations are the same, the reference's.
Contracts: relations and tuples compared; whether a relation has a tuple, and whether an operation keeps a relation, checked.
-/
import Derived.Test.YtajmjfbejfiipaaGreatQAI
import Derived.Test.YtajmjfbejfiipaaGreatQAD
import Derived.Test.YtajmjfbejfiipaaGreatQAE
import Derived.Deep.CutRange
import Derived.Test.YtajmjfbejfiipaaGreatQAC
namespace Go.Proofs.YtajmjfbejfiipaaGreat
open Go.RowKit Go.Sort
/-- tuples of some numbers below k, in order -/
def DrW (s : Int) (n k : Nat) (R : List (List Int)) : Prop := ∃ J : List Nat, R = J.map (fun i : Nat => digL s i n) ∧ J.Pairwise (· < ·) ∧ (∀ j ∈ J, j < k) ∧ J.length ≤ k
section
variable {s : Int} {n k : Nat} {R : List (List Int)}
theorem DrW.zero : DrW s n 0 [] := ⟨[], rfl, List.Pairwise.nil, by simp, Nat.zero_le _⟩
theorem DrW.no (h : DrW s n k R) : DrW s n (k + 1) R := let ⟨J, h1, h2, h3, h4⟩ := h; ⟨J, h1, h2, fun j hj => Nat.lt_succ_of_lt (h3 j hj), Nat.le_succ_of_le h4⟩
theorem DrW.yes (h : DrW s n k R) : DrW s n (k + 1) (R ++ [digL s k n]) := by
 obtain ⟨J, rfl, h2, h3, h4⟩ := h
 refine ⟨J ++ [k], by simp, List.pairwise_append.2 ⟨h2, List.pairwise_singleton _ _, fun a ha b hb => ?_⟩, fun j hj => ?_, by simp; omega⟩
 ·rw [List.mem_singleton.1 hb]; exact h3 a ha
 ·rcases List.mem_append.1 hj with hj | hj
  ·exact Nat.lt_succ_of_lt (h3 j hj)
  ·rw [List.mem_singleton.1 hj]; exact Nat.lt_succ_self _
theorem DrW.len (h : DrW s n k R) : R.length ≤ k := by obtain ⟨J, rfl, -, -, h4⟩ := h; simpa using h4
theorem DrW.ok (h : DrW s n k R) (hs : sizeOk s) (hn : 1 ≤ n ∧ n ≤ 4) (hk : (k : Int) ≤ s ^ n) : relOk s ((n : Int), R) := by
 obtain ⟨J, rfl, h2, h3, -⟩ := h
 have hs' := hs
 unfold sizeOk at hs'
 refine ⟨hs, ⟨by show (1 : Int) ≤ n; omega, by show (n : Int) ≤ 4; omega⟩, fun i hi => ?_⟩
 have hi' : i < J.length := by simpa using hi
 refine ⟨⟨by simp [digL_len], fun a ha => ?_⟩, fun h0 => ?_⟩
 ·have : a ∈ digL s ((J[i] : Nat) : Int) n := by simpa using ha
  exact digL_in (by omega) a this
 ·have h5 := (List.pairwise_iff_getElem.1 h2) (i - 1) i (by omega) hi' (by omega)
  have h6 := h3 _ (List.getElem_mem hi')
  show ltL ((J.map fun i : Nat => digL s i n)[i - 1]'(by simp; omega)) ((J.map fun i : Nat => digL s i n)[i]'hi)
  rw [List.getElem_map, List.getElem_map]
  exact dig_lt (by omega) (by omega) (by omega) (by omega)
end
theorem srcB {sb B C : Nat} {K : Int} {w w' : World} (h : SrcR sb B K w) (hc : sb < C) (hb : Below C w w') : SrcR sb B K w' := by
 have hl := h.lt
 have hB : B ≤ sb := let ⟨_, _, _, _, _, _, _, _, _, _, _, _, _, _, h⟩ := h; h
 exact h.tch (O := fun q => C ≤ q) ⟨hb.os, hb.tape, hb.output, hb.size, fun k _ hn => hb.block k (Nat.lt_of_not_le hn)⟩ (by omega) (fun q hq => by omega)
theorem tchB {sb : Nat} {W w w' : World} (h : TchP (fun q => q = sb) W w) (hb : Below (W.heap.size + 2) w w') : TchP (fun q => q = sb) W w' :=
 ⟨hb.os.trans h.os, hb.tape.trans h.tape, hb.output.trans h.output, Nat.le_trans h.size hb.size, fun k hk hn => (hb.block k (by omega)).trans (h.block k hk hn)⟩
theorem tchS {sb g i : Nat} {v : Value} {W w : World} (h : TchP (fun q => q = sb) W w) (hg : W.heap.size ≤ g) : TchP (fun q => q = sb) W (w.setCell ⟨g, i, none⟩ v) :=
 ⟨h.os, h.tape, h.output, by rw [size_set]; exact h.size, fun k hk hn => (Below.heap_setCell _ _ _ _ (fun e => by simp at e; omega)).trans (h.block k hk hn)⟩
/-- a drawn relation comes back -/
def DrR (sb B : Nat) (K s ar : Int) (w : World) (e : Ending) (w' : World) : Prop := ∃ (cs : List Value) (r : Int × List (List Int)), e = .returned (.agg cs.toArray) ∧ relT.Fr w.heap.size w' cs r ∧ relOk s r ∧ r.1 = ar ∧ SrcR sb B K w' ∧ TchP (fun q => q = sb) w w'
theorem elSS : ElT Tryz.prog 29 38 1 24 := .mk (z := .slice none 0 0) Tryz.underlying29 (by kernel_rfl) rfl (by decide)
set_option maxHeartbeats 6400000 in
set_option maxRecDepth 100000 in
theorem l01Drawn_any (w : World) {sb B : Nat} {K s : Int} {ar : Nat} (h : SrcR sb B K w) (hK0 : 0 ≤ K) (hK : K ≤ 100000000) (hs : 1 ≤ s ∧ s ≤ 4) (har : 1 ≤ ar ∧ ar ≤ 2) :
  Calls Tryz.prog 96 #[.pointer (some ⟨sb, 0, none⟩), .int .i64 s, .int .i64 ar] w (DrR sb B (K + 33) s ar w) := by
 have H := Lib.hid h
 have hsb := h.lt
 have hBs : B ≤ sb := let ⟨_, _, _, _, _, _, _, _, _, _, _, _, _, _, h⟩ := h; h
 obtain ⟨N, hN⟩ : ∃ N : Nat, s ^ ar = (N : Int) := ⟨(s ^ ar).toNat, by have h0 : 0 < s ^ ar := Int.pow_pos (by omega); omega⟩
 have hNb : N ≤ 16 := by
  have h1 := pow_mono' (s := s) (c := 4) (by omega) (by omega) ar
  rcases (show ar = 1 ∨ ar = 2 by omega) with e | e <;> subst e <;> simp at h1 <;> omega
 have HN := Lib.hid hN
 clear h hN
 go_enter Tryz.func96, Tryz.ntmps96
 go_wp2_with fail
 generalize hW : World.alloc (World.alloc w _) _ = W
 have hbW : Below w.heap.size w W := hW ▸ bAA
 have hsW : w.heap.size + 2 ≤ W.heap.size := by rw [← hW]; simp
 have r0 : W.cell? ⟨w.heap.size, 0, none⟩ = some (.int .i64 0) := by rw [← hW]; simp [go_sem]
 have r1 : W.cell? ⟨w.heap.size, 1, none⟩ = some (.slice none 0 0) := by rw [← hW]; simp [go_sem]
 have q0 : W.frozen? ⟨w.heap.size, 0, none⟩ = false := by rw [← hW]; simp [go_sem]
 have q1 : W.frozen? ⟨w.heap.size, 1, none⟩ = false := by rw [← hW]; simp [go_sem]
 have c0 : W.cell? ⟨w.heap.size + 1, 0, none⟩ = some (.int .i64 (ar : Int)) := by rw [← hW]; simp [go_sem]
 have c1 : W.cell? ⟨w.heap.size + 1, 1, none⟩ = some (.slice none 0 0) := by rw [← hW]; simp [go_sem]
 have m1 : W.frozen? ⟨w.heap.size + 1, 1, none⟩ = false := by rw [← hW]; simp [go_sem]
 have HSW := Lib.hid (H.out.below hbW)
 clear hW
 refine (pick_any W HSW.out hK0 (by omega) (n := 5) (by omega)).mono ?_
 rintro e w2 ⟨often, rfl, ho0, ho1, hs2, ht2⟩
 have hz2 := ht2.size
 replace r0 := (ht2.cell (i := 0) (show w.heap.size < W.heap.size by omega) (by omega)).trans r0
 replace r1 := (ht2.cell (i := 1) (show w.heap.size < W.heap.size by omega) (by omega)).trans r1
 replace q0 := (ht2.frozen (i := 0) (show w.heap.size < W.heap.size by omega) (by omega)).trans q0
 replace q1 := (ht2.frozen (i := 1) (show w.heap.size < W.heap.size by omega) (by omega)).trans q1
 replace c0 := (ht2.cell (i := 0) (show w.heap.size + 1 < W.heap.size by omega) (by omega)).trans c0
 replace c1 := (ht2.cell (i := 1) (show w.heap.size + 1 < W.heap.size by omega) (by omega)).trans c1
 replace m1 := (ht2.frozen (i := 1) (show w.heap.size + 1 < W.heap.size by omega) (by omega)).trans m1
 have HS2 := Lib.hid hs2
 have HT2 : Hid (TchP (fun q => q = sb) w w2) := (TchP.of_below hbW (fun q => q = sb)).then ht2 (fun q _ h => h)
 have HRQ := Lib.hid (And.intro r0 (And.intro r1 (And.intro q0 q1)))
 clear hs2 ht2 HSW r0 r1 q0 q1
 go_wp2_with (go_at_call 139; refine (l01Power_any _ s (ar : Int) (by omega) (by omega) (by omega)).mono ?_; rintro e w' ⟨rfl, rfl⟩; rw [Int.toNat_natCast, HN.out])
 go_loopw [10] (fun i wr => ∃ (k : Nat) (va : Value) (R : List (List Int)), k ≤ N ∧ i = .int .i64 k ∧ Bl intsT 38 (w.heap.size + 2) wr.heap.size wr va R ∧ DrW s ar k R ∧ wr.cell? ⟨w.heap.size + 1, 0, none⟩ = some (.int .i64 (ar : Int)) ∧ wr.cell? ⟨w.heap.size + 1, 1, none⟩ = some va ∧ wr.frozen? ⟨w.heap.size + 1, 1, none⟩ = false ∧ SrcR sb B (K + 1 + 2 * k) wr ∧ TchP (fun q => q = sb) w wr ∧ (∀ i, wr.cell? ⟨w.heap.size, i, none⟩ = w2.cell? ⟨w.heap.size, i, none⟩ ∧ wr.frozen? ⟨w.heap.size, i, none⟩ = w2.frozen? ⟨w.heap.size, i, none⟩)) (fun i _ => N - (intOf i).toNat)
 case atStart => exact ⟨0, _, _, Nat.zero_le _, rfl, Bl.nil, DrW.zero, c0, c1, m1, HS2.out.mono (by omega), HT2.out, fun i => ⟨rfl, rfl⟩⟩
 case round =>
  clear c0 c1 m1
  obtain ⟨k, va, R, hk, rfl, hBa, hdr, c0, c1, m1, hsr, htc, hrq⟩ := hrel
  have HB := Lib.hid hBa
  have HDR := Lib.hid hdr
  have HSR := Lib.hid hsr
  have HTC := Lib.hid htc
  have HRE := Lib.hid hrq
  have hRl := hdr.len
  have hw2 : w.heap.size + 1 < wr.heap.size := cell_lt c0
  obtain ⟨ga, gn, gc, rfl⟩ := ex_slice (hBa.fr (by unfold capMax; omega))
  obtain ⟨wv, rfl⟩ : ∃ wv : World, wv = wr := ⟨_, rfl⟩
  clear hBa hdr hsr htc hrq
  by_cases hkl : k < N
  ·go_wp2_with fail
   refine (pick_any wv HSR.out (by omega) (by omega) (n := 5) (by omega)).mono ?_
   rintro e w3 ⟨x, rfl, hx0, hx1, hs3, ht3⟩
   have hz3 := ht3.size
   replace c0 := (ht3.cell (i := 0) hw2 (by omega)).trans c0
   replace c1 := (ht3.cell (i := 1) hw2 (by omega)).trans c1
   replace m1 := (ht3.frozen (i := 1) hw2 (by omega)).trans m1
   have HB3 : Hid (Bl intsT 38 (w.heap.size + 2) w3.heap.size w3 (.slice ga gn gc) R) := (HB.out.sameB (fun q h1 h2 => ht3.block q h2 (by omega))).mono hz3
   have HR3 : Hid (∀ i, w3.cell? ⟨w.heap.size, i, none⟩ = w2.cell? ⟨w.heap.size, i, none⟩ ∧ w3.frozen? ⟨w.heap.size, i, none⟩ = w2.frozen? ⟨w.heap.size, i, none⟩) := fun i => ⟨(ht3.cell (by omega) (by omega)).trans (HRE.out i).1, (ht3.frozen (by omega) (by omega)).trans (HRE.out i).2⟩
   have HS3 := Lib.hid hs3
   have HT3 := Lib.hid (HTC.out.then ht3 (fun q _ h => h))
   have hw3 : w.heap.size + 1 < w3.heap.size := by omega
   clear hs3 ht3 HB HSR HTC HRE
   cases hq : decide (x ≤ often)
   ·go_wp2_with fail
    refine (one_any w3 HS3.out (by omega) (by omega) (n := 8) (by omega)).mono ?_
    rintro e w4 ⟨b, rfl, hs4, ht4⟩
    have hz4 := ht4.size
    replace c0 := (ht4.cell (i := 0) hw3 (by omega)).trans c0
    replace c1 := (ht4.cell (i := 1) hw3 (by omega)).trans c1
    replace m1 := (ht4.frozen (i := 1) hw3 (by omega)).trans m1
    have HB4 : Hid (Bl intsT 38 (w.heap.size + 2) w4.heap.size w4 (.slice ga gn gc) R) := (HB3.out.sameB (fun q h1 h2 => ht4.block q h2 (by omega))).mono hz4
    have HR4 : Hid (∀ i, w4.cell? ⟨w.heap.size, i, none⟩ = w2.cell? ⟨w.heap.size, i, none⟩ ∧ w4.frozen? ⟨w.heap.size, i, none⟩ = w2.frozen? ⟨w.heap.size, i, none⟩) := fun i => ⟨(ht4.cell (by omega) (by omega)).trans (HR3.out i).1, (ht4.frozen (by omega) (by omega)).trans (HR3.out i).2⟩
    have HS4 := Lib.hid hs4
    have HT4 := Lib.hid (HT3.out.then ht4 (fun q _ h => h))
    have hw4 : w.heap.size + 1 < w4.heap.size := by omega
    clear hs4 ht4 HB3 HS3 HT3 HR3
    cases b
    ·go_wp2_with fail
     go_roundw
     case rel => exact ⟨k + 1, _, _, by omega, by go_num, HB4.out, HDR.out.no, c0, c1, m1, HS4.out.mono (by omega), HT4.out, HR4.out⟩
     case measure => simp [intOf]; omega
    ·go_wp2_with fail
     refine wp_region_T (fun w' => w'.cell? ⟨w.heap.size + 1, 1, none⟩ = some (.slice ga gn gc)) [7] (by kernel_rfl) c1 (fun hHeld => ?_)
     refine wpAnyT_take (i := 0) (v := ?_) rfl (by kernel_rfl) (fun _ _ _ h => h) (Or.inl ⟨by rfl, ?_⟩) (by assumption) ?_
     rotate_left
     ·(intro w hSw; (try dsimp only at hSw); go_simp <;> with_reducible rfl)
     go_simp
     refine wpAnyT_take (i := 1) (v := ?_) rfl (by kernel_rfl) (fun _ _ _ h => h) (Or.inl ⟨by rfl, ?_⟩) (by assumption) ?_
     rotate_left
     ·(intro w hSw; (try dsimp only at hSw); go_simp <;> with_reducible rfl)
     go_simp
     refine wpAnyT_take (i := 2) (v := ?_) rfl (by kernel_rfl) (fun _ _ _ h => h) (Or.inl ⟨by rfl, ?_⟩) (by assumption) ?_
     rotate_left
     ·(intro w hSw; (try dsimp only at hSw); go_simp <;> with_reducible rfl)
     go_simp
     refine wpAnyT_take (i := 3) (v := ?_) rfl (by kernel_rfl) (fun _ _ _ h => h) (Or.inl ⟨by rfl, ?_⟩) (by assumption) ?_
     rotate_left
     ·(intro w hSw; (try dsimp only at hSw); go_simp <;> with_reducible rfl)
     go_simp
     refine wpAnyT_take (i := 4) (v := ?_) rfl (by kernel_rfl) (fun _ _ _ h => h) (Or.inl ⟨by rfl, ?_⟩) (by assumption) ?_
     rotate_left
     ·(intro w hSw; (try dsimp only at hSw); go_simp <;> with_reducible rfl)
     go_simp
     refine wpAnyT_one (i := 5) rfl (by kernel_rfl) (fun K hK => ?_)
     go_simp
     go_at_call 140
     refine (l01Digits_any _ s (k : Int) ar (by omega) (by omega) (by omega) (by omega) (by omega)).mono ?_
     rintro e w5 ⟨dv, rfl, hdf, hb5⟩
     obtain ⟨ad, nd, cd, rfl⟩ := ex_slice hdf
     have HDF := Lib.hid hdf
     have hb5' : Below w4.heap.size w4 w5 := bthen bD hb5
     have hz5 := hb5'.size
     replace c0 := (cellB hb5' (show w.heap.size + 1 < w4.heap.size by omega)).trans c0
     replace c1 := (cellB hb5' (show w.heap.size + 1 < w4.heap.size by omega)).trans c1
     replace m1 := (frozenB hb5' (show w.heap.size + 1 < w4.heap.size by omega)).trans m1
     clear hdf hb5
     dsimp only
     refine hK.out _ _ c1 (fun hHeld => ?_)
     clear hK K
     refine wpAnyT_one (i := 6) rfl (by kernel_rfl) (fun K hK => ?_)
     go_simp
     refine hK.out _ _ (by go_keep) (fun hHeld => ?_)
     clear hK K
     refine wpAnyT_last (i := 7) rfl (by kernel_rfl) (by kernel_rfl) (fun K hK => ?_)
     refine step_push (E := intsT) _ rfl _ _ 29 38 rfl elSS rfl (HB4.out.below (hb5'.alloc hz5 _) (Nat.le_refl _)) rfl news1 (HDF.out.below bA) (by omega) (by decide) (by omega) (by first | (simp; done) | (simp; omega)) ?_
     intro v6 w6 hB6 hg6 _
     obtain ⟨xa, xn, xc, rfl⟩ := ex_slice (hB6.fr (by rw [List.length_append]; unfold capMax; simp; omega))
     have hb6 : RowKit.Below (w.heap.size + 2) w4 w6 := ((hb5'.alloc hz5 _).mono (by omega)).grown hg6 (by first | (simp; done) | (simp; omega)) (fun q hq => HB4.out.own hq)
     have hb56 : RowKit.Below (w.heap.size + 2) w5 w6 := ((Below.refl _ w5).alloc (by omega) _).grown hg6 (by first | (simp; done) | (simp; omega)) (fun q hq => HB4.out.own hq)
     have HB6 := Lib.hid hB6
     replace c0 := (cellB hb56 (by omega)).trans c0
     replace c1 := (cellB hb56 (by omega)).trans c1
     replace m1 := (frozenB hb56 (by omega)).trans m1
     have HD6 := Lib.hid (HDR.out.yes)
     have HS6 := Lib.hid (srcB HS4.out (show sb < w.heap.size + 2 by omega) hb6)
     have HT6 := Lib.hid (tchB HT4.out hb6)
     have HR6 : Hid (∀ i, w6.cell? ⟨w.heap.size, i, none⟩ = w2.cell? ⟨w.heap.size, i, none⟩ ∧ w6.frozen? ⟨w.heap.size, i, none⟩ = w2.frozen? ⟨w.heap.size, i, none⟩) := fun i => ⟨(cellB hb6 (by omega)).trans (HR4.out i).1, (frozenB hb6 (by omega)).trans (HR4.out i).2⟩
     clear hB6 hg6 hb6 hb56
     refine hK.out _ _ ?_
     clear hK K
     refine wpAnyT_any (i := 8) (v := ?_) rfl (by kernel_rfl) (fun _ _ _ h => h) (Or.inl ⟨by rfl, ?_⟩) (by first | exact fun _ => by assumption | (intro hp; exact absurd hp (by rw [show pastB _ _ = true by kernel_rfl]; simp))) ?_
     rotate_left
     ·(intro w hSw; (try dsimp only at hSw); go_simp <;> with_reducible rfl)
     try simp only [Act.put]
     refine wpAnyT_last (i := 9) rfl (by kernel_rfl) (by kernel_rfl) (fun K hK => ?_)
     go_simp
     refine hK.out _ _ ?_
     clear hK K
     refine wpAnyT_done (by kernel_rfl) ?_ _
     go_simp
     go_wp2_with fail
     go_roundw
     case rel => exact ⟨k + 1, _, _, by omega, by go_num, by rw [size_set]; exact HB6.out.sameB (fun q h1 h2 => Below.heap_setCell _ _ _ _ (by simp; omega)), HD6.out, (World.cell?_setCell_other _ _ _ _ (by simp)).trans c0, World.cell?_setCell_same _ _ _ c1, (World.frozen?_setCell _ _ _ _).trans m1, (HS6.out.tch (TchP.set (O := fun q => q = w.heap.size + 1) rfl) (by omega) (by omega)).mono (by omega), tchS HT6.out (by omega), fun i => ⟨(World.cell?_setCell_other _ _ _ _ (by simp)).trans (HR6.out i).1, (World.frozen?_setCell _ _ _ _).trans (HR6.out i).2⟩⟩
     case measure => simp [intOf]; omega
   ·skip
    go_wp2_with fail
    refine wp_region_T (fun w' => w'.cell? ⟨w.heap.size + 1, 1, none⟩ = some (.slice ga gn gc)) [7] (by kernel_rfl) c1 (fun hHeld => ?_)
    refine wpAnyT_take (i := 0) (v := ?_) rfl (by kernel_rfl) (fun _ _ _ h => h) (Or.inl ⟨by rfl, ?_⟩) (by assumption) ?_
    rotate_left
    ·(intro w hSw; (try dsimp only at hSw); go_simp <;> with_reducible rfl)
    go_simp
    refine wpAnyT_take (i := 1) (v := ?_) rfl (by kernel_rfl) (fun _ _ _ h => h) (Or.inl ⟨by rfl, ?_⟩) (by assumption) ?_
    rotate_left
    ·(intro w hSw; (try dsimp only at hSw); go_simp <;> with_reducible rfl)
    go_simp
    refine wpAnyT_take (i := 2) (v := ?_) rfl (by kernel_rfl) (fun _ _ _ h => h) (Or.inl ⟨by rfl, ?_⟩) (by assumption) ?_
    rotate_left
    ·(intro w hSw; (try dsimp only at hSw); go_simp <;> with_reducible rfl)
    go_simp
    refine wpAnyT_take (i := 3) (v := ?_) rfl (by kernel_rfl) (fun _ _ _ h => h) (Or.inl ⟨by rfl, ?_⟩) (by assumption) ?_
    rotate_left
    ·(intro w hSw; (try dsimp only at hSw); go_simp <;> with_reducible rfl)
    go_simp
    refine wpAnyT_take (i := 4) (v := ?_) rfl (by kernel_rfl) (fun _ _ _ h => h) (Or.inl ⟨by rfl, ?_⟩) (by assumption) ?_
    rotate_left
    ·(intro w hSw; (try dsimp only at hSw); go_simp <;> with_reducible rfl)
    go_simp
    refine wpAnyT_one (i := 5) rfl (by kernel_rfl) (fun K hK => ?_)
    go_simp
    go_at_call 140
    refine (l01Digits_any _ s (k : Int) ar (by omega) (by omega) (by omega) (by omega) (by omega)).mono ?_
    rintro e w5 ⟨dv, rfl, hdf, hb5⟩
    obtain ⟨ad, nd, cd, rfl⟩ := ex_slice hdf
    have HDF := Lib.hid hdf
    have hb5' : Below w3.heap.size w3 w5 := bthen bD hb5
    have hz5 := hb5'.size
    replace c0 := (cellB hb5' (show w.heap.size + 1 < w3.heap.size by omega)).trans c0
    replace c1 := (cellB hb5' (show w.heap.size + 1 < w3.heap.size by omega)).trans c1
    replace m1 := (frozenB hb5' (show w.heap.size + 1 < w3.heap.size by omega)).trans m1
    clear hdf hb5
    dsimp only
    refine hK.out _ _ c1 (fun hHeld => ?_)
    clear hK K
    refine wpAnyT_one (i := 6) rfl (by kernel_rfl) (fun K hK => ?_)
    go_simp
    refine hK.out _ _ (by go_keep) (fun hHeld => ?_)
    clear hK K
    refine wpAnyT_last (i := 7) rfl (by kernel_rfl) (by kernel_rfl) (fun K hK => ?_)
    refine step_push (E := intsT) _ rfl _ _ 29 38 rfl elSS rfl (HB3.out.below (hb5'.alloc hz5 _) (Nat.le_refl _)) rfl news1 (HDF.out.below bA) (by omega) (by decide) (by omega) (by first | (simp; done) | (simp; omega)) ?_
    intro v6 w6 hB6 hg6 _
    obtain ⟨xa, xn, xc, rfl⟩ := ex_slice (hB6.fr (by rw [List.length_append]; unfold capMax; simp; omega))
    have hb6 : RowKit.Below (w.heap.size + 2) w3 w6 := ((hb5'.alloc hz5 _).mono (by omega)).grown hg6 (by first | (simp; done) | (simp; omega)) (fun q hq => HB3.out.own hq)
    have hb56 : RowKit.Below (w.heap.size + 2) w5 w6 := ((Below.refl _ w5).alloc (by omega) _).grown hg6 (by first | (simp; done) | (simp; omega)) (fun q hq => HB3.out.own hq)
    have HB6 := Lib.hid hB6
    replace c0 := (cellB hb56 (by omega)).trans c0
    replace c1 := (cellB hb56 (by omega)).trans c1
    replace m1 := (frozenB hb56 (by omega)).trans m1
    have HD6 := Lib.hid (HDR.out.yes)
    have HS6 := Lib.hid (srcB HS3.out (show sb < w.heap.size + 2 by omega) hb6)
    have HT6 := Lib.hid (tchB HT3.out hb6)
    have HR6 : Hid (∀ i, w6.cell? ⟨w.heap.size, i, none⟩ = w2.cell? ⟨w.heap.size, i, none⟩ ∧ w6.frozen? ⟨w.heap.size, i, none⟩ = w2.frozen? ⟨w.heap.size, i, none⟩) := fun i => ⟨(cellB hb6 (by omega)).trans (HR3.out i).1, (frozenB hb6 (by omega)).trans (HR3.out i).2⟩
    clear hB6 hg6 hb6 hb56
    refine hK.out _ _ ?_
    clear hK K
    refine wpAnyT_any (i := 8) (v := ?_) rfl (by kernel_rfl) (fun _ _ _ h => h) (Or.inl ⟨by rfl, ?_⟩) (by first | exact fun _ => by assumption | (intro hp; exact absurd hp (by rw [show pastB _ _ = true by kernel_rfl]; simp))) ?_
    rotate_left
    ·(intro w hSw; (try dsimp only at hSw); go_simp <;> with_reducible rfl)
    try simp only [Act.put]
    refine wpAnyT_last (i := 9) rfl (by kernel_rfl) (by kernel_rfl) (fun K hK => ?_)
    go_simp
    refine hK.out _ _ ?_
    clear hK K
    refine wpAnyT_done (by kernel_rfl) ?_ _
    go_simp
    go_wp2_with fail
    go_roundw
    case rel => exact ⟨k + 1, _, _, by omega, by go_num, by rw [size_set]; exact HB6.out.sameB (fun q h1 h2 => Below.heap_setCell _ _ _ _ (by simp; omega)), HD6.out, (World.cell?_setCell_other _ _ _ _ (by simp)).trans c0, World.cell?_setCell_same _ _ _ c1, (World.frozen?_setCell _ _ _ _).trans m1, (HS6.out.tch (TchP.set (O := fun q => q = w.heap.size + 1) rfl) (by omega) (by omega)).mono (by omega), tchS HT6.out (by omega), fun i => ⟨(World.cell?_setCell_other _ _ _ _ (by simp)).trans (HR6.out i).1, (World.frozen?_setCell _ _ _ _).trans (HR6.out i).2⟩⟩
    case measure => simp [intOf]; omega
  ·obtain rfl : k = N := by omega
   have r0 := (HRE.out 0).1.trans HRQ.out.1
   have r1 := (HRE.out 1).1.trans HRQ.out.2.1
   have q0 := (HRE.out 0).2.trans HRQ.out.2.2.1
   have q1 := (HRE.out 1).2.trans HRQ.out.2.2.2
   have hw0 : w.heap.size < wv.heap.size := by omega
   have HOK : Hid (relOk s ((ar : Int), R)) := HDR.out.ok (by unfold sizeOk; omega) (by omega) (by have := HN.out; omega)
   have HFR := Lib.hid (HB.out.fr (by unfold capMax; omega))
   have hIa : I64 (ar : Int) := I64.small (by omega) (by omega)
   obtain ⟨g0, g1⟩ := set2_cells (x := .int .i64 (ar : Int)) (y := .slice ga gn gc) r0 r1
   have HFF : Hid (relT.Fr w.heap.size ((wv.setCell ⟨w.heap.size, 0, none⟩ (.int .i64 (ar : Int))).setCell ⟨w.heap.size, 1, none⟩ (.slice ga gn gc)) [.int .i64 (ar : Int), .slice ga gn gc] ((ar : Int), R)) := fr_cons hIa (((HFR.out.set (by simp)).set (by simp)).mono (by omega))
   have HTT : Hid (TchP (fun q => q = sb) w ((wv.setCell ⟨w.heap.size, 0, none⟩ (.int .i64 (ar : Int))).setCell ⟨w.heap.size, 1, none⟩ (.slice ga gn gc))) := tchS (tchS HTC.out (Nat.le_refl _)) (Nat.le_refl _)
   have HSS : Hid (SrcR sb B (K + 33) ((wv.setCell ⟨w.heap.size, 0, none⟩ (.int .i64 (ar : Int))).setCell ⟨w.heap.size, 1, none⟩ (.slice ga gn gc))) := ((HSR.out.tch (TchP.set (O := fun q => q = w.heap.size) rfl) (by omega) (by omega)).tch (TchP.set (O := fun q => q = w.heap.size) rfl) (by omega) (by omega)).mono (by omega)
   clear HB HFR
   go_wp2_with fail
   refine bodyPost_ret (v := .agg #[.int .i64 (ar : Int), .slice ga gn gc]) (by simp [results, Tryz.results96, go_sem, g0, g1]) rfl ⟨[.int .i64 (ar : Int), .slice ga gn gc], ((ar : Int), R), rfl, HFF.out, HOK.out, rfl, HSS.out, HTT.out⟩
end Go.Proofs.YtajmjfbejfiipaaGreat
namespace Go.Proofs.YtajmjfbejfiipaaGreat
open Go.RowKit Go.Sort
theorem relOk_take {s ar : Int} {R : List (List Int)} (h : relOk s (ar, R)) (n : Nat) : relOk s (ar, R.take n) := by
 obtain ⟨h1, h2, h3⟩ := h
 refine ⟨h1, h2, fun i hi => ?_⟩
 have hi' : i < R.length := by have : (R.take n).length ≤ R.length := by rw [List.length_take]; omega
                               exact Nat.lt_of_lt_of_le hi this
 obtain ⟨h4, h5⟩ := h3 i hi'
 refine ⟨?_, fun h0 => ?_⟩
 ·show rowOk s ar ((R.take n)[i]'hi)
  rw [List.getElem_take]; exact h4
 ·show ltL ((R.take n)[i - 1]'(by have : i < (R.take n).length := hi; omega)) ((R.take n)[i]'hi)
  rw [List.getElem_take, List.getElem_take]; exact h5 h0
theorem fr_take {α : Type} {E : Ty α} {base : Nat} {w : World} {ad : Option Addr} {n cap k : Nat} {xs : List α} (h : (Ty.slice E).Fr base w [.slice ad n cap] xs) (h0 : 0 < k) (hk : k ≤ xs.length) : (Ty.slice E).Fr base w [.slice ad k cap] (xs.take k) := by
 obtain ⟨fp, ⟨ad', cap', hv, h1, h2, h3⟩, h4, h5, h6⟩ := h
 simp only [List.cons.injEq, Value.slice.injEq, and_true] at hv
 obtain ⟨rfl, -, rfl⟩ := hv
 have hl : (xs.take k).length = k := List.length_take_of_le hk
 rcases h3 with ⟨h3, -⟩ | ⟨h3, b, o, fps, rfl, hb, rfl, h7⟩
 ·omega
 ·have hsub : ∀ q, q ∈ b :: (List.range k).flatMap fps → q ∈ b :: (List.range xs.length).flatMap fps := fun q hq => by
   rcases List.mem_cons.1 hq with rfl | hq
   ·exact List.mem_cons_self ..
   ·obtain ⟨i, hi, hq⟩ := List.mem_flatMap.1 hq
    exact List.mem_cons_of_mem _ (List.mem_flatMap.2 ⟨i, by simp at hi ⊢; omega, hq⟩)
  refine ⟨b :: (List.range k).flatMap fps, ⟨_, _, by rw [hl], by rw [hl]; omega, by rw [hl]; omega, .inr ⟨by rw [hl]; exact h0, b, o, fps, rfl, hb, by rw [hl], fun i hi => ?_⟩⟩, ?_, fun q hq => h5 q (hsub q hq), fun q hq => h6 q (hsub q hq)⟩
  ·rw [hl] at hi
   have := h7 i (by omega)
   rw [List.getElem_take]
   exact this
  ·have hsl : ((List.range k).flatMap fps).Sublist ((List.range xs.length).flatMap fps) := by
    have h8 : List.range k = (List.range xs.length).take k := by rw [List.take_range, Nat.min_eq_left hk]
    rw [h8]
    conv => rhs; rw [← List.take_append_drop k (List.range xs.length), List.flatMap_append]
    exact List.sublist_append_left _ _
   exact h4.sublist (hsl.cons_cons b)
/-- a drawn template comes back -/
def TpR (sb B : Nat) (K : Int) (w : World) (e : Ending) (w' : World) : Prop := ∃ (cs : List Value) (t : Tpl), e = .returned (.agg cs.toArray) ∧ tplT.Fr w.heap.size w' cs t ∧ tplOk t ∧ t.1 ≤ 3 ∧ SrcR sb B K w' ∧ TchP (fun q => q = sb) w w'
end Go.Proofs.YtajmjfbejfiipaaGreat
namespace Go.Proofs.YtajmjfbejfiipaaGreat
open Go.RowKit Go.Sort
theorem rdP_fr' {α : Type} {E : Ty α} {w : World} {b base : Nat} {cs : List Value} {x : α} (h : E.Fr base w cs x) (hb : b < base) : E.RdP (fun k => k ≠ b) w cs x := let ⟨fp, h1, _, h3, _⟩ := h; ⟨fp, h1, fun k hk e => by have := h3 k hk; omega⟩
theorem fr_ints4 {base : Nat} {w : World} {a b c d : Int} {e : TypeId} {g : Nat} (ha : I64 a) (hb : I64 b) (hc : I64 c) (hd : I64 d) (hg : w.heap.size = g) (hbs : base ≤ g) : intsT.Fr base (w.alloc (.cells #[.int .i64 a, .int .i64 b, .int .i64 c, .int .i64 d] e)) [.slice (some ⟨g, 0, none⟩) 4 4] [a, b, c, d] := by
 subst hg
 refine IR.fr (e := e) ⟨rfl, ?_, hbs, World.ownsRow_lit w #[.int .i64 a, .int .i64 b, .int .i64 c, .int .i64 d] 4 hbs (by decide) (by rfl)⟩ (by decide)
 intro x hx
 simp at hx
 rcases hx with rfl | rfl | rfl | rfl
 ·exact ha
 ·exact hb
 ·exact hc
 ·exact hd
/-- new data that avoid a block -/
def FrA {α : Type} (E : Ty α) (g base : Nat) (w : World) (cs : List Value) (x : α) : Prop := ∃ fp, E.rd w cs x fp ∧ fp.Nodup ∧ (∀ b ∈ fp, base ≤ b) ∧ Unf w fp ∧ g ∉ fp
section
variable {α : Type} {E : Ty α} {g base : Nat} {w w' : World} {cs : List Value} {x : α}
theorem FrA.fr (h : FrA E g base w cs x) : E.Fr base w cs x := let ⟨fp, h1, h2, h3, h4, _⟩ := h; ⟨fp, h1, h2, h3, h4⟩
theorem FrA.lo (h : E.Fr base w cs x) (hg : g < base) : FrA E g base w cs x := let ⟨fp, h1, h2, h3, h4⟩ := h; ⟨fp, h1, h2, h3, h4, fun hm => by have := h3 g hm; omega⟩
theorem FrA.hi (h : E.Fr base w cs x) (hg : w.heap.size ≤ g) : FrA E g base w cs x := let ⟨fp, h1, h2, h3, h4⟩ := h; ⟨fp, h1, h2, h3, h4, fun hm => by have := E.lt h1 g hm; omega⟩
theorem FrA.same (h : FrA E g base w cs x) (hs : ∀ k, k < w.heap.size → k ≠ g → w'.heap[k]? = w.heap[k]?) : FrA E g base w' cs x := by
 obtain ⟨fp, h1, h2, h3, h4, h5⟩ := h
 have hs' : Same fp w w' := fun k hk => hs k (E.lt h1 k hk) (fun e => h5 (e ▸ hk))
 exact ⟨fp, E.same h1 hs', h2, h3, h4.same hs', h5⟩
theorem FrA.set (h : FrA E g base w cs x) {i : Nat} {u : Value} : FrA E g base (w.setCell ⟨g, i, none⟩ u) cs x := h.same (fun k _ hn => Below.heap_setCell _ _ _ _ (fun e => hn (by simpa using e)))
theorem FrA.below (h : FrA E g base w cs x) (hb : Below w.heap.size w w') : FrA E g base w' cs x := h.same (fun k hk _ => hb.block k hk)
theorem FrA.mono {base' : Nat} (h : FrA E g base w cs x) (hb : base' ≤ base) : FrA E g base' w cs x := let ⟨fp, h1, h2, h3, h4, h5⟩ := h; ⟨fp, h1, h2, fun b hm => Nat.le_trans hb (h3 b hm), h4, h5⟩
end
/-- a relation lies in a box of its own -/
def BoxR (sb B wv : Nat) (K s : Int) (w0 : World) (v : Value) (w : World) : Prop := ∃ (g : Nat) (ga : Option Addr) (gc : Nat) (r : Int × List (List Int)), v = .pointer (some ⟨g, 0, none⟩) ∧ wv ≤ g ∧ w.cell? ⟨g, 0, none⟩ = some (.int .i64 r.1) ∧ w.cell? ⟨g, 1, none⟩ = some (.slice ga r.2.length gc) ∧ w.frozen? ⟨g, 1, none⟩ = false ∧ relOk s r ∧ I64 r.1 ∧ FrA rowsT g wv w [.slice ga r.2.length gc] r.2 ∧ SrcR sb B K w ∧ TchP (fun q => q = sb) w0 w
theorem fr_parts {base : Nat} {w : World} {cs : List Value} {x : Int × List (List Int)} (h : relT.Fr base w cs x) : ∃ ad cap, cs = [.int .i64 x.1, .slice ad x.2.length cap] ∧ I64 x.1 ∧ rowsT.Fr base w [.slice ad x.2.length cap] x.2 := by
 obtain ⟨ad, cap, rfl⟩ := fr_pair h
 obtain ⟨fp, ⟨cs', hv, h0, h1⟩, h2, h3, h4⟩ := h
 have hv := (List.cons.inj hv).2.symm
 subst hv
 exact ⟨ad, cap, rfl, h0, fp, h1, h2, h3, h4⟩
theorem box_mk {sb B wv : Nat} {K s : Int} {w0 y : World} {g : Nat} {ga : Option Addr} {gc : Nat} {r : Int × List (List Int)} {u0 u1 : Value} (h0 : y.cell? ⟨g, 0, none⟩ = some u0) (h1 : y.cell? ⟨g, 1, none⟩ = some u1) (hm : y.frozen? ⟨g, 1, none⟩ = false)
  (hg : wv ≤ g) (hg0 : w0.heap.size ≤ g) (hok : relOk s r) (hI : I64 r.1) (hf : FrA rowsT g wv y [.slice ga r.2.length gc] r.2) (hs : SrcR sb B K y) (hB : B ≤ sb) (hsb : sb < g) (ht : TchP (fun q => q = sb) w0 y) :
  BoxR sb B wv K s w0 (.pointer (some ⟨g, 0, none⟩)) ((y.setCell ⟨g, 0, none⟩ (.int .i64 r.1)).setCell ⟨g, 1, none⟩ (.slice ga r.2.length gc)) := by
 obtain ⟨g0, g1⟩ := set2_cells (x := .int .i64 r.1) (y := .slice ga r.2.length gc) h0 h1
 exact ⟨g, ga, gc, r, rfl, hg, g0, g1, (World.frozen?_setCell _ _ _ _).trans ((World.frozen?_setCell _ _ _ _).trans hm), hok, hI, hf.set.set, (hs.tch (TchP.set (O := fun q => q = g) rfl) (by omega) (by omega)).tch (TchP.set (O := fun q => q = g) rfl) (by omega) (by omega), tchS (tchS ht hg0) hg0⟩
set_option maxHeartbeats 64000000 in
set_option maxRecDepth 100000 in
theorem l04Small_any (w : World) {sb B : Nat} {K : Int} (h : SrcR sb B K w) (hK0 : 0 ≤ K) (hK : K ≤ 100000) :
  Calls Tryz.prog 45 #[.pointer (some ⟨sb, 0, none⟩)] w (TpR sb B (K + 100) w) := by
 have H := Lib.hid h
 have hsb := h.lt
 have hBs : B ≤ sb := let ⟨_, _, _, _, _, _, _, _, _, _, _, _, _, _, h⟩ := h; h
 clear h
 go_enter Tryz.func45, Tryz.ntmps45
 go_wp2_with fail
 generalize hW : World.alloc (World.alloc w _) _ = W
 have hbW : Below w.heap.size w W := hW ▸ bAA
 have hsW : W.heap.size = w.heap.size + 2 := by rw [← hW]; simp
 have r0 : W.cell? ⟨w.heap.size, 0, none⟩ = some (.int .i64 0) := by rw [← hW]; simp [go_sem]
 have r1 : W.cell? ⟨w.heap.size, 1, none⟩ = some (.slice none 0 0) := by rw [← hW]; simp [go_sem]
 have q0 : W.frozen? ⟨w.heap.size, 0, none⟩ = false := by rw [← hW]; simp [go_sem]
 have q1 : W.frozen? ⟨w.heap.size, 1, none⟩ = false := by rw [← hW]; simp [go_sem]
 have HL : Hid (intsT.Fr (w.heap.size + 1) W [.slice (some ⟨w.heap.size + 1, 0, none⟩) 4 4] [2, 2, 2, 3]) := by rw [← hW]; exact fr_ints4 (I64.small (by omega) (by omega)) (I64.small (by omega) (by omega)) (I64.small (by omega) (by omega)) (I64.small (by omega) (by omega)) (by simp) (Nat.le_refl _)
 have HSW := Lib.hid (H.out.below hbW)
 clear hW
 refine (among_any W HSW.out hK0 (by omega) HL.out.rd (by simp) (rdP_fr' HL.out (by omega))).mono ?_
 rintro e w2 ⟨s, hs, rfl, hs2, ht2⟩
 have hsx : 2 ≤ s ∧ s ≤ 3 := by simp at hs; omega
 have hz2 := ht2.size
 replace r0 := (ht2.cell (i := 0) (show w.heap.size < W.heap.size by omega) (by omega)).trans r0
 replace r1 := (ht2.cell (i := 1) (show w.heap.size < W.heap.size by omega) (by omega)).trans r1
 replace q0 := (ht2.frozen (i := 0) (show w.heap.size < W.heap.size by omega) (by omega)).trans q0
 replace q1 := (ht2.frozen (i := 1) (show w.heap.size < W.heap.size by omega) (by omega)).trans q1
 have HS2 := Lib.hid hs2
 have HT2 : Hid (TchP (fun q => q = sb) w w2) := (TchP.of_below hbW (fun q => q = sb)).then ht2 (fun q _ h => h)
 clear hs hs2 ht2 HSW HL
 go_wp2_with fail
 generalize hW3 : World.alloc w2 _ = W3
 have hb3 : Below w2.heap.size w2 W3 := hW3 ▸ bA
 have hsW3 : W3.heap.size = w2.heap.size + 1 := by rw [← hW3]; simp
 have c0 : W3.cell? ⟨w2.heap.size, 0, none⟩ = some (.int .i64 s) := by rw [← hW3]; simp [go_sem]
 have c1 : W3.cell? ⟨w2.heap.size, 1, none⟩ = some (.slice none 0 0) := by rw [← hW3]; simp [go_sem]
 have m1 : W3.frozen? ⟨w2.heap.size, 1, none⟩ = false := by rw [← hW3]; simp [go_sem]
 clear hW3
 have hR3 : ∀ i, W3.cell? ⟨w.heap.size, i, none⟩ = w2.cell? ⟨w.heap.size, i, none⟩ ∧ W3.frozen? ⟨w.heap.size, i, none⟩ = w2.frozen? ⟨w.heap.size, i, none⟩ := fun i => ⟨cellB hb3 (by omega), frozenB hb3 (by omega)⟩
 have HS3 := Lib.hid (HS2.out.below hb3)
 have HT3 : Hid (TchP (fun q => q = sb) w W3) := HT2.out.then (TchP.of_below hb3 (fun q => q = sb)) (fun q _ h => h)
 clear HS2 HT2
 refine (pick_any W3 HS3.out (by omega) (by omega) (n := 2) (by omega)).mono ?_
 rintro e w4 ⟨x, rfl, hx0, hx1, hs4, ht4⟩
 have hz4 := ht4.size
 replace c0 := (ht4.cell (i := 0) (show w2.heap.size < W3.heap.size by omega) (by omega)).trans c0
 replace c1 := (ht4.cell (i := 1) (show w2.heap.size < W3.heap.size by omega) (by omega)).trans c1
 replace m1 := (ht4.frozen (i := 1) (show w2.heap.size < W3.heap.size by omega) (by omega)).trans m1
 have HR4 : Hid (∀ i, w4.cell? ⟨w.heap.size, i, none⟩ = w2.cell? ⟨w.heap.size, i, none⟩ ∧ w4.frozen? ⟨w.heap.size, i, none⟩ = w2.frozen? ⟨w.heap.size, i, none⟩) := fun i => ⟨(ht4.cell (by omega) (by omega)).trans (hR3 i).1, (ht4.frozen (by omega) (by omega)).trans (hR3 i).2⟩
 have HRQ := Lib.hid (And.intro r0 (And.intro r1 (And.intro q0 q1)))
 have HS4 := Lib.hid hs4
 have HT4 := Lib.hid (HT3.out.then ht4 (fun q _ h => h))
 obtain ⟨n, hn⟩ : ∃ n : Nat, 1 + x = (n : Int) := ⟨(1 + x).toNat, by omega⟩
 clear hs4 ht4 HS3 HT3 r0 r1 q0 q1 hR3
 go_wp2_with fail
 go_loopg [4] n (fun g i wr => ∃ (k : Nat) (va : Value) (T : List (Int × List (List Int))), k = g ∧ k ≤ 2 ∧ i = .int .i64 k ∧ T.length + k ≤ 2 ∧ Bl relT 32 (w2.heap.size + 1) wr.heap.size wr va T ∧ (∀ r ∈ T, relOk s r) ∧ wr.cell? ⟨w2.heap.size, 0, none⟩ = some (.int .i64 s) ∧ wr.cell? ⟨w2.heap.size, 1, none⟩ = some va ∧ wr.frozen? ⟨w2.heap.size, 1, none⟩ = false ∧ SrcR sb B (K + 2 + 40 * (2 - (k : Int))) wr ∧ TchP (fun q => q = sb) w wr ∧ (∀ i, wr.cell? ⟨w.heap.size, i, none⟩ = w2.cell? ⟨w.heap.size, i, none⟩ ∧ wr.frozen? ⟨w.heap.size, i, none⟩ = w2.frozen? ⟨w.heap.size, i, none⟩))
 case atStart => exact ⟨n, _, [], rfl, by omega, rfl, by simp; omega, Bl.nil, by simp, c0, c1, m1, HS4.out.mono (by omega), HT4.out, HR4.out⟩
 case round =>
  clear c0 c1 m1
  obtain ⟨k, va, T, rfl, hk, rfl, hTl, hBa, hok, c0, c1, m1, hsr, htc, hrq⟩ := hrel
  have HB := Lib.hid hBa
  have HOK := Lib.hid hok
  have HSR := Lib.hid hsr
  have HTC := Lib.hid htc
  have HRE := Lib.hid hrq
  have hw2 : w2.heap.size < wr.heap.size := cell_lt c0
  obtain ⟨ta, tn, tc, rfl⟩ := ex_slice (hBa.fr (by unfold capMax; omega))
  obtain ⟨wv, rfl⟩ : ∃ wv : World, wv = wr := ⟨_, rfl⟩
  clear hBa hok hsr htc hrq
  by_cases hkl : 0 < k
  ·go_wp2_with fail
   go_cut [5] from 13 to 37 (fun v5 wx => BoxR sb B wv.heap.size (K + 2 + 40 * (2 - (k : Int)) + 34) s wv v5 wx)
   case rest =>
    obtain ⟨g, ga, gc, r, rfl, hgv, g0, g1, gm, hRok, hI, hFA, hsx2, htx⟩ := hcut
    have hzx := htx.size
    replace c0 := (htx.cell (i := 0) hw2 (by omega)).trans c0
    replace c1 := (htx.cell (i := 1) hw2 (by omega)).trans c1
    replace m1 := (htx.frozen (i := 1) hw2 (by omega)).trans m1
    have HBx : Hid (Bl relT 32 (w2.heap.size + 1) wv.heap.size wc (.slice ta tn tc) T) := HB.out.sameB (fun q h1 h2 => htx.block q h2 (by omega))
    have HRx : Hid (∀ i, wc.cell? ⟨w.heap.size, i, none⟩ = w2.cell? ⟨w.heap.size, i, none⟩ ∧ wc.frozen? ⟨w.heap.size, i, none⟩ = w2.frozen? ⟨w.heap.size, i, none⟩) := fun i => ⟨(htx.cell (by omega) (by omega)).trans (HRE.out i).1, (htx.frozen (by omega) (by omega)).trans (HRE.out i).2⟩
    have HSx := Lib.hid hsx2
    have HTx := Lib.hid (HTC.out.then htx (fun q _ h => h))
    have HFA := Lib.hid hFA
    have HRK := Lib.hid hRok
    have hgx : g < wc.heap.size := cell_lt g0
    clear hsx2 htx hFA hRok HB HRE HSR HTC
    obtain ⟨_, _, hvc, hcap, -, -⟩ := Ty.slice_ex HFA.out.fr.rd
    simp only [List.cons.injEq, Value.slice.injEq, and_true, true_and] at hvc
    obtain ⟨rfl, rfl⟩ := hvc
    rcases Nat.lt_or_ge 4 r.2.length with hlen | hlen
    ·have hlB : decide ((4 : Int) < (r.2.length : Int)) = true := by simp; omega
     go_upto_region 8 with fail
     generalize hW7 : World.setCell wc _ _ = w7
     have hs7 : wc.heap.size ≤ w7.heap.size := by rw [← hW7, size_set]; exact Nat.le_refl _
     replace c0 : w7.cell? ⟨w2.heap.size, 0, none⟩ = some (.int .i64 s) := by rw [← hW7]; exact (World.cell?_setCell_other _ _ _ _ (by first | (simp; done) | (simp; omega))).trans c0
     replace c1 : w7.cell? ⟨w2.heap.size, 1, none⟩ = some (.slice ta tn tc) := by rw [← hW7]; exact (World.cell?_setCell_other _ _ _ _ (by first | (simp; done) | (simp; omega))).trans c1
     replace m1 : w7.frozen? ⟨w2.heap.size, 1, none⟩ = false := by rw [← hW7]; exact (World.frozen?_setCell _ _ _ _).trans m1
     replace g0 : w7.cell? ⟨g, 0, none⟩ = some (.int .i64 r.1) := by rw [← hW7]; exact (World.cell?_setCell_other _ _ _ _ (by simp)).trans g0
     replace g1 : w7.cell? ⟨g, 1, none⟩ = some (.slice ga 4 gc) := by rw [← hW7]; exact World.cell?_setCell_same _ _ _ g1
     have HB7 : Hid (Bl relT 32 (w2.heap.size + 1) wv.heap.size w7 (.slice ta tn tc) T) := by rw [← hW7]; exact HBx.out.sameB (fun q h1 h2 => Below.heap_setCell _ _ _ _ (by simp; omega))
     have HF7 : Hid (relT.Fr wv.heap.size w7 [.int .i64 r.1, .slice ga 4 gc] (r.1, r.2.take 4)) := by rw [← hW7]; exact fr_cons hI (fr_take HFA.out.set.fr (by omega) (by omega))
     have HK7 : Hid (relOk s (r.1, r.2.take 4)) := relOk_take HRK.out 4
     have HS7 : Hid (SrcR sb B (K + 2 + 40 * (2 - (k : Int)) + 34) w7) := by rw [← hW7]; exact HSx.out.tch (TchP.set (O := fun q => q = g) rfl) (by omega) (by omega)
     have HT7 : Hid (TchP (fun q => q = sb) w w7) := by rw [← hW7]; exact tchS HTx.out (by omega)
     have HR7 : Hid (∀ i, w7.cell? ⟨w.heap.size, i, none⟩ = w2.cell? ⟨w.heap.size, i, none⟩ ∧ w7.frozen? ⟨w.heap.size, i, none⟩ = w2.frozen? ⟨w.heap.size, i, none⟩) := by rw [← hW7]; exact fun i => ⟨(World.cell?_setCell_other _ _ _ _ (by first | (simp; done) | (simp; omega))).trans (HRx.out i).1, (World.frozen?_setCell _ _ _ _).trans (HRx.out i).2⟩
     clear hW7 HBx HFA HSx HTx HRx
     go_wp2_with (refine wpList_push (E := relT) _ rfl _ _ 24 32 rfl elRelS rfl (HB7.out.below ((bA (w := w7)).mono (by omega)) (Nat.le_refl _)) rfl news2 ((HF7.out.below bA).mono (by omega)) (by omega) (by decide) (by omega) (by first | (simp; done) | (simp; omega)) ?_; intro v5 w5 hB5 hg5 hown; obtain ⟨a5, n5, c5, rfl⟩ := ex_slice (hB5.fr (by rw [List.length_append]; unfold capMax; simp only [List.length_singleton]; omega)); have hb5 : Below (w2.heap.size + 1) w7 w5 := ((bA (w := w7)).mono (by omega)).grown hg5 (by first | (simp; done) | (simp; omega)) (fun q hq => HB7.out.own hq); have i0 := (cellB hb5 (by omega)).trans c0; have i1 := (cellB hb5 (by omega)).trans c1; have im := (frozenB hb5 (by omega)).trans m1)
     have hz5 := hb5.size
     have HB5 := Lib.hid hB5
     have HS5 := Lib.hid (srcB HS7.out (show sb < w2.heap.size + 1 by omega) hb5)
     have HT5 := Lib.hid (tchB HT7.out (hb5.mono (by omega)))
     have HR5 : Hid (∀ i, w5.cell? ⟨w.heap.size, i, none⟩ = w2.cell? ⟨w.heap.size, i, none⟩ ∧ w5.frozen? ⟨w.heap.size, i, none⟩ = w2.frozen? ⟨w.heap.size, i, none⟩) := fun i => ⟨(cellB hb5 (by omega)).trans (HR7.out i).1, (frozenB hb5 (by omega)).trans (HR7.out i).2⟩
     clear hB5 hg5 hown
     go_wp2_with fail
     obtain ⟨k', rfl⟩ : ∃ k', k = k' + 1 := ⟨k - 1, by omega⟩
     go_roundg k'
     case measure => omega
     case rel => exact ⟨k', .slice a5 n5 c5, T ++ [(r.1, r.2.take 4)], rfl, by omega, by go_num, by rw [List.length_append, List.length_singleton]; omega, by rw [size_set]; exact HB5.out.sameB (fun q h1 h2 => Below.heap_setCell _ _ _ _ (by simp; omega)), fun r' hr' => by
      rcases List.mem_append.1 hr' with hr' | hr'
      ·exact HOK.out r' hr'
      ·rw [List.mem_singleton.1 hr']; exact HK7.out, (World.cell?_setCell_other _ _ _ _ (by simp)).trans i0, World.cell?_setCell_same _ _ _ i1, (World.frozen?_setCell _ _ _ _).trans im, (HS5.out.tch (TchP.set (O := fun q => q = w2.heap.size) rfl) (by omega) (by omega)).mono (by omega), tchS HT5.out (by omega), fun i => ⟨(World.cell?_setCell_other _ _ _ _ (by first | (simp; done) | (simp; omega))).trans (HR5.out i).1, (World.frozen?_setCell _ _ _ _).trans (HR5.out i).2⟩⟩
    ·have hlB : decide ((4 : Int) < (r.2.length : Int)) = false := by simp; omega
     have HB7 := HBx
     have HF7 : Hid (relT.Fr wv.heap.size wc [.int .i64 r.1, .slice ga r.2.length gc] (r.1, r.2)) := fr_cons hI HFA.out.fr
     have HK7 : Hid (relOk s (r.1, r.2)) := HRK.out
     have HS7 := HSx
     have HT7 := HTx
     have HR7 := HRx
     go_wp2_with (refine wpList_push (E := relT) _ rfl _ _ 24 32 rfl elRelS rfl (HB7.out.below ((bA (w := wc)).mono (by omega)) (Nat.le_refl _)) rfl news2 ((HF7.out.below bA).mono (by omega)) (by omega) (by decide) (by omega) (by first | (simp; done) | (simp; omega)) ?_; intro v5 w5 hB5 hg5 hown; obtain ⟨a5, n5, c5, rfl⟩ := ex_slice (hB5.fr (by rw [List.length_append]; unfold capMax; simp only [List.length_singleton]; omega)); have hb5 : Below (w2.heap.size + 1) wc w5 := ((bA (w := wc)).mono (by omega)).grown hg5 (by first | (simp; done) | (simp; omega)) (fun q hq => HB7.out.own hq); have i0 := (cellB hb5 (by omega)).trans c0; have i1 := (cellB hb5 (by omega)).trans c1; have im := (frozenB hb5 (by omega)).trans m1)
     have hz5 := hb5.size
     have HB5 := Lib.hid hB5
     have HS5 := Lib.hid (srcB HS7.out (show sb < w2.heap.size + 1 by omega) hb5)
     have HT5 := Lib.hid (tchB HT7.out (hb5.mono (by omega)))
     have HR5 : Hid (∀ i, w5.cell? ⟨w.heap.size, i, none⟩ = w2.cell? ⟨w.heap.size, i, none⟩ ∧ w5.frozen? ⟨w.heap.size, i, none⟩ = w2.frozen? ⟨w.heap.size, i, none⟩) := fun i => ⟨(cellB hb5 (by omega)).trans (HR7.out i).1, (frozenB hb5 (by omega)).trans (HR7.out i).2⟩
     clear hB5 hg5 hown
     go_wp2_with fail
     obtain ⟨k', rfl⟩ : ∃ k', k = k' + 1 := ⟨k - 1, by omega⟩
     go_roundg k'
     case measure => omega
     case rel => exact ⟨k', .slice a5 n5 c5, T ++ [(r.1, r.2)], rfl, by omega, by go_num, by rw [List.length_append, List.length_singleton]; omega, by rw [size_set]; exact HB5.out.sameB (fun q h1 h2 => Below.heap_setCell _ _ _ _ (by simp; omega)), fun r' hr' => by
      rcases List.mem_append.1 hr' with hr' | hr'
      ·exact HOK.out r' hr'
      ·rw [List.mem_singleton.1 hr']; exact HK7.out, (World.cell?_setCell_other _ _ _ _ (by simp)).trans i0, World.cell?_setCell_same _ _ _ i1, (World.frozen?_setCell _ _ _ _).trans im, (HS5.out.tch (TchP.set (O := fun q => q = w2.heap.size) rfl) (by omega) (by omega)).mono (by omega), tchS HT5.out (by omega), fun i => ⟨(World.cell?_setCell_other _ _ _ _ (by first | (simp; done) | (simp; omega))).trans (HR5.out i).1, (World.frozen?_setCell _ _ _ _).trans (HR5.out i).2⟩⟩
   obtain ⟨xv, rfl⟩ : ∃ xv : World, xv = wv := ⟨_, rfl⟩
   have hv0 : Below xv.heap.size xv xv.drew := bD
   refine wp_region_T (fun w' => w'.cell? ⟨w2.heap.size, 0, none⟩ = some (.int .i64 s)) [8] (by kernel_rfl) c0 (fun hHeld => ?_)
   refine wpAnyT_take (i := 0) (v := ?_) rfl (by kernel_rfl) (fun _ _ _ h => h) (Or.inl ⟨by rfl, ?_⟩) (by assumption) ?_
   rotate_left
   ·(intro w hSw; (try dsimp only at hSw); go_simp <;> with_reducible rfl)
   go_simp
   refine wpAnyT_take (i := 1) (v := ?_) rfl (by kernel_rfl) (fun _ _ _ h => h) (Or.inl ⟨by rfl, ?_⟩) (by assumption) ?_
   rotate_left
   ·(intro w hSw; (try dsimp only at hSw); go_simp <;> with_reducible rfl)
   go_simp
   refine wpAnyT_take (i := 2) (v := ?_) rfl (by kernel_rfl) (fun _ _ _ h => h) (Or.inl ⟨by rfl, ?_⟩) (by assumption) ?_
   rotate_left
   ·(intro w hSw; (try dsimp only at hSw); go_simp <;> with_reducible rfl)
   go_simp
   refine wpAnyT_take (i := 3) (v := ?_) rfl (by kernel_rfl) (fun _ _ _ h => h) (Or.inl ⟨by rfl, ?_⟩) (by assumption) ?_
   rotate_left
   ·(intro w hSw; (try dsimp only at hSw); go_simp <;> with_reducible rfl)
   go_simp
   have HS0 := Lib.hid (HSR.out.below hv0)
   clear c0
   generalize xv.drew = x0 at hHeld hv0 HS0 ⊢
   have hz0 := hv0.size
   have c0 := hHeld
   refine wpAnyT_two (i := 4) (j := 7) rfl rfl (by kernel_rfl) (fun K hK => ?_) (fun K hK => ?_)
   ·go_simp
    go_at_call 47
    refine (pick_any x0 HS0.out (by omega) (by omega) (n := 2) (by omega)).mono ?_
    rintro e x1 ⟨p, rfl, hp0, hp1, hs1, ht1⟩
    have hz1 := ht1.size
    replace c0 := (ht1.cell (i := 0) (show w2.heap.size < x0.heap.size by omega) (by omega)).trans c0
    obtain ⟨ar, har⟩ : ∃ ar : Nat, 1 + p = (ar : Int) := ⟨(1 + p).toNat, by omega⟩
    have HS1 := Lib.hid hs1
    have HT1 : Hid (TchP (fun q => q = sb) xv x1) := (TchP.of_below hv0 (fun q => q = sb)).then ht1 (fun q _ h => h)
    clear hs1 ht1
    dsimp only
    refine hK.out _ _ c0 (fun hHeld => ?_)
    clear hK K
    refine wpAnyT_take (i := 5) (v := ?_) rfl (by kernel_rfl) (fun _ _ _ h => h) (Or.inl ⟨by rfl, ?_⟩) (by assumption) ?_
    rotate_left
    ·(intro w hSw; (try dsimp only at hSw); go_simp <;> with_reducible rfl)
    go_simp
    refine wpAnyT_two (i := 6) (j := 7) rfl rfl (by kernel_rfl) (fun K hK => ?_) (fun K hK => ?_)
    ·go_simp
     go_at_call 96
     rw [show IntKind.i64.wrap (ar : Int) = ar from wrap_small (by omega) (by omega)]
     refine (l01Drawn_any x1 HS1.out (by omega) (by omega) (s := s) (ar := ar) (by omega) (by omega)).mono ?_
     rintro e x2 ⟨cs, r, rfl, hrf, hrok, -, hs2, ht2⟩
     obtain ⟨ga, gc, rfl, hI, hfr⟩ := fr_parts hrf
     have hz2 := ht2.size
     replace c0 := (ht2.cell (i := 0) (show w2.heap.size < x1.heap.size by omega) (by omega)).trans c0
     have HS2 := Lib.hid hs2
     have HT2 : Hid (TchP (fun q => q = sb) xv x2) := HT1.out.then ht2 (fun q _ h => h)
     clear hs2 ht2 hrf
     dsimp only
     refine hK.out _ _ c0 (fun hHeld => ?_)
     clear hK K
     refine wpAnyT_one (i := 7) rfl (by kernel_rfl) (fun K hK => ?_)
     go_simp
     generalize hWx : World.alloc x2 _ = x3
     have hbx : Below x2.heap.size x2 x3 := by rw [← hWx]; exact bA
     have hsx : x2.heap.size + 1 ≤ x3.heap.size := by rw [← hWx]; simp
     have z0 : x3.cell? ⟨x2.heap.size, 0, none⟩ = some (.int .i64 0) := by rw [← hWx]; simp [go_sem]
     have z1 : x3.cell? ⟨x2.heap.size, 1, none⟩ = some (.slice none 0 0) := by rw [← hWx]; simp [go_sem]
     have y1 : x3.frozen? ⟨x2.heap.size, 1, none⟩ = false := by rw [← hWx]; simp [go_sem]
     have y0 : x3.frozen? ⟨x2.heap.size, 0, none⟩ = false := by rw [← hWx]; simp [go_sem]
     replace c0 := (cellB hbx (show w2.heap.size < x2.heap.size by omega)).trans c0
     clear hWx
     refine hK.out _ _ c0 (fun hHeld => ?_)
     clear hK K
     have HBOX : Hid (BoxR sb B xv.heap.size (K + 2 + 40 * (2 - (k : Int)) + 34) s xv (.pointer (some ⟨x2.heap.size, 0, none⟩)) ((x3.setCell ⟨x2.heap.size, 0, none⟩ (.int .i64 r.1)).setCell ⟨x2.heap.size, 1, none⟩ (.slice ga r.2.length gc))) := box_mk z0 z1 y1 (by omega) (by omega) hrok hI ((FrA.hi (hfr.mono (by omega)) (Nat.le_refl _)).below hbx) ((HS2.out.below hbx).mono (by omega)) hBs (by omega) (HT2.out.then (TchP.of_below hbx (fun q => q = sb)) (fun q _ h => h))
     refine wpAnyT_last (i := 8) rfl (by kernel_rfl) (by kernel_rfl) (fun K hK => ?_)
     go_simp
     refine hK.out _ _ ?_
     clear hK K
     refine wpAnyT_done (by kernel_rfl) ?_ _
     go_simp
     go_wp2_with fail
     go_meet
     case rel => exact HBOX.out
    ·go_simp
     generalize hWx : World.alloc x1 _ = x2
     have hbx : Below x1.heap.size x1 x2 := by rw [← hWx]; exact bA
     have hsx : x1.heap.size + 1 ≤ x2.heap.size := by rw [← hWx]; simp
     have z0 : x2.cell? ⟨x1.heap.size, 0, none⟩ = some (.int .i64 0) := by rw [← hWx]; simp [go_sem]
     have z1 : x2.cell? ⟨x1.heap.size, 1, none⟩ = some (.slice none 0 0) := by rw [← hWx]; simp [go_sem]
     have y1 : x2.frozen? ⟨x1.heap.size, 1, none⟩ = false := by rw [← hWx]; simp [go_sem]
     have y0 : x2.frozen? ⟨x1.heap.size, 0, none⟩ = false := by rw [← hWx]; simp [go_sem]
     replace c0 := (cellB hbx (show w2.heap.size < x1.heap.size by omega)).trans c0
     clear hWx
     refine hK.out _ _ c0 (fun hHeld => ?_)
     clear hK K
     have HS2 := Lib.hid (HS1.out.below hbx)
     have HT2 : Hid (TchP (fun q => q = sb) xv x2) := HT1.out.then (TchP.of_below hbx (fun q => q = sb)) (fun q _ h => h)
     refine wpAnyT_one (i := 6) rfl (by kernel_rfl) (fun K hK => ?_)
     go_simp
     go_at_call 96
     rw [show IntKind.i64.wrap (ar : Int) = ar from wrap_small (by omega) (by omega)]
     refine (l01Drawn_any x2 HS2.out (by omega) (by omega) (s := s) (ar := ar) (by omega) (by omega)).mono ?_
     rintro e x3 ⟨cs, r, rfl, hrf, hrok, -, hs2, ht2⟩
     obtain ⟨ga, gc, rfl, hI, hfr⟩ := fr_parts hrf
     have hz3 := ht2.size
     replace c0 := (ht2.cell (i := 0) (show w2.heap.size < x2.heap.size by omega) (by omega)).trans c0
     replace z0 := (ht2.cell (i := 0) (show x1.heap.size < x2.heap.size by omega) (by omega)).trans z0
     replace z1 := (ht2.cell (i := 1) (show x1.heap.size < x2.heap.size by omega) (by omega)).trans z1
     replace y1 := (ht2.frozen (i := 1) (show x1.heap.size < x2.heap.size by omega) (by omega)).trans y1
     replace y0 := (ht2.frozen (i := 0) (show x1.heap.size < x2.heap.size by omega) (by omega)).trans y0
     dsimp only
     refine hK.out _ _ c0 (fun hHeld => ?_)
     clear hK K
     have HBOX : Hid (BoxR sb B xv.heap.size (K + 2 + 40 * (2 - (k : Int)) + 34) s xv (.pointer (some ⟨x1.heap.size, 0, none⟩)) ((x3.setCell ⟨x1.heap.size, 0, none⟩ (.int .i64 r.1)).setCell ⟨x1.heap.size, 1, none⟩ (.slice ga r.2.length gc))) := box_mk z0 z1 y1 (by omega) (by omega) hrok hI ((FrA.lo hfr (by omega)).mono (by omega)) (hs2.mono (by omega)) hBs (by omega) (HT2.out.then ht2 (fun q _ h => h))
     refine wpAnyT_last (i := 8) rfl (by kernel_rfl) (by kernel_rfl) (fun K hK => ?_)
     go_simp
     refine hK.out _ _ ?_
     clear hK K
     refine wpAnyT_done (by kernel_rfl) ?_ _
     go_simp
     go_wp2_with fail
     go_meet
     case rel => exact HBOX.out
   ·go_simp
    generalize hWx : World.alloc x0 _ = x1
    have hbx : Below x0.heap.size x0 x1 := by rw [← hWx]; exact bA
    have hsx : x0.heap.size + 1 ≤ x1.heap.size := by rw [← hWx]; simp
    have z0 : x1.cell? ⟨x0.heap.size, 0, none⟩ = some (.int .i64 0) := by rw [← hWx]; simp [go_sem]
    have z1 : x1.cell? ⟨x0.heap.size, 1, none⟩ = some (.slice none 0 0) := by rw [← hWx]; simp [go_sem]
    have y1 : x1.frozen? ⟨x0.heap.size, 1, none⟩ = false := by rw [← hWx]; simp [go_sem]
    have y0 : x1.frozen? ⟨x0.heap.size, 0, none⟩ = false := by rw [← hWx]; simp [go_sem]
    replace c0 := (cellB hbx (show w2.heap.size < x0.heap.size by omega)).trans c0
    clear hWx
    refine hK.out _ _ c0 (fun hHeld => ?_)
    clear hK K
    have HS1 := Lib.hid (HS0.out.below hbx)
    have HT1 : Hid (TchP (fun q => q = sb) xv x1) := (TchP.of_below (bthen hv0 hbx) (fun q => q = sb))
    have hz1 := hbx.size
    refine wpAnyT_one (i := 4) rfl (by kernel_rfl) (fun K hK => ?_)
    go_simp
    go_at_call 47
    refine (pick_any x1 HS1.out (by omega) (by omega) (n := 2) (by omega)).mono ?_
    rintro e x2 ⟨p, rfl, hp0, hp1, hs1, ht1⟩
    have hz2 := ht1.size
    replace c0 := (ht1.cell (i := 0) (show w2.heap.size < x1.heap.size by omega) (by omega)).trans c0
    obtain ⟨ar, har⟩ : ∃ ar : Nat, 1 + p = (ar : Int) := ⟨(1 + p).toNat, by omega⟩
    replace z0 := (ht1.cell (i := 0) (show x0.heap.size < x1.heap.size by omega) (by omega)).trans z0
    replace z1 := (ht1.cell (i := 1) (show x0.heap.size < x1.heap.size by omega) (by omega)).trans z1
    replace y1 := (ht1.frozen (i := 1) (show x0.heap.size < x1.heap.size by omega) (by omega)).trans y1
    replace y0 := (ht1.frozen (i := 0) (show x0.heap.size < x1.heap.size by omega) (by omega)).trans y0
    have HS2 := Lib.hid hs1
    have HT2 : Hid (TchP (fun q => q = sb) xv x2) := HT1.out.then ht1 (fun q _ h => h)
    clear hs1 ht1
    dsimp only
    refine hK.out _ _ c0 (fun hHeld => ?_)
    clear hK K
    refine wpAnyT_take (i := 5) (v := ?_) rfl (by kernel_rfl) (fun _ _ _ h => h) (Or.inl ⟨by rfl, ?_⟩) (by assumption) ?_
    rotate_left
    ·(intro w hSw; (try dsimp only at hSw); go_simp <;> with_reducible rfl)
    go_simp
    refine wpAnyT_one (i := 6) rfl (by kernel_rfl) (fun K hK => ?_)
    go_simp
    go_at_call 96
    rw [show IntKind.i64.wrap (ar : Int) = ar from wrap_small (by omega) (by omega)]
    refine (l01Drawn_any x2 HS2.out (by omega) (by omega) (s := s) (ar := ar) (by omega) (by omega)).mono ?_
    rintro e x3 ⟨cs, r, rfl, hrf, hrok, -, hs2, ht2⟩
    obtain ⟨ga, gc, rfl, hI, hfr⟩ := fr_parts hrf
    have hz3 := ht2.size
    replace c0 := (ht2.cell (i := 0) (show w2.heap.size < x2.heap.size by omega) (by omega)).trans c0
    replace z0 := (ht2.cell (i := 0) (show x0.heap.size < x2.heap.size by omega) (by omega)).trans z0
    replace z1 := (ht2.cell (i := 1) (show x0.heap.size < x2.heap.size by omega) (by omega)).trans z1
    replace y1 := (ht2.frozen (i := 1) (show x0.heap.size < x2.heap.size by omega) (by omega)).trans y1
    replace y0 := (ht2.frozen (i := 0) (show x0.heap.size < x2.heap.size by omega) (by omega)).trans y0
    dsimp only
    refine hK.out _ _ c0 (fun hHeld => ?_)
    clear hK K
    have HBOX : Hid (BoxR sb B xv.heap.size (K + 2 + 40 * (2 - (k : Int)) + 34) s xv (.pointer (some ⟨x0.heap.size, 0, none⟩)) ((x3.setCell ⟨x0.heap.size, 0, none⟩ (.int .i64 r.1)).setCell ⟨x0.heap.size, 1, none⟩ (.slice ga r.2.length gc))) := box_mk z0 z1 y1 (by omega) (by omega) hrok hI ((FrA.lo hfr (by omega)).mono (by omega)) (hs2.mono (by omega)) hBs (by omega) (HT2.out.then ht2 (fun q _ h => h))
    refine wpAnyT_last (i := 8) rfl (by kernel_rfl) (by kernel_rfl) (fun K hK => ?_)
    go_simp
    refine hK.out _ _ ?_
    clear hK K
    refine wpAnyT_done (by kernel_rfl) ?_ _
    go_simp
    go_wp2_with fail
    go_meet
    case rel => exact HBOX.out
  ·obtain rfl : k = 0 := by omega
   have r0 := (HRE.out 0).1.trans HRQ.out.1
   have r1 := (HRE.out 1).1.trans HRQ.out.2.1
   have q0 := (HRE.out 0).2.trans HRQ.out.2.2.1
   have q1 := (HRE.out 1).2.trans HRQ.out.2.2.2
   have hw0 : w.heap.size < wv.heap.size := by omega
   have HFR := Lib.hid (HB.out.fr (by unfold capMax; omega))
   have hIs : I64 s := I64.small (by omega) (by omega)
   obtain ⟨g0, g1⟩ := set2_cells (x := .int .i64 s) (y := .slice ta tn tc) r0 r1
   have HFF : Hid (tplT.Fr w.heap.size ((wv.setCell ⟨w.heap.size, 0, none⟩ (.int .i64 s)).setCell ⟨w.heap.size, 1, none⟩ (.slice ta tn tc)) [.int .i64 s, .slice ta tn tc] (s, T)) := fr_cons hIs (((HFR.out.set (by simp; omega)).set (by simp; omega)).mono (by omega))
   have HTT : Hid (TchP (fun q => q = sb) w ((wv.setCell ⟨w.heap.size, 0, none⟩ (.int .i64 s)).setCell ⟨w.heap.size, 1, none⟩ (.slice ta tn tc))) := tchS (tchS HTC.out (Nat.le_refl _)) (Nat.le_refl _)
   have HSS : Hid (SrcR sb B (K + 100) ((wv.setCell ⟨w.heap.size, 0, none⟩ (.int .i64 s)).setCell ⟨w.heap.size, 1, none⟩ (.slice ta tn tc))) := ((HSR.out.tch (TchP.set (O := fun q => q = w.heap.size) rfl) (by omega) (by omega)).tch (TchP.set (O := fun q => q = w.heap.size) rfl) (by omega) (by omega)).mono (by omega)
   have HOT : Hid (tplOk (s, T)) := ⟨⟨by show (1 : Int) ≤ s; omega, by show s ≤ (4 : Int); omega⟩, by show T.length ≤ 6; omega, HOK.out⟩
   clear HB HFR
   go_wp2_with fail
   refine bodyPost_ret (v := .agg #[.int .i64 s, .slice ta tn tc]) (by simp [results, Tryz.results45, go_sem, g0, g1]) rfl ⟨[.int .i64 s, .slice ta tn tc], (s, T), rfl, HFF.out, HOT.out, hsx.2, HSS.out, HTT.out⟩
end Go.Proofs.YtajmjfbejfiipaaGreat
namespace Go.Proofs.YtajmjfbejfiipaaGreat
open Go.RowKit Go.Sort
/-- a drawn template comes back from its bytes -/
def TpA (w : World) (e : Ending) (w' : World) : Prop := ∃ (cs : List Value) (t : Tpl), e = .returned (.agg cs.toArray) ∧ tplT.Fr w.heap.size w' cs t ∧ tplOk t ∧ t.1 ≤ 3 ∧ Below w.heap.size w w'
set_option maxHeartbeats 1600000 in
set_option maxRecDepth 100000 in
theorem A2Template_any (w : World) {v : Value} {code : List Int} (h : bytesT.Rd w [v] code) : Calls Tryz.prog 7 #[v] w (TpA w) := by
 obtain ⟨ad, cap, rfl⟩ := rd_slice h
 have H := Lib.hid h
 clear h
 go_enter Tryz.func7, Tryz.ntmps7
 go_wp2_with fail
 generalize hW : World.alloc w _ = W
 have hbW : Below w.heap.size w W := hW ▸ bA
 have hsW : w.heap.size + 1 ≤ W.heap.size := by rw [← hW]; simp
 have r0 : W.cell? ⟨w.heap.size, 0, none⟩ = some (.int .i64 0) := by rw [← hW]; simp [go_sem]
 have r1 : W.cell? ⟨w.heap.size, 1, none⟩ = some (.slice none 0 0) := by rw [← hW]; simp [go_sem]
 have q0 : W.frozen? ⟨w.heap.size, 0, none⟩ = false := by rw [← hW]; simp [go_sem]
 have q1 : W.frozen? ⟨w.heap.size, 1, none⟩ = false := by rw [← hW]; simp [go_sem]
 clear hW
 refine (l00From_any W (H.out.below hbW)).mono ?_
 rintro e w1 ⟨rfl, hs, hb1⟩
 have HS := Lib.hid hs
 have hz1 := hb1.size
 replace r0 := (cellB hb1 (by omega)).trans r0
 replace r1 := (cellB hb1 (by omega)).trans r1
 replace q0 := (frozenB hb1 (by omega)).trans q0
 replace q1 := (frozenB hb1 (by omega)).trans q1
 have hbw := bthen hbW hb1
 clear hs
 go_wp2_with fail
 refine (l04Small_any w1 HS.out (by omega) (by omega)).mono ?_
 rintro e w2 ⟨cs, t, rfl, hf, hok, h3, -, ht⟩
 have hb2 : Below W.heap.size w1 w2 := ht.below hz1 (by omega)
 have hz2 := hb2.size
 replace r0 := (cellB hb2 (by omega)).trans r0
 replace r1 := (cellB hb2 (by omega)).trans r1
 replace q0 := (frozenB hb2 (by omega)).trans q0
 replace q1 := (frozenB hb2 (by omega)).trans q1
 obtain ⟨ta, tc, rfl⟩ := fr_pair hf
 have HF : Hid (tplT.Fr w.heap.size ((w2.setCell ⟨w.heap.size, 0, none⟩ (.int .i64 t.1)).setCell ⟨w.heap.size, 1, none⟩ (.slice ta t.2.length tc)) [.int .i64 t.1, .slice ta t.2.length tc] t) := ((hf.set (by simp; omega)).set (by simp; omega)).mono (by omega)
 obtain ⟨g0, g1⟩ := set2_cells (x := .int .i64 t.1) (y := .slice ta t.2.length tc) r0 r1
 have HB : Hid (Below w.heap.size w ((w2.setCell ⟨w.heap.size, 0, none⟩ (.int .i64 t.1)).setCell ⟨w.heap.size, 1, none⟩ (.slice ta t.2.length tc))) := ((hbw.trans (hb2.mono (by omega))).setCell (Nat.le_refl _) _).setCell (Nat.le_refl _) _
 clear hf ht
 go_wp2_with fail
 refine bodyPost_ret (v := .agg #[.int .i64 t.1, .slice ta t.2.length tc]) (by simp [results, Tryz.results7, go_sem, g0, g1]) rfl ⟨[.int .i64 t.1, .slice ta t.2.length tc], t, rfl, HF.out, hok, h3, HB.out⟩
end Go.Proofs.YtajmjfbejfiipaaGreat
namespace Go.Proofs.YtajmjfbejfiipaaGreat
open Go.RowKit Go.Sort
/-- numbers of a size -/
def inS (s : Int) (L : List Int) : Prop := ∀ a ∈ L, 0 ≤ a ∧ a ≤ s - 1
theorem inS_nil {s : Int} : inS s [] := fun a ha => by cases ha
theorem inS_push {s x : Int} {L : List Int} (h : inS s L) (hx : 0 ≤ x ∧ x ≤ s - 1) : inS s (L ++ [x]) := fun a ha => by
 rcases List.mem_append.1 ha with ha | ha
 ·exact h a ha
 ·rw [List.mem_singleton.1 ha]; exact hx
theorem op_ok {s : Int} {ar N : Nat} {L : List Int} (hs : 1 ≤ s ∧ s ≤ 4) (har : 1 ≤ ar ∧ ar ≤ 3) (hN : s ^ ar = N) (hl : L.length = N) (h : inS s L) : opOk s ((ar : Int), L) :=
 ⟨hs, ⟨by show (1 : Int) ≤ (ar : Int); omega, by show (ar : Int) ≤ 3; omega⟩, by show (L.length : Int) = s ^ ((ar : Int)).toNat; rw [Int.toNat_natCast, hN, hl], h⟩
theorem proj_ok {s : Int} {ar N p : Nat} (hs : 1 ≤ s ∧ s ≤ 4) (har : 1 ≤ ar ∧ ar ≤ 3) (hN : s ^ ar = N) (hp : p < ar) : opOk s ((ar : Int), projT s ar N p) :=
 op_ok hs har hN tabOf_len fun a ha => by
  obtain ⟨i, -, rfl⟩ := List.mem_map.1 ha
  have hpl : p < (digL s (i : Int) ar).length := by rw [digL_len]; exact hp
  have : (digL s (i : Int) ar).getD p 0 = (digL s (i : Int) ar)[p] := by rw [List.getD_eq_getElem?_getD, List.getElem?_eq_getElem hpl]; rfl
  show 0 ≤ (digL s (i : Int) ar).getD p 0 ∧ (digL s (i : Int) ar).getD p 0 ≤ s - 1
  rw [this]
  exact digL_in (by omega) _ (List.getElem_mem hpl)
end Go.Proofs.YtajmjfbejfiipaaGreat
namespace Go.Proofs.YtajmjfbejfiipaaGreat
open Go.RowKit Go.Sort
end Go.Proofs.YtajmjfbejfiipaaGreat
namespace Go.Proofs.YtajmjfbejfiipaaGreat
open Go.RowKit Go.Sort
end Go.Proofs.YtajmjfbejfiipaaGreat
namespace Go.Proofs.YtajmjfbejfiipaaGreat
open Go.RowKit Go.Sort
end Go.Proofs.YtajmjfbejfiipaaGreat
namespace Go.Proofs.YtajmjfbejfiipaaGreat
open Go.RowKit Go.Sort
theorem opV_at {s : Int} {f : Int × List Int} (hf : opOk s f) {xs : List Int} (hl : (xs.length : Int) = f.1) (hin : inS s xs) : ∃ k, idxL s 0 xs = ((k : Nat) : Int) ∧ ∃ h : k < f.2.length, opV s f.2 xs = f.2[k] := by
 obtain ⟨hs, ha, hr, -⟩ := hf
 unfold sizeOk at hs
 have hb := idx_lt (m := xs.length) (by omega) rfl hin
 rw [show f.1.toNat = xs.length by omega] at hr
 refine ⟨(idxL s 0 xs).toNat, by omega, by omega, ?_⟩
 unfold opV
 rw [List.getD_eq_getElem?_getD, List.getElem?_eq_getElem (by omega)]
 rfl
theorem opV_in {s : Int} {f : Int × List Int} (hf : opOk s f) {xs : List Int} (hl : (xs.length : Int) = f.1) (hin : inS s xs) : 0 ≤ opV s f.2 xs ∧ opV s f.2 xs ≤ s - 1 := by
 obtain ⟨k, -, hk, e⟩ := opV_at hf hl hin
 rw [e]
 exact hf.2.2.2 _ (List.getElem_mem hk)
end Go.Proofs.YtajmjfbejfiipaaGreat
namespace Go.Proofs.YtajmjfbejfiipaaGreat
open Go.RowKit Go.Sort
end Go.Proofs.YtajmjfbejfiipaaGreat
namespace Go.Proofs.YtajmjfbejfiipaaGreat
open Go.RowKit Go.Sort
theorem a2Long_any (w : World) {v u : Value} {xs ys : List Int} (h : bytesT.Rd w [v] xs) (h' : bytesT.Rd w [u] ys) : Calls Tryz.prog 6 #[v, u] w fun e w' => ∃ b, e = .returned (.bool b) ∧ w = w' := by
 obtain ⟨ad, cap, rfl⟩ := rd_slice h
 obtain ⟨ad', cap', rfl⟩ := rd_slice h'
 clear h h'
 cases hb : decide ((3000 : Int) < ((xs.length : Nat) : Int))
 all_goals
  go_enter Tryz.func6, Tryz.ntmps6
  go_wp2_with fail
  go_ret
  exact ⟨_, rfl, rfl⟩
theorem a2At_any (w : World) {v : Value} {xs : List Int} (h : bytesT.Rd w [v] xs) {k : Nat} {n : Int} (hn : 1 ≤ n ∧ n ≤ 1000000) : Calls Tryz.prog 8 #[v, .int .i64 k, .int .i64 n] w fun e w' => ∃ x : Nat, e = .returned (.int .i64 (x : Int)) ∧ (x : Int) < n ∧ w = w' := by
 obtain ⟨ad, cap, e1, -, -, hc⟩ := bytes_ex h
 obtain rfl : v = _ := by simpa using e1
 clear h e1
 rcases Nat.lt_or_ge k xs.length with hk | hk
 ·obtain ⟨b, o, rfl, hb, hce⟩ := hc (by omega)
  obtain ⟨hx, hcell⟩ := hce k hk
  generalize xs[k] = y at hx hcell
  have hcv : IntKind.i64.wrap y = y := wrap_small (by omega) (by omega)
  have hl1 : decide (((xs.length : Nat) : Int) ≤ (k : Int)) = false := by simp; omega
  have hl2 : decide (n < 1) = false := by simp; omega
  clear hce hc
  go_enter Tryz.func8, Tryz.ntmps8
  go_wp2_with fail
  go_ret
  have h5 : Int.tmod y n = y % n := Int.tmod_eq_emod_of_nonneg (by omega)
  have h6 := Int.emod_nonneg y (show n ≠ 0 by omega)
  have h7 := Int.emod_lt_of_pos y (show 0 < n by omega)
  refine ⟨(y % n).toNat, ?_, by omega, rfl⟩
  rw [show (((y % n).toNat : Nat) : Int) = y % n by omega]
  first | rfl | (rw [h5])
 ·have hl1 : decide (((xs.length : Nat) : Int) ≤ (k : Int)) = true := by simp; omega
  clear hc
  go_enter Tryz.func8, Tryz.ntmps8
  go_wp2_with fail
  go_ret
  exact ⟨0, rfl, by omega, rfl⟩
section
variable {t : Tpl} {ar : Nat}
theorem ask_yes (ht : tplOk t) (har : 1 ≤ ar ∧ ar ≤ 3) : askC t (ar : Int) = 0 := by
 simp [askC, tb_true ht, inB_true.2 (show (1 : Int) ≤ (ar : Int) ∧ (ar : Int) ≤ 3 by omega)]
/-- what is listed is valid, and keeps the template -/
theorem po_all (ht : tplOk t) (har : 1 ≤ ar ∧ ar ≤ 3) (hc : poC t ar = 0) {f : Int × List Int} (h : f ∈ poV t ar) : f.1 = ar ∧ opOk t.1 f ∧ polyB t f = true ∧ polyC t f = 0 := by
 obtain ⟨h1, h2⟩ := (po_poly (ask_yes ht har) hc).1 h
 obtain ⟨-, h3, -⟩ := poly_true.1 h2
 exact ⟨h1, h3, h2, by simp [polyC, polyOk, tb_true ht, tb_true h3]⟩
theorem po_many : (poV t (ar : Int)).length ≤ 64 := by
 cases h : askC t (ar : Int) == 0
 ·rw [(po_ask (by simpa using h)).1]; simp
 have h0 : askC t (ar : Int) = 0 := by simpa using h
 cases h1 : limF t (ar : Int).toNat
 ·by_cases h2 : (poR t ar).1 = 0
  ·rw [(po_yes h0 h1 h2).1, List.length_map]; exact po_len h2
  ·rw [(po_no h0 h1 h2).1]; simp
 ·rw [(po_lim h0 h1).1]; simp
end
end Go.Proofs.YtajmjfbejfiipaaGreat
namespace Go.Proofs.YtajmjfbejfiipaaGreat
open Go.RowKit Go.Sort
set_option maxHeartbeats 3200000 in
set_option maxRecDepth 100000 in
theorem l01Same_quiet (w : World) {va vb : Value} {r q : Int × List (List Int)} (h1 : relT.Pt w va r) (h2 : relT.Pt w vb q) :
    Calls Tryz.prog 52 #[va, vb] w fun e w' => e = .returned (.bool (eqB r q)) ∧ Quiet w w' := by
  obtain ⟨b1, o1, a1, c1, rfl, hb1, -, p0, p1, hr1⟩ := pt_pair h1
  obtain ⟨b2, o2, a2, c2, rfl, hb2, -, q0, q1, hr2⟩ := pt_pair h2
  have HR1 := Lib.hid hr1
  have HR2 := Lib.hid hr2
  have hle1 : r.2.length ≤ 140737488351232 := by obtain ⟨_, _, he, _, h, _⟩ := slices_ex hr1; exact h
  have hle2 : q.2.length ≤ 140737488351232 := by obtain ⟨_, _, he, _, h, _⟩ := slices_ex hr2; exact h
  clear h1 h2 hr1 hr2
  cases hA : (r.1 != q.1)
  rotate_left
  · have HE : Hid (eqB r q = false) := eqB_fst (by simpa using hA)
    go_enter Tryz.func52, Tryz.ntmps52
    go_wp2_with fail
    go_quiet (fail)
    go_wp2_with fail
    go_ret
    exact ⟨ret_bool HE.out.symm, Quiet.drewN _ _⟩
  have hA' : r.1 = q.1 := by simpa using hA
  cases hL : ((r.2.length : Int) != (q.2.length : Int))
  rotate_left
  · have HE : Hid (eqB r q = false) := by
      unfold Hid
      refine eqB_snd hA' (eqB_len ?_)
      have : (r.2.length : Int) ≠ (q.2.length : Int) := by simpa using hL
      omega
    go_enter Tryz.func52, Tryz.ntmps52
    go_wp2_with fail
    go_quiet (fail)
    go_wp2_with fail
    go_ret
    exact ⟨ret_bool HE.out.symm, Quiet.drewN _ _⟩
  have hL' : r.2.length = q.2.length := by have : (r.2.length : Int) = (q.2.length : Int) := by simpa using hL
                                           omega
  have HLL := Lib.hid hL'
  have HA := Lib.hid hA'
  clear hA' hL'
  go_enter Tryz.func52, Tryz.ntmps52
  go_wp2_with fail
  go_quiet (fail)
  rename_i nq
  generalize hWq : w.drewN nq = wq
  have hq0 : Quiet w wq := ⟨nq, hWq.symm⟩
  have hbq := hq0.below
  replace p1 := (cellB hbq (by omega)).trans p1
  replace q1 := (cellB hbq (by omega)).trans q1
  have hzq := hbq.size
  have HS1 := Lib.hid (HR1.out.below hbq)
  have HS2 := Lib.hid (HR2.out.below hbq)
  clear hWq p0 q0 hA hL
  go_wp2_with fail
  obtain ⟨wz, rfl⟩ : ∃ wz : World, wz = wq := ⟨_, rfl⟩
  go_loopw [5] (fun i wr => ∃ k : Nat, k ≤ r.2.length ∧ i = .int .i64 k ∧ r.2.take k = q.2.take k ∧ Quiet wz wr) (fun i _ => r.2.length - (intOf i).toNat)
  case atStart => exact ⟨0, Nat.zero_le _, rfl, by simp, Quiet.refl _⟩
  case round =>
    obtain ⟨k, hk, rfl, htk, hq⟩ := hrel
    have HTK := Lib.hid htk
    have hbe := hq.below
    have d1 := (cellB hbe (show b1 < wz.heap.size by omega)).trans p1
    have d2 := (cellB hbe (show b2 < wz.heap.size by omega)).trans q1
    clear htk
    by_cases hkl : k < r.2.length
    · have hkl2 : k < q.2.length := by have := HLL.out; omega
      obtain ⟨_, _, e1, -, -, hc1⟩ := slices_ex HS1.out
      simp only [List.cons.injEq, Value.slice.injEq, and_true, true_and] at e1
      obtain ⟨rfl, rfl⟩ := e1
      obtain ⟨_, _, e2, -, -, hc2⟩ := slices_ex HS2.out
      simp only [List.cons.injEq, Value.slice.injEq, and_true, true_and] at e2
      obtain ⟨rfl, rfl⟩ := e2
      obtain ⟨ba, oa, rfl, hba, hca⟩ := hc1 (by omega)
      obtain ⟨bb, ob, rfl, hbb, hcb⟩ := hc2 (by omega)
      obtain ⟨u1, hu1, g1⟩ := hca k hkl
      obtain ⟨u2, hu2, g2⟩ := hcb k hkl2
      obtain ⟨x1, y1, rfl⟩ := rd_slice hu1
      obtain ⟨x2, y2, rfl⟩ := rd_slice hu2
      have s1 := (cellB hbe hba).trans g1
      have s2 := (cellB hbe hbb).trans g2
      have cS : ∀ n, Calls Tryz.prog 94 #[.slice x1 (r.2[k]).length y1, .slice x2 (q.2[k]).length y2] (wr.drewN n) fun e w'' => e = .returned (.bool (eqB r.2[k] q.2[k])) ∧ ∃ m, w'' = wr.drewN m := fun n => quiet_call (l00Same_quiet _ ((hu1.below hbe).below (Quiet.drewN wr n).below) ((hu2.below hbe).below (Quiet.drewN wr n).below))
      clear hc1 hc2 hca hcb hu1 hu2 g1 g2
      cases he : eqB r.2[k] q.2[k]
      · have HE : Hid (eqB r q = false) := by
          unfold Hid
          have hne : r.2[k] ≠ q.2[k] := fun e => by rw [eqB_true e] at he; cases he
          exact eqB_snd HA.out (eqB_get hkl hkl2 hne)
        rw [he] at cS
        clear he
        go_wp2_with fail
        go_quiet (exact cS _)
        go_wp2_with fail
        go_ret
        exact ⟨ret_bool HE.out.symm, (hq0.then hq).then (Quiet.drewN _ _)⟩
      · have HN := Lib.hid (take_eq_succ hkl hkl2 HTK.out (eqB_iff.1 he))
        rw [he] at cS
        clear he
        go_wp2_with fail
        go_quiet (exact cS _)
        go_wp2_with fail
        go_roundw
        case rel => exact ⟨k + 1, by omega, by go_num, HN.out, hq.then (Quiet.drewN _ _)⟩
        case measure => simp [intOf]; omega
    · obtain rfl : k = r.2.length := by omega
      have HE : Hid (eqB r q = true) := by
        unfold Hid
        refine eqB_true (Prod.ext HA.out ?_)
        have h1 := HTK.out
        have h2 := HLL.out
        rw [List.take_of_length_le (Nat.le_refl _), List.take_of_length_le (by omega)] at h1
        exact h1
      go_wp2_with fail
      go_ret
      exact ⟨ret_bool HE.out.symm, hq0.then hq⟩
theorem sameLists1_any (w : World) {v v' : Value} {x y : List Int} (h : intsT.Rd w [v] x) (h' : intsT.Rd w [v'] y) :
    Calls Tryz.prog 213 #[v, v'] w fun e w' => e = .returned (.bool (eqB x y)) ∧ Below w.heap.size w w' := by
  go_enter Tryz.func213, Tryz.ntmps213
  go_wp2_with fail
  refine (Equal_quiet _ h h').mono ?_
  rintro e w1 ⟨rfl, n, rfl⟩
  go_wp2_with fail
  go_ret
  exact ⟨rfl, (Quiet.drewN w n).below⟩
theorem sameLists_any (w : World) {v v' : Value} {x y : List (List Int)} (h : rowsT.Rd w [v] x) (h' : rowsT.Rd w [v'] y) :
    Calls Tryz.prog 167 #[v, v'] w fun e w' => e = .returned (.bool (eqB x y)) ∧ Below w.heap.size w w' := by
  go_enter Tryz.func167, Tryz.ntmps167
  go_wp2_with fail
  refine (EqualFuncInts_any _ h h' eqB 213 #[] (enters Tryz.func213 (by kernel_rfl) rfl) (fun W _ k h h' cs cs' g1 g2 => by simpa using sameLists1_any W g1 g2)).mono ?_
  rintro e w1 ⟨rfl, hb1⟩
  rw [eqL_eqB]
  go_wp2_with fail
  go_ret
  exact ⟨rfl, hb1⟩
theorem SameRel_any (w : World) {cs cs' : Array Value} {x y : Int × List (List Int)} (h : relT.Rd w cs.toList x) (h' : relT.Rd w cs'.toList y) :
    Calls Tryz.prog 87 #[.agg cs, .agg cs'] w fun e w' => e = .returned (.bool (eqB x y)) ∧ Below w.heap.size w w' := by
  obtain ⟨v, hv, hI, hx⟩ := pair_ex h
  obtain rfl := agg_of hv
  obtain ⟨v', hv', hI', hx'⟩ := pair_ex h'
  obtain rfl := agg_of hv'
  clear h hv h' hv'
  cases hn : (x.1 == y.1)
  · go_enter Tryz.func87, Tryz.ntmps87
    go_wp2_with fail
    go_ret
    exact ⟨ret_bool (eqB_fst (by simpa using hn)).symm, (by repeat (first | exact Below.refl _ _ | exact bA | assumption | refine Below.setCell ?_ (by first | omega | (simp; try omega)) _ | refine Below.alloc ?_ (by first | omega | (simp; try omega)) _ | refine Below.drew ?_ | refine bDN ?_ | refine bthen ?_ (by assumption)))⟩
  have HN : Hid (x.1 = y.1) := by simpa [Hid] using hn
  go_enter Tryz.func87, Tryz.ntmps87
  go_wp2_with fail
  refine (sameLists_any _ (hx.below (by repeat (first | exact Below.refl _ _ | exact bA | assumption | refine Below.setCell ?_ (by first | omega | (simp; try omega)) _ | refine Below.alloc ?_ (by first | omega | (simp; try omega)) _ | refine Below.drew ?_ | refine bDN ?_ | refine bthen ?_ (by assumption)))) (hx'.below (by repeat (first | exact Below.refl _ _ | exact bA | assumption | refine Below.setCell ?_ (by first | omega | (simp; try omega)) _ | refine Below.alloc ?_ (by first | omega | (simp; try omega)) _ | refine Below.drew ?_ | refine bDN ?_ | refine bthen ?_ (by assumption))))).mono ?_
  rintro e w1 ⟨rfl, hb1⟩
  generalize hq : eqB x.2 y.2 = B at *
  have HQ := Lib.hid hq
  clear hq
  go_wp2_with fail
  go_ret
  exact ⟨ret_bool (eqB_snd HN.out HQ.out).symm, (by repeat (first | exact Below.refl _ _ | exact bA | assumption | refine Below.setCell ?_ (by first | omega | (simp; try omega)) _ | refine Below.alloc ?_ (by first | omega | (simp; try omega)) _ | refine Below.drew ?_ | refine bDN ?_ | refine bthen ?_ (by assumption)))⟩
end Go.Proofs.YtajmjfbejfiipaaGreat
namespace Go.Proofs.YtajmjfbejfiipaaGreat
open Go.RowKit Go.Sort
theorem specSameRel_any (w : World) {cs cs' : Array Value} {x y : Int × List (List Int)} (h : relT.Rd w cs.toList x) (h' : relT.Rd w cs'.toList y) :
  Calls Tryz.prog 12 #[.agg cs, .agg cs'] w fun e w' => e = .returned (.bool (eqB x y)) ∧ Below w.heap.size w w' := by
 have p1 := (pt_box (T := 32) h)
 have p2 := (pt_box (T := 32) (h'.below (bA (o := .cells cs.toList.toArray 32))))
 obtain ⟨u, hv, _⟩ := pair_ex h
 obtain rfl := agg_of hv
 obtain ⟨u', hv', _⟩ := pair_ex h'
 obtain rfl := agg_of hv'
 have p1' := p1.below (bA (o := .cells [.int .i64 y.1, u'].toArray 32))
 clear hv hv' h h' p1
 go_enter Tryz.func12, Tryz.ntmps12
 go_wp2_with fail
 rw [World.size_alloc] at p2
 refine (l01Same_quiet _ p1' p2).mono ?_
 rintro e w1 ⟨rfl, n, rfl⟩
 go_wp2_with fail
 go_ret
 exact ⟨rfl, (by repeat (first | exact Below.refl _ _ | exact bA | assumption | refine Below.setCell ?_ (by first | omega | (simp; try omega)) _ | refine Below.alloc ?_ (by first | omega | (simp; try omega)) _ | refine Below.drew ?_ | refine bDN ?_ | refine bthen ?_ (by assumption)))⟩
theorem A2Same_any (w : World) {v v' : Value} {x y : List Int} (h : intsT.Rd w [v] x) (h' : intsT.Rd w [v'] y) :
  Calls Tryz.prog 25 #[v, v'] w fun e w' => e = .returned (.bool (eqB x y)) ∧ Below w.heap.size w w' := by
 have H := Lib.hid h
 have H' := Lib.hid h'
 clear h h'
 go_enter Tryz.func25, Tryz.ntmps25
 go_wp2_with fail
 refine (l00Same_quiet _ H.out H'.out).mono ?_
 rintro e w1 ⟨rfl, n, rfl⟩
 go_wp2_with fail
 go_ret
 exact ⟨rfl, (by repeat (first | exact Below.refl _ _ | exact bA | assumption | refine Below.setCell ?_ (by first | omega | (simp; try omega)) _ | refine Below.alloc ?_ (by first | omega | (simp; try omega)) _ | refine Below.drew ?_ | refine bDN ?_ | refine bthen ?_ (by assumption)))⟩
set_option maxHeartbeats 1600000 in
theorem HasTuple_any (w : World) {cs : Array Value} {r : Int × List (List Int)} {u : Value} {ys : List Int} (h : relT.Rd w cs.toList r) (hu : intsT.Rd w [u] ys) {s : Int} (hr : relOk s r) :
  Calls Tryz.prog 13 #[.int .i64 s, .agg cs, u] w fun e w' => e = .returned (.tuple #[.bool (tb (ys ∈ r.2)), .int .i64 0]) ∧ Below w.heap.size w w' := by
 have hvo : tb (relOk s r) = true := tb_true hr
 obtain ⟨u2, hv2, hI, hx⟩ := pair_ex h
 obtain rfl := agg_of hv2
 have H := Lib.hid h
 have HU := Lib.hid hu
 have HS : Hid (sortedL r.2) := fun i h h0 => (hr.2.2 i h).2 h0
 clear h hx hv2 hu hr
 go_enter Tryz.func13, Tryz.ntmps13
 go_wp2_with fail
 generalize hW : World.alloc w _ = W
 have hbW : Below w.heap.size w W := hW ▸ bA
 have hsW : w.heap.size + 1 ≤ W.heap.size := by rw [← hW]; simp
 have f0 : W.cell? ⟨w.heap.size, 0, none⟩ = some (.int .i64 r.1) := by rw [← hW]; simp [go_sem]
 have f1 : W.cell? ⟨w.heap.size, 1, none⟩ = some u2 := by rw [← hW]; simp [go_sem]
 clear hW
 refine (ValidRel_any W (r := r) (H.out.below hbW) s).mono ?_
 rintro e w1 ⟨rfl, hb1⟩
 rw [hvo]
 have hz1 := hb1.size
 have hbw1 := bthen hbW hb1
 replace f0 := (cellB hb1 (by omega)).trans f0
 replace f1 := (cellB hb1 (by omega)).trans f1
 clear hvo
 go_wp2_with fail
 refine (has_any w1 (r := r) (H.out.below hbw1) (HU.out.below hbw1) (HS.out)).mono ?_
 rintro e w2 ⟨rfl, hb2⟩
 go_wp2_with fail
 go_ret2
 exact ⟨rfl, bthen hbw1 hb2⟩
set_option maxHeartbeats 1600000 in
theorem Keeps_any (w : World) {cs cs' : Array Value} {f : Int × List Int} {r : Int × List (List Int)} (hf : opT.Rd w cs.toList f) (h : relT.Rd w cs'.toList r) {s : Int} (hr : relOk s r) (ho : opOk s f) :
  Calls Tryz.prog 15 #[.int .i64 s, .agg cs, .agg cs'] w fun e w' => e = .returned (.tuple #[.bool (tb (keepsP s f r)), .int .i64 0]) ∧ Below w.heap.size w w' := by
 have hvo : tb (opOk s f) = true := tb_true ho
 have hvr : tb (relOk s r) = true := tb_true hr
 obtain ⟨u2, hv2, hI, hx⟩ := pair_ex hf
 obtain rfl := agg_of hv2
 obtain ⟨u3, hv3, hI3, hx3⟩ := pair_ex h
 obtain rfl := agg_of hv3
 have HF := Lib.hid hf
 have H := Lib.hid h
 have HR := Lib.hid hr
 have HO := Lib.hid ho
 clear h hx hv2 hf hr ho hv3 hx3
 go_enter Tryz.func15, Tryz.ntmps15
 go_wp2_with fail
 generalize hW : World.alloc (World.alloc w _) _ = W
 have hbW : Below w.heap.size w W := hW ▸ bthen bA bA
 have hsW : w.heap.size + 2 ≤ W.heap.size := by rw [← hW]; simp
 have f0 : W.cell? ⟨w.heap.size, 0, none⟩ = some (.int .i64 f.1) := by rw [← hW]; simp [go_sem]
 have f1 : W.cell? ⟨w.heap.size, 1, none⟩ = some u2 := by rw [← hW]; simp [go_sem]
 have g0 : W.cell? ⟨w.heap.size + 1, 0, none⟩ = some (.int .i64 r.1) := by rw [← hW]; simp [go_sem]
 have g1 : W.cell? ⟨w.heap.size + 1, 1, none⟩ = some u3 := by rw [← hW]; simp [go_sem]
 clear hW
 refine (ValidOp_any W (f := f) (HF.out.below hbW) s).mono ?_
 rintro e w1 ⟨rfl, hb1⟩
 rw [hvo]
 have hz1 := hb1.size
 have hbw1 := bthen hbW hb1
 replace f0 := (cellB hb1 (by omega)).trans f0
 replace f1 := (cellB hb1 (by omega)).trans f1
 replace g0 := (cellB hb1 (by omega)).trans g0
 replace g1 := (cellB hb1 (by omega)).trans g1
 clear hvo
 go_wp2_with fail
 refine (ValidRel_any w1 (r := r) (H.out.below hbw1) s).mono ?_
 rintro e w2 ⟨rfl, hb2⟩
 rw [hvr]
 have hz2 := hb2.size
 have hbw2 := bthen hbw1 hb2
 replace f0 := (cellB hb2 (by omega)).trans f0
 replace f1 := (cellB hb2 (by omega)).trans f1
 replace g0 := (cellB hb2 (by omega)).trans g0
 replace g1 := (cellB hb2 (by omega)).trans g1
 clear hvr
 go_wp2_with fail
 refine (keeps_any w2 (f := f) (r := r) (HF.out.below hbw2) (H.out.below hbw2) HR.out HO.out).mono ?_
 rintro e w3 ⟨rfl, hb3⟩
 go_wp2_with fail
 go_ret2
 exact ⟨rfl, bthen hbw2 hb3⟩
end Go.Proofs.YtajmjfbejfiipaaGreat
