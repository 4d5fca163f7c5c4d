/-
Contracts: the relation of a set.
Contracts: the meet of two relations (the reference's).
Contracts: a projection of a relation (the reference's).
Contracts: a relation at places of a greater one (the reference's).
Plain: all that the law on formulas asks of its formulas, in one place.
Contracts: tuples and places drawn from bytes; the law's own test of its bytes' length.
Contracts: relations and templates that are drawn, seldom ones that are not valid.
A struct of a number and a row, in a box of the call's own, while a source is read and the row grows; result boxes. Contract: a drawn template.
Contracts: the closure of a set of tuples under operations, the reference's.
Contracts: numbers, operations and kept templates drawn from bytes.
-/
import Derived.Test.YtnhdohednekhjaaGreatDoorQAI
import Derived.Test.YtnhdohednekhjaaGreatDoorQAC
import Derived.Test.YtnhdohednekhjaaGreatDoorQAB
import Derived.Test.YtnhdohednekhjaaGreatDoorQAH
import Derived.Test.YtnhdohednekhjaaGreatDoorQAE
import Derived.Test.YtnhdohednekhjaaGreatDoorQAG
import Derived.Test.YtnhdohednekhjaaGreatDoorQAF
import Derived.Test.YtnhdohednekhjaaGreatDoorQAD
import Derived.Deep.LoopGhost
namespace Go.Proofs.YtnhdohednekhjaaGreatDoor
open Go.RowKit Go.Sort
set_option maxHeartbeats 3200000 in
set_option maxRecDepth 100000 in
theorem rel_any (w : World) {base bx g ar N : Nat} {s : Int} {T : List (List Int)} (h : Set3 w base bx g s ar N T) (hs : 1 ≤ s ∧ s ≤ 4) (har : ar ≤ 5) (hN : s ^ ar = N) (hN1 : N ≤ 1000000) (hT : ∀ l ∈ T, l.length = ar ∧ ∀ a ∈ l, 0 ≤ a ∧ a ≤ s - 1) :
  Calls Tryz.prog 166 #[.pointer (some ⟨bx, 0, none⟩)] w (RetA relT w ((ar : Int), relL s ar (fun l => tb (l ∈ T)) N)) := by
 obtain ⟨⟨s1, s2, s3, s4, s5⟩, s6, s7⟩ := id h
 have HSET := Lib.hid h
 have HTT := Lib.hid hT
 have HN := Lib.hid hN
 have hgw := s5.lt
 have HBR := Lib.hid s5
 clear h hT hN s5
 go_enter Tryz.func166, Tryz.ntmps166
 go_wp2_with fail
 generalize hW : World.alloc _ _ = W
 have hbW : Below w.heap.size w W := hW ▸ bAA
 have hsW : W.heap.size = w.heap.size + 2 := by rw [← hW]; simp
 have y0 : W.cell? ⟨w.heap.size + 1, 0, none⟩ = some (.int .i64 (ar : Int)) := by rw [← hW]; simp [go_sem]
 have y1 : W.cell? ⟨w.heap.size + 1, 1, none⟩ = some (.slice none 0 0) := by rw [← hW]; simp [go_sem]
 have y2 : W.frozen? ⟨w.heap.size + 1, 1, none⟩ = false := by rw [← hW]; simp [go_sem]
 have r0 : W.cell? ⟨w.heap.size, 0, none⟩ = some (.int .i64 0) := by rw [← hW]; simp [go_sem]
 have r1 : W.cell? ⟨w.heap.size, 1, none⟩ = some (.slice none 0 0) := by rw [← hW]; simp [go_sem]
 have r2 : W.frozen? ⟨w.heap.size, 0, none⟩ = false := by rw [← hW]; simp [go_sem]
 have r3 : W.frozen? ⟨w.heap.size, 1, none⟩ = false := by rw [← hW]; simp [go_sem]
 clear hW
 go_loopw [4] (fun i wr => ∃ (k : Nat) (v : Value), k ≤ N ∧ i = .int .i64 k ∧ Bl intsT 48 (w.heap.size + 2) wr.heap.size wr v (relL s ar (fun l => tb (l ∈ T)) k) ∧ wr.cell? ⟨w.heap.size + 1, 1, none⟩ = some v ∧ wr.cell? ⟨w.heap.size + 1, 0, none⟩ = some (.int .i64 (ar : Int)) ∧ wr.frozen? ⟨w.heap.size + 1, 1, none⟩ = false ∧ Below (w.heap.size + 1) W wr ∧ w.heap.size + 2 ≤ wr.heap.size) (fun i _ => N - (intOf i).toNat)
 case atStart => exact ⟨0, _, Nat.zero_le _, rfl, by rw [relL_zero]; simpa using Bl.nil, y1, y0, y2, Below.refl _ _, by omega⟩
 case round =>
  obtain ⟨k, v, hk, rfl, hBv, z1, z0, z2, hbe, hse⟩ := hrel
  obtain ⟨wv, rfl⟩ : ∃ wv : World, wv = wr := ⟨_, rfl⟩
  have hbw : Below w.heap.size w wv := hbW.trans (hbe.mono (by omega))
  have hlk := relL_len (s := s) (ar := ar) (p := fun l => tb (l ∈ T)) (k := k)
  obtain ⟨av0, nv0, cv0, rfl⟩ := ex_slice (hBv.fr (by unfold capMax; omega))
  have HBv := Lib.hid hBv
  have u0 := (cellB hbw s2).trans s6
  have u1 := (cellB hbw s2).trans s7
  have u2 := (cellB hbw s2).trans s4
  clear hBv y0 y1 y2
  by_cases hkl : k < N
  ·have e0 := (cellB hbw hgw).trans (HBR.out.cell (j := k) (by rw [seenL_len]; exact hkl))
   rw [seen_dig hs.1 HN.out HTT.out hkl] at e0
   have HY : Hid (tb (digL s k ar ∈ T) = true → relL s ar (fun l => tb (l ∈ T)) k ++ [digL s k ar] = relL s ar (fun l => tb (l ∈ T)) (k + 1)) := fun h => relL_yes h
   have HNo : Hid (tb (digL s k ar ∈ T) = false → relL s ar (fun l => tb (l ∈ T)) k = relL s ar (fun l => tb (l ∈ T)) (k + 1)) := fun h => relL_no h
   cases hb : tb (digL s k ar ∈ T)
   ·rw [hb] at e0
    go_wp2_with fail
    go_roundw
    case rel => exact ⟨k + 1, _, by omega, by go_num, by rw [← HNo.out hb]; exact HBv.out, z1, z0, z2, hbe, hse⟩
    case measure => simp [intOf]; omega
   ·rw [hb] at e0
    go_wp2_with fail
    clear e0
    have hkb : (k : Int) ≤ 1000000 := by omega
    refine wp_region_T (fun w' => w'.cell? ⟨w.heap.size + 1, 1, none⟩ = some (.slice av0 nv0 cv0) ∧ w'.cell? ⟨bx, 0, none⟩ = some (.int .i64 s) ∧ w'.cell? ⟨bx, 1, none⟩ = some (.int .i64 (ar : Int))) [13, 15] (by kernel_rfl) ⟨z1, u0, u1⟩ (fun hHeld => ?_)
    refine wpAnyT_take (i := 0) (v := ?_) rfl (by kernel_rfl) (fun _ _ _ h => h) (Or.inl ⟨by rfl, ?_⟩) (by assumption) ?_
    rotate_left
    ·(intro w hSw; (try dsimp only at hSw); go_simp <;> with_reducible rfl)
    go_simp
    refine wpAnyT_take (i := 1) (v := ?_) rfl (by kernel_rfl) (fun _ _ _ h => h) (Or.inl ⟨by rfl, ?_⟩) (by assumption) ?_
    rotate_left
    ·(intro w hSw; (try dsimp only at hSw); go_simp <;> with_reducible rfl)
    go_simp
    refine wpAnyT_take (i := 2) (v := ?_) rfl (by kernel_rfl) (fun _ _ _ h => h) (Or.inl ⟨by rfl, ?_⟩) (by assumption) ?_
    rotate_left
    ·(intro w hSw; (try dsimp only at hSw); go_simp <;> with_reducible rfl)
    go_simp
    refine wpAnyT_take (i := 3) (v := ?_) rfl (by kernel_rfl) (fun _ _ _ h => h) (Or.inl ⟨by rfl, ?_⟩) (by assumption) ?_
    rotate_left
    ·(intro w hSw; (try dsimp only at hSw); go_simp <;> with_reducible rfl)
    go_simp
    refine wpAnyT_take (i := 4) (v := ?_) rfl (by kernel_rfl) (fun _ _ _ h => h) (Or.inl ⟨by rfl, ?_⟩) (by assumption) ?_
    rotate_left
    ·(intro w hSw; (try dsimp only at hSw); go_simp <;> with_reducible rfl)
    go_simp
    refine wpAnyT_take (i := 5) (v := ?_) rfl (by kernel_rfl) (fun _ _ _ h => h) (Or.inl ⟨by rfl, ?_⟩) (by assumption) ?_
    rotate_left
    ·(intro w hSw; (try dsimp only at hSw); go_simp <;> with_reducible rfl)
    go_simp
    refine wpAnyT_take (i := 6) (v := ?_) rfl (by kernel_rfl) (fun _ _ _ h => h) (Or.inl ⟨by rfl, ?_⟩) (by assumption) ?_
    rotate_left
    ·(intro w hSw; (try dsimp only at hSw); go_simp <;> with_reducible rfl)
    go_simp
    refine wpAnyT_take (i := 7) (v := ?_) rfl (by kernel_rfl) (fun _ _ _ h => h) (Or.inl ⟨by rfl, ?_⟩) (by assumption) ?_
    rotate_left
    ·(intro w hSw; (try dsimp only at hSw); go_simp <;> with_reducible rfl)
    go_simp
    refine wpAnyT_take (i := 8) (v := ?_) rfl (by kernel_rfl) (fun _ _ _ h => h) (Or.inl ⟨by rfl, ?_⟩) (by assumption) ?_
    rotate_left
    ·(intro w hSw; (try dsimp only at hSw); go_simp <;> with_reducible rfl)
    go_simp
    refine wpAnyT_take (i := 9) (v := ?_) rfl (by kernel_rfl) (fun _ _ _ h => h) (Or.inl ⟨by rfl, ?_⟩) (by assumption) ?_
    rotate_left
    ·(intro w hSw; (try dsimp only at hSw); go_simp <;> with_reducible rfl)
    go_simp
    refine wpAnyT_take (i := 10) (v := ?_) rfl (by kernel_rfl) (fun _ _ _ h => h) (Or.inl ⟨by rfl, ?_⟩) (by assumption) ?_
    rotate_left
    ·(intro w hSw; (try dsimp only at hSw); go_simp <;> with_reducible rfl)
    go_simp
    refine wpAnyT_one (i := 11) rfl (by kernel_rfl) (fun K hK => ?_)
    go_simp
    go_at_call 146
    refine (l01Digits_any _ s (k : Int) ar hs.1 (by omega) har (by omega) (by omega)).mono ?_
    rintro e w1 ⟨u, rfl, hf, hb1⟩
    obtain ⟨a2, n2, c2, rfl⟩ := ex_slice hf
    have HF := Lib.hid hf
    have hb2 : Below wv.heap.size wv w1 := bthen bD hb1
    have f1 := (cellB hb2 (by omega)).trans z1
    have f2 := (cellB hb2 (by omega)).trans z0
    have f3 := (frozenB hb2 (by omega)).trans z2
    have f4 := (cellB hb2 (by have := hbw.size; omega)).trans u0
    have f5 := (cellB hb2 (by have := hbw.size; omega)).trans u1
    have hz1 := hb2.size
    clear hf hb1 hHeld
    dsimp only
    refine hK.out _ _ ⟨f1, f4, f5⟩ (fun hHeld => ?_)
    clear hK K
    refine wpAnyT_one (i := 12) rfl (by kernel_rfl) (fun K hK => ?_)
    go_simp
    refine hK.out _ _ ⟨by go_keep, by go_keep, by go_keep⟩ (fun hHeld => ?_)
    clear hK K
    refine wpAnyT_last (i := 13) rfl (by kernel_rfl) (by kernel_rfl) (fun K hK => ?_)
    refine step_push (E := intsT) _ rfl _ _ 33 48 rfl elInt64SS rfl (HBv.out.below (hb2.alloc (by omega) _) (Nat.le_refl _)) rfl news1 ((HF.out.below bA).mono (by have := (bD (w := wv)).size; omega)) (by omega) (by decide) hse (by simp; omega) ?_
    intro v1 w3 hB3 hg3 _
    rw [HY.out hb] at hB3
    have hb3 : Below (w.heap.size + 2) w1 w3 := ((Below.refl _ w1).alloc (by omega) _).grown hg3 (by simp; omega) (fun q hq => HBv.out.own hq)
    have i1 := (cellB hb3 (by omega)).trans f1
    have i2 := (cellB hb3 (by omega)).trans f2
    have i3 := (frozenB hb3 (by omega)).trans f3
    have hz3 := hb3.size
    have HB3 := Lib.hid hB3
    have hlk1 := relL_len (s := s) (ar := ar) (p := fun l => tb (l ∈ T)) (k := k + 1)
    obtain ⟨a3, n3, c3, rfl⟩ := ex_slice (hB3.fr (by unfold capMax; omega))
    clear hB3 hg3 f1 f2 f3 f4 f5 hlk1
    refine hK.out _ _ ?_
    clear hK K
    refine wpAnyT_any (i := 14) (v := ?_) rfl (by kernel_rfl) (fun _ _ _ h => h) (Or.inl ⟨by rfl, ?_⟩) (by first | exact fun _ => by assumption | (intro hp; exact absurd hp (by rw [show pastB _ _ = true by kernel_rfl]; simp))) ?_
    rotate_left
    ·(intro w hSw; (try dsimp only at hSw); go_simp <;> with_reducible rfl)
    try simp only [Act.put]
    refine wpAnyT_last (i := 15) rfl (by kernel_rfl) (by kernel_rfl) (fun K hK => ?_)
    go_simp
    refine hK.out _ _ ?_
    clear hK K
    refine wpAnyT_done (by kernel_rfl) ?_ _
    go_simp
    go_wp2_with fail
    go_roundw
    case rel => exact ⟨k + 1, _, by omega, by go_num, by rw [size_set]; exact HB3.out.sameB (fun q hq1 hq2 => Below.heap_setCell _ _ _ _ (by simp; omega)), World.cell?_setCell_same _ _ _ i1, (World.cell?_setCell_other _ _ _ _ (by simp)).trans i2, (World.frozen?_setCell _ _ _ _).trans i3, (hbe.trans ((hb2.mono (by omega)).trans (hb3.mono (by omega)))).setCell (by simp) _, by rw [size_set]; omega⟩
    case measure => simp [intOf]; omega
  ·obtain rfl : k = N := by omega
   have HF := Lib.hid (HBv.out.fr (by unfold capMax; omega))
   have q0 := (cellB hbe (by omega)).trans r0
   have q1 := (cellB hbe (by omega)).trans r1
   have q2 := (frozenB hbe (by omega)).trans r2
   have q3 := (frozenB hbe (by omega)).trans r3
   have hze : w.heap.size < wv.heap.size := by omega
   obtain ⟨RL, hRL⟩ : ∃ RL, RL = relL s ar (fun l => tb (l ∈ T)) k := ⟨_, rfl⟩
   rw [← hRL] at HF hlk
   obtain ⟨x1, x2, hx⟩ := fr_slice HF.out
   simp only [Value.slice.injEq] at hx
   obtain ⟨rfl, rfl, rfl⟩ := hx
   have HRL := Lib.hid hRL
   clear HBv hRL
   go_wp2_with fail
   obtain ⟨g0, g1⟩ := set2_cells (x := .int .i64 (ar : Int)) (y := .slice av0 RL.length cv0) q0 q1
   refine bodyPost_ret (v := .agg #[.int .i64 (ar : Int), .slice av0 RL.length cv0]) (by simp [results, Tryz.results166, go_sem, g0, g1]) rfl ⟨[.int .i64 (ar : Int), .slice av0 RL.length cv0], rfl, ?_, ?_⟩
   ·rw [← HRL.out]
    refine Ty.Fr.mono (base := w.heap.size + 2) (fr_set2 (fr_cons (I64.small (by omega) (by omega)) HF.out) ?_) ?_ <;> omega
   ·exact (hbw.setCell (by simp) _).setCell (by simp) _
end Go.Proofs.YtnhdohednekhjaaGreatDoor
namespace Go.Proofs.YtnhdohednekhjaaGreatDoor
open Go.RowKit Go.Sort
noncomputable def meetL (r q : Int × List (List Int)) (k : Nat) : List (List Int) := (r.2.take k).filter fun x => tb (x ∈ q.2)
/-- the meet of two relations -/
noncomputable def meetR (r q : Int × List (List Int)) : Int × List (List Int) := (r.1, r.2.filter fun x => tb (x ∈ q.2))
theorem meetL_all {r q : Int × List (List Int)} : meetL r q r.2.length = (meetR r q).2 := by simp [meetL, meetR]
theorem meetL_len {r q : Int × List (List Int)} {k : Nat} : (meetL r q k).length ≤ r.2.length := by
 unfold meetL
 exact Nat.le_trans (List.length_filter_le _ _) (by rw [List.length_take]; omega)
theorem meetL_succ {r q : Int × List (List Int)} {k : Nat} (h : k < r.2.length) : meetL r q (k + 1) = meetL r q k ++ (match tb (r.2[k] ∈ q.2) with | true => [r.2[k]] | false => []) := by
 unfold meetL
 rw [List.take_succ_eq_append_getElem h, List.filter_append]
 congr 1
theorem l01Two_any (w : World) {v v' : Value} {r q : Int × List (List Int)} (h : relT.Pt w v r) (h' : relT.Pt w v' q) {s : Int} (hr : relOk s r) (hq : relOk s q) (he : r.1 = q.1) :
  Calls Tryz.prog 79 #[.int .i64 s, v, v'] w fun e w' => e = .returned (.int .i64 0) ∧ Below w.heap.size w w' := by
 have hvr : tb (relOk s r) = true := tb_true hr
 have hvq : tb (relOk s q) = true := tb_true hq
 have HR := Lib.hid h
 have HQ := Lib.hid h'
 obtain ⟨b, o, ad, cap, rfl, hb, hI, c0, c1, hx⟩ := pt_pair h
 obtain ⟨b', o', ad', cap', rfl, hb', hI', d0, d1, hx'⟩ := pt_pair h'
 rw [← he] at d0
 clear h h' hr hq he c1 d1 hx hx'
 go_enter Tryz.func79, Tryz.ntmps79
 go_wp2_with fail
 refine (l01Ok_quiet _ HR.out s).mono ?_
 rintro e w1 ⟨rfl, hq1⟩
 have hb1 := hq1.below
 rw [hvr]
 go_wp2_with fail
 refine (l01Ok_quiet _ (HQ.out.below hb1) s).mono ?_
 rintro e w2 ⟨rfl, hq2⟩
 have hb2 := bthen hb1 hq2.below
 rw [hvq]
 have e0 := (cellB hb2 hb).trans c0
 have e1 := (cellB hb2 hb').trans d0
 clear c0 d0 hb1
 go_wp2_with fail
 go_quiet (fail)
 go_wp2_with fail
 go_ret
 exact ⟨rfl, bthen hb2 (Quiet.drewN _ _).below⟩
set_option maxHeartbeats 3200000 in
set_option maxRecDepth 100000 in
theorem l01Meet_any (w : World) {v v' : Value} {r q : Int × List (List Int)} (h : relT.Pt w v r) (h' : relT.Pt w v' q) (hrl : r.2.length ≤ 256 ∧ ∀ y ∈ r.2, y.length ≤ 4) :
  Calls Tryz.prog 80 #[v, v'] w (RetA relT w (meetR r q)) := by
 have HQ := Lib.hid h'
 have HRL := Lib.hid hrl.2
 have hr256 := hrl.1
 obtain ⟨b, o, ad, cap, rfl, hb, hI, c0, c1, hx⟩ := pt_pair h
 obtain ⟨_, _, e1, hle, hle2, hcell⟩ := slices_ex hx
 simp only [List.cons.injEq, Value.slice.injEq, and_true, true_and] at e1
 obtain ⟨rfl, rfl⟩ := e1
 have HCE := Lib.hid hcell
 obtain ⟨b', o', ad', cap', rfl, hb', -, -, -, -⟩ := pt_pair h'
 have HCI := Lib.hid hI
 clear h h' hx hrl hcell hI
 go_enter Tryz.func80, Tryz.ntmps80
 go_wp2_with fail
 generalize hW : World.alloc (World.alloc w _) _ = Y
 have hbX : Below w.heap.size w Y := by rw [← hW]; exact bAA
 have hsY0 : w.heap.size + 2 ≤ Y.heap.size := by rw [← hW]; simp
 have r0 : Y.cell? ⟨w.heap.size, 0, none⟩ = some (.int .i64 0) := by rw [← hW]; simp [go_sem]
 have r1 : Y.cell? ⟨w.heap.size, 1, none⟩ = some (.slice none 0 0) := by rw [← hW]; simp [go_sem]
 have m0 : Y.frozen? ⟨w.heap.size, 0, none⟩ = false := by rw [← hW]; simp [go_sem]
 have m1 : Y.frozen? ⟨w.heap.size, 1, none⟩ = false := by rw [← hW]; simp [go_sem]
 have x0 : Y.cell? ⟨w.heap.size + 1, 0, none⟩ = some (.int .i64 r.1) := by rw [← hW]; simp [go_sem]
 have x1 : Y.cell? ⟨w.heap.size + 1, 1, none⟩ = some (.slice none 0 0) := by rw [← hW]; simp [go_sem]
 have xm : Y.frozen? ⟨w.heap.size + 1, 1, none⟩ = false := by rw [← hW]; simp [go_sem]
 clear hW
 obtain ⟨B1, hB1⟩ : ∃ B1, B1 = w.heap.size + 1 := ⟨_, rfl⟩
 rw [← hB1] at x0 x1 xm ⊢
 have hwX : w.heap.size < B1 := by omega
 have hsY : B1 + 1 ≤ Y.heap.size := by omega
 clear hB1 hsY0
 replace c0 := (cellB hbX hb).trans c0
 replace c1 := (cellB hbX hb).trans c1
 have hbX2 : b < B1 := by omega
 have HR0 := Lib.hid (And.intro r0 (And.intro r1 (And.intro m0 m1)))
 have HC1 := Lib.hid c1
 clear r0 r1 m0 m1 c0 c1
 go_loopw [6] (fun i wr => ∃ (k : Nat) (va : Value), k ≤ r.2.length ∧ i = .int .i64 k ∧ Bl intsT 48 (B1 + 1) wr.heap.size wr va (meetL r q k) ∧ wr.cell? ⟨B1, 0, none⟩ = some (.int .i64 r.1) ∧ wr.cell? ⟨B1, 1, none⟩ = some va ∧ wr.frozen? ⟨B1, 1, none⟩ = false ∧ Below B1 Y wr ∧ B1 + 1 ≤ wr.heap.size) (fun i _ => r.2.length - (intOf i).toNat)
 case atStart => exact ⟨0, _, Nat.zero_le _, rfl, Bl.nil, x0, x1, xm, Below.refl _ _, hsY⟩
 case round =>
  clear x0 x1 xm
  obtain ⟨k, va, hk, rfl, hBl, x0, x1, xm, hbe, hzr⟩ := hrel
  obtain ⟨wv, rfl⟩ : ∃ wv : World, wv = wr := ⟨_, rfl⟩
  have hml := meetL_len (r := r) (q := q) (k := k)
  obtain ⟨ya, yn, yc, rfl⟩ := ex_slice (hBl.fr (by unfold capMax; omega))
  have HB := Lib.hid hBl
  clear hBl
  have hbw : Below w.heap.size w wv := hbX.trans (hbe.mono (by omega))
  have d1 := (cellB hbe hbX2).trans HC1.out
  by_cases hkl : k < r.2.length
  ·obtain ⟨a, qo, rfl, haa, hce⟩ := HCE.out (by omega)
   obtain ⟨c, hc0, hcc⟩ := hce k hkl
   have e0 := (cellB hbw haa).trans hcc
   have HC := Lib.hid (hc0.below hbw)
   have haX : a < wv.heap.size := by have := hbw.size; omega
   have hbV : b < wv.heap.size := by have := hbe.size; omega
   have hrk : r.2[k].length ≤ 4 := HRL.out _ (List.getElem_mem hkl)
   have HSU := Lib.hid (meetL_succ (q := q) hkl)
   clear hce hcc hc0
   cases hm : tb (r.2[k] ∈ q.2)
   ·rw [hm] at HSU
    have HSU2 : Hid (meetL r q (k + 1) = meetL r q k) := by unfold Hid; rw [HSU.out]; simp
    go_wp2_with fail
    refine (l01Has_quiet wv (HQ.out.below hbw) HC.out).mono ?_
    rintro e w1 ⟨rfl, hq1⟩
    rw [hm]
    have hb1 := hq1.below
    have HB1 : Hid (Bl intsT 48 (B1 + 1) w1.heap.size w1 (.slice ya yn yc) (meetL r q k)) := (HB.out.below hb1 (Nat.le_refl _)).mono hb1.size
    replace x0 := (cellB hb1 (by omega)).trans x0
    replace x1 := (cellB hb1 (by omega)).trans x1
    replace xm := (frozenB hb1 (by omega)).trans xm
    have hz1 := hb1.size
    have hbe1 : Below B1 Y w1 := hbe.trans (hb1.mono (by omega))
    go_wp2_with fail
    go_roundw
    case rel => exact ⟨k + 1, _, by omega, by go_num, by rw [HSU2.out]; exact HB1.out, x0, x1, xm, hbe1, by omega⟩
    case measure => simp [intOf]; omega
   ·rw [hm] at HSU
    have HSU2 : Hid (meetL r q k ++ [r.2[k]] = meetL r q (k + 1)) := by unfold Hid; rw [HSU.out]
    clear HSU
    generalize r.2[k] = row at HC hrk HSU2 hm
    go_wp2_with fail
    refine (l01Has_quiet wv (HQ.out.below hbw) HC.out).mono ?_
    rintro e w1 ⟨rfl, hq1⟩
    rw [hm]
    have hb1 := hq1.below
    have HB1 : Hid (Bl intsT 48 (B1 + 1) w1.heap.size w1 (.slice ya yn yc) (meetL r q k)) := (HB.out.below hb1 (Nat.le_refl _)).mono hb1.size
    replace x0 := (cellB hb1 (by omega)).trans x0
    replace x1 := (cellB hb1 (by omega)).trans x1
    replace xm := (frozenB hb1 (by omega)).trans xm
    replace d1 := (cellB hb1 hbV).trans d1
    replace e0 := (cellB hb1 haX).trans e0
    have HC1' := Lib.hid (HC.out.below hb1)
    have hz1 := hb1.size
    have hbe1 : Below B1 Y w1 := hbe.trans (hb1.mono (by omega))
    clear hb1 HB HC hbe hm
    go_wp2_with fail
    refine wp_region_T (fun w' => w'.cell? ⟨B1, 1, none⟩ = some (.slice ya yn yc) ∧ w'.cell? ⟨b, o + 1, none⟩ = some (.slice (some ⟨a, qo, none⟩) r.2.length cap) ∧ w'.cell? ⟨a, qo + k, none⟩ = some c) [11, 13] (by kernel_rfl) ⟨x1, d1, e0⟩ (fun hHeld => ?_)
    refine wpAnyT_take (i := 0) (v := ?_) rfl (by kernel_rfl) (fun _ _ _ h => h) (Or.inl ⟨by rfl, ?_⟩) (by assumption) ?_
    rotate_left
    ·(intro w hSw; (try dsimp only at hSw); go_simp <;> with_reducible rfl)
    go_simp
    refine wpAnyT_take (i := 1) (v := ?_) rfl (by kernel_rfl) (fun _ _ _ h => h) (Or.inl ⟨by rfl, ?_⟩) (by assumption) ?_
    rotate_left
    ·(intro w hSw; (try dsimp only at hSw); go_simp <;> with_reducible rfl)
    go_simp
    refine wpAnyT_take (i := 2) (v := ?_) rfl (by kernel_rfl) (fun _ _ _ h => h) (Or.inl ⟨by rfl, ?_⟩) (by assumption) ?_
    rotate_left
    ·(intro w hSw; (try dsimp only at hSw); go_simp <;> with_reducible rfl)
    go_simp
    refine wpAnyT_take (i := 3) (v := ?_) rfl (by kernel_rfl) (fun _ _ _ h => h) (Or.inl ⟨by rfl, ?_⟩) (by assumption) ?_
    rotate_left
    ·(intro w hSw; (try dsimp only at hSw); go_simp <;> with_reducible rfl)
    go_simp
    refine wpAnyT_take (i := 4) (v := ?_) rfl (by kernel_rfl) (fun _ _ _ h => h) (Or.inl ⟨by rfl, ?_⟩) (by assumption) ?_
    rotate_left
    ·(intro w hSw; (try dsimp only at hSw); go_simp <;> with_reducible rfl)
    go_simp
    refine wpAnyT_take (i := 5) (v := ?_) rfl (by kernel_rfl) (fun _ _ _ h => h) (Or.inl ⟨by rfl, ?_⟩) (by assumption) ?_
    rotate_left
    ·(intro w hSw; (try dsimp only at hSw); go_simp <;> with_reducible rfl)
    go_simp
    refine wpAnyT_take (i := 6) (v := ?_) rfl (by kernel_rfl) (fun _ _ _ h => h) (Or.inl ⟨by rfl, ?_⟩) (by assumption) ?_
    rotate_left
    ·(intro w hSw; (try dsimp only at hSw); go_simp <;> with_reducible rfl)
    go_simp
    refine wpAnyT_take (i := 7) (v := ?_) rfl (by kernel_rfl) (fun _ _ _ h => h) (Or.inl ⟨by rfl, ?_⟩) (by assumption) ?_
    rotate_left
    ·(intro w hSw; (try dsimp only at hSw); go_simp <;> with_reducible rfl)
    go_simp
    refine wpAnyT_take (i := 8) (v := ?_) rfl (by kernel_rfl) (fun _ _ _ h => h) (Or.inl ⟨by rfl, ?_⟩) (by assumption) ?_
    rotate_left
    ·(intro w hSw; (try dsimp only at hSw); go_simp <;> with_reducible rfl)
    go_simp
    have hv0 : Below w1.heap.size w1 w1.drew := bD
    have HB0 : Hid (Bl intsT 48 (B1 + 1) w1.heap.size w1.drew (.slice ya yn yc) (meetL r q k)) := HB1.out.below hv0 (Nat.le_refl _)
    have HC2 := Lib.hid (HC1'.out.below hv0)
    have x0' := (cellB hv0 (show B1 < w1.heap.size by omega)).trans x0
    have xm' := (frozenB hv0 (show B1 < w1.heap.size by omega)).trans xm
    have hbe0 : Below B1 Y w1.drew := hbe1.trans (hv0.mono (by omega))
    have hz0 := hv0.size
    clear x0 x1 xm d1 e0 HB1 HC1' hbe1
    obtain ⟨y0, hy0⟩ : ∃ y0 : World, y0 = w1.drew := ⟨_, rfl⟩
    rw [← hy0] at hHeld hv0 HB0 HC2 x0' xm' hbe0 hz0 ⊢
    clear hy0
    obtain ⟨x1, d1, e0⟩ := hHeld
    refine wpAnyT_one (i := 9) rfl (by kernel_rfl) (fun K' hK' => ?_)
    go_simp
    go_at_call 159
    refine (l00Own_any y0 HC2.out (by omega)).mono ?_
    rintro e y1 ⟨u, rfl, hBu, hb6⟩
    obtain ⟨ua, un, uc, rfl⟩ := ex_slice (hBu.fr (by unfold capMax; omega))
    have HF := Lib.hid (hBu.fr (by unfold capMax; omega))
    have hz6 := hb6.size
    have HB6 : Hid (Bl intsT 48 (B1 + 1) w1.heap.size y1 (.slice ya yn yc) (meetL r q k)) := HB0.out.below hb6 hz0
    replace x0' := (cellB hb6 (by omega)).trans x0'
    replace x1 := (cellB hb6 (by omega)).trans x1
    replace xm' := (frozenB hb6 (by omega)).trans xm'
    replace d1 := (cellB hb6 (by omega)).trans d1
    replace e0 := (cellB hb6 (by omega)).trans e0
    have hbe6 : Below B1 Y y1 := hbe0.trans (hb6.mono (by omega))
    clear hBu HB0
    dsimp only
    refine hK'.out _ _ ⟨x1, d1, e0⟩ (fun hHeld => ?_)
    clear hK' K'
    refine wpAnyT_one (i := 10) rfl (by kernel_rfl) (fun K' hK' => ?_)
    go_simp
    refine hK'.out _ _ ⟨(cellB (bA (w := y1)) (by omega)).trans x1, (cellB (bA (w := y1)) (by omega)).trans d1, (cellB (bA (w := y1)) (by omega)).trans e0⟩ (fun hHeld => ?_)
    clear hK' K'
    refine wpAnyT_last (i := 11) rfl (by kernel_rfl) (by kernel_rfl) (fun K' hK' => ?_)
    refine step_push (E := intsT) _ rfl _ _ 33 48 rfl elInt64SS rfl (HB6.out.below ((bA (w := y1)).mono (by omega)) (Nat.le_refl _)) rfl news1 ((HF.out.below bA).mono (by omega)) (by omega) (by decide) (by omega) (by first | (simp; done) | (simp; omega)) ?_
    intro v7 w7 hB7 hg7 _
    have hb7 : Below (B1 + 1) y1 w7 := ((bA (w := y1)).mono (by omega)).grown hg7 (by first | (simp; done) | (simp; omega)) (fun q hq => HB6.out.own hq)
    have i0 := (cellB hb7 (show B1 < B1 + 1 by omega)).trans x0'
    have i1 := (cellB hb7 (show B1 < B1 + 1 by omega)).trans x1
    have im := (frozenB hb7 (show B1 < B1 + 1 by omega)).trans xm'
    have hz7 := hb7.size
    have hbe7 : Below B1 Y w7 := hbe6.trans (hb7.mono (by omega))
    rw [HSU2.out] at hB7
    have hml2 := meetL_len (r := r) (q := q) (k := k + 1)
    obtain ⟨za, zn, zc, rfl⟩ := ex_slice (hB7.fr (by unfold capMax; omega))
    have HB7 := Lib.hid hB7
    clear hB7 hg7 HB6
    refine hK'.out _ _ ?_
    clear hK' K'
    refine wpAnyT_any (i := 12) (v := ?_) rfl (by kernel_rfl) (fun _ _ _ h => h) (Or.inl ⟨by rfl, ?_⟩) (by first | exact fun _ => by assumption | (intro hp; exact absurd hp (by rw [show pastB _ _ = true by kernel_rfl]; simp))) ?_
    rotate_left
    ·(intro w hSw; (try dsimp only at hSw); go_simp <;> with_reducible rfl)
    try simp only [Act.put]
    refine wpAnyT_last (i := 13) rfl (by kernel_rfl) (by kernel_rfl) (fun K' hK' => ?_)
    go_simp
    refine hK'.out _ _ ?_
    clear hK' K'
    refine wpAnyT_done (by kernel_rfl) ?_ _
    go_simp
    go_wp2_with fail
    go_roundw
    case rel => exact ⟨k + 1, _, by omega, by go_num, by rw [size_set]; exact HB7.out.sameB (fun q h1 h2 => Below.heap_setCell _ _ _ _ (by simp; omega)), (World.cell?_setCell_other _ _ _ _ (by simp)).trans i0, World.cell?_setCell_same _ _ _ i1, (World.frozen?_setCell _ _ _ _).trans im, hbe7.setCell (Nat.le_refl _) _, by rw [size_set]; omega⟩
    case measure => simp [intOf]; omega
  ·obtain rfl : k = r.2.length := by omega
   have hfr := HB.out.fr (by unfold capMax; omega)
   rw [meetL_all] at hfr
   obtain ⟨z1, z2, hzx⟩ := fr_slice hfr
   simp only [Value.slice.injEq] at hzx
   obtain ⟨rfl, rfl, rfl⟩ := hzx
   have HFF : Hid (relT.Fr (B1 + 1) wv [.int .i64 r.1, .slice ya (meetR r q).2.length yc] (meetR r q)) := fr_cons HCI.out hfr
   obtain ⟨r0, r1, m0, m1⟩ := HR0.out
   replace r0 := (cellB hbe hwX).trans r0
   replace r1 := (cellB hbe hwX).trans r1
   replace m0 := (frozenB hbe hwX).trans m0
   replace m1 := (frozenB hbe hwX).trans m1
   clear hfr HB HCE
   obtain ⟨g0, g1⟩ := set2_cells (x := .int .i64 r.1) (y := .slice ya (meetR r q).2.length yc) r0 r1
   go_wp2_with fail
   refine bodyPost_ret (v := .agg #[.int .i64 r.1, .slice ya (meetR r q).2.length yc]) (by simp [results, Tryz.results80, go_sem, g0, g1]) rfl ⟨[.int .i64 r.1, .slice ya (meetR r q).2.length yc], rfl, ((HFF.out.set (a := ⟨w.heap.size, 0, none⟩) (show w.heap.size < B1 + 1 by omega)).set (a := ⟨w.heap.size, 1, none⟩) (show w.heap.size < B1 + 1 by omega)).mono (by omega), (hbw.setCell (Nat.le_refl _) _).setCell (Nat.le_refl _) _⟩
theorem box_two {w : World} {A : Obj} {cs : Array Value} {q : Int × List (List Int)} (h : relT.Rd w cs.toList q) (T : TypeId) : relT.Pt ((w.alloc A).alloc (.cells cs T)) (.pointer (some ⟨w.heap.size + 1, 0, none⟩)) q := by
 have h2 := pt_box (T := T) (h.below (bA (w := w) (o := A)))
 have e : (w.alloc A).heap.size = w.heap.size + 1 := by simp
 rw [e] at h2
 exact h2
set_option maxHeartbeats 1600000 in
theorem MeetRels_any (w : World) {cs cs' : Array Value} {r q : Int × List (List Int)} (h : relT.Rd w cs.toList r) (h' : relT.Rd w cs'.toList q) {s : Int} (hr : relOk s r) (hq : relOk s q) (he : r.1 = q.1) :
  Calls Tryz.prog 16 #[.int .i64 s, .agg cs, .agg cs'] w (RetAC relT w (meetR r q) 0) := by
 have HOK := Lib.hid (And.intro hr (And.intro hq he))
 have hbd := rel_bd hr
 have p1 := (pt_box (T := 35) h)
 have p2 := fun A => box_two (A := A) h' 35
 obtain ⟨u, hv, hI, hx⟩ := pair_ex h
 obtain rfl := agg_of hv
 obtain ⟨u', hv', hI', hx'⟩ := pair_ex h'
 obtain rfl := agg_of hv'
 have P1 : Hid (∀ o o', relT.Pt (((w.alloc (.cells #[.int .i64 r.1, u] 35)).alloc o).alloc o') (.pointer (some ⟨w.heap.size, 0, none⟩)) r) := fun o o' => (p1.below bA).below bA
 have P2 : Hid (∀ A o', relT.Pt (((w.alloc A).alloc (.cells #[.int .i64 q.1, u'] 35)).alloc o') (.pointer (some ⟨w.heap.size + 1, 0, none⟩)) q) := fun A o' => (p2 A).below bA
 clear h h' hr hq he hv hv' hx hx' p1 p2 hI hI'
 go_enter Tryz.func16, Tryz.ntmps16
 go_wp2_with fail
 have Q1 := P1.out
 have Q2 := P2.out
 generalize hW : World.alloc (World.alloc (World.alloc w _) _) _ = W
 have HQ1 : Hid (relT.Pt W (.pointer (some ⟨w.heap.size, 0, none⟩)) r) := by unfold Hid; rw [← hW]; exact Q1 _ _
 have HQ2 : Hid (relT.Pt W (.pointer (some ⟨w.heap.size + 1, 0, none⟩)) q) := by unfold Hid; rw [← hW]; exact Q2 _ _
 have hbW : Below w.heap.size w W := by rw [← hW]; exact bAA.alloc (by simp; omega) _
 have hsW : w.heap.size + 3 ≤ W.heap.size := by rw [← hW]; simp
 have r0 : W.cell? ⟨w.heap.size + 2, 0, none⟩ = some (.int .i64 0) := by rw [← hW]; simp [go_sem]
 have r1 : W.cell? ⟨w.heap.size + 2, 1, none⟩ = some (.slice none 0 0) := by rw [← hW]; simp [go_sem]
 have m0 : W.frozen? ⟨w.heap.size + 2, 0, none⟩ = false := by rw [← hW]; simp [go_sem]
 have m1 : W.frozen? ⟨w.heap.size + 2, 1, none⟩ = false := by rw [← hW]; simp [go_sem]
 clear hW Q1 Q2 P1 P2
 refine (l01Two_any W HQ1.out HQ2.out HOK.out.1 HOK.out.2.1 HOK.out.2.2).mono ?_
 rintro e w1 ⟨rfl, hb1⟩
 have hbw1 := bthen hbW hb1
 have hz1 := hb1.size
 replace r0 := (cellB hb1 (by omega)).trans r0
 replace r1 := (cellB hb1 (by omega)).trans r1
 replace m0 := (frozenB hb1 (by omega)).trans m0
 replace m1 := (frozenB hb1 (by omega)).trans m1
 go_wp2_with fail
 refine (l01Meet_any w1 (HQ1.out.below hb1) (HQ2.out.below hb1) hbd).mono ?_
 rintro e w2 ⟨cs, rfl, hf, hb2⟩
 have HF := Lib.hid hf
 obtain ⟨a, c, rfl⟩ := fr_pair hf
 have hbw2 := bthen hbw1 hb2
 replace r0 := (cellB hb2 (by omega)).trans r0
 replace r1 := (cellB hb2 (by omega)).trans r1
 replace m0 := (frozenB hb2 (by omega)).trans m0
 replace m1 := (frozenB hb2 (by omega)).trans m1
 clear hf
 obtain ⟨g0, g1⟩ := set2_cells (x := .int .i64 (meetR r q).1) (y := .slice a (meetR r q).2.length c) r0 r1
 go_wp2_with fail
 refine bodyPost_ret (v := .tuple #[.agg #[.int .i64 (meetR r q).1, .slice a (meetR r q).2.length c], .int .i64 0]) (by simp [results, Tryz.results16, go_sem, g0, g1]) rfl ⟨[.int .i64 (meetR r q).1, .slice a (meetR r q).2.length c], rfl, ((HF.out.set (a := ⟨w.heap.size + 2, 0, none⟩) (show w.heap.size + 2 < w1.heap.size by omega)).set (a := ⟨w.heap.size + 2, 1, none⟩) (show w.heap.size + 2 < w1.heap.size by omega)).mono (by omega), (hbw2.setCell (show w.heap.size ≤ w.heap.size + 2 by omega) _).setCell (show w.heap.size ≤ w.heap.size + 2 by omega) _⟩
end Go.Proofs.YtnhdohednekhjaaGreatDoor
namespace Go.Proofs.YtnhdohednekhjaaGreatDoor
open Go.RowKit Go.Sort
noncomputable def projR (s : Int) (r : Int × List (List Int)) (ps : List Int) : Int × List (List Int) := ((ps.length : Int), relL s ps.length (fun l => tb (l ∈ r.2.map fun x => atL x ps)) (s ^ ps.length).toNat)
set_option maxHeartbeats 3200000 in
set_option maxRecDepth 100000 in
theorem l01Project_any (w : World) {v u : Value} {r : Int × List (List Int)} {ps : List Int} (h : relT.Pt w v r) (hu : intsT.Rd w [u] ps) {s : Int} (hr : relOk s r) (hp : ∀ p ∈ ps, 0 ≤ p ∧ p ≤ r.1 - 1) (hm : 1 ≤ ps.length ∧ ps.length ≤ 4) :
  Calls Tryz.prog 89 #[.int .i64 s, v, u] w (RetA relT w (projR s r ps)) := by
 have hs := hr.1
 unfold sizeOk at hs
 obtain ⟨N, hN⟩ : ∃ N : Nat, s ^ ps.length = (N : Int) := ⟨_, pow_cast (by omega) _⟩
 have hN1 : N ≤ 1000000 := by
  have h1 := hs.1
  have h2 := hs.2
  have h3 := hm.2
  have : s ^ ps.length ≤ 4 ^ 4 := by
   rcases (show s = 1 ∨ s = 2 ∨ s = 3 ∨ s = 4 by omega) with rfl | rfl | rfl | rfl <;> rcases (show ps.length = 1 ∨ ps.length = 2 ∨ ps.length = 3 ∨ ps.length = 4 by omega) with e | e | e | e <;> rw [e] <;> decide
  omega
 have HPR : Hid (projR s r ps = ((ps.length : Int), relL s ps.length (fun l => tb (l ∈ r.2.map fun x => atL x ps)) N)) := by unfold Hid projR; rw [hN, Int.toNat_natCast]
 have hrow : ∀ (k : Nat) (hk : k < r.2.length), (r.2[k].length : Int) = r.1 ∧ ∀ a ∈ r.2[k], 0 ≤ a ∧ a ≤ s - 1 := fun k hk => (hr.2.2 k hk).1
 have hat : ∀ (k : Nat) (hk : k < r.2.length), (atL r.2[k] ps).length = ps.length ∧ ∀ a ∈ atL r.2[k] ps, 0 ≤ a ∧ a ≤ s - 1 := fun k hk => ⟨atL_len, fun a ha => by
  obtain ⟨p, hpm, rfl⟩ := List.mem_map.1 ha
  have h1 := hp p hpm
  have h2 := hrow k hk
  rw [List.getD_eq_getElem?_getD, List.getElem?_eq_getElem (by omega)]
  exact h2.2 _ (List.getElem_mem _)⟩
 have HAT := Lib.hid hat
 have HIN : Hid (∀ (k : Nat) (hk : k < r.2.length), ∀ p ∈ ps, 0 ≤ p ∧ p < (r.2[k].length : Int)) := fun k hk p hpm => by have := hp p hpm; have := (hrow k hk).1; omega
 have HALL : Hid (∀ l ∈ r.2.map (fun x => atL x ps), l.length = ps.length ∧ ∀ a ∈ l, 0 ≤ a ∧ a ≤ s - 1) := fun l hl => by
  obtain ⟨x, hx, rfl⟩ := List.mem_map.1 hl
  obtain ⟨k, hk, rfl⟩ := List.mem_iff_getElem.1 hx
  exact hat k hk
 have HU := Lib.hid hu
 have HN := Lib.hid hN
 have hr256 := (rel_bd hr).1
 obtain ⟨b, o, ad, cap, rfl, hb, hI, c0, c1, hx⟩ := pt_pair h
 obtain ⟨_, _, e1, hle, hle2, hcell⟩ := slices_ex hx
 simp only [List.cons.injEq, Value.slice.injEq, and_true, true_and] at e1
 obtain ⟨rfl, rfl⟩ := e1
 have HCE := Lib.hid hcell
 obtain ⟨ua, uc, rfl⟩ := rd_slice hu
 clear h hu hx hr hp hrow hat hcell hI c0 hN
 go_enter Tryz.func89, Tryz.ntmps89
 go_wp2_with fail
 generalize hW : World.alloc w _ = X
 have hbX : Below w.heap.size w X := hW ▸ bA
 have hsX : w.heap.size + 1 ≤ X.heap.size := by rw [← hW]; simp
 have r0 : X.cell? ⟨w.heap.size, 0, none⟩ = some (.int .i64 0) := by rw [← hW]; simp [go_sem]
 have r1 : X.cell? ⟨w.heap.size, 1, none⟩ = some (.slice none 0 0) := by rw [← hW]; simp [go_sem]
 have m0 : X.frozen? ⟨w.heap.size, 0, none⟩ = false := by rw [← hW]; simp [go_sem]
 have m1 : X.frozen? ⟨w.heap.size, 1, none⟩ = false := by rw [← hW]; simp [go_sem]
 clear hW
 refine (l01Empty3_any X s ps.length hs.1 (by omega) (by omega) N HN.out hN1).mono ?_
 rintro e w1 ⟨bx, g, rfl, hset, hb1⟩
 have hg : X.heap.size ≤ g := hset.1.2.2.2.2.2.1
 have hbw1 := bthen hbX hb1
 have hz1 := hb1.size
 replace r0 := (cellB hb1 (by omega)).trans r0
 replace r1 := (cellB hb1 (by omega)).trans r1
 replace m0 := (frozenB hb1 (by omega)).trans m0
 replace m1 := (frozenB hb1 (by omega)).trans m1
 replace c1 := (cellB hbw1 hb).trans c1
 have HR0 := Lib.hid (And.intro r0 (And.intro r1 (And.intro m0 m1)))
 have HC1 := Lib.hid c1
 have HS1 := Lib.hid hset
 have hbw : b < w1.heap.size := by omega
 clear r0 r1 m0 m1 c1 hset
 go_wp2_with fail
 go_loopw [8] (fun i wr => ∃ (k : Nat), k ≤ r.2.length ∧ i = .int .i64 k ∧ Set3 wr X.heap.size bx g s ps.length N ((r.2.take k).map fun x => atL x ps) ∧ TchP (fun q => X.heap.size ≤ q) w1 wr) (fun i _ => r.2.length - (intOf i).toNat)
 case atStart => exact ⟨0, Nat.zero_le _, rfl, by simpa using HS1.out, TchP.refl _ _⟩
 case round =>
  obtain ⟨k, hk, rfl, hset, htc⟩ := hrel
  obtain ⟨wv, rfl⟩ : ∃ wv : World, wv = wr := ⟨_, rfl⟩
  have HS := Lib.hid hset
  have HT := Lib.hid htc
  have hbv : Below w.heap.size w wv := hbw1.trans (htc.below (by omega) (fun q hq h => by omega))
  have d1 := (htc.cell (i := o + 1) (b := b) hbw (by omega)).trans HC1.out
  have hzv := htc.size
  clear hset htc
  by_cases hkl : k < r.2.length
  ·obtain ⟨a, qo, rfl, haa, hce⟩ := HCE.out (by omega)
   obtain ⟨c, hc0, hcc⟩ := hce k hkl
   have e0 := (cellB hbv haa).trans hcc
   have HC := Lib.hid (hc0.below hbv)
   have hi := HIN.out k hkl
   have HI := Lib.hid hi
   have HA := Lib.hid (HAT.out k hkl)
   have HTK : Hid ((r.2.take (k + 1)).map (fun x => atL x ps) = (r.2.take k).map (fun x => atL x ps) ++ [atL r.2[k] ps]) := by
    unfold Hid
    rw [List.take_succ_eq_append_getElem hkl, List.map_append]
    rfl
   clear hce hcc hc0 hi
   generalize r.2[k] = row at HC HI HA HTK
   go_wp2_with fail
   refine (l01At_any wv HC.out (HU.out.below hbv) HI.out (by omega)).mono ?_
   rintro e w2 ⟨u2, rfl, hf2, hb2⟩
   have HF2 := Lib.hid hf2.rd
   obtain ⟨a2, c2, rfl⟩ := fr_slice hf2
   have HS2 := Lib.hid (HS.out.below hb2 (Nat.le_refl _))
   have HT2 : Hid (TchP (fun q => X.heap.size ≤ q) w1 w2) := HT.out.then (TchP.of_below hb2 _) (fun _ _ h => h)
   clear hf2
   go_wp2_with fail
   refine (put_any w2 HS2.out hs (by omega) HN.out HF2.out HA.out.1 HA.out.2).mono ?_
   rintro e w3 ⟨rfl, hset3, ht3⟩
   have HS3 := Lib.hid hset3
   have HT3 : Hid (TchP (fun q => X.heap.size ≤ q) w1 w3) := HT2.out.then ht3 (fun q _ h => by have : q = g := h; omega)
   clear hset3 ht3
   go_wp2_with fail
   go_roundw
   case rel => exact ⟨k + 1, by omega, by go_num, by rw [HTK.out]; exact HS3.out, HT3.out⟩
   case measure => simp [intOf]; omega
  ·obtain rfl : k = r.2.length := by omega
   rw [List.take_length] at HS
   obtain ⟨r0, r1, m0, m1⟩ := HR0.out
   replace r0 := (HT.out.cell (i := 0) (b := w.heap.size) (by omega) (by omega)).trans r0
   replace r1 := (HT.out.cell (i := 1) (b := w.heap.size) (by omega) (by omega)).trans r1
   replace m0 := (HT.out.frozen (i := 0) (b := w.heap.size) (by omega) (by omega)).trans m0
   replace m1 := (HT.out.frozen (i := 1) (b := w.heap.size) (by omega) (by omega)).trans m1
   go_wp2_with fail
   refine (rel_any wv HS.out hs (by omega) HN.out hN1 HALL.out).mono ?_
   rintro e w2 ⟨cs, rfl, hf, hb2⟩
   rw [← HPR.out] at hf
   have HF := Lib.hid hf
   obtain ⟨a, c, rfl⟩ := fr_pair hf
   have hbw2 := bthen hbv hb2
   replace r0 := (cellB hb2 (by omega)).trans r0
   replace r1 := (cellB hb2 (by omega)).trans r1
   replace m0 := (frozenB hb2 (by omega)).trans m0
   replace m1 := (frozenB hb2 (by omega)).trans m1
   clear hf
   obtain ⟨g0, g1⟩ := set2_cells (x := .int .i64 (projR s r ps).1) (y := .slice a (projR s r ps).2.length c) r0 r1
   go_wp2_with fail
   refine bodyPost_ret (v := .agg #[.int .i64 (projR s r ps).1, .slice a (projR s r ps).2.length c]) (by simp [results, Tryz.results89, go_sem, g0, g1]) rfl ⟨[.int .i64 (projR s r ps).1, .slice a (projR s r ps).2.length c], rfl, ((HF.out.set (a := ⟨w.heap.size, 0, none⟩) (show w.heap.size < wv.heap.size by omega)).set (a := ⟨w.heap.size, 1, none⟩) (show w.heap.size < wv.heap.size by omega)).mono (by omega), (hbw2.setCell (Nat.le_refl _) _).setCell (Nat.le_refl _) _⟩
set_option maxHeartbeats 1600000 in
theorem ProjectRel_any (w : World) {cs : Array Value} {r : Int × List (List Int)} {u : Value} {ps : List Int} (h : relT.Rd w cs.toList r) (hu : intsT.Rd w [u] ps) {s : Int} (hr : relOk s r) (hp : ∀ p ∈ ps, 0 ≤ p ∧ p ≤ r.1 - 1) (hm : 1 ≤ ps.length ∧ ps.length ≤ 4) :
  Calls Tryz.prog 20 #[.int .i64 s, .agg cs, u] w (RetAC relT w (projR s r ps) 0) := by
 have hvo : tb (relOk s r) = true := tb_true hr
 have hin : inB (ps.length : Int) 1 4 = true := inB_true.2 ⟨by omega, by omega⟩
 have hro : tb (rowOk r.1 ps.length ps) = true := tb_true ⟨rfl, hp⟩
 have hr1 := hr.2.1
 unfold sizeOk at hr1
 have HOK := Lib.hid (And.intro hr hp)
 have p1 := (pt_box (T := 35) h)
 have HU := Lib.hid hu
 obtain ⟨ua, uc, rfl⟩ := rd_slice hu
 obtain ⟨u2, hv, hI, hx⟩ := pair_ex h
 obtain rfl := agg_of hv
 have P1 : Hid (∀ o, relT.Pt ((w.alloc (.cells #[.int .i64 r.1, u2] 35)).alloc o) (.pointer (some ⟨w.heap.size, 0, none⟩)) r) := fun o => p1.below bA
 clear h hu hr hp hv hx p1 hI
 go_enter Tryz.func20, Tryz.ntmps20
 go_wp2_with fail
 have Q1 := P1.out
 have t0 : ∀ o, ((w.alloc (.cells #[.int .i64 r.1, u2] 35)).alloc o).cell? ⟨w.heap.size, 0, none⟩ = some (.int .i64 r.1) := fun o => by simp [go_sem]
 generalize hW : World.alloc (World.alloc w _) _ = W
 have HQ1 : Hid (relT.Pt W (.pointer (some ⟨w.heap.size, 0, none⟩)) r) := by unfold Hid; rw [← hW]; exact Q1 _
 have q0 : W.cell? ⟨w.heap.size, 0, none⟩ = some (.int .i64 r.1) := by rw [← hW]; exact t0 _
 have hbW : Below w.heap.size w W := by rw [← hW]; exact bAA
 have hsW : w.heap.size + 2 ≤ W.heap.size := by rw [← hW]; simp
 have r0 : W.cell? ⟨w.heap.size + 1, 0, none⟩ = some (.int .i64 0) := by rw [← hW]; simp [go_sem]
 have r1 : W.cell? ⟨w.heap.size + 1, 1, none⟩ = some (.slice none 0 0) := by rw [← hW]; simp [go_sem]
 have m0 : W.frozen? ⟨w.heap.size + 1, 0, none⟩ = false := by rw [← hW]; simp [go_sem]
 have m1 : W.frozen? ⟨w.heap.size + 1, 1, none⟩ = false := by rw [← hW]; simp [go_sem]
 clear hW Q1 P1 t0
 refine (l01Ok_quiet W HQ1.out s).mono ?_
 rintro e w1 ⟨rfl, hq1⟩
 have hb1 := hq1.below
 rw [hvo]
 have hbw1 := bthen hbW hb1
 have hz1 := hb1.size
 replace r0 := (cellB hb1 (by omega)).trans r0
 replace r1 := (cellB hb1 (by omega)).trans r1
 replace q0 := (cellB hb1 (by omega)).trans q0
 replace m0 := (frozenB hb1 (by omega)).trans m0
 replace m1 := (frozenB hb1 (by omega)).trans m1
 go_wp2_with fail
 refine (l01Arity_any _ _).mono ?_
 rintro e _ ⟨rfl, rfl⟩
 rw [hin]
 go_wp2_with fail
 refine (l01Places_any r.1 w1 (HU.out.below hbw1) (by omega) (by omega)).mono ?_
 rintro e _ ⟨rfl, rfl⟩
 rw [hro]
 go_wp2_with fail
 refine (l01Project_any w1 (HQ1.out.below hb1) (HU.out.below hbw1) HOK.out.1 HOK.out.2 hm).mono ?_
 rintro e w2 ⟨cs, rfl, hf, hb2⟩
 have HF := Lib.hid hf
 obtain ⟨a, c, rfl⟩ := fr_pair hf
 have hbw2 := bthen hbw1 hb2
 replace r0 := (cellB hb2 (by omega)).trans r0
 replace r1 := (cellB hb2 (by omega)).trans r1
 replace m0 := (frozenB hb2 (by omega)).trans m0
 replace m1 := (frozenB hb2 (by omega)).trans m1
 clear hf
 obtain ⟨g0, g1⟩ := set2_cells (x := .int .i64 (projR s r ps).1) (y := .slice a (projR s r ps).2.length c) r0 r1
 go_wp2_with fail
 refine bodyPost_ret (v := .tuple #[.agg #[.int .i64 (projR s r ps).1, .slice a (projR s r ps).2.length c], .int .i64 0]) (by simp [results, Tryz.results20, go_sem, g0, g1]) rfl ⟨[.int .i64 (projR s r ps).1, .slice a (projR s r ps).2.length c], rfl, ((HF.out.set (a := ⟨w.heap.size + 1, 0, none⟩) (show w.heap.size + 1 < w1.heap.size by omega)).set (a := ⟨w.heap.size + 1, 1, none⟩) (show w.heap.size + 1 < w1.heap.size by omega)).mono (by omega), (hbw2.setCell (show w.heap.size ≤ w.heap.size + 1 by omega) _).setCell (show w.heap.size ≤ w.heap.size + 1 by omega) _⟩
end Go.Proofs.YtnhdohednekhjaaGreatDoor
namespace Go.Proofs.YtnhdohednekhjaaGreatDoor
open Go.RowKit Go.Sort
noncomputable def plaB (r : Int × List (List Int)) (ps : List Int) (l : List Int) : Bool := tb (atL l ps ∈ r.2)
/-- the first k tuples, those that are kept -/
noncomputable def plaL (s : Int) (ar : Nat) (r : Int × List (List Int)) (ps : List Int) (k : Nat) : List (List Int) := relL s ar (plaB r ps) k
noncomputable def plaR (s : Int) (ar : Nat) (r : Int × List (List Int)) (ps : List Int) : Int × List (List Int) := ((ar : Int), relL s ar (plaB r ps) (s ^ ar).toNat)
theorem plaL_len {s : Int} {ar : Nat} {r : Int × List (List Int)} {ps : List Int} {k : Nat} : (plaL s ar r ps k).length ≤ k := by
 unfold plaL relL
 exact Nat.le_trans (List.length_filter_le _ _) (by simp)
theorem plaL_succ {s : Int} {ar : Nat} {r : Int × List (List Int)} {ps : List Int} {k : Nat} : plaL s ar r ps (k + 1) = plaL s ar r ps k ++ (match plaB r ps (digL s (k : Nat) ar) with | true => [digL s (k : Nat) ar] | false => []) := by
 unfold plaL relL
 rw [List.range_succ, List.map_append, List.filter_append]
 congr 1
set_option maxHeartbeats 3200000 in
set_option maxRecDepth 100000 in
theorem l01Place_any (w : World) {v u : Value} {r : Int × List (List Int)} {ps : List Int} (h : relT.Pt w v r) (hu : intsT.Rd w [u] ps) {s : Int} (hs : 1 ≤ s ∧ s ≤ 4) {ar : Nat} (har : 1 ≤ ar ∧ ar ≤ 4) (hp : ∀ p ∈ ps, 0 ≤ p ∧ p ≤ (ar : Int) - 1) (hm : ps.length ≤ 4) :
  Calls Tryz.prog 93 #[.int .i64 s, v, .int .i64 (ar : Int), u] w (RetA relT w (plaR s ar r ps)) := by
 obtain ⟨N, hN⟩ : ∃ N : Nat, s ^ ar = (N : Int) := ⟨_, pow_cast (by omega) _⟩
 have hN1 : N ≤ 256 := by
  have : s ^ ar ≤ 4 ^ 4 := by
   rcases (show s = 1 ∨ s = 2 ∨ s = 3 ∨ s = 4 by omega) with rfl | rfl | rfl | rfl <;> rcases (show ar = 1 ∨ ar = 2 ∨ ar = 3 ∨ ar = 4 by omega) with e | e | e | e <;> rw [e] <;> decide
  omega
 have HPR : Hid (plaR s ar r ps = ((ar : Int), plaL s ar r ps N)) := by unfold Hid plaR plaL; rw [hN, Int.toNat_natCast]
 have HN : Hid (s ^ ((ar : Int)).toNat = (N : Int)) := by unfold Hid; rw [Int.toNat_natCast]; exact hN
 have HU := Lib.hid hu
 have HP := Lib.hid h
 have HPS := Lib.hid hp
 obtain ⟨b, o, ad, cap, rfl, hb, -, -, -, -⟩ := pt_pair h
 obtain ⟨ua, uc, rfl⟩ := rd_slice hu
 clear h hu hN hp
 go_enter Tryz.func93, Tryz.ntmps93
 go_wp2_with fail
 generalize hW : World.alloc (World.alloc w _) _ = Y
 have hbX : Below w.heap.size w Y := by rw [← hW]; exact bAA
 have hsY0 : w.heap.size + 2 ≤ Y.heap.size := by rw [← hW]; simp
 have r0 : Y.cell? ⟨w.heap.size, 0, none⟩ = some (.int .i64 0) := by rw [← hW]; simp [go_sem]
 have r1 : Y.cell? ⟨w.heap.size, 1, none⟩ = some (.slice none 0 0) := by rw [← hW]; simp [go_sem]
 have m0 : Y.frozen? ⟨w.heap.size, 0, none⟩ = false := by rw [← hW]; simp [go_sem]
 have m1 : Y.frozen? ⟨w.heap.size, 1, none⟩ = false := by rw [← hW]; simp [go_sem]
 have x0 : Y.cell? ⟨w.heap.size + 1, 0, none⟩ = some (.int .i64 (ar : Int)) := by rw [← hW]; simp [go_sem]
 have x1 : Y.cell? ⟨w.heap.size + 1, 1, none⟩ = some (.slice none 0 0) := by rw [← hW]; simp [go_sem]
 have xm : Y.frozen? ⟨w.heap.size + 1, 1, none⟩ = false := by rw [← hW]; simp [go_sem]
 clear hW
 obtain ⟨B1, hB1⟩ : ∃ B1, B1 = w.heap.size + 1 := ⟨_, rfl⟩
 rw [← hB1] at x0 x1 xm ⊢
 have hwX : w.heap.size < B1 := by omega
 have hsY : B1 + 1 ≤ Y.heap.size := by omega
 clear hB1 hsY0
 have hbX2 : b < B1 := by omega
 have HR0 := Lib.hid (And.intro r0 (And.intro r1 (And.intro m0 m1)))
 clear r0 r1 m0 m1
 go_loopw [10] (fun i wr => ∃ (k : Nat) (va : Value), k ≤ N ∧ i = .int .i64 k ∧ Bl intsT 48 (B1 + 1) wr.heap.size wr va (plaL s ar r ps k) ∧ wr.cell? ⟨B1, 0, none⟩ = some (.int .i64 (ar : Int)) ∧ wr.cell? ⟨B1, 1, none⟩ = some va ∧ wr.frozen? ⟨B1, 1, none⟩ = false ∧ Below B1 Y wr ∧ B1 + 1 ≤ wr.heap.size) (fun i _ => N - (intOf i).toNat)
 case atStart => exact ⟨0, _, Nat.zero_le _, rfl, Bl.nil, x0, x1, xm, Below.refl _ _, hsY⟩
 case round =>
  clear x0 x1 xm
  obtain ⟨k, va, hk, rfl, hBl, x0, x1, xm, hbe, hzr⟩ := hrel
  obtain ⟨wv, rfl⟩ : ∃ wv : World, wv = wr := ⟨_, rfl⟩
  have hml := plaL_len (s := s) (ar := ar) (r := r) (ps := ps) (k := k)
  obtain ⟨ya, yn, yc, rfl⟩ := ex_slice (hBl.fr (by unfold capMax; omega))
  have HB := Lib.hid hBl
  clear hBl
  have hbw : Below w.heap.size w wv := hbX.trans (hbe.mono (by omega))
  go_wp2_with fail
  refine (l01Power_any wv s (ar : Int) (by omega) (by omega) (by omega)).mono ?_
  rintro e _ ⟨rfl, rfl⟩
  rw [HN.out]
  by_cases hkl : k < N
  ·have HSU := Lib.hid (plaL_succ (s := s) (ar := ar) (r := r) (ps := ps) (k := k))
   go_wp2_with fail
   refine (l01Digits_any wv s (k : Int) ar hs.1 (by omega) (by omega) (by omega) (by omega)).mono ?_
   rintro e w1 ⟨u1, rfl, hf1, hb1⟩
   have HF1 := Lib.hid hf1
   obtain ⟨a1, c1, rfl⟩ := fr_slice hf1
   have hdl : (digL s (k : Nat) ar).length = ar := digL_len
   have HDL := Lib.hid hdl
   have HIN : Hid (∀ p ∈ ps, 0 ≤ p ∧ p < ((digL s (k : Nat) ar).length : Int)) := fun p hp => by have := HPS.out p hp; rw [hdl]; omega
   have HB1 : Hid (Bl intsT 48 (B1 + 1) wv.heap.size w1 (.slice ya yn yc) (plaL s ar r ps k)) := HB.out.below hb1 (Nat.le_refl _)
   replace x0 := (cellB hb1 (by omega)).trans x0
   replace x1 := (cellB hb1 (by omega)).trans x1
   replace xm := (frozenB hb1 (by omega)).trans xm
   have hz1 := hb1.size
   have hbe1 : Below B1 Y w1 := hbe.trans (hb1.mono (by omega))
   have hbw1 := bthen hbw hb1
   clear hf1 hdl hb1 HB hbe
   generalize digL s (k : Nat) ar = row at HF1 HDL HIN HSU
   go_wp2_with fail
   refine (l01At_any w1 HF1.out.rd (HU.out.below hbw1) HIN.out (by omega)).mono ?_
   rintro e w2 ⟨u2, rfl, hf2, hb2⟩
   have HF2 := Lib.hid hf2.rd
   obtain ⟨a2, c2, rfl⟩ := fr_slice hf2
   have HF1b := Lib.hid (HF1.out.below hb2)
   have HB2 : Hid (Bl intsT 48 (B1 + 1) wv.heap.size w2 (.slice ya yn yc) (plaL s ar r ps k)) := HB1.out.below hb2 hz1
   replace x0 := (cellB hb2 (by omega)).trans x0
   replace x1 := (cellB hb2 (by omega)).trans x1
   replace xm := (frozenB hb2 (by omega)).trans xm
   have hz2 := hb2.size
   have hbe2 : Below B1 Y w2 := hbe1.trans (hb2.mono (by omega))
   have hbw2 := bthen hbw1 hb2
   clear hf2 hb2 HB1 HF1 hbe1
   go_wp2_with fail
   refine (l01Has_quiet w2 (HP.out.below hbw2) HF2.out).mono ?_
   rintro e w3 ⟨rfl, hq3⟩
   have hb3 := hq3.below
   have HF1c := Lib.hid (HF1b.out.below hb3)
   have HB3 : Hid (Bl intsT 48 (B1 + 1) wv.heap.size w3 (.slice ya yn yc) (plaL s ar r ps k)) := HB2.out.below hb3 (by omega)
   replace x0 := (cellB hb3 (by omega)).trans x0
   replace x1 := (cellB hb3 (by omega)).trans x1
   replace xm := (frozenB hb3 (by omega)).trans xm
   have hz3 := hb3.size
   have hbe3 : Below B1 Y w3 := hbe2.trans (hb3.mono (by omega))
   clear hb3 HB2 HF1b hbe2 HF2
   cases hm : tb (atL row ps ∈ r.2)
   ·have HSU2 : Hid (plaL s ar r ps (k + 1) = plaL s ar r ps k) := by
     unfold Hid
     rw [HSU.out]
     unfold plaB
     rw [hm]
     simp
    go_wp2_with fail
    go_roundw
    case rel => exact ⟨k + 1, _, by omega, by go_num, by rw [HSU2.out]; exact HB3.out.mono (by omega), x0, x1, xm, hbe3, by omega⟩
    case measure => simp [intOf]; omega
   ·have HSU2 : Hid (plaL s ar r ps k ++ [row] = plaL s ar r ps (k + 1)) := by
     unfold Hid
     rw [HSU.out]
     unfold plaB
     rw [hm]
    clear hm HSU
    go_wp2_with (at_builtin; go_loud (refine wpList_push (E := intsT) (top := wv.heap.size) _ rfl _ _ 33 48 rfl elInt64SS rfl (HB3.out.below ((Below.refl wv.heap.size w3).alloc (by omega) _) (Nat.le_refl _)) rfl news1 ((HF1c.out.below bA).mono (by omega)) (by omega) (by decide) (by omega) (by first | (simp; done) | (simp; omega)) ?_; intro v7 w7 hB7 hg7 _; rw [HSU2.out] at hB7; obtain ⟨za, zn, zc, rfl⟩ := ex_slice (hB7.fr (by have := plaL_len (s := s) (ar := ar) (r := r) (ps := ps) (k := k + 1); unfold capMax; omega)); have hb7 : Below (B1 + 1) w3 w7 := ((bA (w := w3)).mono (by omega)).grown hg7 (by first | (simp; done) | (simp; omega)) (fun q hq => HB3.out.own hq); have i0 := (cellB hb7 (show B1 < B1 + 1 by omega)).trans x0; have i1 := (cellB hb7 (show B1 < B1 + 1 by omega)).trans x1; have im := (frozenB hb7 (show B1 < B1 + 1 by omega)).trans xm))
    have hz7 := hb7.size
    have hbe7 : Below B1 Y w7 := hbe3.trans (hb7.mono (by omega))
    have HB7 := Lib.hid hB7
    clear hB7 hg7 HB3 x0 x1 xm
    go_wp2_with fail
    go_roundw
    case rel => exact ⟨k + 1, _, by omega, by go_num, by rw [size_set]; exact HB7.out.sameB (fun q h1 h2 => Below.heap_setCell _ _ _ _ (by simp; omega)), (World.cell?_setCell_other _ _ _ _ (by simp)).trans i0, World.cell?_setCell_same _ _ _ i1, (World.frozen?_setCell _ _ _ _).trans im, hbe7.setCell (Nat.le_refl _) _, by rw [size_set]; omega⟩
    case measure => simp [intOf]; omega
  ·obtain rfl : k = N := by omega
   have hfr := HB.out.fr (by unfold capMax; omega)
   obtain ⟨z1, z2, hzx⟩ := fr_slice hfr
   simp only [Value.slice.injEq] at hzx
   obtain ⟨rfl, rfl, rfl⟩ := hzx
   have HFF : Hid (relT.Fr (B1 + 1) wv [.int .i64 (ar : Int), .slice ya (plaL s ar r ps k).length yc] (plaR s ar r ps)) := by
    unfold Hid
    rw [HPR.out]
    exact fr_cons (I64.small (by omega) (by omega)) hfr
   obtain ⟨r0, r1, m0, m1⟩ := HR0.out
   replace r0 := (cellB hbe hwX).trans r0
   replace r1 := (cellB hbe hwX).trans r1
   replace m0 := (frozenB hbe hwX).trans m0
   replace m1 := (frozenB hbe hwX).trans m1
   clear hfr HB
   obtain ⟨g0, g1⟩ := set2_cells (x := .int .i64 (ar : Int)) (y := .slice ya (plaL s ar r ps k).length yc) r0 r1
   go_wp2_with fail
   refine bodyPost_ret (v := .agg #[.int .i64 (ar : Int), .slice ya (plaL s ar r ps k).length yc]) (by simp [results, Tryz.results93, go_sem, g0, g1]) rfl ⟨[.int .i64 (ar : Int), .slice ya (plaL s ar r ps k).length yc], rfl, ((HFF.out.set (a := ⟨w.heap.size, 0, none⟩) (show w.heap.size < B1 + 1 by omega)).set (a := ⟨w.heap.size, 1, none⟩) (show w.heap.size < B1 + 1 by omega)).mono (by omega), (hbw.setCell (Nat.le_refl _) _).setCell (Nat.le_refl _) _⟩
set_option maxHeartbeats 1600000 in
theorem PlaceRel_any (w : World) {cs : Array Value} {r : Int × List (List Int)} {u : Value} {ps : List Int} (h : relT.Rd w cs.toList r) (hu : intsT.Rd w [u] ps) {s : Int} (hr : relOk s r) {ar : Nat} (har : 1 ≤ ar ∧ ar ≤ 4) (hp : ∀ p ∈ ps, 0 ≤ p ∧ p ≤ (ar : Int) - 1) (hm : (ps.length : Int) = r.1) :
  Calls Tryz.prog 23 #[.int .i64 s, .agg cs, .int .i64 (ar : Int), u] w (RetAC relT w (plaR s ar r ps) 0) := by
 have hvo : tb (relOk s r) = true := tb_true hr
 have hin : inB (ar : Int) 1 4 = true := inB_true.2 ⟨by omega, by omega⟩
 have hro : tb (rowOk (ar : Int) ps.length ps) = true := tb_true ⟨rfl, hp⟩
 have hr1 := hr.2.1
 unfold sizeOk at hr1
 have hs := hr.1
 unfold sizeOk at hs
 have HPS := Lib.hid hp
 have hm4 : ps.length ≤ 4 := by omega
 have HM := Lib.hid hm
 have p1 := (pt_box (T := 35) h)
 have HU := Lib.hid hu
 obtain ⟨ua, uc, rfl⟩ := rd_slice hu
 obtain ⟨u2, hv, hI, hx⟩ := pair_ex h
 obtain rfl := agg_of hv
 have P1 : Hid (∀ o, relT.Pt ((w.alloc (.cells #[.int .i64 r.1, u2] 35)).alloc o) (.pointer (some ⟨w.heap.size, 0, none⟩)) r) := fun o => p1.below bA
 have t0 : ∀ o, ((w.alloc (.cells #[.int .i64 r.1, u2] 35)).alloc o).cell? ⟨w.heap.size, 0, none⟩ = some (.int .i64 (ps.length : Int)) := fun o => by rw [hm]; simp [go_sem]
 have T0 := Lib.hid t0
 clear h hu hr hp hv hx p1 hI hm hr1 t0
 go_enter Tryz.func23, Tryz.ntmps23
 go_wp2_with fail
 have Q1 := P1.out
 have t0 := T0.out
 generalize hW : World.alloc (World.alloc w _) _ = W
 have HQ1 : Hid (relT.Pt W (.pointer (some ⟨w.heap.size, 0, none⟩)) r) := by unfold Hid; rw [← hW]; exact Q1 _
 have q0 : W.cell? ⟨w.heap.size, 0, none⟩ = some (.int .i64 (ps.length : Int)) := by rw [← hW]; exact t0 _
 have hbW : Below w.heap.size w W := by rw [← hW]; exact bAA
 have hsW : w.heap.size + 2 ≤ W.heap.size := by rw [← hW]; simp
 have r0 : W.cell? ⟨w.heap.size + 1, 0, none⟩ = some (.int .i64 0) := by rw [← hW]; simp [go_sem]
 have r1 : W.cell? ⟨w.heap.size + 1, 1, none⟩ = some (.slice none 0 0) := by rw [← hW]; simp [go_sem]
 have m0 : W.frozen? ⟨w.heap.size + 1, 0, none⟩ = false := by rw [← hW]; simp [go_sem]
 have m1 : W.frozen? ⟨w.heap.size + 1, 1, none⟩ = false := by rw [← hW]; simp [go_sem]
 clear hW Q1 P1 t0 T0
 refine (l01Ok_quiet W HQ1.out s).mono ?_
 rintro e w1 ⟨rfl, hq1⟩
 have hb1 := hq1.below
 rw [hvo]
 have hbw1 := bthen hbW hb1
 have hz1 := hb1.size
 replace r0 := (cellB hb1 (by omega)).trans r0
 replace r1 := (cellB hb1 (by omega)).trans r1
 replace q0 := (cellB hb1 (by omega)).trans q0
 replace m0 := (frozenB hb1 (by omega)).trans m0
 replace m1 := (frozenB hb1 (by omega)).trans m1
 go_wp2_with fail
 refine (l01Arity_any _ _).mono ?_
 rintro e _ ⟨rfl, rfl⟩
 rw [hin]
 go_wp2_with fail
 refine (l01Places_any (ar : Int) w1 (HU.out.below hbw1) (by omega) (by omega)).mono ?_
 rintro e _ ⟨rfl, rfl⟩
 rw [hro]
 go_wp2_with fail
 refine (l01Place_any w1 (HQ1.out.below hb1) (HU.out.below hbw1) hs har HPS.out hm4).mono ?_
 rintro e w2 ⟨cs, rfl, hf, hb2⟩
 have HF := Lib.hid hf
 obtain ⟨a, c, rfl⟩ := fr_pair hf
 have hbw2 := bthen hbw1 hb2
 replace r0 := (cellB hb2 (by omega)).trans r0
 replace r1 := (cellB hb2 (by omega)).trans r1
 replace m0 := (frozenB hb2 (by omega)).trans m0
 replace m1 := (frozenB hb2 (by omega)).trans m1
 clear hf
 obtain ⟨g0, g1⟩ := set2_cells (x := .int .i64 (plaR s ar r ps).1) (y := .slice a (plaR s ar r ps).2.length c) r0 r1
 go_wp2_with fail
 refine bodyPost_ret (v := .tuple #[.agg #[.int .i64 (plaR s ar r ps).1, .slice a (plaR s ar r ps).2.length c], .int .i64 0]) (by simp [results, Tryz.results23, go_sem, g0, g1]) rfl ⟨[.int .i64 (plaR s ar r ps).1, .slice a (plaR s ar r ps).2.length c], rfl, ((HF.out.set (a := ⟨w.heap.size + 1, 0, none⟩) (show w.heap.size + 1 < w1.heap.size by omega)).set (a := ⟨w.heap.size + 1, 1, none⟩) (show w.heap.size + 1 < w1.heap.size by omega)).mono (by omega), (hbw2.setCell (show w.heap.size ≤ w.heap.size + 1 by omega) _).setCell (show w.heap.size ≤ w.heap.size + 1 by omega) _⟩
end Go.Proofs.YtnhdohednekhjaaGreatDoor
namespace Go.Proofs.YtnhdohednekhjaaGreatDoor
open Go.RowKit Go.Sort
section
variable {t : Tpl} {f g : Frm}
theorem ff_conj (hf : frmOk t f) (hg : frmOk t g) (h1 : f.1 = 2) (h2 : g.1 = 2) : (conjC t f g = 0 ∧ frmOk t (conjV t f g) ∧ vaR t (conjV t f g) = meetR (vaR t f) (vaR t g)) ∨ conjC t f g = 3 := by
 have h0 : twoC t f g = 0 := two_0 (tb_true hf) (tb_true hg) (by rw [h1, h2]; decide)
 obtain ⟨c1, c2⟩ := conj_yes (f := f) (g := g) h0
 rw [c1, c2]
 by_cases hl : (conjF f g).2.1 ≤ 8 ∧ (conjF f g).2.2.length ≤ 16
 ·obtain ⟨l1, l2⟩ := lim_yes hl
  obtain ⟨k1, k2⟩ := conj_value hf hg (h1.trans h2.symm) hl
  rw [l1, l2]
  refine .inl ⟨rfl, k1, Prod.ext rfl ?_⟩
  refine pw_ext (sortedL_pw (relOk_sorted (va_ok k1))) ((sortedL_pw (relOk_sorted (va_ok hf))).filter _) fun l => ?_
  rw [k2 l]
  show _ ↔ l ∈ (vaR t f).2.filter _
  rw [List.mem_filter, tb_iff]
 ·exact .inr (lim_no hl).2
theorem ff_hide (hf : frmOk t f) (h1 : f.1 = 2) : hideC t f 0 = 0 ∧ frmOk t (hideV t f 0) ∧ vaR t (hideV t f 0) = projR t.1 (vaR t f) [1] := by
 obtain ⟨k0, k1, k2, k3⟩ := hide_value hf h1
 have hs := hf.1.1
 refine ⟨k0, k1, rel_ext (va_ok k1) ?_ k2 fun l => ?_⟩
 ·exact relL_ok (ar := 1) hs (by decide) (pow_cast (by have := hs.1; omega) 1)
 ·rw [k3 l]
  constructor
  ·rintro ⟨u, hu, rfl⟩
   have hul := (relL_tup hs.1 (show u ∈ relL t.1 f.1.toNat (vaP t f) (t.1 ^ f.1.toNat).toNat from hu))
   have ht : tupP t.1 1 (atL u [1]) := ⟨rfl, fun a ha => by
    have ha' : a ∈ [u.getD ((1 : Int).toNat) 0] := ha
    have hl2 := hul.1
    rw [List.mem_singleton.1 ha', show (1 : Int).toNat = 1 from rfl, List.getD_eq_getElem?_getD, List.getElem?_eq_getElem (by omega)]
    exact hul.2 _ (List.getElem_mem _)⟩
   refine (relL_iff hs.1 (pow_cast (by have := hs.1; omega) 1) ht).2 (tb_true (List.mem_map.2 ⟨u, hu, rfl⟩))
  ·intro hl
   have hl' : l ∈ relL t.1 1 (fun l => tb (l ∈ (vaR t f).2.map fun x => atL x [1])) (t.1 ^ 1).toNat := hl
   have ht := relL_tup hs.1 hl'
   have := (relL_iff hs.1 (pow_cast (by have := hs.1; omega) 1) ht).1 hl'
   obtain ⟨u, hu, e⟩ := List.mem_map.1 (tb_iff.1 this)
   exact ⟨u, hu, e.symm⟩
theorem ff_place (hf : frmOk t f) (h1 : f.1 = 2) {ps : List Int} (hp : tupP 3 2 ps) : (placeC t f 3 ps = 0 ∧ frmOk t (placeV t f 3 ps) ∧ vaR t (placeV t f 3 ps) = plaR t.1 3 (vaR t f) ps) ∨ placeC t f 3 ps = 3 := by
 have hpl := hp.1
 obtain ⟨c1, c2⟩ := place_0 (t := t) (f := f) (free := 3) (places := ps) (tb_true hf) (by decide) (tb_true ⟨by rw [hpl, h1]; rfl, hp.2⟩)
 rw [c1, c2]
 have hs := hf.1.1
 by_cases hl : (placeF f 3 ps).2.1 ≤ 8 ∧ (placeF f 3 ps).2.2.length ≤ 16
 ·obtain ⟨l1, l2⟩ := lim_yes hl
  obtain ⟨k1, k2⟩ := place_value hf (k := 3) (by decide) (ps := ps) (by rw [hpl, h1]; rfl) hp.2 hl.1
  rw [l1, l2]
  refine .inl ⟨rfl, k1, rel_ext (va_ok k1) ?_ rfl fun l => ?_⟩
  ·exact relL_ok (ar := 3) hs (by decide) (pow_cast (by have := hs.1; omega) 3)
  ·refine (k2 l).trans ?_
   constructor
   ·rintro ⟨ht, hm⟩
    exact (relL_iff hs.1 (pow_cast (by have := hs.1; omega) 3) ht).2 (tb_true hm)
   ·intro hl
    have hl' : l ∈ relL t.1 3 (plaB (vaR t f) ps) (t.1 ^ 3).toNat := hl
    have ht := relL_tup hs.1 hl'
    exact ⟨ht, tb_iff.1 ((relL_iff hs.1 (pow_cast (by have := hs.1; omega) 3) ht).1 hl')⟩
 ·exact .inr (lim_no hl).2
theorem ff_sim (hf : frmOk t f) : simC t f = 0 ∧ frmOk t (simV t f) ∧ (simV t f).2.1 ≤ f.2.1 ∧ (simV t f).2.2.length ≤ f.2.2.length ∧ aeB t f (simV t f) = true ∧ twoC t f (simV t f) = 0 := by
 obtain ⟨s1, s2⟩ := sim_yes (tb_true hf)
 obtain ⟨k1, k2, k3, k4, k5⟩ := sim_value hf
 rw [s1, s2]
 have h0 : twoC t f (simF f) = 0 := two_0 (tb_true hf) (tb_true k1) (by rw [k2]; simp)
 exact ⟨rfl, k1, k3, k4, by simp [aeB, h0, k5, eqB], h0⟩
theorem ff_apart (hf : frmOk t f) (hg : frmOk t g) (h1 : f.1 = 2) (h2 : g.1 = 2) : twoC t f g = 0 ∧ aeB t f g = eqB (vaR t f) (vaR t g) ∧ ((faC t f g = 6 ∧ eqB (vaR t f) (vaR t g) = true) ∨ (faC t f g = 0 ∧ eqB (vaR t f) (vaR t g) = false ∧ atC t f (faV t f g) = 0 ∧ atC t g (faV t f g) = 0 ∧ haB t g (faV t f g) = !haB t f (faV t f g))) := by
 obtain ⟨a1, a2, a3⟩ := apart_at hf hg (n := 2) h1 h2
 refine ⟨a1, a2, a3.imp (fun h => ⟨h.1, eqB_true h.2⟩) fun h => ⟨h.1, by simpa [eqB] using h.2.1, (at_tuple hf h1 h.2.2.1).1, (at_tuple hg h2 h.2.2.1).1, ?_⟩⟩
 have := h.2.2.2
 cases e1 : haB t f (faV t f g) <;> cases e2 : haB t g (faV t f g) <;> simp_all
theorem ff_at (hf : frmOk t f) (h1 : f.1 = 2) {u : List Int} (hu : tupP t.1 2 u) : atC t f u = 0 ∧ haB t f u = tb (u ∈ (vaR t f).2) ∧ ((waC t f u = 0 ∧ tb (u ∈ (vaR t f).2) = true ∧ ((waV t f u).length : Int) = f.2.1 ∧ (waV t f u).take 2 = u) ∨ (waC t f u = 6 ∧ tb (u ∈ (vaR t f).2) = false)) := by
 obtain ⟨a1, a2, a3⟩ := at_tuple hf (n := 2) h1 hu
 exact ⟨a1, a2, a3.imp (fun h => ⟨h.1, tb_true h.2.1, h.2.2⟩) fun h => ⟨h.1, tb_false h.2⟩⟩
end
end Go.Proofs.YtnhdohednekhjaaGreatDoor
namespace Go.Proofs.YtnhdohednekhjaaGreatDoor
open Go.RowKit Go.Sort
/-- a drawn tuple comes back -/
def TuR (s : Int) (n : Nat) (w : World) (e : Ending) (w' : World) : Prop :=
 ∃ u xs, e = .returned u ∧ intsT.Fr w.heap.size w' [u] xs ∧ tupP s n xs ∧ Below w.heap.size w w'
set_option maxHeartbeats 3200000 in
set_option maxRecDepth 100000 in
theorem P6Tuple_any (w : World) {v : Value} {code : List Int} (h : bytesT.Rd w [v] code) {s : Int} {ar : Nat} (hs : 1 ≤ s ∧ s ≤ 4) (har : ar ≤ 4) :
  Calls Tryz.prog 28 #[v, .int .i64 s, .int .i64 ar] w (TuR s ar w) := by
 obtain ⟨ad, cap, rfl⟩ := rd_slice h
 have H := Lib.hid h
 clear h
 go_enter Tryz.func28, Tryz.ntmps28
 go_wp2_with fail
 refine (l00From_any w H.out).mono ?_
 rintro e w1 ⟨rfl, hs1, hb1⟩
 have HS := Lib.hid hs1
 have hsl := hs1.lt
 have hz1 := hb1.size
 clear hs1
 go_wp2_with fail
 go_loopw [9, 8] (fun i g wq => ∃ (p : Nat) (xs : List Int), p ≤ ar ∧ i = .int .i64 p ∧ xs.length = p ∧ inS s xs ∧ Bl Ty.int 2 w1.heap.size wq.heap.size wq g xs ∧ SrcR w.heap.size w.heap.size p wq ∧ TchP (fun q => q = w.heap.size) w1 wq) (fun i _ _ => ar - (intOf i).toNat)
 case atStart => exact ⟨0, [], Nat.zero_le _, rfl, rfl, inS_nil, by simpa using Bl.lit0 (E := Ty.int) (e := 2) (w := w1) (Nat.le_refl _), HS.out.below bA, TchP.of_below bA _⟩
 case round =>
  obtain ⟨p, xs, hp, rfl, hxl, hxs, hBx, hsx, htx⟩ := hrel
  obtain ⟨wq, rfl⟩ : ∃ wq : World, wq = wr := ⟨_, rfl⟩
  have HBX := Lib.hid hBx
  have HSX := Lib.hid hsx
  have HTX := Lib.hid htx
  have HXS := Lib.hid hxs
  have HXL := Lib.hid hxl
  have hzq := htx.size
  obtain ⟨xa, xn, xc, rfl⟩ := ex_slice (hBx.fr (by rw [hxl]; unfold capMax; omega))
  clear hBx hsx htx hxs hxl
  by_cases hpl : p < ar
  ·go_wp2_with fail
   refine (pick_any wq HSX.out (by omega) (by omega) ⟨hs.1, by omega⟩).mono ?_
   rintro e w3 ⟨x, rfl, hx0, hx1, hs3, ht3⟩
   have hz3 := ht3.size
   have HB3 : Hid (Bl Ty.int 2 w1.heap.size w3.heap.size w3 (.slice xa xn xc) xs) := (HBX.out.sameB (fun q h1 h2 => ht3.block q h2 (by omega))).mono ht3.size
   have HS3 := Lib.hid hs3
   have HT3 : Hid (TchP (fun q => q = w.heap.size) w1 w3) := HTX.out.then ht3 (fun _ _ h => h)
   have hIx : I64 x := i64_in hs ⟨hx0, hx1⟩
   have HXN : Hid (inS s (xs ++ [x])) := inS_push HXS.out ⟨hx0, hx1⟩
   have hzv3 : w1.heap.size ≤ w3.heap.size := by omega
   clear hs3 ht3 HBX
   go_wp2_with (at_builtin; go_loud (refine wpList_push (E := Ty.int) _ rfl _ _ 48 2 rfl elInt rfl (HB3.out.below (bA (w := w3)) (Nat.le_refl _)) rfl news1 (fr_int hIx) (by rw [HXL.out]; omega) (by decide) hzv3 (by first | (simp; done) | (simp; omega)) ?_; intro v5 w5 hB5 hg5 hown))
   have hge : ∀ q, (Value.slice xa xn xc).ownBlock = some q → w1.heap.size ≤ q := fun q hq => HB3.out.ge hq
   have ht5 : TchP (fun q => (Value.slice xa xn xc).ownBlock = some q) w3 w5 := (TchP.of_below (bA (w := w3)) _).then (TchP.grown hg5 (fun q h => h)) (fun q _ h => h)
   have HS5 : Hid (SrcR w.heap.size w.heap.size (p + 1 : Nat) w5) := (HS3.out.mono (by omega)).tch ht5 (fun h => by have := hge _ h; omega) (fun q hq h => by have := hge _ h; omega)
   have HT5 : Hid (TchP (fun q => q = w.heap.size) w1 w5) := HT3.out.then ht5 (fun q hq h => by have := hge q h; omega)
   have HB5 := Lib.hid hB5
   clear hB5 hg5 hown hge ht5
   go_wp2_with fail
   go_roundw
   case rel => exact ⟨p + 1, xs ++ [x], by omega, by go_num, by rw [List.length_append, HXL.out]; rfl, HXN.out, HB5.out, HS5.out, HT5.out⟩
   case measure => simp [intOf]; omega
  ·obtain rfl : p = ar := by omega
   have HF := Lib.hid (HBX.out.fr (by rw [HXL.out]; unfold capMax; omega))
   go_wp2_with fail
   go_ret
   exact ⟨_, xs, rfl, HF.out.mono (by omega), ⟨HXL.out, fun a ha => HXS.out a ha⟩, hb1.trans (HTX.out.below (by omega) (fun q hq h => by omega))⟩
theorem P6Places_any (w : World) {v : Value} {code : List Int} (h : bytesT.Rd w [v] code) {ar cnt : Nat} (har : 1 ≤ ar ∧ ar ≤ 4) (hc : cnt ≤ 4) :
  Calls Tryz.prog 21 #[v, .int .i64 cnt, .int .i64 ar] w (TuR ar cnt w) := by
 have H := Lib.hid h
 obtain ⟨ad, cap, rfl⟩ := rd_slice h
 clear h
 go_enter Tryz.func21, Tryz.ntmps21
 go_wp2_with fail
 refine (P6Tuple_any w H.out (s := (ar : Int)) (by omega) hc).mono ?_
 rintro e w1 ⟨u, xs, rfl, hf, ht, hb⟩
 have HF := Lib.hid (And.intro hf (And.intro ht hb))
 obtain ⟨ua, uc, rfl⟩ := fr_slice hf
 clear hf ht hb
 go_wp2_with fail
 go_ret
 exact ⟨_, xs, rfl, HF.out⟩
end Go.Proofs.YtnhdohednekhjaaGreatDoor
namespace Go.Proofs.YtnhdohednekhjaaGreatDoor
open Go.RowKit Go.Sort
theorem fr_intsL {base : Nat} {w : World} {xs : List Int} {e : TypeId} {g n : Nat} {cs : Array Value} (hcs : cs = (xs.map (Value.int .i64)).toArray) (hn : xs.length = n) (hI : ∀ a ∈ xs, I64 a) (hg : w.heap.size = g) (hbs : base ≤ g) (hl : n ≤ 1000) :
  intsT.Fr base (w.alloc (.cells cs e)) [.slice (some ⟨g, 0, none⟩) n n] xs := by
 subst hg hcs hn
 exact IR.fr (e := e) ⟨rfl, hI, hbs, World.ownsRow_lit w _ xs.length hbs (by unfold maxLen; omega) (by simp)⟩ (by unfold capMax; omega)
end Go.Proofs.YtnhdohednekhjaaGreatDoor
namespace Go.Proofs.YtnhdohednekhjaaGreatDoor
open Go.RowKit Go.Sort
/-- box g holds a number and a row of the call's own -/
structure DrS {α : Type} (E : Ty α) (e : TypeId) (sb : Nat) (w0 : World) (lo g top : Nat) (n : Int) (v : Value) (T : List α) (w : World) : Prop where
 bl : Bl (E.off g) e lo top w v T
 own : v.ownBlock ≠ some g
 c0 : w.cell? ⟨g, 0, none⟩ = some (.int .i64 n)
 c1 : w.cell? ⟨g, 1, none⟩ = some v
 m0 : w.frozen? ⟨g, 0, none⟩ = false
 m1 : w.frozen? ⟨g, 1, none⟩ = false
 lw : w0.heap.size ≤ lo
 lg : lo ≤ g
 hi : g < top
 le : top ≤ w.heap.size
 hs : sb < w0.heap.size
theorem bl_off {α : Type} {E : Ty α} {e base top g : Nat} {w : World} {v : Value} {T : List α} (h : Bl E e base top w v T) (hg : g < base ∨ top ≤ g) : Bl (E.off g) e base top w v T := by
 obtain ⟨L, fps, h1, h2, h3, h4, h5, h6⟩ := h
 refine ⟨L, fps, h1, fun i hi => ?_, h3, h4, h5, h6⟩
 obtain ⟨cs, h7, h8⟩ := h2 i hi
 refine ⟨cs, ⟨h7, fun hm => ?_⟩, h8⟩
 have := h4 g (List.mem_flatMap.2 ⟨i, by simpa using hi, hm⟩)
 omega
section
variable {α : Type} {E : Ty α} {e : TypeId} {sb lo g top : Nat} {w0 w w' : World} {n : Int} {v : Value} {T : List α}
theorem DrS.same (h : DrS E e sb w0 lo g top n v T w) (hs : ∀ k, lo ≤ k → k < top → w'.heap[k]? = w.heap[k]?) (hz : top ≤ w'.heap.size) : DrS E e sb w0 lo g top n v T w' :=
 have hg := hs g h.lg h.hi
 ⟨h.bl.sameB hs, h.own, (World.cell?_of_block (a := ⟨g, 0, none⟩) hg).trans h.c0, (World.cell?_of_block (a := ⟨g, 1, none⟩) hg).trans h.c1, (World.frozen?_of_block (a := ⟨g, 0, none⟩) hg).trans h.m0, (World.frozen?_of_block (a := ⟨g, 1, none⟩) hg).trans h.m1, h.lw, h.lg, h.hi, hz, h.hs⟩
theorem DrS.tch (h : DrS E e sb w0 lo g top n v T w) (ht : TchP (fun q => q = sb) w w') : DrS E e sb w0 lo g top n v T w' :=
 h.same (fun k h1 h2 => ht.block k (by have := h.le; omega) (by have := h.lw; have := h.hs; omega)) (Nat.le_trans h.le ht.size)
theorem DrS.below {C : Nat} (h : DrS E e sb w0 lo g top n v T w) (hb : Below C w w') (hC : top ≤ C) : DrS E e sb w0 lo g top n v T w' :=
 h.same (fun k _ h2 => hb.block k (by omega)) (Nat.le_trans h.le hb.size)
theorem DrS.grown {row : Option Nat} (h : DrS E e sb w0 lo g top n v T w) (hg : w.grownBy w' row) (hr : ∀ b, row = some b → b < lo ∨ top ≤ b) : DrS E e sb w0 lo g top n v T w' :=
 h.same (fun k h1 h2 => hg.block k (by have := h.le; omega) (fun e => by have := hr k e.symm; omega)) (Nat.le_trans h.le hg.size)
theorem DrS.other {b i : Nat} {u : Value} (h : DrS E e sb w0 lo g top n v T w) (hb : b < lo ∨ top ≤ b) : DrS E e sb w0 lo g top n v T (w.setCell ⟨b, i, none⟩ u) :=
 h.same (fun k h1 h2 => Below.heap_setCell _ _ _ _ (fun e => by simp at e; omega)) (by rw [size_set]; exact h.le)
theorem DrS.cells (h : DrS E e sb w0 lo g top n v T w) (hg : w.grownBy w' v.ownBlock) : w'.cell? ⟨g, 1, none⟩ = some v ∧ w'.frozen? ⟨g, 1, none⟩ = false := by
 have hk := hg.block g (Nat.lt_of_lt_of_le h.hi h.le) (fun e => h.own e.symm)
 exact ⟨(World.cell?_of_block (a := ⟨g, 1, none⟩) hk).trans h.c1, (World.frozen?_of_block (a := ⟨g, 1, none⟩) hk).trans h.m1⟩
/-- the row has grown, and its new value is laid into the box -/
theorem DrS.row {v' : Value} {T' : List α} (h : DrS E e sb w0 lo g top n v T w) (hB : Bl (E.off g) e lo w'.heap.size w' v' T') (hg : w.grownBy w' v.ownBlock) (ho : v'.ownBlock = v.ownBlock ∨ v'.ownBlock = some w.heap.size) : DrS E e sb w0 lo g w'.heap.size n v' T' (w'.setCell ⟨g, 1, none⟩ v') := by
 have hlt : g < w.heap.size := Nat.lt_of_lt_of_le h.hi h.le
 have hk := hg.block g hlt (fun e => h.own e.symm)
 have hz := hg.size
 have h1 := h.le
 have h2 := h.hi
 have own' : v'.ownBlock ≠ some g := by
  rcases ho with e | e <;> rw [e]
  ·exact h.own
  ·exact fun e' => by simp at e'; omega
 exact ⟨off_same hB own' (fun k hk => Below.heap_setCell _ _ _ _ (fun e => hk (by simpa using e))), own', (World.cell?_setCell_other _ _ _ _ (by simp)).trans ((World.cell?_of_block (a := ⟨g, 0, none⟩) hk).trans h.c0), World.cell?_setCell_same _ _ _ ((World.cell?_of_block (a := ⟨g, 1, none⟩) hk).trans h.c1), (World.frozen?_setCell _ _ _ _).trans ((World.frozen?_of_block (a := ⟨g, 0, none⟩) hk).trans h.m0), (World.frozen?_setCell _ _ _ _).trans ((World.frozen?_of_block (a := ⟨g, 1, none⟩) hk).trans h.m1), h.lw, h.lg, by omega, by rw [size_set]; exact Nat.le_refl _, h.hs⟩
/-- a box that has just been made for what a callee has handed back -/
theorem DrS.box {t : TypeId} {b0 : Nat} (hw : w' = w.alloc (.cells #[.int .i64 n, v] t)) (hg : w.heap.size = g) (hB : Bl E e b0 w.heap.size w v T) (hb : b0 ≤ w.heap.size) (hlo : w0.heap.size ≤ b0) (hs : sb < w0.heap.size) : DrS E e sb w0 b0 g (g + 1) n v T w' := by
 subst hw hg
 have hown : v.ownBlock ≠ some w.heap.size := fun e => by have := hB.lt_top e; omega
 refine ⟨(bl_off ((hB.below bA (Nat.le_refl _)).mono (Nat.le_refl _)) (.inr (Nat.le_refl _))).mono (by omega), hown, by simp [go_sem], by simp [go_sem], by simp [go_sem], by simp [go_sem], hlo, hb, Nat.lt_succ_self _, by simp, hs⟩
theorem DrS.new {t : TypeId} (hw : w' = w.alloc (.cells #[.int .i64 n, .slice none 0 0] t)) (hg : w.heap.size = g) (hlo : w0.heap.size ≤ g) (hs : sb < w0.heap.size) : DrS E e sb w0 g g (g + 1) n (.slice none 0 0) [] w' := by
 subst hw hg
 exact ⟨Bl.nil, by simp [Value.ownBlock], by simp [go_sem], by simp [go_sem], by simp [go_sem], by simp [go_sem], hlo, Nat.le_refl _, Nat.lt_succ_self _, by simp, hs⟩
theorem off_bl {α : Type} {E : Ty α} {g e base top : Nat} {w : World} {v : Value} {ys : List α} (h : Bl (E.off g) e base top w v ys) : Bl E e base top w v ys := by
 obtain ⟨L, fps, h1, h2, h3⟩ := h
 exact ⟨L, fps, h1, fun i hi => let ⟨cs, h7, h8⟩ := h2 i hi; ⟨cs, h7.1, h8⟩, h3⟩
end
/-- a box of two cells that may be written -/
def ResB (r : Nat) (w : World) : Prop := r < w.heap.size ∧ (∃ u, w.cell? ⟨r, 0, none⟩ = some u) ∧ (∃ u, w.cell? ⟨r, 1, none⟩ = some u) ∧ w.frozen? ⟨r, 0, none⟩ = false ∧ w.frozen? ⟨r, 1, none⟩ = false
section
variable {r sb : Nat} {w w' W : World}
theorem ResB.same (h : ResB r w) (hs : w'.heap[r]? = w.heap[r]?) (hz : w.heap.size ≤ w'.heap.size) : ResB r w' := by
 obtain ⟨h0, ⟨u, h1⟩, ⟨x, h2⟩, h3, h4⟩ := h
 exact ⟨by omega, ⟨u, (World.cell?_of_block (a := ⟨r, 0, none⟩) hs).trans h1⟩, ⟨x, (World.cell?_of_block (a := ⟨r, 1, none⟩) hs).trans h2⟩, (World.frozen?_of_block (a := ⟨r, 0, none⟩) hs).trans h3, (World.frozen?_of_block (a := ⟨r, 1, none⟩) hs).trans h4⟩
theorem ResB.tch (h : ResB r w) (ht : TchP (fun q => q = sb) w w') (hr : r ≠ sb) : ResB r w' := h.same (ht.block r h.1 hr) ht.size
theorem ResB.below {C : Nat} (h : ResB r w) (hb : Below C w w') (hC : r < C) : ResB r w' := h.same (hb.block r hC) hb.size
theorem ResB.other {b i : Nat} {u : Value} (h : ResB r w) (hb : b ≠ r) : ResB r (w.setCell ⟨b, i, none⟩ u) := h.same (Below.heap_setCell _ _ _ _ (fun e => hb (by simpa using e.symm))) (by rw [size_set]; exact Nat.le_refl _)
theorem ResB.new {a b : Value} {t : TypeId} (hw : w' = w.alloc (.cells #[a, b] t)) (hr : w.heap.size = r) : ResB r w' := by
 subst hw hr
 exact ⟨by simp, ⟨a, by simp [go_sem]⟩, ⟨b, by simp [go_sem]⟩, by simp [go_sem], by simp [go_sem]⟩
theorem ResB.grown {row : Option Nat} (h : ResB r w) (hg : w.grownBy w' row) (hr : row ≠ some r) : ResB r w' := h.same (hg.block r h.1 (fun e => hr e.symm)) hg.size
theorem tchG {row : Option Nat} (h : TchP (fun q => q = sb) W w) (hg : w.grownBy w' row) (hr : ∀ b, row = some b → W.heap.size ≤ b) : TchP (fun q => q = sb) W w' :=
 h.then (TchP.grown (O := fun q => row = some q) hg (fun k e => e)) (fun k hk e => by have := hr k e; omega)
theorem srcG {row : Option Nat} {B : Nat} {K : Int} (h : SrcR sb B K w) (hg : w.grownBy w' row) (hr : ∀ b, row = some b → sb < b ∧ B ≤ b) : SrcR sb B K w' :=
 h.tch (TchP.grown (O := fun q => row = some q) hg (fun k e => e)) (fun e => by have := (hr sb e).1; omega) (fun q hq e => by have := (hr q e).2; omega)
theorem tchW {C : Nat} (h : TchP (fun q => q = sb) W w) (hb : Below C w w') (hC : W.heap.size ≤ C) : TchP (fun q => q = sb) W w' :=
 ⟨hb.os.trans h.os, hb.tape.trans h.tape, hb.output.trans h.output, Nat.le_trans h.size hb.size, fun k hk hn => (hb.block k (by omega)).trans (h.block k hk hn)⟩
theorem srcS {B b i : Nat} {K : Int} {u : Value} (h : SrcR sb B K w) (hb : b ≠ sb) (hB : B ≤ b) : SrcR sb B K (w.setCell ⟨b, i, none⟩ u) := h.tch (TchP.set (O := fun q => q = b) rfl) (fun e => hb e.symm) (fun q hq e => by omega)
end
theorem elRel : ElT Tryz.prog 25 35 2 32 := .mk (z := .agg #[.int .i64 0, .slice none 0 0]) Tryz.underlying25 (by kernel_rfl) rfl (by decide)
set_option maxHeartbeats 6400000 in
set_option maxRecDepth 100000 in
theorem l01TemplateDrawn_any (w : World) {sb B : Nat} {K s : Int} (h : SrcR sb B K w) (hK0 : 0 ≤ K) (hK : K ≤ 1000000) (hs : 1 ≤ s ∧ s ≤ 4) :
  Calls Tryz.prog 55 #[.pointer (some ⟨sb, 0, none⟩), .int .i64 s] w (FbR relT 35 (fun t => t.1 = s ∧ t.2.length ≤ 3 ∧ ∀ r ∈ t.2, relOk s r ∧ r.1 ≤ 3) sb B (K + 1000) w) := by
 have H := Lib.hid h
 have hsb := h.lt
 have hBs : B ≤ sb := let ⟨_, _, _, _, _, _, _, _, _, _, _, _, _, _, h⟩ := h; h
 clear h
 go_enter Tryz.func55, Tryz.ntmps55
 go_wp2_with fail
 generalize hW : World.alloc (World.alloc w _) _ = W
 have hbW : Below w.heap.size w W := hW ▸ bAA
 have hsW : w.heap.size + 2 ≤ W.heap.size := by rw [← hW]; simp
 have HR : Hid (ResB w.heap.size W) := by
  rw [← hW]
  exact (ResB.new rfl rfl).below bA (by simp)
 have HD : Hid (DrS relT 35 sb w (w.heap.size + 1) (w.heap.size + 1) (w.heap.size + 2) s (.slice none 0 0) [] W) := by
  rw [← hW]
  exact DrS.new rfl (by simp) (by omega) hsb
 have HS := Lib.hid (H.out.below hbW)
 clear hW
 refine (pick_any W HS.out hK0 (by omega) (n := 4) (by omega)).mono ?_
 rintro e w2 ⟨m, rfl, hm0, hm1, hs2, ht2⟩
 have hz2 := ht2.size
 replace HR := Lib.hid (HR.out.tch ht2 (by omega))
 replace HD := Lib.hid (HD.out.tch ht2)
 replace HS := Lib.hid hs2
 have HT := Lib.hid ((TchP.of_below hbW (fun q => q = sb)).then ht2 (fun q _ h => h))
 clear hs2 ht2
 go_wp2_with fail
 go_loopw [6] (fun i wr => ∃ (k : Nat) (va : Value) (T : List (Int × List (List Int))) (top : Nat), i = .int .i64 k ∧ k + T.length ≤ 3 ∧ (∀ r ∈ T, relOk s r ∧ r.1 ≤ 3) ∧ DrS relT 35 sb w (w.heap.size + 1) (w.heap.size + 1) top s va T wr ∧ ResB w.heap.size wr ∧ SrcR sb B (K + 1 + 200 * (3 - (k : Int))) wr ∧ TchP (fun q => q = sb) w wr) (fun i _ => (intOf i).toNat)
 case atStart =>
  refine ⟨m.toNat, _, [], _, ?_, ?_, fun r hr => (by cases hr), HD.out, HR.out, HS.out.mono (by omega), HT.out⟩
  ·rw [Int.toNat_of_nonneg hm0]
  ·simp; omega
 case round =>
  clear HD HR HS HT
  obtain ⟨k, va, T, top, rfl, hkl, hok, hd, hr, hsr, htc⟩ := hrel
  obtain ⟨wv, rfl⟩ : ∃ wv : World, wv = wr := ⟨_, rfl⟩
  have HD := Lib.hid hd
  have HOK := Lib.hid hok
  have HR := Lib.hid hr
  have HS := Lib.hid hsr
  have HT := Lib.hid htc
  have hw1 : w.heap.size + 2 ≤ wv.heap.size := by have := hd.hi; have := hd.le; omega
  have c1 := hd.c1
  obtain ⟨ta, tn, tc, rfl⟩ := ex_slice (hd.bl.fr (by unfold capMax; omega))
  clear hd hok hr hsr htc
  by_cases hk : 0 < k
  ·have hv0 : Below wv.heap.size wv wv.drew := bD
   have hkI : (0 : Int) < (k : Int) := by omega
   go_wp2_with fail
   refine wp_region_T (fun w' => w'.cell? ⟨w.heap.size + 1, 1, none⟩ = some (.slice ta tn tc)) [9] (by kernel_rfl) c1 (fun hHeld => ?_)
   refine wpAnyT_take (i := 0) (v := ?_) rfl (by kernel_rfl) (fun _ _ _ h => h) (Or.inl ⟨by rfl, ?_⟩) (by assumption) ?_
   rotate_left
   ·(intro w hSw; (try dsimp only at hSw); go_simp <;> with_reducible rfl)
   go_simp
   refine wpAnyT_take (i := 1) (v := ?_) rfl (by kernel_rfl) (fun _ _ _ h => h) (Or.inl ⟨by rfl, ?_⟩) (by assumption) ?_
   rotate_left
   ·(intro w hSw; (try dsimp only at hSw); go_simp <;> with_reducible rfl)
   go_simp
   refine wpAnyT_take (i := 2) (v := ?_) rfl (by kernel_rfl) (fun _ _ _ h => h) (Or.inl ⟨by rfl, ?_⟩) (by assumption) ?_
   rotate_left
   ·(intro w hSw; (try dsimp only at hSw); go_simp <;> with_reducible rfl)
   go_simp
   refine wpAnyT_take (i := 3) (v := ?_) rfl (by kernel_rfl) (fun _ _ _ h => h) (Or.inl ⟨by rfl, ?_⟩) (by assumption) ?_
   rotate_left
   ·(intro w hSw; (try dsimp only at hSw); go_simp <;> with_reducible rfl)
   go_simp
   refine wpAnyT_take (i := 4) (v := ?_) rfl (by kernel_rfl) (fun _ _ _ h => h) (Or.inl ⟨by rfl, ?_⟩) (by assumption) ?_
   rotate_left
   ·(intro w hSw; (try dsimp only at hSw); go_simp <;> with_reducible rfl)
   go_simp
   replace HD := Lib.hid (HD.out.below hv0 HD.out.le)
   replace HR := Lib.hid (HR.out.below hv0 HR.out.1)
   replace HS := Lib.hid (HS.out.below hv0)
   replace HT := Lib.hid (tchW HT.out hv0 (by omega))
   clear c1
   generalize wv.drew = x0 at *
   have hz0 := hv0.size
   refine wpAnyT_one (i := 5) rfl (by kernel_rfl) (fun K' hK' => ?_)
   go_simp
   generalize hWx : World.alloc x0 _ = x1
   have hb1 : Below x0.heap.size x0 x1 := by rw [← hWx]; exact bA
   have HL : Hid (intsT.Fr x0.heap.size x1 [.slice (some ⟨x0.heap.size, 0, none⟩) 5 5] [1, 2, 2, 2, 3]) := by
    rw [← hWx]
    exact fr_intsL rfl rfl (fun a ha => by simp at ha; unfold I64; omega) rfl (Nat.le_refl _) (by decide)
   clear hWx
   have hz1 := hb1.size
   replace HD := Lib.hid (HD.out.below hb1 HD.out.le)
   replace HR := Lib.hid (HR.out.below hb1 HR.out.1)
   replace HS := Lib.hid (HS.out.below hb1)
   replace HT := Lib.hid (tchW HT.out hb1 (by omega))
   refine hK'.out _ _ HD.out.c1 (fun hHeld => ?_)
   clear hK' K'
   refine wpAnyT_one (i := 6) rfl (by kernel_rfl) (fun K' hK' => ?_)
   go_simp
   go_at_call 140
   refine (among_any x1 HS.out (by omega) (by omega) HL.out.rd (by simp) (rdP_fr' HL.out (by omega))).mono ?_
   rintro e x2 ⟨p, hp, rfl, hs2, ht2⟩
   have hpx : 1 ≤ p ∧ p ≤ 3 := by simp at hp; omega
   have hz2' := ht2.size
   replace HD := Lib.hid (HD.out.tch ht2)
   replace HR := Lib.hid (HR.out.tch ht2 (by omega))
   replace HS := Lib.hid hs2
   replace HT := Lib.hid (HT.out.then ht2 (fun q _ h => h))
   clear hp hs2 ht2 HL
   dsimp only
   refine hK'.out _ _ HD.out.c1 (fun hHeld => ?_)
   clear hK' K'
   obtain ⟨ar, rfl⟩ : ∃ ar : Nat, p = (ar : Int) := ⟨p.toNat, by omega⟩
   obtain ⟨N, hN⟩ : ∃ N : Nat, s ^ ar = (N : Int) := ⟨(s ^ ar).toNat, by have h0 : 0 < s ^ ar := Int.pow_pos (by omega); omega⟩
   have hNb : N ≤ 64 := by
    have h1 := pow_mono' (s := s) (c := 4) (by omega) (by omega) ar
    rcases (show ar = 1 ∨ ar = 2 ∨ ar = 3 by omega) with e | e | e <;> subst e <;> simp at h1 <;> omega
   have HN := Lib.hid hN
   clear hN
   refine wpAnyT_one (i := 7) rfl (by kernel_rfl) (fun K' hK' => ?_)
   go_simp
   go_at_call 139
   refine (l01DrawnN_any x2 HS.out (by omega) (by omega) hs (by omega) HN.out).mono ?_
   rintro e x3 ⟨cs, r, rfl, hf, hrok, hr1, hs3, ht3⟩
   obtain ⟨ga, gc, rfl⟩ := fr_pair hf
   have hz3 := ht3.size
   have hto := HD.out.le
   replace HD := Lib.hid (HD.out.tch ht3)
   replace HR := Lib.hid (HR.out.tch ht3 (by omega))
   replace HS := Lib.hid hs3
   replace HT := Lib.hid (HT.out.then ht3 (fun q _ h => h))
   have HF := Lib.hid hf
   have HQ : Hid (relOk s r ∧ r.1 ≤ 3) := ⟨hrok, by omega⟩
   have htop : top ≤ x2.heap.size := hto
   clear hf hrok hr1 hs3 ht3
   dsimp only
   refine hK'.out _ _ HD.out.c1 (fun hHeld => ?_)
   clear hK' K'
   refine wpAnyT_one (i := 8) rfl (by kernel_rfl) (fun K' hK' => ?_)
   go_simp
   refine hK'.out _ _ (by go_keep) (fun hHeld => ?_)
   clear hK' K'
   refine wpAnyT_last (i := 9) rfl (by kernel_rfl) (by kernel_rfl) (fun K' hK' => ?_)
   have hgx := HD.out.hi
   refine step_push (E := relT.off (w.heap.size + 1)) _ rfl _ _ 25 35 rfl elRel rfl ((HD.out.bl.mono htop).below (bA (w := x3)) (by omega)) rfl news2 (fr_off (HF.out.below bA) (by omega)) (by omega) (by decide) (by omega) (by first | (simp; done) | (simp; omega)) ?_
   intro v6 w6 hB6 hg6 hown6
   obtain ⟨xa, xn, xc, rfl⟩ := ex_slice (hB6.fr (by rw [List.length_append]; unfold capMax; simp; omega))
   have hrow : ∀ b, (Value.slice ta tn tc).ownBlock = some b → w.heap.size + 1 ≤ b ∧ b ≠ w.heap.size + 1 := fun b hb => ⟨HD.out.bl.own hb, fun e => HD.out.own (by rw [hb, e])⟩
   obtain ⟨d1, dm⟩ := (HD.out.below (bA (w := x3)) HD.out.le).cells hg6
   have HDx := Lib.hid ((HD.out.below (bA (w := x3)) HD.out.le).row hB6 hg6 hown6)
   replace HR := Lib.hid (((HR.out.below (bA (w := x3)) HR.out.1).grown hg6 (fun e => by have := hrow _ e; omega)).other (b := w.heap.size + 1) (i := 1) (u := .slice xa xn xc) (by omega))
   replace HS := Lib.hid (srcS (b := w.heap.size + 1) (i := 1) (u := .slice xa xn xc) (srcG (HS.out.below (bA (w := x3))) hg6 (fun b hb => by have := hrow b hb; omega)) (by omega) (by omega))
   replace HT := Lib.hid (tchS (g := w.heap.size + 1) (i := 1) (v := .slice xa xn xc) (tchG (tchW HT.out (bA (w := x3)) (by omega)) hg6 (fun b hb => by have := hrow b hb; omega)) (by omega))
   have HOK2 : Hid (∀ r' ∈ T ++ [r], relOk s r' ∧ r'.1 ≤ 3) := fun r' hr' => by
    rcases List.mem_append.1 hr' with hr' | hr'
    ·exact HOK.out r' hr'
    ·rw [List.mem_singleton.1 hr']; exact HQ.out
   clear hB6 hg6 hown6 hrow HD HF HQ HOK
   refine hK'.out _ _ ?_
   clear hK' K'
   refine wpAnyT_any (i := 10) (v := ?_) rfl (by kernel_rfl) (fun _ _ _ h => h) (Or.inl ⟨by rfl, ?_⟩) (by first | exact fun _ => by assumption | (intro hp; exact absurd hp (by rw [show pastB _ _ = true by kernel_rfl]; simp))) ?_
   rotate_left
   ·(intro w hSw; (try dsimp only at hSw); go_simp <;> with_reducible rfl)
   try simp only [Act.put]
   refine wpAnyT_last (i := 11) rfl (by kernel_rfl) (by kernel_rfl) (fun K' hK' => ?_)
   go_simp
   refine hK'.out _ _ ?_
   clear hK' K'
   refine wpAnyT_done (by kernel_rfl) ?_ _
   go_simp
   go_wp2_with fail
   go_roundw
   case rel => exact ⟨k - 1, _, T ++ [r], _, by go_num, by rw [List.length_append, List.length_singleton]; omega, HOK2.out, HDx.out, HR.out, HS.out.mono (by omega), HT.out⟩
   case measure => simp [intOf]; omega
  ·obtain rfl : k = 0 := by omega
   have c0 := HD.out.c0
   have hI : I64 s := I64.small (by omega) (by omega)
   obtain ⟨⟨u0, r0⟩, ⟨u1, r1⟩, q0, q1⟩ := HR.out.2
   obtain ⟨g0, g1⟩ := set2_cells (x := .int .i64 s) (y := .slice ta tn tc) r0 r1
   go_wp2_with fail
   have HF : Hid (Bl relT 35 (w.heap.size + 1) ((wv.setCell ⟨w.heap.size, 0, none⟩ (.int .i64 s)).setCell ⟨w.heap.size, 1, none⟩ (.slice ta tn tc)).heap.size ((wv.setCell ⟨w.heap.size, 0, none⟩ (.int .i64 s)).setCell ⟨w.heap.size, 1, none⟩ (.slice ta tn tc)) (.slice ta tn tc) T) := by
    rw [size_set, size_set]
    exact (((off_bl HD.out.bl).mono HD.out.le).sameB (fun q h1 h2 => Below.heap_setCell _ _ _ _ (by simp; omega))).sameB (fun q h1 h2 => Below.heap_setCell _ _ _ _ (by simp; omega))
   refine bodyPost_ret (v := .agg #[.int .i64 s, .slice ta tn tc]) (by simp [results, Tryz.results55, go_sem, g0, g1]) rfl ⟨.slice ta tn tc, s, T, w.heap.size + 1, rfl, hI, by omega, by rw [size_set, size_set]; omega, HF.out, by omega, ⟨rfl, by show T.length ≤ 3; omega, HOK.out⟩, (srcS (srcS HS.out (by omega) (by omega)) (by omega) (by omega)).mono (by omega), tchS (tchS HT.out (Nat.le_refl _)) (Nat.le_refl _)⟩
end Go.Proofs.YtnhdohednekhjaaGreatDoor
namespace Go.Proofs.YtnhdohednekhjaaGreatDoor
open Go.RowKit Go.Sort
/-- between some tuples and their closure -/
def Mid (s : Int) (ops : List (Int × List Int)) (ar : Nat) (T0 T : List (List Int)) : Prop := (∀ l ∈ T, tupP s ar l) ∧ (∀ l ∈ T0, l ∈ T) ∧ ∀ l ∈ T, Clo s ops ar T0 l
theorem Mid.add {s : Int} {ops : List (Int × List Int)} {ar : Nat} {T0 T : List (List Int)} (h : Mid s ops ar T0 T) {l : List Int} (h1 : tupP s ar l) (h2 : Clo s ops ar T0 l) : Mid s ops ar T0 (T ++ [l]) :=
 ⟨fun x hx => (List.mem_append.1 hx).elim (h.1 x) (fun h => by rw [List.mem_singleton.1 h]; exact h1), fun x hx => List.mem_append_left _ (h.2.1 x hx), fun x hx => (List.mem_append.1 hx).elim (h.2.2 x) (fun h => by rw [List.mem_singleton.1 h]; exact h2)⟩
end Go.Proofs.YtnhdohednekhjaaGreatDoor
namespace Go.Proofs.YtnhdohednekhjaaGreatDoor
open Go.RowKit Go.Sort
theorem P6Pick_any (w : World) {v : Value} {code : List Int} (h : bytesT.Rd w [v] code) {n : Int} (hn : 1 ≤ n ∧ n ≤ 200) :
  Calls Tryz.prog 6 #[v, .int .i64 n] w fun e w' => ∃ x, e = .returned (.int .i64 x) ∧ 0 ≤ x ∧ x ≤ n - 1 ∧ Below w.heap.size w w' := by
 obtain ⟨ad, cap, rfl⟩ := rd_slice h
 have H := Lib.hid h
 clear h
 go_enter Tryz.func6, Tryz.ntmps6
 go_wp2_with fail
 refine (l00From_any w H.out).mono ?_
 rintro e w1 ⟨rfl, hs1, hb1⟩
 have HS := Lib.hid hs1
 clear hs1
 go_wp2_with fail
 refine (pick_any w1 HS.out (by omega) (by omega) hn).mono ?_
 rintro e w2 ⟨x, rfl, hx0, hx1, hs2, ht2⟩
 have hb2 : Below w.heap.size w1 w2 := ht2.below hb1.size (fun k hk e => by omega)
 clear hs2 ht2
 go_wp2_with fail
 go_ret
 exact ⟨x, rfl, hx0, hx1, hb1.trans hb2⟩
end Go.Proofs.YtnhdohednekhjaaGreatDoor
