/-
  Contracts: the relation of all tuples for which something is so.
-/
import Derived.Test.YtepebfpgmnidnaaK32
import Derived.Test.YtepebfpgmnidnaaK21
namespace Go.Proofs.Ytepebfpgmnidnaa
open Go.RowKit Go.Sort
/-- the tuples for which it is so, of the first k ones -/
def relL (s : Int) (ar : Nat) (p : List Int → Bool) (k : Nat) : List (List Int) := ((List.range k).map fun i : Nat => digL s i ar).filter p
theorem relL_zero {s : Int} {ar : Nat} {p : List Int → Bool} : relL s ar p 0 = [] := by simp [relL]
theorem relL_yes {s : Int} {ar : Nat} {p : List Int → Bool} {k : Nat} (h : p (digL s k ar) = true) : relL s ar p k ++ [digL s k ar] = relL s ar p (k + 1) := by simp [relL, List.range_succ, h]
theorem relL_no {s : Int} {ar : Nat} {p : List Int → Bool} {k : Nat} (h : p (digL s k ar) = false) : relL s ar p k = relL s ar p (k + 1) := by simp [relL, List.range_succ, h]
theorem relL_len {s : Int} {ar : Nat} {p : List Int → Bool} {k : Nat} : (relL s ar p k).length ≤ k := by
  unfold relL
  exact Nat.le_trans (List.length_filter_le _ _) (by simp)
set_option maxHeartbeats 3200000 in
set_option maxRecDepth 100000 in
theorem relOf_any (w : World) (s : Int) (ar : Nat) (hs : 1 ≤ s ∧ s ≤ 4) (har : ar ≤ 4) (g : Nat) (caps : Array Value) (eg : ∀ args w, (callFunc g args).run Try.prog w = .ok (.enter g args) w) (p : List Int → Bool) (N : Nat) (hN : s ^ ar = N)
    (hto : Hid (∀ W u (k : Nat), Below w.heap.size w W → k < N → intsT.Rd W [u] (digL s k ar) → Calls Try.prog g (#[u] ++ caps) W fun e w' => e = .returned (.bool (p (digL s k ar))) ∧ Below W.heap.size W w')) :
    Calls Try.prog 194 #[.int .i64 s, .int .i64 ar, .func (.func g) #[] caps] w (RetA relT w ((ar : Int), relL s ar p N)) := by
  have hNle : N ≤ 1000000 := by
    have h1 : s ^ ar ≤ 1000000 := by
      refine Int.le_trans (pow_mono' (by omega) (show s ≤ 4 by omega) ar) ?_
      rcases (show ar = 0 ∨ ar = 1 ∨ ar = 2 ∨ ar = 3 ∨ ar = 4 by omega) with e | e | e | e | e <;> rw [e] <;> decide
    omega
  have HN : Hid (s ^ ((ar : Int)).toNat = N) := by unfold Hid; rw [Int.toNat_natCast]; exact hN
  clear hN
  go_enter Try.func194, Try.ntmps194
  go_wp2_with fail
  generalize hW : World.alloc _ _ = W
  have hbW : Below w.heap.size w W := hW ▸ bAA
  have hsW : W.heap.size = w.heap.size + 2 := by rw [← hW]; simp
  have r0 : W.cell? ⟨w.heap.size, 0, none⟩ = some (.int .i64 0) := by rw [← hW]; simp [go_sem]
  have r1 : W.cell? ⟨w.heap.size, 1, none⟩ = some (.slice none 0 0) := by rw [← hW]; simp [go_sem]
  have m0 : W.frozen? ⟨w.heap.size, 0, none⟩ = false := by rw [← hW]; simp [go_sem]
  have m1 : W.frozen? ⟨w.heap.size, 1, none⟩ = false := by rw [← hW]; simp [go_sem]
  have y0 : W.cell? ⟨w.heap.size + 1, 0, none⟩ = some (.int .i64 (ar : Int)) := by rw [← hW]; simp [go_sem]
  have y1 : W.cell? ⟨w.heap.size + 1, 1, none⟩ = some (.slice none 0 0) := by rw [← hW]; simp [go_sem]
  have n1 : W.frozen? ⟨w.heap.size + 1, 1, none⟩ = false := by rw [← hW]; simp [go_sem]
  clear hW
  refine (power_any _ s (ar : Int) (by omega) (by omega) (by omega)).mono ?_
  rintro e _ ⟨rfl, rfl⟩
  rw [HN.out]
  go_wp2_with fail
  go_loopw [15] (fun i wr => ∃ (k : Nat) (v : Value), k ≤ N ∧ i = .int .i64 k ∧ Bl intsT 62 (w.heap.size + 2) wr.heap.size wr v (relL s ar p k) ∧ wr.cell? ⟨w.heap.size + 1, 1, none⟩ = some v ∧ wr.cell? ⟨w.heap.size + 1, 0, none⟩ = some (.int .i64 (ar : Int)) ∧ wr.frozen? ⟨w.heap.size + 1, 1, none⟩ = false ∧ Below (w.heap.size + 1) W wr ∧ w.heap.size + 2 ≤ wr.heap.size) (fun i _ => N - (intOf i).toNat)
  case atStart => exact ⟨0, _, Nat.zero_le _, rfl, by rw [relL_zero]; simpa using Bl.nil, y1, y0, n1, Below.refl _ _, by omega⟩
  case round =>
    obtain ⟨k, v, hk, rfl, hBv, z1, z0, zn, hbe, hse⟩ := hrel
    have hlr := relL_len (s := s) (ar := ar) (p := p) (k := k)
    obtain ⟨av0, nv0, cv0, rfl⟩ := ex_slice (hBv.fr (by unfold capMax; omega))
    have HBv := Lib.hid hBv
    have hbw : Below w.heap.size w wr := hbW.trans (hbe.mono (by omega))
    clear hBv y0 y1 n1
    by_cases hkl : k < N
    · go_wp2_with fail
      refine (listOf_any _ s (k : Int) ar (by omega) (by omega) (by omega) (by omega) (by omega)).mono ?_
      rintro e w2 ⟨u, rfl, hf, hb2⟩
      obtain ⟨a2, n2, c2, rfl⟩ := ex_slice hf
      have HF := Lib.hid hf
      have hz2 := hb2.size
      replace z0 := (cellB hb2 (by omega)).trans z0
      replace z1 := (cellB hb2 (by omega)).trans z1
      replace zn := (frozenB hb2 (by omega)).trans zn
      clear hf
      go_wp2_with fail
      refine (hto.out _ _ k (bthen hbw hb2) hkl HF.out.rd).mono ?_
      rintro e w3 ⟨rfl, hb3⟩
      have hz3 := hb3.size
      replace z0 := (cellB hb3 (by omega)).trans z0
      replace z1 := (cellB hb3 (by omega)).trans z1
      replace zn := (frozenB hb3 (by omega)).trans zn
      have hb23 : Below wr.heap.size wr w3 := bthen hb2 hb3
      cases hp : p (digL s k ar)
      · have HNO := Lib.hid (relL_no hp)
        clear hp
        go_wp2_with fail
        go_roundw
        case rel => exact ⟨k + 1, _, by omega, by go_num, by rw [← HNO.out]; exact (HBv.out.below hb23 (Nat.le_refl _)).mono (by omega), z1, z0, zn, hbe.trans (hb23.mono (by omega)), by omega⟩
        case measure => simp [intOf]; omega
      · have HYES := Lib.hid (relL_yes hp)
        have HF3 := Lib.hid (HF.out.below hb3)
        clear hp
        go_wp2_with (refine wpList_push (E := intsT) _ rfl _ _ 45 62 rfl elInt64SS rfl (HBv.out.below (hb23.alloc hb23.size _) (Nat.le_refl _)) rfl news1 (HF3.out.below bA) (by omega) (by decide) hse (by first | (simp; done) | (simp; omega)) ?_; intro v5 w5 hB5 hg5 _; obtain ⟨a5, n5, c5, rfl⟩ := ex_slice (hB5.fr (by rw [List.length_append]; unfold capMax; simp only [List.length_singleton]; omega)); have hb5 : Below (w.heap.size + 2) w3 w5 := ((Below.refl _ w3).alloc (by omega) _).grown hg5 (by first | (simp; done) | (simp; omega)) (fun q hq => HBv.out.own hq); have i1 := (cellB hb5 (by omega)).trans z1; have i0 := (cellB hb5 (by omega)).trans z0; have i2 := (frozenB hb5 (by omega)).trans zn)
        have hz5 := hb5.size
        rw [HYES.out] at hB5
        have HB5 := Lib.hid hB5
        clear hB5 hg5
        go_wp2_with fail
        go_roundw
        case rel => exact ⟨k + 1, _, by omega, by go_num, by rw [size_set]; exact HB5.out.sameB (fun q hq1 hq2 => Below.heap_setCell _ _ _ _ (by simp; omega)), World.cell?_setCell_same _ _ _ i1, (World.cell?_setCell_other _ _ _ _ (by simp)).trans i0, (World.frozen?_setCell _ _ _ _).trans i2, (hbe.trans ((hb23.mono (by omega)).trans (hb5.mono (by omega)))).setCell (by simp) _, by rw [size_set]; omega⟩
        case measure => simp [intOf]; omega
    · obtain rfl : k = N := by omega
      have HFO := Lib.hid (HBv.out.fr (by unfold capMax; omega))
      replace r0 := (cellB hbe (by omega)).trans r0
      replace r1 := (cellB hbe (by omega)).trans r1
      replace m0 := (frozenB hbe (by omega)).trans m0
      replace m1 := (frozenB hbe (by omega)).trans m1
      obtain ⟨q0, q1⟩ := set2_cells (x := .int .i64 (ar : Int)) (y := .slice av0 nv0 cv0) r0 r1
      have hl1 : w.heap.size + 1 < wr.heap.size := by omega
      go_wp2_with fail
      refine bodyPost_ret (v := .agg #[.int .i64 (ar : Int), .slice av0 nv0 cv0]) (by simp [results, Try.results194, go_sem, q0, q1]) rfl ⟨[.int .i64 (ar : Int), .slice av0 nv0 cv0], rfl, ?_, ?_⟩
      · exact (fr_cons (I64.small (by omega) (by omega)) (fr_set2 HFO.out (by omega))).mono (by omega)
      · exact (hbw.setCell (by simp) _).setCell (by simp) _
end Go.Proofs.Ytepebfpgmnidnaa
