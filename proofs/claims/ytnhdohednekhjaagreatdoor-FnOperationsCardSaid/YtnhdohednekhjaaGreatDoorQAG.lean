/-
Contracts: whether an operation is of a kind, the program's, kind by kind.
Contracts: whether an operation is of a kind, the program's: projections, semilattices; whole.
Contracts: the first polymorphism of a kind, the program's.
Contracts: tuples drawn from bytes; an operation applied; the kind of an operation, checked.
Contracts: an operation applied (the reference's), numbers in lists, values at places; a constant operation.
Contracts: placing a formula: the program's.
Contracts: a minor of an operation.
Contracts: the reference's tests of a kind: idempotent, conservative, flat.
Contracts: the reference's tests of a kind: flat, symmetric.
Contracts: the reference's tests of a kind: symmetric, associative.
-/
import Derived.Test.YtnhdohednekhjaaGreatDoorQAF
import Derived.Test.YtnhdohednekhjaaGreatDoorQAE
import Derived.Test.YtnhdohednekhjaaGreatDoorQAD
import Derived.Test.YtnhdohednekhjaaGreatDoorQAB
import Derived.Test.YtnhdohednekhjaaGreatDoorQAA
namespace Go.Proofs.YtnhdohednekhjaaGreatDoor
open Go.RowKit Go.Sort
theorem idem_all {s : Int} {f : Int × List Int} (hs : 1 ≤ s) : idemP s f ↔ ∀ k : Nat, k < s.toNat → opV s f.2 (List.replicate f.1.toNat ((digL s (k : Int) 1).getD 0 0)) = (digL s (k : Int) 1).getD 0 0 := by
 rw [← all_dig (P := fun l => opV s f.2 (List.replicate f.1.toNat (l.getD 0 0)) = l.getD 0 0) hs (by rw [Int.pow_succ, Int.pow_zero]; omega)]
 constructor
 ·intro h xs hl hin
  obtain ⟨x, rfl⟩ := List.length_eq_one_iff.1 hl
  have hx := hin x (by simp)
  exact h x hx.1 hx.2
 ·exact fun h x h0 h1 => h [x] rfl (fun a ha => by rw [List.mem_singleton.1 ha]; exact ⟨h0, h1⟩)
theorem hasI_mem {xs : List Int} {n : Int} : hasI xs n = true ↔ n ∈ xs := by
 unfold hasI anyB
 simp
theorem asso_all {s : Int} {f : Int × List Int} {N : Nat} (hs : 1 ≤ s) (hN : s ^ 3 = N) : assoP s f ↔ ∀ k : Nat, k < N → ∀ a b c, digL s (k : Int) 3 = [a, b, c] → opV s f.2 [opV s f.2 [a, b], c] = opV s f.2 [a, opV s f.2 [b, c]] := by
 rw [← all_dig (P := fun l => ∀ a b c, l = [a, b, c] → opV s f.2 [opV s f.2 [a, b], c] = opV s f.2 [a, opV s f.2 [b, c]]) hs hN]
 constructor
 ·rintro h xs - hin a b c rfl
  exact h a b c (hin a (by simp)) (hin b (by simp)) (hin c (by simp))
 ·exact fun h a b c ha hb hc => h [a, b, c] rfl (in3 ha hb hc) a b c rfl
/-- how the test of associativity reads a list -/
def assoL (s : Int) (f : Int × List Int) (l : List Int) : Bool := opV s f.2 [opV s f.2 [l.getD 0 0, l.getD 1 0], l.getD 2 0] == opV s f.2 [l.getD 0 0, opV s f.2 [l.getD 1 0, l.getD 2 0]]
theorem asso_tb {s : Int} {f : Int × List Int} {N : Nat} (hs : 1 ≤ s) (hN : s ^ 3 = N) : allK (fun k => assoL s f (digL s (k : Int) 3)) N = tb (assoP s f) := by
 rw [Bool.eq_iff_iff, allK_iff, tb_iff, asso_all hs hN]
 refine ⟨fun h k hk a b c e => ?_, fun h k hk => ?_⟩
 ·have := h k hk
  rw [e] at this
  simpa [assoL] using this
 ·obtain ⟨a, b, c, e⟩ := dig3 s k
  rw [e]
  simpa [assoL] using h k hk a b c e
section
variable {s : Int} {f : Int × List Int}
set_option maxHeartbeats 1600000 in
set_option maxRecDepth 100000 in
theorem isKind_3 (w : World) {cs : Array Value} (h : opT.Rd w cs.toList f) (hf : opOk s f) :
  Calls Tryz.prog 128 #[.int .i64 s, .agg cs, .int .i64 3] w fun e w' => e = .returned (.bool (kindB s f 3)) ∧ Below w.heap.size w w' := by
 obtain ⟨hs, har, -, -, -, -⟩ := op_dims hf
 obtain ⟨u2, hv2, hI, hx⟩ := pair_ex h
 obtain rfl := agg_of hv2
 have H := Lib.hid h
 have HF := Lib.hid hf
 have hN : s ^ 1 = ((s.toNat : Nat) : Int) := by rw [Int.pow_succ, Int.pow_zero]; omega
 have HN := Lib.hid hN
 have HT : Hid (allK (fun k => opV s f.2 (List.replicate f.1.toNat ((digL s (k : Int) 1).getD 0 0)) == (digL s (k : Int) 1).getD 0 0) s.toNat = kindB s f 3) := by
  unfold Hid
  rw [kind_3, Bool.eq_iff_iff, allK_iff, tb_iff, idem_all hs.1]
  simp
 clear h hx hv2 hf hN
 go_enter Tryz.func128, Tryz.ntmps128
 go_wp2_with fail
 generalize hW : World.alloc (World.alloc w _) _ = W
 have hbW : Below w.heap.size w W := hW ▸ bAA
 have hsW : w.heap.size + 2 ≤ W.heap.size := by rw [← hW]; simp
 have b0 : W.cell? ⟨w.heap.size, 0, none⟩ = some (.int .i64 s) := by rw [← hW]; simp [go_sem]
 have f0 : W.cell? ⟨w.heap.size + 1, 0, none⟩ = some (.int .i64 f.1) := by rw [← hW]; simp [go_sem]
 have f1 : W.cell? ⟨w.heap.size + 1, 1, none⟩ = some u2 := by rw [← hW]; simp [go_sem]
 have HPT : Hid (opT.Pt W (.pointer (some ⟨w.heap.size + 1, 0, none⟩)) f) := pt_of2 (by omega) (H.out.below hbW) f0 f1
 clear hW f0 f1
 have hto : Hid (∀ W' u (k : Nat), Below W.heap.size W W' → k < s.toNat → intsT.Rd W' [u] (digL s k 1) → Calls Tryz.prog 197 (#[u] ++ #[.pointer (some ⟨w.heap.size + 1, 0, none⟩), .pointer (some ⟨w.heap.size, 0, none⟩)]) W' fun e w' => e = .returned (.bool ((fun l => opV s f.2 (List.replicate f.1.toNat (l.getD 0 0)) == l.getD 0 0) (digL s k 1))) ∧ Below W'.heap.size W' w') := by
  intro W' u k hb _ hu
  exact isKind1_any W' hu ((cellB hb (by omega)).trans b0) (HPT.out.below hb) HF.out digL_len (digL_in hs.1)
 refine (allLists_any W hs (m := 1) (by omega) HN.out 197 _ (enters Tryz.func197 (by kernel_rfl) rfl) (fun l => opV s f.2 (List.replicate f.1.toNat (l.getD 0 0)) == l.getD 0 0) hto).mono ?_
 rintro e w5 ⟨rfl, hb5⟩
 rw [HT.out]
 go_wp2_with fail
 go_ret
 exact ⟨rfl, bthen hbW hb5⟩
set_option maxHeartbeats 1600000 in
set_option maxRecDepth 100000 in
theorem isKind_4 (w : World) {cs : Array Value} (h : opT.Rd w cs.toList f) (hf : opOk s f) :
  Calls Tryz.prog 128 #[.int .i64 s, .agg cs, .int .i64 4] w fun e w' => e = .returned (.bool (kindB s f 4)) ∧ Below w.heap.size w w' := by
 obtain ⟨hs, har, hN, hfe, -, -⟩ := op_dims hf
 obtain ⟨u2, hv2, hI, hx⟩ := pair_ex h
 obtain rfl := agg_of hv2
 have H := Lib.hid h
 have HF := Lib.hid hf
 obtain ⟨ar, har1⟩ : ∃ ar : Nat, f.1.toNat = ar := ⟨_, rfl⟩
 have HT : Hid (allK (fun k => hasI (digL s (k : Int) ar) (opV s f.2 (digL s (k : Int) ar))) f.2.length = kindB s f 4) := by
  unfold Hid
  rw [kind_4, Bool.eq_iff_iff, allK_iff, tb_iff]
  unfold consvP
  rw [all_dig (P := fun l => opV s f.2 l ∈ l) hs.1 hN, har1]
  simp only [hasI_mem]
 rw [har1] at hN har hfe
 have HN := Lib.hid hN
 have HFE := Lib.hid hfe
 have HA := Lib.hid har1
 clear h hx hv2 hf hN hfe har1
 go_enter Tryz.func128, Tryz.ntmps128
 go_wp2_with fail
 generalize hW : World.alloc (World.alloc w _) _ = W
 have hbW : Below w.heap.size w W := hW ▸ bAA
 have hsW : w.heap.size + 2 ≤ W.heap.size := by rw [← hW]; simp
 have b0 : W.cell? ⟨w.heap.size, 0, none⟩ = some (.int .i64 s) := by rw [← hW]; simp [go_sem]
 have f0 : W.cell? ⟨w.heap.size + 1, 0, none⟩ = some (.int .i64 f.1) := by rw [← hW]; simp [go_sem]
 have f1 : W.cell? ⟨w.heap.size + 1, 1, none⟩ = some u2 := by rw [← hW]; simp [go_sem]
 have HPT : Hid (opT.Pt W (.pointer (some ⟨w.heap.size + 1, 0, none⟩)) f) := pt_of2 (by omega) (H.out.below hbW) f0 f1
 clear hW f0 f1
 rw [HFE.out]
 have hto : Hid (∀ W' u (k : Nat), Below W.heap.size W W' → k < f.2.length → intsT.Rd W' [u] (digL s k ar) → Calls Tryz.prog 199 (#[u] ++ #[.pointer (some ⟨w.heap.size + 1, 0, none⟩), .pointer (some ⟨w.heap.size, 0, none⟩)]) W' fun e w' => e = .returned (.bool ((fun l => hasI l (opV s f.2 l)) (digL s k ar))) ∧ Below W'.heap.size W' w') := by
  intro W' u k hb _ hu
  exact isKind2_any W' hu ((cellB hb (by omega)).trans b0) (HPT.out.below hb) HF.out (by rw [digL_len, HA.out]) (digL_in hs.1)
 refine (allLists_any W hs har.2 HN.out 199 _ (enters Tryz.func199 (by kernel_rfl) rfl) (fun l => hasI l (opV s f.2 l)) hto).mono ?_
 rintro e w5 ⟨rfl, hb5⟩
 rw [HT.out]
 go_wp2_with fail
 go_ret
 exact ⟨rfl, bthen hbW hb5⟩
set_option maxHeartbeats 1600000 in
set_option maxRecDepth 100000 in
theorem isKind_2 (w : World) {cs : Array Value} (h : opT.Rd w cs.toList f) (hf : opOk s f) :
  Calls Tryz.prog 128 #[.int .i64 s, .agg cs, .int .i64 2] w fun e w' => e = .returned (.bool (kindB s f 2)) ∧ Below w.heap.size w w' := by
 obtain ⟨hs, har, hN, hfe, h1, h64⟩ := op_dims hf
 obtain ⟨u2, hv2, hI, hx⟩ := pair_ex h
 obtain rfl := agg_of hv2
 obtain ⟨ta, tc, rfl⟩ := rd_slice hx
 have HX := Lib.hid hx
 have HT : Hid (((((compL (sortI f.2)).length : Nat) : Int) == 1) = kindB s f 2) := by
  unfold Hid
  rw [kind_2, Bool.eq_iff_iff, tb_iff, const_comp h1, beq_iff_eq]
  omega
 clear h hx hv2 hf hN hfe
 go_enter Tryz.func128, Tryz.ntmps128
 go_wp2_with fail
 generalize hW : World.alloc (World.alloc w _) _ = W
 have hbW : Below w.heap.size w W := hW ▸ bAA
 clear hW
 refine (rising_any W (HX.out.below hbW) h1 (by omega)).mono ?_
 rintro e w5 ⟨ad, c, rfl, hb5⟩
 go_wp2_with fail
 go_ret
 exact ⟨ret_bool HT.out, bthen hbW hb5⟩
set_option maxHeartbeats 1600000 in
set_option maxRecDepth 100000 in
theorem isKind_5 (w : World) {cs : Array Value} (h : opT.Rd w cs.toList f) (hf : opOk s f) :
  Calls Tryz.prog 128 #[.int .i64 s, .agg cs, .int .i64 5] w fun e w' => e = .returned (.bool (kindB s f 5)) ∧ Below w.heap.size w w' := by
 obtain ⟨u2, hv2, hI, hx⟩ := pair_ex h
 obtain rfl := agg_of hv2
 have H := Lib.hid h
 have HF := Lib.hid hf
 clear h hx hv2 hf
 cases h2 : (f.1 == 2)
 ·have HT : Hid (kindB s f 5 = false) := by unfold Hid; rw [kind_5]; exact tb_false (fun hh => by rw [hh.1] at h2; exact absurd h2 (by decide))
  go_enter Tryz.func128, Tryz.ntmps128
  go_wp2_with fail
  go_ret
  exact ⟨ret_bool HT.out.symm, (by repeat (first | exact Below.refl _ _ | exact bA | assumption | refine Below.setCell ?_ (by first | omega | (simp; try omega)) _ | refine Below.alloc ?_ (by first | omega | (simp; try omega)) _ | refine Below.drew ?_ | refine bDN ?_ | refine bthen ?_ (by assumption)))⟩
 ·have HT : Hid (tb (symP s f) = kindB s f 5) := by unfold Hid; rw [kind_5]; exact tb_congr ⟨fun h => ⟨by simpa using h2, h⟩, fun h => h.2⟩
  go_enter Tryz.func128, Tryz.ntmps128
  go_wp2_with fail
  generalize hW : World.alloc (World.alloc w _) _ = W
  have hbW : Below w.heap.size w W := hW ▸ bAA
  clear hW
  refine (isSymmetric_any W (f := f) (H.out.below hbW) HF.out).mono ?_
  rintro e w5 ⟨rfl, hb5⟩
  rw [HT.out]
  go_wp2_with fail
  go_ret
  exact ⟨rfl, bthen hbW hb5⟩
set_option maxHeartbeats 1600000 in
set_option maxRecDepth 100000 in
theorem isKind_10 (w : World) {cs : Array Value} (h : opT.Rd w cs.toList f) (hf : opOk s f) :
  Calls Tryz.prog 128 #[.int .i64 s, .agg cs, .int .i64 10] w fun e w' => e = .returned (.bool (kindB s f 10)) ∧ Below w.heap.size w w' := by
 obtain ⟨u2, hv2, hI, hx⟩ := pair_ex h
 obtain rfl := agg_of hv2
 have H := Lib.hid h
 have HF := Lib.hid hf
 clear h hx hv2 hf
 go_enter Tryz.func128, Tryz.ntmps128
 go_wp2_with fail
 generalize hW : World.alloc (World.alloc w _) _ = W
 have hbW : Below w.heap.size w W := hW ▸ bAA
 clear hW
 refine (isSymmetric_any W (f := f) (H.out.below hbW) HF.out).mono ?_
 rintro e w5 ⟨rfl, hb5⟩
 rw [← kind_10]
 go_wp2_with fail
 go_ret
 exact ⟨rfl, bthen hbW hb5⟩
set_option maxHeartbeats 1600000 in
set_option maxRecDepth 100000 in
theorem isKind_7 (w : World) {cs : Array Value} (h : opT.Rd w cs.toList f) (hf : opOk s f) :
  Calls Tryz.prog 128 #[.int .i64 s, .agg cs, .int .i64 7] w fun e w' => e = .returned (.bool (kindB s f 7)) ∧ Below w.heap.size w w' := by
 obtain ⟨u2, hv2, hI, hx⟩ := pair_ex h
 obtain rfl := agg_of hv2
 have H := Lib.hid h
 have HF := Lib.hid hf
 have HT : Hid (tb (ternP s f (fun x _ => x) (fun x _ => x) (fun x _ => x)) = kindB s f 7) := by unfold Hid; rw [kind_7]; exact tb_congr (tern_third (fun x y hx _ => hx) (fun _ => rfl) (fun h => by cases h))
 clear h hx hv2 hf
 go_enter Tryz.func128, Tryz.ntmps128
 go_wp2_with fail
 generalize hW : World.alloc (World.alloc w _) _ = W
 have hbW : Below w.heap.size w W := hW ▸ bAA
 clear hW
 refine (isTernary_any W (f := f) (H.out.below hbW) HF.out (enters Tryz.func203 (by kernel_rfl) rfl) isKind4_any).mono ?_
 rintro e w5 ⟨rfl, hb5⟩
 rw [HT.out]
 go_wp2_with fail
 go_ret
 exact ⟨rfl, bthen hbW hb5⟩
set_option maxHeartbeats 1600000 in
set_option maxRecDepth 100000 in
theorem isKind_8 (w : World) {cs : Array Value} (h : opT.Rd w cs.toList f) (hf : opOk s f) :
  Calls Tryz.prog 128 #[.int .i64 s, .agg cs, .int .i64 8] w fun e w' => e = .returned (.bool (kindB s f 8)) ∧ Below w.heap.size w w' := by
 obtain ⟨u2, hv2, hI, hx⟩ := pair_ex h
 obtain rfl := agg_of hv2
 have H := Lib.hid h
 have HF := Lib.hid hf
 have HT : Hid (tb (ternP s f (fun _ y => y) (fun _ y => y) (fun _ y => y)) = kindB s f 8) := by unfold Hid; rw [kind_8]; exact tb_congr (tern_third (fun x y _ hy => hy) (fun _ => rfl) (fun h => by cases h))
 clear h hx hv2 hf
 go_enter Tryz.func128, Tryz.ntmps128
 go_wp2_with fail
 generalize hW : World.alloc (World.alloc w _) _ = W
 have hbW : Below w.heap.size w W := hW ▸ bAA
 clear hW
 refine (isTernary_any W (f := f) (H.out.below hbW) HF.out (enters Tryz.func204 (by kernel_rfl) rfl) isKind5_any).mono ?_
 rintro e w5 ⟨rfl, hb5⟩
 rw [HT.out]
 go_wp2_with fail
 go_ret
 exact ⟨rfl, bthen hbW hb5⟩
set_option maxHeartbeats 1600000 in
set_option maxRecDepth 100000 in
theorem isKind_9 (w : World) {cs : Array Value} (h : opT.Rd w cs.toList f) (hf : opOk s f) :
  Calls Tryz.prog 128 #[.int .i64 s, .agg cs, .int .i64 9] w fun e w' => e = .returned (.bool (kindB s f 9)) ∧ Below w.heap.size w w' := by
 obtain ⟨u2, hv2, hI, hx⟩ := pair_ex h
 obtain rfl := agg_of hv2
 have H := Lib.hid h
 have HF := Lib.hid hf
 have HT : Hid (tb (ternP s f (fun _ y => y) (fun _ _ => -1) (fun _ y => y)) = kindB s f 9) := by unfold Hid; rw [kind_9]; exact tb_congr (tern_third (fun x y _ hy => hy) (fun h => by cases h) (fun _ => rfl))
 clear h hx hv2 hf
 go_enter Tryz.func128, Tryz.ntmps128
 go_wp2_with fail
 generalize hW : World.alloc (World.alloc w _) _ = W
 have hbW : Below w.heap.size w W := hW ▸ bAA
 clear hW
 refine (isTernary_any W (f := f) (H.out.below hbW) HF.out (enters Tryz.func205 (by kernel_rfl) rfl) isKind6_any).mono ?_
 rintro e w5 ⟨rfl, hb5⟩
 rw [HT.out]
 go_wp2_with fail
 go_ret
 exact ⟨rfl, bthen hbW hb5⟩
end
end Go.Proofs.YtnhdohednekhjaaGreatDoor
namespace Go.Proofs.YtnhdohednekhjaaGreatDoor
open Go.RowKit Go.Sort
section
variable {s : Int} {f : Int × List Int}
set_option maxHeartbeats 3200000 in
set_option maxRecDepth 100000 in
theorem isKind_6 (w : World) {cs : Array Value} (h : opT.Rd w cs.toList f) (hf : opOk s f) :
  Calls Tryz.prog 128 #[.int .i64 s, .agg cs, .int .i64 6] w fun e w' => e = .returned (.bool (kindB s f 6)) ∧ Below w.heap.size w w' := by
 obtain ⟨hs, har, -, -, -, -⟩ := op_dims hf
 obtain ⟨u2, hv2, hI, hx⟩ := pair_ex h
 obtain rfl := agg_of hv2
 have H := Lib.hid h
 have HF := Lib.hid hf
 obtain ⟨N, hN3⟩ : ∃ N : Nat, s ^ 3 = (N : Int) := ⟨(s ^ 3).toNat, by have : 0 < s ^ 3 := Int.pow_pos (by omega); omega⟩
 have HN := Lib.hid hN3
 have HAS := Lib.hid (asso_tb (f := f) hs.1 hN3)
 have HK : Hid (∀ p q r : Bool, kindB s f 3 = p → kindB s f 5 = q → tb (assoP s f) = r → kindB s f 6 = (p && q && r)) := by
  rintro p q r rfl rfl rfl
  rw [kind_3, kind_5, kind_6, tb_and, tb_and]
  exact tb_congr ⟨fun ⟨a, b, c, d⟩ => ⟨⟨c, a, b⟩, d⟩, fun ⟨⟨c, a, b⟩, d⟩ => ⟨a, b, c, d⟩⟩
 clear h hx hv2 hf hN3
 go_enter Tryz.func128, Tryz.ntmps128
 go_wp2_with fail
 generalize hW : World.alloc (World.alloc w _) _ = W
 have hbW : Below w.heap.size w W := hW ▸ bAA
 have hsW : w.heap.size + 2 ≤ W.heap.size := by rw [← hW]; simp
 have b0 : W.cell? ⟨w.heap.size, 0, none⟩ = some (.int .i64 s) := by rw [← hW]; simp [go_sem]
 have f0 : W.cell? ⟨w.heap.size + 1, 0, none⟩ = some (.int .i64 f.1) := by rw [← hW]; simp [go_sem]
 have f1 : W.cell? ⟨w.heap.size + 1, 1, none⟩ = some u2 := by rw [← hW]; simp [go_sem]
 clear hW
 refine (isKind_3 W (f := f) (H.out.below hbW) HF.out).mono ?_
 rintro e w1 ⟨rfl, hb1⟩
 have hz1 := hb1.size
 have hbw1 := bthen hbW hb1
 replace b0 := (cellB hb1 (by omega)).trans b0
 replace f0 := (cellB hb1 (by omega)).trans f0
 replace f1 := (cellB hb1 (by omega)).trans f1
 cases h3 : kindB s f 3
 ·have HR : Hid (kindB s f 6 = false) := by unfold Hid; rw [HK.out _ _ _ h3 rfl rfl]; rfl
  go_wp2_with fail
  go_ret
  exact ⟨ret_bool HR.out.symm, hbw1⟩
 have H3 := Lib.hid h3
 clear h3
 go_wp2_with fail
 refine (isKind_5 w1 (f := f) (H.out.below hbw1) HF.out).mono ?_
 rintro e w2 ⟨rfl, hb2⟩
 have hz2 := hb2.size
 have hbw2 := bthen hbw1 hb2
 replace b0 := (cellB hb2 (by omega)).trans b0
 replace f0 := (cellB hb2 (by omega)).trans f0
 replace f1 := (cellB hb2 (by omega)).trans f1
 cases h5 : kindB s f 5
 ·have HR : Hid (kindB s f 6 = false) := by unfold Hid; rw [HK.out _ _ _ H3.out h5 rfl]; rfl
  go_wp2_with fail
  go_ret
  exact ⟨ret_bool HR.out.symm, hbw2⟩
 have HR : Hid (tb (assoP s f) = kindB s f 6) := by unfold Hid; rw [HK.out _ _ _ H3.out h5 rfl]; rfl
 have h22 : f.1 = 2 := by rw [kind_5] at h5; exact (tb_iff.1 h5).1
 have H22 := Lib.hid h22
 have HPT : Hid (opT.Pt w2 (.pointer (some ⟨w.heap.size + 1, 0, none⟩)) f) := pt_of2 (by omega) (H.out.below hbw2) f0 f1
 clear h5 h22
 go_wp2_with fail
 have hto : Hid (∀ W' u (k : Nat), Below w2.heap.size w2 W' → k < N → intsT.Rd W' [u] (digL s k 3) → Calls Tryz.prog 201 (#[u] ++ #[.pointer (some ⟨w.heap.size + 1, 0, none⟩), .pointer (some ⟨w.heap.size, 0, none⟩)]) W' fun e w' => e = .returned (.bool ((fun l => assoL s f l) (digL s k 3))) ∧ Below W'.heap.size W' w') := by
  intro W' u k hb _ hu
  obtain ⟨a, b, c, e3⟩ := dig3 s k
  have hin := digL_in (s := s) (idx := (k : Int)) (n := 3) hs.1
  rw [e3] at hu hin ⊢
  exact isKind3_any W' hu ((cellB hb (by omega)).trans b0) (HPT.out.below hb) HF.out H22.out hin
 refine (allLists_any w2 hs (m := 3) (by omega) HN.out 201 _ (enters Tryz.func201 (by kernel_rfl) rfl) (fun l => assoL s f l) hto).mono ?_
 rintro e w5 ⟨rfl, hb5⟩
 rw [HAS.out, HR.out]
 go_wp2_with fail
 go_ret
 exact ⟨rfl, bthen hbw2 hb5⟩
set_option maxHeartbeats 3200000 in
set_option maxRecDepth 100000 in
theorem isKind_1 (w : World) {cs : Array Value} (h : opT.Rd w cs.toList f) (hf : opOk s f) :
  Calls Tryz.prog 128 #[.int .i64 s, .agg cs, .int .i64 1] w fun e w' => e = .returned (.bool (kindB s f 1)) ∧ Below w.heap.size w w' := by
 obtain ⟨hs, har, hN, hfe, -, -⟩ := op_dims hf
 obtain ⟨u2, hv2, hI, hx⟩ := pair_ex h
 obtain rfl := agg_of hv2
 have H := Lib.hid h
 have HF := Lib.hid hf
 obtain ⟨ar, har1⟩ : ∃ ar : Nat, f.1.toNat = ar := ⟨_, rfl⟩
 rw [har1] at hN har hfe
 have HN := Lib.hid hN
 have HYES : Hid (∀ p : Nat, p < ar → eqB f ((ar : Int), projT s ar f.2.length p) = true → kindB s f 1 = true) := fun p hp he => by
  rw [kind_1]
  exact tb_true ⟨p, by omega, by rw [har1, hfe]; exact eqB_iff.1 he⟩
 have HNO : Hid ((∀ p : Nat, p < ar → eqB f ((ar : Int), projT s ar f.2.length p) = false) → kindB s f 1 = false) := fun hn => by
  rw [kind_1]
  refine tb_false ?_
  rintro ⟨p, hp, he⟩
  have := hn p (by omega)
  rw [har1, hfe] at he
  rw [eqB_true he] at this
  cases this
 have HFE := Lib.hid hfe
 clear h hx hv2 hf hN hfe har1
 go_enter Tryz.func128, Tryz.ntmps128
 go_wp2_with fail
 generalize hW : World.alloc (World.alloc w _) _ = W
 have hbW : Below w.heap.size w W := hW ▸ bAA
 have hsW : w.heap.size + 2 ≤ W.heap.size := by rw [← hW]; simp
 have b0 : W.cell? ⟨w.heap.size, 0, none⟩ = some (.int .i64 s) := by rw [← hW]; simp [go_sem]
 have f0 : W.cell? ⟨w.heap.size + 1, 0, none⟩ = some (.int .i64 (ar : Int)) := by rw [← HFE.out, ← hW]; simp [go_sem]
 have f1 : W.cell? ⟨w.heap.size + 1, 1, none⟩ = some u2 := by rw [← hW]; simp [go_sem]
 clear hW
 rw [HFE.out]
 go_loopw [13] (fun i wr => ∃ k : Nat, k ≤ ar ∧ i = .int .i64 k ∧ (∀ p, p < k → eqB f ((ar : Int), projT s ar f.2.length p) = false) ∧ Below W.heap.size W wr) (fun i _ => ar - (intOf i).toNat)
 case atStart => exact ⟨0, Nat.zero_le _, rfl, fun p hp => absurd hp (Nat.not_lt_zero p), Below.refl _ _⟩
 case round =>
  obtain ⟨k, hk, rfl, hall, hbv⟩ := hrel
  obtain ⟨wv, rfl⟩ : ∃ wv : World, wv = wr := ⟨_, rfl⟩
  have HALL := Lib.hid hall
  have hzv := hbv.size
  clear hall
  by_cases hkl : k < ar
  ·have c0 := (cellB hbv (by omega)).trans b0
   have c1 := (cellB hbv (by omega)).trans f0
   have c2 := (cellB hbv (by omega)).trans f1
   have HR : Hid (opT.Rd wv [.int .i64 (ar : Int), u2] f) := by have := H.out.below (bthen hbW hbv); rw [HFE.out] at this; exact this
   go_wp2_with fail
   refine wp_region_T (fun w' => w'.cell? ⟨w.heap.size, 0, none⟩ = some (.int .i64 s) ∧ w'.cell? ⟨w.heap.size + 1, 0, none⟩ = some (.int .i64 (ar : Int)) ∧ w'.cell? ⟨w.heap.size + 1, 1, none⟩ = some u2) [] (by kernel_rfl) ⟨c0, c1, c2⟩ (fun hHeld => ?_)
   refine wpAnyT_take (i := 0) (v := ?_) rfl (by kernel_rfl) (fun _ _ _ h => h) (Or.inl ⟨by rfl, ?_⟩) (by assumption) ?_
   rotate_left
   ·(intro w hSw; (try dsimp only at hSw); go_simp <;> with_reducible rfl)
   go_simp
   refine wpAnyT_take (i := 1) (v := ?_) rfl (by kernel_rfl) (fun _ _ _ h => h) (Or.inl ⟨by rfl, ?_⟩) (by assumption) ?_
   rotate_left
   ·(intro w hSw; (try dsimp only at hSw); go_simp <;> with_reducible rfl)
   go_simp
   refine wpAnyT_take (i := 2) (v := ?_) rfl (by kernel_rfl) (fun _ _ _ h => h) (Or.inl ⟨by rfl, ?_⟩) (by assumption) ?_
   rotate_left
   ·(intro w hSw; (try dsimp only at hSw); go_simp <;> with_reducible rfl)
   go_simp
   refine wpAnyT_take (i := 3) (v := ?_) rfl (by kernel_rfl) (fun _ _ _ h => h) (Or.inl ⟨by rfl, ?_⟩) (by assumption) ?_
   rotate_left
   ·(intro w hSw; (try dsimp only at hSw); go_simp <;> with_reducible rfl)
   go_simp
   refine wpAnyT_take (i := 4) (v := ?_) rfl (by kernel_rfl) (fun _ _ _ h => h) (Or.inl ⟨by rfl, ?_⟩) (by assumption) ?_
   rotate_left
   ·(intro w hSw; (try dsimp only at hSw); go_simp <;> with_reducible rfl)
   go_simp
   have hv0 : Below wv.heap.size wv wv.drew := bD
   have HR3 := Lib.hid (HR.out.below hv0)
   have hz3 := hv0.size
   clear c0 c1 c2
   generalize wv.drew = w3 at hHeld hv0 HR3 hz3 ⊢
   obtain ⟨c0, c1, c2⟩ := hHeld
   refine wpAnyT_one (i := 5) rfl (by kernel_rfl) (fun K hK => ?_)
   go_simp
   go_at_call 115
   refine (projection_any w3 hs har HN.out hkl).mono ?_
   rintro e w4 ⟨cs, rfl, hfp, hb4⟩
   obtain ⟨pa, pc, rfl⟩ := fr_pair hfp
   have HP4 := Lib.hid hfp.rd
   have HR4 := Lib.hid (HR3.out.below hb4)
   have hz4 := hb4.size
   have hbw4 := bthen hv0 hb4
   replace c0 := (cellB hb4 (by omega)).trans c0
   replace c1 := (cellB hb4 (by omega)).trans c1
   replace c2 := (cellB hb4 (by omega)).trans c2
   clear hfp
   dsimp only
   refine hK.out _ _ ⟨c0, c1, c2⟩ (fun hHeld => ?_)
   clear hK K
   refine wpAnyT_one (i := 6) rfl (by kernel_rfl) (fun K hK => ?_)
   go_simp
   go_at_call 50
   refine (SameOp_any w4 (x := f) (y := ((ar : Int), projT s ar f.2.length k)) HR4.out HP4.out).mono ?_
   rintro e w5 ⟨rfl, hb5⟩
   have hz5 := hb5.size
   have hbw5 := bthen hbw4 hb5
   replace c0 := (cellB hb5 (by omega)).trans c0
   replace c1 := (cellB hb5 (by omega)).trans c1
   replace c2 := (cellB hb5 (by omega)).trans c2
   dsimp only
   refine hK.out _ _ ⟨c0, c1, c2⟩ (fun hHeld => ?_)
   clear hK K
   refine wpAnyT_done (by kernel_rfl) ?_ _
   go_simp
   cases hE : eqB f ((ar : Int), projT s ar f.2.length k)
   ·have HE := Lib.hid hE
    clear hE
    go_wp2_with fail
    go_roundw
    case rel => exact ⟨k + 1, by omega, by go_num, fun p hp => (Nat.lt_succ_iff_lt_or_eq.1 hp).elim (HALL.out p) (fun e => e ▸ HE.out), bthen hbv hbw5⟩
    case measure => simp [intOf]; omega
   ·have HT := Lib.hid (HYES.out k hkl hE)
    clear hE
    go_wp2_with fail
    go_ret
    exact ⟨ret_bool HT.out.symm, bthen hbW (bthen hbv hbw5)⟩
  ·obtain rfl : k = ar := by omega
   have HT := Lib.hid (HNO.out HALL.out)
   go_wp2_with fail
   go_ret
   exact ⟨ret_bool HT.out.symm, bthen hbW hbv⟩
theorem isKind_any (w : World) {cs : Array Value} (h : opT.Rd w cs.toList f) (hf : opOk s f) {k : Int} (hk : 1 ≤ k ∧ k ≤ 10) :
  Calls Tryz.prog 128 #[.int .i64 s, .agg cs, .int .i64 k] w fun e w' => e = .returned (.bool (kindB s f k)) ∧ Below w.heap.size w w' := by
 rcases (show k = 1 ∨ k = 2 ∨ k = 3 ∨ k = 4 ∨ k = 5 ∨ k = 6 ∨ k = 7 ∨ k = 8 ∨ k = 9 ∨ k = 10 by omega) with rfl | rfl | rfl | rfl | rfl | rfl | rfl | rfl | rfl | rfl
 ·exact isKind_1 w h hf
 ·exact isKind_2 w h hf
 ·exact isKind_3 w h hf
 ·exact isKind_4 w h hf
 ·exact isKind_5 w h hf
 ·exact isKind_6 w h hf
 ·exact isKind_7 w h hf
 ·exact isKind_8 w h hf
 ·exact isKind_9 w h hf
 ·exact isKind_10 w h hf
end
end Go.Proofs.YtnhdohednekhjaaGreatDoor
namespace Go.Proofs.YtnhdohednekhjaaGreatDoor
open Go.RowKit Go.Sort
section
variable {t : Tpl} {ar k : Int}
end
theorem isKd_any (a : Int) (w : World) : Calls Tryz.prog 127 #[.int .i64 a] w fun e w' => e = .returned (.bool (inB a 1 10)) ∧ w = w' := by
 go_enter Tryz.func127, Tryz.ntmps127
 go_wp2_with (go_at_call 84; refine (within_any _ _ _ _).mono ?_; rintro e w' ⟨rfl, rfl⟩)
 go_ret
 exact ⟨rfl, rfl⟩
end Go.Proofs.YtnhdohednekhjaaGreatDoor
namespace Go.Proofs.YtnhdohednekhjaaGreatDoor
open Go.RowKit Go.Sort
set_option maxHeartbeats 1600000 in
theorem ApplyOp_any (w : World) {cs : Array Value} {f : Int × List Int} (h : opT.Rd w cs.toList f) {u : Value} {xs : List Int} (hu : intsT.Rd w [u] xs) {s : Int} (hf : opOk s f) (hl : (xs.length : Int) = f.1) (hin : inS s xs) :
  Calls Tryz.prog 35 #[.int .i64 s, .agg cs, u] w fun e w' => e = .returned (.tuple #[.int .i64 (opV s f.2 xs), .int .i64 0]) ∧ Below w.heap.size w w' := by
 obtain ⟨hs, har, -, -, -, -⟩ := op_dims hf
 have hvo : tb (opOk s f) = true := tb_true hf
 have hrv : tb (rowOk s f.1 xs) = true := tb_true ⟨hl, hin⟩
 obtain ⟨u2, hv2, hI, hx⟩ := pair_ex h
 obtain rfl := agg_of hv2
 obtain ⟨ua, uc, rfl⟩ := rd_slice hu
 have H := Lib.hid h
 have HU := Lib.hid hu
 have HF := Lib.hid hf
 have HL := Lib.hid hl
 have HIN := Lib.hid hin
 clear h hx hv2 hu hf hl hin
 go_enter Tryz.func35, Tryz.ntmps35
 go_wp2_with fail
 generalize hW : World.alloc w _ = W
 have hbW : Below w.heap.size w W := hW ▸ bA
 have hsW : w.heap.size + 1 ≤ W.heap.size := by rw [← hW]; simp
 have f0 : W.cell? ⟨w.heap.size, 0, none⟩ = some (.int .i64 f.1) := by rw [← hW]; simp [go_sem]
 have f1 : W.cell? ⟨w.heap.size, 1, none⟩ = some u2 := by rw [← hW]; simp [go_sem]
 clear hW
 refine (ValidOp_any W (f := f) (H.out.below hbW) s).mono ?_
 rintro e w1 ⟨rfl, hb1⟩
 rw [hvo]
 have hz1 := hb1.size
 have hbw1 := bthen hbW hb1
 replace f0 := (cellB hb1 (by omega)).trans f0
 replace f1 := (cellB hb1 (by omega)).trans f1
 clear hvo
 go_wp2_with fail
 refine (areValues_any w1 (HU.out.below hbw1) s f.1 (by omega) (by omega)).mono ?_
 rintro e w2 ⟨rfl, hb2⟩
 rw [hrv]
 have hz2 := hb2.size
 have hbw2 := bthen hbw1 hb2
 replace f0 := (cellB hb2 (by omega)).trans f0
 replace f1 := (cellB hb2 (by omega)).trans f1
 clear hrv
 go_wp2_with fail
 refine (opAt_any w2 (f := f) (H.out.below hbw2) (HU.out.below hbw2) HF.out HL.out HIN.out).mono ?_
 rintro e w3 ⟨rfl, hb3⟩
 go_wp2_with fail
 go_ret2
 exact ⟨rfl, bthen hbw2 hb3⟩
set_option maxHeartbeats 1600000 in
theorem IsOfKind_any (w : World) {cs : Array Value} {f : Int × List Int} (h : opT.Rd w cs.toList f) {s k : Int} (hf : opOk s f) (hk : 1 ≤ k ∧ k ≤ 10) :
  Calls Tryz.prog 51 #[.int .i64 s, .agg cs, .int .i64 k] w fun e w' => e = .returned (.tuple #[.bool (kindB s f k), .int .i64 0]) ∧ Below w.heap.size w w' := by
 have hvo : tb (opOk s f) = true := tb_true hf
 have hkd : inB k 1 10 = true := inB_true.2 hk
 obtain ⟨u2, hv2, hI, hx⟩ := pair_ex h
 obtain rfl := agg_of hv2
 have H := Lib.hid h
 have HF := Lib.hid hf
 clear h hx hv2 hf
 go_enter Tryz.func51, Tryz.ntmps51
 go_wp2_with fail
 generalize hW : World.alloc w _ = W
 have hbW : Below w.heap.size w W := hW ▸ bA
 have hsW : w.heap.size + 1 ≤ W.heap.size := by rw [← hW]; simp
 have f0 : W.cell? ⟨w.heap.size, 0, none⟩ = some (.int .i64 f.1) := by rw [← hW]; simp [go_sem]
 have f1 : W.cell? ⟨w.heap.size, 1, none⟩ = some u2 := by rw [← hW]; simp [go_sem]
 clear hW
 refine (ValidOp_any W (f := f) (H.out.below hbW) s).mono ?_
 rintro e w1 ⟨rfl, hb1⟩
 rw [hvo]
 have hz1 := hb1.size
 have hbw1 := bthen hbW hb1
 replace f0 := (cellB hb1 (by omega)).trans f0
 replace f1 := (cellB hb1 (by omega)).trans f1
 clear hvo
 go_wp2_with fail
 refine (isKd_any k w1).mono ?_
 rintro e _ ⟨rfl, rfl⟩
 rw [hkd]
 clear hkd
 go_wp2_with fail
 refine (isKind_any w1 (f := f) (H.out.below hbw1) HF.out hk).mono ?_
 rintro e w3 ⟨rfl, hb3⟩
 go_wp2_with fail
 go_ret2
 exact ⟨rfl, bthen hbw1 hb3⟩
end Go.Proofs.YtnhdohednekhjaaGreatDoor
namespace Go.Proofs.YtnhdohednekhjaaGreatDoor
open Go.RowKit Go.Sort
def conT (_ : Nat) (N : Nat) (p : Int) : List Int := List.replicate N p
theorem tab_con {s : Int} {ar N : Nat} {p : Int} : (tabOf s ar N fun _ => p) = conT ar N p := by
 unfold tabOf conT
 exact List.ext_getElem (by simp) fun i h1 h2 => by simp
theorem HasNumber_any (w : World) {v : Value} {xs : List Int} (h : intsT.Rd w [v] xs) (n : Int) : Calls Tryz.prog 43 #[v, .int .i64 n] w fun e w' => e = .returned (.bool (hasI xs n)) ∧ w = w' := by
 have H := Lib.hid h
 obtain ⟨a, c, rfl⟩ := rd_slice h
 clear h
 go_enter Tryz.func43, Tryz.ntmps43
 go_wp2_with fail
 refine (l00Has_any w H.out n).mono ?_
 rintro e _ ⟨rfl, rfl⟩
 go_wp2_with fail
 go_ret
 exact ⟨rfl, rfl⟩
theorem ValuesAt_any (w : World) {v u : Value} {xs ps : List Int} (h : intsT.Rd w [v] xs) (h' : intsT.Rd w [u] ps) (hin : ∀ p ∈ ps, 0 ≤ p ∧ p < (xs.length : Int)) (hlen : ps.length ≤ 1000000) :
  Calls Tryz.prog 41 #[v, u] w (RetS intsT w (atL xs ps)) := by
 have H := Lib.hid h
 have H' := Lib.hid h'
 have HI := Lib.hid hin
 obtain ⟨a, c, rfl⟩ := rd_slice h
 obtain ⟨a', c', rfl⟩ := rd_slice h'
 clear h h' hin
 go_enter Tryz.func41, Tryz.ntmps41
 go_wp2_with fail
 refine (l01At_any w H.out H'.out HI.out hlen).mono ?_
 rintro e w1 ⟨u1, rfl, hf, hb⟩
 have HF := Lib.hid hf
 obtain ⟨a1, c1, rfl⟩ := fr_slice hf
 clear hf
 go_wp2_with fail
 go_ret
 exact ⟨_, rfl, HF.out, hb⟩
theorem specApplyOp_any (w : World) {cs : Array Value} {f : Int × List Int} (h : opT.Rd w cs.toList f) {u : Value} {xs : List Int} (hu : intsT.Rd w [u] xs) {s : Int} (hf : opOk s f) (hl : (xs.length : Int) = f.1) (hin : inS s xs) :
  Calls Tryz.prog 40 #[.int .i64 s, .agg cs, u] w fun e w' => e = .returned (.tuple #[.int .i64 (opV s f.2 xs), .int .i64 0]) ∧ Below w.heap.size w w' := by
 obtain ⟨k, hk, hkl, hv⟩ := opV_at hf hl hin
 have hvo : tb (opOk s f) = true := tb_true hf
 have hro : tb (rowOk s f.1 xs) = true := tb_true ⟨hl, fun a ha => hin a ha⟩
 have hs := hf.1
 unfold sizeOk at hs
 have ha := hf.2.1
 have HV := Lib.hid hv
 have HK := Lib.hid (And.intro hk hkl)
 have HIN : Hid (∀ a ∈ xs, 0 ≤ a ∧ a ≤ s - 1) := fun a ha => hin a ha
 have p1 := (pt_box (T := 63) h)
 have HU := Lib.hid hu
 obtain ⟨u2, hv2, hI, hx⟩ := pair_ex h
 obtain rfl := agg_of hv2
 obtain ⟨ua, uc, rfl⟩ := rd_slice hu
 have hl3 : xs.length ≤ 5 := by omega
 clear h hx hv2 hu hf hl hin hk hv hI
 go_enter Tryz.func40, Tryz.ntmps40
 go_wp2_with fail
 have c0 : (w.alloc (.cells #[.int .i64 f.1, u2] 63)).cell? ⟨w.heap.size, 0, none⟩ = some (.int .i64 f.1) := by simp [go_sem]
 generalize hW : World.alloc w _ = W at p1 c0 ⊢
 have hbW : Below w.heap.size w W := hW ▸ bA
 have hsW : w.heap.size + 1 ≤ W.heap.size := by rw [← hW]; simp
 have HU1 := Lib.hid (HU.out.below hbW)
 have HP1 := Lib.hid p1
 clear hW HU p1
 refine (l02Ok_quiet W HP1.out s).mono ?_
 rintro e w1 ⟨rfl, hq⟩
 have hb1 := hq.below
 rw [hvo]
 replace c0 := (cellB hb1 (by omega)).trans c0
 go_wp2_with fail
 refine (l01Tuple_any s f.1 w1 (HU1.out.below hb1) (by omega) (by omega)).mono ?_
 rintro e _ ⟨rfl, rfl⟩
 rw [hro]
 go_wp2_with fail
 refine (l02Value_quiet w1 (HP1.out.below hb1) (HU1.out.below hb1) hs.1 (by omega) hl3 HIN.out HK.out.1 HK.out.2).mono ?_
 rintro e w2 ⟨rfl, hq2⟩
 have hb2 := hq2.below
 go_wp2_with fail
 go_ret2
 rw [HV.out]
 exact ⟨rfl, bthen (bthen hbW hb1) hb2⟩
theorem constant1_any (w : World) {u : Value} {xs : List Int} (h : intsT.Rd w [u] xs) {b : Nat} {p : Int} (hc : w.cell? ⟨b, 0, none⟩ = some (.int .i64 p)) :
  Calls Tryz.prog 212 #[u, .pointer (some ⟨b, 0, none⟩)] w fun e w' => e = .returned (.int .i64 p) ∧ Below w.heap.size w w' := by
 obtain ⟨ad, cap, rfl⟩ := rd_slice h
 clear h
 go_enter Tryz.func212, Tryz.ntmps212
 go_wp2_with fail
 go_ret
 exact ⟨rfl, (by repeat (first | exact Below.refl _ _ | exact bA | assumption | refine Below.setCell ?_ (by first | omega | (simp; try omega)) _ | refine Below.alloc ?_ (by first | omega | (simp; try omega)) _ | refine Below.drew ?_ | refine bDN ?_ | refine bthen ?_ (by assumption)))⟩
set_option maxHeartbeats 1600000 in
theorem constant_any (w : World) {s : Int} {ar N : Nat} {p : Int} (hs : 1 ≤ s ∧ s ≤ 4) (har : 1 ≤ ar ∧ ar ≤ 3) (hN : s ^ ar = N) (hp : 0 ≤ p ∧ p ≤ s - 1) :
  Calls Tryz.prog 137 #[.int .i64 s, .int .i64 ar, .int .i64 p] w (RetA opT w ((ar : Int), conT ar N p)) := by
 go_enter Tryz.func137, Tryz.ntmps137
 go_wp2_with fail
 generalize hW : World.alloc (World.alloc w _) _ = W
 have hbW : Below w.heap.size w W := hW ▸ bAA
 have hsW : w.heap.size + 2 ≤ W.heap.size := by rw [← hW]; simp
 have b0 : W.cell? ⟨w.heap.size, 0, none⟩ = some (.int .i64 p) := by rw [← hW]; simp [go_sem]
 have r0 : W.cell? ⟨w.heap.size + 1, 0, none⟩ = some (.int .i64 0) := by rw [← hW]; simp [go_sem]
 have r1 : W.cell? ⟨w.heap.size + 1, 1, none⟩ = some (.slice none 0 0) := by rw [← hW]; simp [go_sem]
 have q0 : W.frozen? ⟨w.heap.size + 1, 0, none⟩ = false := by rw [← hW]; simp [go_sem]
 have q1 : W.frozen? ⟨w.heap.size + 1, 1, none⟩ = false := by rw [← hW]; simp [go_sem]
 clear hW
 have hpI : ∀ k, k < N → I64 ((fun _ : List Int => p) (digL s ((k : Nat) : Int) ar)) := fun k hk => show I64 p from I64.small (by omega) (by omega)
 have hto : Hid (∀ W' u (k : Nat), Below W.heap.size W W' → k < N → intsT.Rd W' [u] (digL s k ar) → Calls Tryz.prog 212 (#[u] ++ #[.pointer (some ⟨w.heap.size, 0, none⟩)]) W' fun e w' => e = .returned (.int .i64 ((fun _ : List Int => p) (digL s k ar))) ∧ Below W'.heap.size W' w') := by
  intro W' u k hb _ hu
  exact constant1_any W' hu ((cellB hb (by omega)).trans b0)
 refine (opOf_any W s ar hs har 212 _ (enters Tryz.func212 (by kernel_rfl) rfl) (fun _ => p) N hN hpI hto).mono ?_
 rintro e w2 ⟨cs, rfl, hf, hb2⟩
 have hz2 := hb2.size
 replace r0 := (cellB hb2 (by omega)).trans r0
 replace r1 := (cellB hb2 (by omega)).trans r1
 replace q0 := (frozenB hb2 (by omega)).trans q0
 replace q1 := (frozenB hb2 (by omega)).trans q1
 obtain ⟨ta, tc, rfl⟩ := fr_pair hf
 have hlT : (tabOf s ar N fun _ => p) = conT ar N p := tab_con
 simp only [hlT] at hf ⊢
 have HF : Hid (opT.Fr w.heap.size ((w2.setCell ⟨w.heap.size + 1, 0, none⟩ (.int .i64 (ar : Int))).setCell ⟨w.heap.size + 1, 1, none⟩ (.slice ta (conT ar N p).length tc)) [.int .i64 (ar : Int), .slice ta (conT ar N p).length tc] ((ar : Int), conT ar N p)) := ((hf.set (by simp; omega)).set (by simp; omega)).mono (by omega)
 obtain ⟨g0, g1⟩ := set2_cells (x := .int .i64 (ar : Int)) (y := .slice ta (conT ar N p).length tc) r0 r1
 have HB : Hid (Below w.heap.size w ((w2.setCell ⟨w.heap.size + 1, 0, none⟩ (.int .i64 (ar : Int))).setCell ⟨w.heap.size + 1, 1, none⟩ (.slice ta (conT ar N p).length tc))) := ((bthen hbW hb2).setCell (by simp) _).setCell (by simp) _
 clear hf hto hpI
 go_wp2_with fail
 refine bodyPost_ret (v := .agg #[.int .i64 (ar : Int), .slice ta (conT ar N p).length tc]) (by simp [results, Tryz.results137, go_sem, g0, g1]) rfl ⟨[.int .i64 (ar : Int), .slice ta (conT ar N p).length tc], rfl, HF.out, HB.out⟩
set_option maxHeartbeats 1600000 in
theorem ConstantOp_any (w : World) {s : Int} {ar N : Nat} {p : Int} (hs : 1 ≤ s ∧ s ≤ 4) (har : 1 ≤ ar ∧ ar ≤ 3) (hN : s ^ ar = N) (hp : 0 ≤ p ∧ p ≤ s - 1) :
  Calls Tryz.prog 52 #[.int .i64 s, .int .i64 ar, .int .i64 p] w (RetAC opT w ((ar : Int), conT ar N p) 0) := by
 have b1 : inB s 1 4 = true := inB_true.2 hs
 have b2 : inB (ar : Int) 1 3 = true := inB_true.2 (by omega)
 have b3 : inB p 0 (s - 1) = true := inB_true.2 (by omega)
 go_enter Tryz.func52, Tryz.ntmps52
 go_wp2_with (first | (go_at_call 113; refine (isSize_any _ _).mono ?_; rintro e w' ⟨rfl, rfl⟩; rw [b1]) | (go_at_call 114; refine (isOpArity_any _ _).mono ?_; rintro e w' ⟨rfl, rfl⟩; rw [b2]) | (go_at_call 136; refine (isValue_any _ _ _ (by omega) (by omega)).mono ?_; rintro e w' ⟨rfl, rfl⟩; rw [b3]))
 generalize hW : World.alloc w _ = W
 have hbW : Below w.heap.size w W := hW ▸ bA
 have hsW : w.heap.size + 1 ≤ W.heap.size := by rw [← hW]; simp
 have r0 : W.cell? ⟨w.heap.size, 0, none⟩ = some (.int .i64 0) := by rw [← hW]; simp [go_sem]
 have r1 : W.cell? ⟨w.heap.size, 1, none⟩ = some (.slice none 0 0) := by rw [← hW]; simp [go_sem]
 have q0 : W.frozen? ⟨w.heap.size, 0, none⟩ = false := by rw [← hW]; simp [go_sem]
 have q1 : W.frozen? ⟨w.heap.size, 1, none⟩ = false := by rw [← hW]; simp [go_sem]
 clear hW
 refine (constant_any W hs har hN hp).mono ?_
 rintro e w2 ⟨cs, rfl, hf, hb2⟩
 have hz2 := hb2.size
 replace r0 := (cellB hb2 (by omega)).trans r0
 replace r1 := (cellB hb2 (by omega)).trans r1
 replace q0 := (frozenB hb2 (by omega)).trans q0
 replace q1 := (frozenB hb2 (by omega)).trans q1
 obtain ⟨ta, tc, rfl⟩ := fr_pair hf
 have HF : Hid (opT.Fr w.heap.size ((w2.setCell ⟨w.heap.size, 0, none⟩ (.int .i64 (ar : Int))).setCell ⟨w.heap.size, 1, none⟩ (.slice ta (conT ar N p).length tc)) [.int .i64 (ar : Int), .slice ta (conT ar N p).length tc] ((ar : Int), conT ar N p)) := ((hf.set (by simp; omega)).set (by simp; omega)).mono (by omega)
 obtain ⟨g0, g1⟩ := set2_cells (x := .int .i64 (ar : Int)) (y := .slice ta (conT ar N p).length tc) r0 r1
 have HB : Hid (Below w.heap.size w ((w2.setCell ⟨w.heap.size, 0, none⟩ (.int .i64 (ar : Int))).setCell ⟨w.heap.size, 1, none⟩ (.slice ta (conT ar N p).length tc))) := ((bthen hbW hb2).setCell (by simp) _).setCell (by simp) _
 clear hf
 go_wp2_with fail
 refine bodyPost_ret (v := .tuple #[.agg #[.int .i64 (ar : Int), .slice ta (conT ar N p).length tc], .int .i64 0]) (by simp [results, Tryz.results52, go_sem, g0, g1]) rfl ⟨[.int .i64 (ar : Int), .slice ta (conT ar N p).length tc], rfl, HF.out, HB.out⟩
end Go.Proofs.YtnhdohednekhjaaGreatDoor
namespace Go.Proofs.YtnhdohednekhjaaGreatDoor
open Go.RowKit Go.Sort
section
variable (t : Int × List (Int × List (List Int))) (f : Int × Int × List (Int × List Int)) (free : Int) (places : List Int)
end
section
variable {t : Int × List (Int × List (List Int))} {f : Int × Int × List (Int × List Int)} {free : Int} {places : List Int}
end
theorem arePlaces_any (w : World) {v : Value} {xs : List Int} (h : intsT.Rd w [v] xs) (size many : Int) (h0 : 0 ≤ size) (h1 : size ≤ 1000000000000) :
  Calls Tryz.prog 91 #[v, .int .i64 size, .int .i64 many] w fun e w' => e = .returned (.bool (tb (rowOk size many xs))) ∧ Below w.heap.size w w' := by
 obtain ⟨ap, cp, rfl⟩ := rd_slice h
 go_enter Tryz.func91, Tryz.ntmps91
 go_wp2_with fail
 refine (areValues_any _ h size many h0 h1).mono ?_
 rintro e w1 ⟨rfl, hb1⟩
 go_wp2_with fail
 go_ret
 exact ⟨rfl, hb1⟩
end Go.Proofs.YtnhdohednekhjaaGreatDoor
namespace Go.Proofs.YtnhdohednekhjaaGreatDoor
open Go.RowKit Go.Sort
theorem atL_inS {s : Int} {xs ps : List Int} (h : inS s xs) (hp : ∀ p ∈ ps, 0 ≤ p ∧ p < (xs.length : Int)) : inS s (atL xs ps) := fun a ha => by
 obtain ⟨p, hpm, rfl⟩ := List.mem_map.1 ha
 have := hp p hpm
 rw [List.getD_eq_getElem?_getD, List.getElem?_eq_getElem (by omega)]
 exact h _ (List.getElem_mem _)
set_option maxHeartbeats 1600000 in
set_option maxRecDepth 100000 in
theorem minor1_any (w : World) {u v : Value} {xs ps : List Int} (hu : intsT.Rd w [u] xs) {f : Int × List Int} {s : Int} {bf bs bp : Nat} (hP : opT.Pt w (.pointer (some ⟨bf, 0, none⟩)) f) (hc : w.cell? ⟨bs, 0, none⟩ = some (.int .i64 s)) (hpc : w.cell? ⟨bp, 0, none⟩ = some v) (hps : intsT.Rd w [v] ps) (hf : opOk s f) (hpl : (ps.length : Int) = f.1) (hpi : ∀ p ∈ ps, 0 ≤ p ∧ p < (xs.length : Int)) (hin : inS s xs) :
  Calls Tryz.prog 118 #[u, .pointer (some ⟨bf, 0, none⟩), .pointer (some ⟨bs, 0, none⟩), .pointer (some ⟨bp, 0, none⟩)] w fun e w' => e = .returned (.int .i64 (opV s f.2 (atL xs ps))) ∧ Below w.heap.size w w' := by
 obtain ⟨fb, fo, fa, fc, hpe, hfb, hIf, f0, f1, hfx⟩ := pt_pair hP
 simp only [Value.pointer.injEq, Option.some.injEq, Addr.mk.injEq, and_true] at hpe
 obtain ⟨rfl, rfl⟩ := hpe
 obtain ⟨ua, uc, rfl⟩ := rd_slice hu
 obtain ⟨va, vc, rfl⟩ := rd_slice hps
 have ha := hf.2.1
 have hbs := cell_lt hc
 have hbp := cell_lt hpc
 have hp3 : ps.length ≤ 1000000 := by omega
 have HU := Lib.hid hu
 have HPS := Lib.hid hps
 have HPI := Lib.hid hpi
 have HF := Lib.hid hf
 have HFR : Hid (opT.Rd w (#[.int .i64 f.1, .slice fa f.2.length fc] : Array Value).toList f) := pair_mk hIf hfx
 have HLN : Hid (((atL xs ps).length : Int) = f.1) := by unfold Hid; rw [atL_len]; exact hpl
 have HIA := Lib.hid (atL_inS hin hpi)
 clear hu hps hpi hf hpl hin hP hfx hIf
 go_enter Tryz.func118, Tryz.ntmps118
 go_wp2_with fail
 refine wp_region_loose [exV (.agg #[.int .i64 f.1, .slice fa f.2.length fc]), exV (.int .i64 s), exV (.slice ua xs.length uc), exV (.slice va ps.length vc), rdS intsT (atL xs ps), exV (.int .i64 (opV s f.2 (atL xs ps))), exV (.int .i64 (opV s f.2 (atL xs ps)))] (by kernel_rfl) (by kernel_rfl) ⟨st_exV, st_exV, st_exV, st_exV, st_rdS, st_exV, st_exV, trivial⟩ ⟨?j1_0, ?j1_1, ?j1_2, ?j1_3, ?j1_4, ?j1_5, ?j1_6, trivial⟩ ?hQ1
 case j1_0 =>
  intro a' w' hb hd
  have e1 : a'.tmps[1]?.getD undef = .pointer (some ⟨bf, 0, none⟩) := ev (slot_o hd 1 rfl rfl)
  have q : ∀ b o, b < w.heap.size → w'.cell? ⟨b, o, none⟩ = w.cell? ⟨b, o, none⟩ := (bcell hb).1
  go_simp
  exact ⟨Below.refl _ _, rfl⟩
 case j1_1 =>
  intro a' w' hb hd
  have e2 : a'.tmps[2]?.getD undef = .pointer (some ⟨bs, 0, none⟩) := ev (slot_o hd 2 rfl rfl)
  have q : ∀ b o, b < w.heap.size → w'.cell? ⟨b, o, none⟩ = w.cell? ⟨b, o, none⟩ := (bcell hb).1
  go_simp
  exact ⟨Below.refl _ _, rfl⟩
 case j1_2 =>
  intro a' w' hb hd
  have e0 : a'.tmps[0]?.getD undef = .slice ua xs.length uc := ev (slot_o hd 0 rfl rfl)
  go_simp
  exact ⟨Below.refl _ _, rfl⟩
 case j1_3 =>
  intro a' w' hb hd
  have e3 : a'.tmps[3]?.getD undef = .pointer (some ⟨bp, 0, none⟩) := ev (slot_o hd 3 rfl rfl)
  have q : ∀ b o, b < w.heap.size → w'.cell? ⟨b, o, none⟩ = w.cell? ⟨b, o, none⟩ := (bcell hb).1
  go_simp
  exact ⟨Below.refl _ _, rfl⟩
 case j1_4 =>
  intro a' w' hb hd
  have e8 : a'.tmps[8]?.getD undef = .slice ua xs.length uc := ev (slot_w hd 8 (exV (.slice ua xs.length uc)) rfl rfl)
  have e9 : a'.tmps[9]?.getD undef = .slice va ps.length vc := ev (slot_w hd 9 (exV (.slice va ps.length vc)) rfl rfl)
  go_simp
  exact ⟨Below.refl _ _, (chosen_any w' (HU.out.below hb) (HPS.out.below hb) HPI.out hp3).mono fun e w'' ⟨u, he, hf, hb⟩ => ⟨_, he, hb, hf.rd⟩⟩
 case j1_5 =>
  intro a' w' hb hd
  have e6 : a'.tmps[6]?.getD undef = .agg #[.int .i64 f.1, .slice fa f.2.length fc] := ev (slot_w hd 6 (exV (.agg #[.int .i64 f.1, .slice fa f.2.length fc])) rfl rfl)
  have e7 : a'.tmps[7]?.getD undef = .int .i64 s := ev (slot_w hd 7 (exV (.int .i64 s)) rfl rfl)
  have d10 := slot_w hd 10 (rdS intsT (atL xs ps)) rfl rfl
  have R10 : intsT.Rd w' [a'.eval (.tmp 10)] (atL xs ps) := d10
  obtain ⟨ad10, cp10, e10⟩ := rd_slice R10
  rw [e10] at R10
  have e10' := ev e10
  go_simp
  exact ⟨Below.refl _ _, (opAt_any w' (HFR.out.below hb) R10 HF.out HLN.out HIA.out).mono fun e w'' ⟨he, hb⟩ => ⟨_, he, hb, rfl⟩⟩
 case j1_6 =>
  intro a' w' hb hd
  have e11 : a'.tmps[11]?.getD undef = .int .i64 (opV s f.2 (atL xs ps)) := ev (slot_w hd 11 (exV (.int .i64 (opV s f.2 (atL xs ps)))) rfl rfl)
  go_simp
  exact ⟨Below.refl _ _, rfl⟩
 intro vs1 w1 hb1 H0
 obtain ⟨v1_0, _, rfl, p0, H1⟩ := HAll_cons H0
 obtain ⟨v1_1, _, rfl, p1, H2⟩ := HAll_cons H1
 obtain ⟨v1_2, _, rfl, p2, H3⟩ := HAll_cons H2
 obtain ⟨v1_3, _, rfl, p3, H4⟩ := HAll_cons H3
 obtain ⟨v1_4, _, rfl, p4, H5⟩ := HAll_cons H4
 obtain ⟨v1_5, _, rfl, p5, H6⟩ := HAll_cons H5
 obtain ⟨v1_6, _, rfl, p6, H7⟩ := HAll_cons H6
 obtain rfl := HAll_nil H7
 obtain rfl := p0 rfl
 obtain rfl := p1 rfl
 obtain rfl := p2 rfl
 obtain rfl := p3 rfl
 obtain rfl := p5 rfl
 obtain rfl := p6 rfl
 clear p0 p1 p2 p3 p4 p5 p6 H0 H1 H2 H3 H4 H5 H6 H7
 simp only [putAll, Act.put]
 go_simp
 go_wp2_with fail
 go_ret
 exact ⟨rfl, hb1⟩
def minT (s : Int) (ar N : Nat) (tab ps : List Int) : List Int := tabOf s ar N fun xs => opV s tab (atL xs ps)
set_option maxHeartbeats 3200000 in
set_option maxRecDepth 100000 in
theorem MinorOf_any (w : World) {cs : Array Value} {f : Int × List Int} (h : opT.Rd w cs.toList f) {v : Value} {ps : List Int} (hps : intsT.Rd w [v] ps) {s : Int} {ar N : Nat} (hf : opOk s f) (har : 1 ≤ ar ∧ ar ≤ 3) (hN : s ^ ar = N) (hpl : (ps.length : Int) = f.1) (hpi : ∀ p ∈ ps, 0 ≤ p ∧ p ≤ (ar : Int) - 1) :
  Calls Tryz.prog 39 #[.int .i64 s, .agg cs, .int .i64 ar, v] w (RetAC opT w ((ar : Int), minT s ar N f.2 ps) 0) := by
 have hs := hf.1
 have ha := hf.2.1
 unfold sizeOk at hs
 have hvo : tb (opOk s f) = true := tb_true hf
 have b2 : inB (ar : Int) 1 3 = true := inB_true.2 (by omega)
 have hro : tb (rowOk (ar : Int) f.1 ps) = true := tb_true ⟨hpl, hpi⟩
 obtain ⟨u2, hv2, hI, hx⟩ := pair_ex h
 obtain rfl := agg_of hv2
 obtain ⟨va, vc, rfl⟩ := rd_slice hps
 have H := Lib.hid h
 have HL := Lib.hid hps
 have HF := Lib.hid hf
 have HPL := Lib.hid hpl
 have HPI := Lib.hid hpi
 clear h hx hv2 hps hf hpl hpi hI
 go_enter Tryz.func39, Tryz.ntmps39
 go_wp2_with fail
 generalize hW : World.alloc (World.alloc (World.alloc (World.alloc w _) _) _) _ = W
 have hbW : Below w.heap.size w W := hW ▸ ((bAA (w := w)).alloc (by simp; omega) _).alloc (by simp; omega) _
 have hsW : w.heap.size + 4 ≤ W.heap.size := by rw [← hW]; simp
 have b0 : W.cell? ⟨w.heap.size, 0, none⟩ = some (.int .i64 s) := by rw [← hW]; simp [go_sem]
 have f0 : W.cell? ⟨w.heap.size + 1, 0, none⟩ = some (.int .i64 f.1) := by rw [← hW]; simp [go_sem]
 have f1 : W.cell? ⟨w.heap.size + 1, 1, none⟩ = some u2 := by rw [← hW]; simp [go_sem]
 have l0 : W.cell? ⟨w.heap.size + 1 + 1, 0, none⟩ = some (.slice va ps.length vc) := by rw [← hW]; simp [go_sem]
 have r0 : W.cell? ⟨w.heap.size + 1 + 1 + 1, 0, none⟩ = some (.int .i64 0) := by rw [← hW]; simp [go_sem]
 have r1 : W.cell? ⟨w.heap.size + 1 + 1 + 1, 1, none⟩ = some (.slice none 0 0) := by rw [← hW]; simp [go_sem]
 have q0 : W.frozen? ⟨w.heap.size + 1 + 1 + 1, 0, none⟩ = false := by rw [← hW]; simp [go_sem]
 have q1 : W.frozen? ⟨w.heap.size + 1 + 1 + 1, 1, none⟩ = false := by rw [← hW]; simp [go_sem]
 clear hW
 refine (ValidOp_any W (f := f) (H.out.below hbW) s).mono ?_
 rintro e w1 ⟨rfl, hb1⟩
 rw [hvo]
 have hz1 := hb1.size
 replace b0 := (cellB hb1 (by omega)).trans b0
 replace f0 := (cellB hb1 (by omega)).trans f0
 replace f1 := (cellB hb1 (by omega)).trans f1
 replace l0 := (cellB hb1 (by omega)).trans l0
 replace r0 := (cellB hb1 (by omega)).trans r0
 replace r1 := (cellB hb1 (by omega)).trans r1
 replace q0 := (frozenB hb1 (by omega)).trans q0
 replace q1 := (frozenB hb1 (by omega)).trans q1
 have hbw1 := bthen hbW hb1
 clear hvo
 go_wp2_with fail
 refine (isOpArity_any _ _).mono ?_
 rintro e _ ⟨rfl, rfl⟩
 rw [b2]
 go_wp2_with fail
 refine (arePlaces_any w1 (HL.out.below hbw1) (ar : Int) f.1 (by omega) (by omega)).mono ?_
 rintro e w2 ⟨rfl, hb2⟩
 rw [hro]
 have hz2 := hb2.size
 replace b0 := (cellB hb2 (by omega)).trans b0
 replace f0 := (cellB hb2 (by omega)).trans f0
 replace f1 := (cellB hb2 (by omega)).trans f1
 replace l0 := (cellB hb2 (by omega)).trans l0
 replace r0 := (cellB hb2 (by omega)).trans r0
 replace r1 := (cellB hb2 (by omega)).trans r1
 replace q0 := (frozenB hb2 (by omega)).trans q0
 replace q1 := (frozenB hb2 (by omega)).trans q1
 have hbw2 := bthen hbw1 hb2
 have hPT : opT.Pt w2 (.pointer (some ⟨w.heap.size + 1, 0, none⟩)) f := ⟨_, 0, _, rfl, by omega, H.out.below hbw2, fun j hj => by
  rcases (show j = 0 ∨ j = 1 by simp at hj; omega) with rfl | rfl
  ·exact f0
  ·exact f1⟩
 have HPT := Lib.hid hPT
 clear hPT
 have hpI : ∀ k, k < N → I64 ((fun xs : List Int => opV s f.2 (atL xs ps)) (digL s ((k : Nat) : Int) ar)) := fun k hk => by
  have h1 := opV_in (xs := atL (digL s ((k : Nat) : Int) ar) ps) HF.out (by rw [atL_len]; exact HPL.out) (atL_inS (digL_in (by omega)) (fun p hp => by rw [digL_len]; have := HPI.out p hp; omega))
  show I64 (opV s f.2 (atL (digL s ((k : Nat) : Int) ar) ps))
  exact I64.small (by omega) (by omega)
 have hto : Hid (∀ W' u (k : Nat), Below w2.heap.size w2 W' → k < N → intsT.Rd W' [u] (digL s k ar) → Calls Tryz.prog 118 (#[u] ++ #[.pointer (some ⟨w.heap.size + 1, 0, none⟩), .pointer (some ⟨w.heap.size, 0, none⟩), .pointer (some ⟨w.heap.size + 1 + 1, 0, none⟩)]) W' fun e w' => e = .returned (.int .i64 ((fun xs : List Int => opV s f.2 (atL xs ps)) (digL s k ar))) ∧ Below W'.heap.size W' w') := by
  intro W' u k hb _ hu
  exact minor1_any W' hu (HPT.out.below hb) ((cellB hb (by omega)).trans b0) ((cellB hb (by omega)).trans l0) ((HL.out.below hbw2).below hb) HF.out HPL.out (fun p hp => by rw [digL_len]; have := HPI.out p hp; omega) (digL_in (by omega))
 go_wp2_with fail
 refine (opOf_any w2 s ar hs har 118 _ (enters Tryz.func118 (by kernel_rfl) rfl) (fun xs => opV s f.2 (atL xs ps)) N hN hpI hto).mono ?_
 rintro e w5 ⟨cs, rfl, hfr, hb5⟩
 have hz5 := hb5.size
 replace b0 := (cellB hb5 (by omega)).trans b0
 replace l0 := (cellB hb5 (by omega)).trans l0
 replace r0 := (cellB hb5 (by omega)).trans r0
 replace r1 := (cellB hb5 (by omega)).trans r1
 replace q0 := (frozenB hb5 (by omega)).trans q0
 replace q1 := (frozenB hb5 (by omega)).trans q1
 have hlT : (tabOf s ar N fun xs => opV s f.2 (atL xs ps)) = minT s ar N f.2 ps := rfl
 rw [hlT] at hfr
 obtain ⟨ta, tc, rfl⟩ := fr_pair hfr
 obtain ⟨g0, g1⟩ := set2_cells (x := .int .i64 (ar : Int)) (y := .slice ta (minT s ar N f.2 ps).length tc) r0 r1
 have HFF : Hid (opT.Fr w.heap.size ((w5.setCell ⟨w.heap.size + 1 + 1 + 1, 0, none⟩ (.int .i64 (ar : Int))).setCell ⟨w.heap.size + 1 + 1 + 1, 1, none⟩ (.slice ta (minT s ar N f.2 ps).length tc)) [.int .i64 (ar : Int), .slice ta (minT s ar N f.2 ps).length tc] ((ar : Int), minT s ar N f.2 ps)) := ((hfr.set (by simp; omega)).set (by simp; omega)).mono (by omega)
 have HBB : Hid (Below w.heap.size w ((w5.setCell ⟨w.heap.size + 1 + 1 + 1, 0, none⟩ (.int .i64 (ar : Int))).setCell ⟨w.heap.size + 1 + 1 + 1, 1, none⟩ (.slice ta (minT s ar N f.2 ps).length tc))) := ((bthen hbw2 hb5).setCell (by simp; omega) _).setCell (by simp; omega) _
 clear hfr hto hpI
 go_wp2_with fail
 refine bodyPost_ret (v := .tuple #[.agg #[.int .i64 (ar : Int), .slice ta (minT s ar N f.2 ps).length tc], .int .i64 0]) (by simp [results, Tryz.results39, go_sem, g0, g1]) rfl ⟨[.int .i64 (ar : Int), .slice ta (minT s ar N f.2 ps).length tc], rfl, HFF.out, HBB.out⟩
end Go.Proofs.YtnhdohednekhjaaGreatDoor
namespace Go.Proofs.YtnhdohednekhjaaGreatDoor
open Go.RowKit Go.Sort
theorem l02ValueV (w : World) {v : Value} {f : Int × List Int} (h : opT.Pt w v f) {u : Value} {xs : List Int} (hu : intsT.Rd w [u] xs) {s : Int} (hf : opOk s f) (hl : (xs.length : Int) = f.1) (hin : inS s xs) :
  Calls Tryz.prog 122 #[.int .i64 s, v, u] w fun e w' => e = .returned (.int .i64 (opV s f.2 xs)) ∧ Quiet w w' := by
 obtain ⟨k, hk, hkl, hv⟩ := opV_at hf hl hin
 obtain ⟨hs, har, -, -, -, -⟩ := op_dims hf
 rw [hv]
 exact l02Value_quiet w h hu hs.1 (by omega) (by omega) hin hk hkl
theorem idem_nat {s : Int} {f : Int × List Int} (hs : 1 ≤ s) : idemP s f ↔ ∀ k : Nat, k < s.toNat → opV s f.2 (List.replicate f.1.toNat (k : Int)) = (k : Int) :=
 ⟨fun h k hk => h k (by omega) (by omega), fun h x h0 h1 => by have := h x.toNat (by omega); rwa [show ((x.toNat : Nat) : Int) = x by omega] at this⟩
set_option maxHeartbeats 1600000 in
set_option maxRecDepth 100000 in
theorem l02Idempotent_any (w : World) {v : Value} {f : Int × List Int} (h : opT.Pt w v f) {s : Int} (hf : opOk s f) :
  Calls Tryz.prog 207 #[.int .i64 s, v] w fun e w' => e = .returned (.bool (tb (idemP s f))) ∧ Below w.heap.size w w' := by
 obtain ⟨hs, har, hN, hfe, -, -⟩ := op_dims hf
 obtain ⟨fb, fo, fa, fc, rfl, hfb, -, c0, -, -⟩ := pt_pair h
 have HP := Lib.hid h
 have HF := Lib.hid hf
 have HID := Lib.hid (idem_nat (f := f) hs.1)
 obtain ⟨ar, har1⟩ : ∃ ar : Nat, f.1.toNat = ar := ⟨_, rfl⟩
 rw [har1] at har hfe HID
 rw [hfe] at c0
 obtain ⟨S, rfl⟩ : ∃ S : Nat, s = S := ⟨s.toNat, by omega⟩
 rw [Int.toNat_natCast] at HID
 have HFE := Lib.hid hfe
 clear h hf hN hfe har1
 go_enter Tryz.func207, Tryz.ntmps207
 go_wp2_with fail
 go_loopw [5] (fun i wr => ∃ k : Nat, k ≤ S ∧ i = .int .i64 k ∧ (∀ j : Nat, j < k → opV S f.2 (List.replicate ar (j : Int)) = (j : Int)) ∧ Below w.heap.size w wr) (fun i _ => S - (intOf i).toNat)
 case atStart => exact ⟨0, Nat.zero_le _, rfl, fun j hj => absurd hj (Nat.not_lt_zero j), Below.refl _ _⟩
 case round =>
  obtain ⟨k, hk, rfl, hall, hbv⟩ := hrel
  obtain ⟨wv, rfl⟩ : ∃ wv : World, wv = wr := ⟨_, rfl⟩
  have HALL := Lib.hid hall
  have hzv := hbv.size
  clear hall
  by_cases hkl : k < S
  ·go_wp2_with fail
   go_loopw [7, 6] (fun i g wq => ∃ p : Nat, p ≤ ar ∧ i = .int .i64 p ∧ Bl Ty.int 2 wv.heap.size wq.heap.size wq g (List.replicate p (k : Int)) ∧ Below wv.heap.size wv wq) (fun i _ _ => ar - (intOf i).toNat)
   case atStart => exact ⟨0, Nat.zero_le _, rfl, by simpa using Bl.lit0 (E := Ty.int) (e := 2) (w := wv) (Nat.le_refl _), bA⟩
   case round =>
    obtain ⟨p, hp, rfl, hBl, hbq⟩ := hrel
    obtain ⟨wq, rfl⟩ : ∃ wq : World, wq = wr := ⟨_, rfl⟩
    have HB := Lib.hid hBl
    have hzq := hbq.size
    have hbq0 := bthen hbv hbq
    have d0 := (cellB hbq0 hfb).trans c0
    obtain ⟨ga, gn, gc, rfl⟩ := ex_slice (hBl.fr (by rw [List.length_replicate]; unfold capMax; omega))
    clear hBl
    by_cases hpl : p < ar
    ·have HSC : Hid (List.replicate p (k : Int) ++ [(k : Int)] = List.replicate (p + 1) (k : Int)) := by unfold Hid; rw [List.replicate_succ']
     have hIk : I64 (k : Int) := I64.small (by omega) (by omega)
     go_wp2_with (refine wpList_push (E := Ty.int) _ rfl _ _ 48 2 rfl elInt rfl (HB.out.below (bA (w := wq)) (Nat.le_refl _)) rfl news1 (fr_int hIk) (by rw [List.length_replicate]; omega) (by decide) hzq (by first | (simp; done) | (simp; omega)) ?_; intro v1 w1 hB1 hg1 _)
     have hbel1 : Below wv.heap.size wv w1 := (hbq.alloc hbq.size _).grown hg1 (by first | (simp; done) | (simp; omega)) (fun q hq => HB.out.own hq)
     rw [HSC.out] at hB1
     have HB1 := Lib.hid hB1
     clear hB1
     go_wp2_with fail
     go_roundw
     case rel => exact ⟨p + 1, by omega, by go_num, HB1.out, hbel1⟩
     case measure => simp [intOf]; omega
    ·obtain rfl : p = ar := by omega
     have HXR := Lib.hid (HB.out.fr (by rw [List.length_replicate]; unfold capMax; omega)).rd
     go_wp2_with fail
     refine (l02ValueV wq (f := f) (HP.out.below hbq0) HXR.out HF.out (by rw [List.length_replicate]; exact HFE.out.symm) (fun a ha => by rw [List.eq_of_mem_replicate ha]; omega)).mono ?_
     rintro e w5 ⟨rfl, hq5⟩
     have hb5 := hq5.below
     have hbb := bthen hbq0 hb5
     have HY : Hid (opV S f.2 (List.replicate p (k : Int)) ≠ k → tb (idemP S f) = false) := fun hne => tb_false (fun hi => hne (HID.out.1 hi k hkl))
     generalize hV : opV S f.2 (List.replicate p (k : Int)) = V at HY ⊢
     have HV := Lib.hid hV
     clear hV
     cases hc : (V != (k : Int))
     ·have hVk : V = k := by simpa using hc
      have HVK := Lib.hid hVk
      clear hVk
      go_wp2_with fail
      go_roundw
      case rel => exact ⟨k + 1, by omega, by go_num, fun j hj => (Nat.lt_succ_iff_lt_or_eq.1 hj).elim (HALL.out j) (fun e => by rw [e]; exact HV.out.trans HVK.out), hbb⟩
      case measure => simp [intOf]; omega
     ·have HR := Lib.hid (HY (by simpa using hc))
      clear HY
      go_wp2_with fail
      go_ret
      exact ⟨ret_bool HR.out.symm, hbb⟩
  ·obtain rfl : k = S := by omega
   have HR := Lib.hid (tb_true (HID.out.2 HALL.out))
   go_wp2_with fail
   go_ret
   exact ⟨ret_bool HR.out.symm, hbv⟩
theorem consv_nat {s : Int} {f : Int × List Int} (hf : opOk s f) : consvP s f ↔ ∀ k : Nat, k < f.2.length → hasI (digL s (k : Int) f.1.toNat) (f.2.getD k 0) = true := by
 obtain ⟨hs, har, hN, hfe, -, -⟩ := op_dims hf
 unfold consvP
 rw [all_dig (P := fun l => opV s f.2 l ∈ l) hs.1 hN]
 simp only [hasI_mem]
 exact ⟨fun h k hk => by rw [← opV_dig hf hk]; exact h k hk, fun h k hk => by rw [opV_dig hf hk]; exact h k hk⟩
set_option maxHeartbeats 1600000 in
set_option maxRecDepth 100000 in
theorem l02Conservative_any (w : World) {v : Value} {f : Int × List Int} (h : opT.Pt w v f) {s : Int} (hf : opOk s f) :
  Calls Tryz.prog 208 #[.int .i64 s, v] w fun e w' => e = .returned (.bool (tb (consvP s f))) ∧ Below w.heap.size w w' := by
 obtain ⟨hs, har, hN, hfe, h1, h64⟩ := op_dims hf
 obtain ⟨fb, fo, fa, fc, rfl, hfb, -, c0, c1, hx⟩ := pt_pair h
 obtain ⟨ad, cap, e1, -, -, hcell⟩ := ints_ex hx
 simp only [List.cons.injEq, Value.slice.injEq, and_true, true_and] at e1
 obtain ⟨rfl, rfl⟩ := e1
 obtain ⟨tb0, to0, rfl, htb, hte⟩ := hcell (by omega)
 have HTE := Lib.hid hte
 have HCV := Lib.hid (consv_nat hf)
 obtain ⟨ar, har1⟩ : ∃ ar : Nat, f.1.toNat = ar := ⟨_, rfl⟩
 rw [har1] at har hfe HCV
 rw [hfe] at c0
 clear h hf hN hfe har1 hx hcell hte
 go_enter Tryz.func208, Tryz.ntmps208
 go_wp2_with fail
 go_loopw [5] (fun i wr => ∃ k : Nat, k ≤ f.2.length ∧ i = .int .i64 k ∧ (∀ j : Nat, j < k → hasI (digL s (j : Int) ar) (f.2.getD j 0) = true) ∧ Below w.heap.size w wr) (fun i _ => f.2.length - (intOf i).toNat)
 case atStart => exact ⟨0, Nat.zero_le _, rfl, fun j hj => absurd hj (Nat.not_lt_zero j), Below.refl _ _⟩
 case round =>
  obtain ⟨k, hk, rfl, hall, hbv⟩ := hrel
  obtain ⟨wv, rfl⟩ : ∃ wv : World, wv = wr := ⟨_, rfl⟩
  have HALL := Lib.hid hall
  have hzv := hbv.size
  have d0 := (cellB hbv hfb).trans c0
  have d1 := (cellB hbv hfb).trans c1
  clear hall
  by_cases hkl : k < f.2.length
  ·have hg : f.2.getD k 0 = f.2[k] := by rw [List.getD_eq_getElem?_getD, List.getElem?_eq_getElem hkl]; rfl
   have d2 := (cellB hbv htb).trans (HTE.out k hkl).2
   rw [← hg] at d2
   have HNO : Hid (hasI (digL s (k : Int) ar) (f.2.getD k 0) = false → tb (consvP s f) = false) := fun hh => tb_false (fun hi => by rw [HCV.out.1 hi k hkl] at hh; cases hh)
   have hHK : hasI (digL s (k : Int) ar) (f.2.getD k 0) = hasI (digL s (k : Int) ar) (f.2.getD k 0) := rfl
   have HV : Hid (∃ V, V = f.2.getD k 0) := ⟨_, rfl⟩
   obtain ⟨V, hV⟩ := HV.out
   rw [← hV] at d2 HNO
   have HVV := Lib.hid hV
   clear hg hHK hV
   go_wp2_with fail
   refine wp_region_T (fun w' => w'.cell? ⟨fb, fo, none⟩ = some (.int .i64 (ar : Int)) ∧ w'.cell? ⟨fb, fo + 1, none⟩ = some (.slice (some ⟨tb0, to0, none⟩) f.2.length fc) ∧ w'.cell? ⟨tb0, to0 + k, none⟩ = some (.int .i64 V)) [] (by kernel_rfl) ⟨d0, d1, d2⟩ (fun hHeld => ?_)
   refine wpAnyT_take (i := 0) (v := ?_) rfl (by kernel_rfl) (fun _ _ _ h => h) (Or.inl ⟨by rfl, ?_⟩) (by assumption) ?_
   rotate_left
   ·(intro w hSw; (try dsimp only at hSw); go_simp <;> with_reducible rfl)
   go_simp
   refine wpAnyT_take (i := 1) (v := ?_) rfl (by kernel_rfl) (fun _ _ _ h => h) (Or.inl ⟨by rfl, ?_⟩) (by assumption) ?_
   rotate_left
   ·(intro w hSw; (try dsimp only at hSw); go_simp <;> with_reducible rfl)
   go_simp
   refine wpAnyT_take (i := 2) (v := ?_) rfl (by kernel_rfl) (fun _ _ _ h => h) (Or.inl ⟨by rfl, ?_⟩) (by assumption) ?_
   rotate_left
   ·(intro w hSw; (try dsimp only at hSw); go_simp <;> with_reducible rfl)
   go_simp
   refine wpAnyT_take (i := 3) (v := ?_) rfl (by kernel_rfl) (fun _ _ _ h => h) (Or.inl ⟨by rfl, ?_⟩) (by assumption) ?_
   rotate_left
   ·(intro w hSw; (try dsimp only at hSw); go_simp <;> with_reducible rfl)
   go_simp
   refine wpAnyT_take (i := 4) (v := ?_) rfl (by kernel_rfl) (fun _ _ _ h => h) (Or.inl ⟨by rfl, ?_⟩) (by assumption) ?_
   rotate_left
   ·(intro w hSw; (try dsimp only at hSw); go_simp <;> with_reducible rfl)
   go_simp
   refine wpAnyT_take (i := 5) (v := ?_) rfl (by kernel_rfl) (fun _ _ _ h => h) (Or.inl ⟨by rfl, ?_⟩) (by assumption) ?_
   rotate_left
   ·(intro w hSw; (try dsimp only at hSw); go_simp <;> with_reducible rfl)
   go_simp
   refine wpAnyT_take (i := 7) (v := ?_) rfl (by kernel_rfl) (fun _ _ _ h => h) (Or.inl ⟨by rfl, ?_⟩) (by assumption) ?_
   rotate_left
   ·(intro w hSw; (try dsimp only at hSw); go_simp <;> with_reducible rfl)
   go_simp
   refine wpAnyT_take (i := 8) (v := ?_) rfl (by kernel_rfl) (fun _ _ _ h => h) (Or.inl ⟨by rfl, ?_⟩) (by assumption) ?_
   rotate_left
   ·(intro w hSw; (try dsimp only at hSw); go_simp <;> with_reducible rfl)
   go_simp
   refine wpAnyT_take (i := 9) (v := ?_) rfl (by kernel_rfl) (fun _ _ _ h => h) (Or.inl ⟨by rfl, ?_⟩) (by assumption) ?_
   rotate_left
   ·(intro w hSw; (try dsimp only at hSw); go_simp <;> with_reducible rfl)
   go_simp
   refine wpAnyT_take (i := 10) (v := ?_) rfl (by kernel_rfl) (fun _ _ _ h => h) (Or.inl ⟨by rfl, ?_⟩) (by assumption) ?_
   rotate_left
   ·(intro w hSw; (try dsimp only at hSw); go_simp <;> with_reducible rfl)
   go_simp
   refine wpAnyT_take (i := 11) (v := ?_) rfl (by kernel_rfl) (fun _ _ _ h => h) (Or.inl ⟨by rfl, ?_⟩) (by assumption) ?_
   rotate_left
   ·(intro w hSw; (try dsimp only at hSw); go_simp <;> with_reducible rfl)
   go_simp
   refine wpAnyT_take (i := 12) (v := ?_) rfl (by kernel_rfl) (fun _ _ _ h => h) (Or.inl ⟨by rfl, ?_⟩) (by assumption) ?_
   rotate_left
   ·(intro w hSw; (try dsimp only at hSw); go_simp <;> with_reducible rfl)
   go_simp
   refine wpAnyT_take (i := 13) (v := ?_) rfl (by kernel_rfl) (fun _ _ _ h => h) (Or.inl ⟨by rfl, ?_⟩) (by assumption) ?_
   rotate_left
   ·(intro w hSw; (try dsimp only at hSw); go_simp <;> with_reducible rfl)
   go_simp
   have hv0 : Below wv.heap.size wv wv.drew := bD
   have hz3 := hv0.size
   clear d0 d1 d2
   generalize wv.drew = w3 at hHeld hv0 hz3 ⊢
   obtain ⟨d0, d1, d2⟩ := hHeld
   refine wpAnyT_one (i := 6) rfl (by kernel_rfl) (fun K hK => ?_)
   go_simp
   go_at_call 146
   refine (l01Digits_any _ s (k : Int) ar (by omega) (by omega) (by omega) (by omega) (by omega)).mono ?_
   rintro e w5 ⟨dv, rfl, hdf, hb5⟩
   obtain ⟨da, dn, dc, rfl⟩ := ex_slice hdf
   have HDF := Lib.hid hdf
   have hz5 := hb5.size
   have hbw5 := bthen hv0 hb5
   replace d0 := (cellB hb5 (by omega)).trans d0
   replace d1 := (cellB hb5 (by omega)).trans d1
   replace d2 := (cellB hb5 (by omega)).trans d2
   clear hdf
   dsimp only
   refine hK.out _ _ ⟨d0, d1, d2⟩ (fun hHeld => ?_)
   clear hK K
   refine wpAnyT_one (i := 14) rfl (by kernel_rfl) (fun K hK => ?_)
   go_simp
   go_at_call 126
   refine (l00Has_any w5 HDF.out.rd V).mono ?_
   rintro e _ ⟨rfl, rfl⟩
   dsimp only
   refine hK.out _ _ ⟨d0, d1, d2⟩ (fun hHeld => ?_)
   clear hK K
   refine wpAnyT_take (i := 15) (v := ?_) rfl (by kernel_rfl) (fun _ _ _ h => h) (Or.inl ⟨by rfl, ?_⟩) (by assumption) ?_
   rotate_left
   ·(intro w hSw; (try dsimp only at hSw); go_simp <;> with_reducible rfl)
   go_simp
   refine wpAnyT_done (by kernel_rfl) ?_ _
   go_simp
   cases hh : hasI (digL s (k : Int) ar) V
   ·have HR := Lib.hid (HNO.out hh)
    clear hh
    go_wp2_with fail
    go_ret
    exact ⟨ret_bool HR.out.symm, bthen hbv hbw5⟩
   ·have HH := Lib.hid hh
    clear hh
    go_wp2_with fail
    go_roundw
    case rel => exact ⟨k + 1, by omega, by go_num, fun j hj => (Nat.lt_succ_iff_lt_or_eq.1 hj).elim (HALL.out j) (fun e => by rw [e, ← HVV.out]; exact HH.out), bthen hbv hbw5⟩
    case measure => simp [intOf]; omega
  ·obtain rfl : k = f.2.length := by omega
   have HR := Lib.hid (tb_true (HCV.out.2 HALL.out))
   go_wp2_with fail
   go_ret
   exact ⟨ret_bool HR.out.symm, hbv⟩
end Go.Proofs.YtnhdohednekhjaaGreatDoor
namespace Go.Proofs.YtnhdohednekhjaaGreatDoor
open Go.RowKit Go.Sort
/-- a row of numbers, by its cells -/
theorem rd_ints_mk {w : World} {b o c n : Nat} {ys : List Int} (hl : ys.length = n) (h0 : 0 < n) (hc : n ≤ c) (hcm : n ≤ capMax) (hb : b < w.heap.size) (hI : ∀ a ∈ ys, I64 a)
  (hcell : ∀ j (h : j < ys.length), w.cell? ⟨b, o + j, none⟩ = some (.int .i64 ys[j])) : intsT.Rd w [.slice (some ⟨b, o, none⟩) n c] ys := by
 subst hl
 refine ⟨b :: (List.range ys.length).flatMap fun _ => [], _, c, rfl, hc, hcm, .inr ⟨h0, b, o, fun _ => [], rfl, hb, rfl, fun i hi => ⟨[.int .i64 ys[i]], ⟨rfl, hI _ (List.getElem_mem hi), rfl⟩, fun j hj => ?_⟩⟩⟩
 obtain rfl : j = 0 := by simpa using hj
 simp [Ty.int, hcell i hi]
/-- an element of a new row written -/
theorem fr_setI {base : Nat} {w : World} {b o c n : Nat} {xs : List Int} {i : Nat} {a : Int} (h : intsT.Fr base w [.slice (some ⟨b, o, none⟩) n c] xs) (hi : i < xs.length) (ha : I64 a) :
  intsT.Fr base (w.setCell ⟨b, o + i, none⟩ (.int .i64 a)) [.slice (some ⟨b, o, none⟩) n c] (xs.set i a) := by
 obtain ⟨b', o', c', hv, hc, hcm, hb, hbs, hI, hf, hH⟩ := fr_holds h (by omega)
 obtain ⟨⟨rfl, rfl⟩, rfl, rfl⟩ : (b = b' ∧ o = o') ∧ n = xs.length ∧ c = c' := by simpa using hv
 have hcl : ∀ j (hj : j < xs.length), w.cell? ⟨b, o + j, none⟩ = some (.int .i64 xs[j]) := fun j hj => by
  have := (hH j (by simpa using hj)).1
  rw [this]
  simp [hj]
 refine fr_ints_mk (by simp) (by omega) hc hcm (by simpa [World.setCell] using hb) hbs (fun x hx => ?_) (fun j hj => ?_) (fun q => (World.frozen?_setCell _ _ _ _).trans (hf q))
 ·rcases List.mem_or_eq_of_mem_set hx with h | h
  ·exact hI x h
  ·rw [h]; exact ha
 ·have hj' : j < xs.length := by simpa using hj
  rw [List.getElem_set]
  by_cases e : i = j
  ·subst e
   rw [if_pos rfl]
   exact World.cell?_setCell_same _ _ _ (hcl i hi)
  ·rw [if_neg e]
   exact (World.cell?_setCell_other _ _ _ _ (by first | (simp; done) | (simp; omega))).trans (hcl j hj')
set_option maxHeartbeats 1600000 in
set_option maxRecDepth 100000 in
theorem l02FlatC_any (w : World) {v : Value} {f : Int × List Int} (h : opT.Pt w v f) {s : Int} (hf : opOk s f) :
  Calls Tryz.prog 206 #[.int .i64 s, v, .bool true] w fun e w' => e = .returned (.bool (tb (constP f))) ∧ Below w.heap.size w w' := by
 obtain ⟨hs, har, hN, hfe, h1, h64⟩ := op_dims hf
 obtain ⟨fb, fo, fa, fc, rfl, hfb, -, c0, c1, hx⟩ := pt_pair h
 obtain ⟨ad, cap, e1, -, -, hcell⟩ := ints_ex hx
 simp only [List.cons.injEq, Value.slice.injEq, and_true, true_and] at e1
 obtain ⟨rfl, rfl⟩ := e1
 obtain ⟨tb0, to0, rfl, htb, hte⟩ := hcell (by omega)
 have HTE := Lib.hid hte
 have e0 : w.cell? ⟨tb0, to0, none⟩ = some (.int .i64 f.2[0]) := (hte 0 (by omega)).2
 have hg0 : f.2.getD 0 0 = f.2[0] := by rw [List.getD_eq_getElem?_getD, List.getElem?_eq_getElem (show 0 < f.2.length by omega)]; rfl
 rw [← hg0] at e0
 obtain ⟨V0, hV0⟩ : ∃ V, V = f.2.getD 0 0 := ⟨_, rfl⟩
 rw [← hV0] at e0
 have HC : Hid (constP f ↔ ∀ k, k < f.2.length → f.2.getD k 0 = V0) := by unfold Hid constP; rw [hV0]
 clear h hf hN hfe hx hcell hte hg0 hV0
 go_enter Tryz.func206, Tryz.ntmps206
 go_wp2_with fail
 go_loopw [7] (fun i wr => ∃ k : Nat, k ≤ f.2.length ∧ i = .int .i64 k ∧ (∀ j : Nat, j < k → f.2.getD j 0 = V0) ∧ Below w.heap.size w wr) (fun i _ => f.2.length - (intOf i).toNat)
 case atStart => exact ⟨0, Nat.zero_le _, rfl, fun j hj => absurd hj (Nat.not_lt_zero j), Below.refl _ _⟩
 case round =>
  obtain ⟨k, hk, rfl, hall, hbv⟩ := hrel
  obtain ⟨wv, rfl⟩ : ∃ wv : World, wv = wr := ⟨_, rfl⟩
  have HALL := Lib.hid hall
  have hzv := hbv.size
  have d0 := (cellB hbv hfb).trans c0
  have d1 := (cellB hbv hfb).trans c1
  have d3 := (cellB hbv htb).trans e0
  clear hall
  by_cases hkl : k < f.2.length
  ·have hg : f.2.getD k 0 = f.2[k] := by rw [List.getD_eq_getElem?_getD, List.getElem?_eq_getElem hkl]; rfl
   have d2 := (cellB hbv htb).trans (HTE.out k hkl).2
   rw [← hg] at d2
   have HNO : Hid (f.2.getD k 0 ≠ V0 → tb (constP f) = false) := fun hh => tb_false (fun hi => hh (HC.out.1 hi k hkl))
   obtain ⟨V, hV⟩ : ∃ V, V = f.2.getD k 0 := ⟨_, rfl⟩
   rw [← hV] at d2 HNO
   have HVV := Lib.hid hV
   clear hg hV
   cases hh : (V != V0)
   ·have hVE : V = V0 := by simpa using hh
    have HVE := Lib.hid hVE
    clear hVE
    go_wp2_with fail
    go_quiet (fail)
    go_wp2_with fail
    go_roundw
    case rel => exact ⟨k + 1, by omega, by go_num, fun j hj => (Nat.lt_succ_iff_lt_or_eq.1 hj).elim (HALL.out j) (fun e => by rw [e, ← HVV.out]; exact HVE.out), (by repeat (first | exact Below.refl _ _ | exact bA | assumption | refine Below.setCell ?_ (by first | omega | (simp; try omega)) _ | refine Below.alloc ?_ (by first | omega | (simp; try omega)) _ | refine Below.drew ?_ | refine bDN ?_ | refine bthen ?_ (by assumption)))⟩
    case measure => simp [intOf]; omega
   ·have HR := Lib.hid (HNO.out (by simpa using hh))
    go_wp2_with fail
    go_quiet (fail)
    go_wp2_with fail
    go_ret
    exact ⟨ret_bool HR.out.symm, (by repeat (first | exact Below.refl _ _ | exact bA | assumption | refine Below.setCell ?_ (by first | omega | (simp; try omega)) _ | refine Below.alloc ?_ (by first | omega | (simp; try omega)) _ | refine Below.drew ?_ | refine bDN ?_ | refine bthen ?_ (by assumption)))⟩
  ·obtain rfl : k = f.2.length := by omega
   have HR := Lib.hid (tb_true (HC.out.2 HALL.out))
   go_wp2_with fail
   go_ret
   exact ⟨ret_bool HR.out.symm, hbv⟩
set_option maxHeartbeats 1600000 in
set_option maxRecDepth 100000 in
theorem l02FlatP_any (w : World) {v : Value} {f : Int × List Int} (h : opT.Pt w v f) {s : Int} (hf : opOk s f) :
  Calls Tryz.prog 206 #[.int .i64 s, v, .bool false] w fun e w' => e = .returned (.bool (tb (projP s f))) ∧ Below w.heap.size w w' := by
 obtain ⟨hs, har, hN, hfe, h1, h64⟩ := op_dims hf
 obtain ⟨fb, fo, fa, fc, rfl, hfb, -, c0, -, -⟩ := pt_pair h
 have HP := Lib.hid h
 obtain ⟨ar, har1⟩ : ∃ ar : Nat, f.1.toNat = ar := ⟨_, rfl⟩
 rw [har1] at hN har hfe
 have HN := Lib.hid hN
 have HYES : Hid (∀ p : Nat, p < ar → eqB f ((ar : Int), projT s ar f.2.length p) = true → tb (projP s f) = true) := fun p hp he => tb_true ⟨p, by omega, by rw [har1, hfe]; exact eqB_iff.1 he⟩
 have HNO : Hid ((∀ p : Nat, p < ar → eqB f ((ar : Int), projT s ar f.2.length p) = false) → tb (projP s f) = false) := fun hn => by
  refine tb_false ?_
  rintro ⟨p, hp, he⟩
  have := hn p (by omega)
  rw [har1, hfe] at he
  rw [eqB_true he] at this
  cases this
 rw [hfe] at c0
 clear h hf hN hfe har1
 go_enter Tryz.func206, Tryz.ntmps206
 go_wp2_with fail
 go_loopw [8] (fun i wr => ∃ k : Nat, k ≤ ar ∧ i = .int .i64 k ∧ (∀ p, p < k → eqB f ((ar : Int), projT s ar f.2.length p) = false) ∧ Below w.heap.size w wr) (fun i _ => ar - (intOf i).toNat)
 case atStart => exact ⟨0, Nat.zero_le _, rfl, fun p hp => absurd hp (Nat.not_lt_zero p), Below.refl _ _⟩
 case round =>
  obtain ⟨k, hk, rfl, hall, hbv⟩ := hrel
  obtain ⟨wv, rfl⟩ : ∃ wv : World, wv = wr := ⟨_, rfl⟩
  have HALL := Lib.hid hall
  have hzv := hbv.size
  have d0 := (cellB hbv hfb).trans c0
  clear hall
  by_cases hkl : k < ar
  ·go_wp2_with fail
   refine (l02Projection_any wv hs har HN.out hkl).mono ?_
   rintro e w4 ⟨cs, rfl, hfp, hb4⟩
   obtain ⟨pa, pc, rfl⟩ := fr_pair hfp
   have HP4 : Hid (opT.Rd w4 [.int .i64 (ar : Int), .slice pa (projT s ar f.2.length k).length pc] ((ar : Int), projT s ar f.2.length k)) := hfp.rd
   have hbv4 := bthen hbv hb4
   have hz4 := hbv4.size
   clear hfp
   go_wp2_with fail
   generalize hX : World.alloc w4 _ = w5
   have hb5 : Below w4.heap.size w4 w5 := hX ▸ bA
   have hz5 : w4.heap.size + 1 ≤ w5.heap.size := by rw [← hX]; simp
   have g0 : w5.cell? ⟨w4.heap.size, 0, none⟩ = some (.int .i64 (ar : Int)) := by rw [← hX]; simp [go_sem]
   have g1 : w5.cell? ⟨w4.heap.size, 1, none⟩ = some (.slice pa (projT s ar f.2.length k).length pc) := by rw [← hX]; simp [go_sem]
   have hbv5 := bthen hbv4 hb5
   have HPT : Hid (opT.Pt w5 (.pointer (some ⟨w4.heap.size, 0, none⟩)) ((ar : Int), projT s ar f.2.length k)) := pt_of2 (f := ((ar : Int), projT s ar f.2.length k)) (by omega) (HP4.out.below hb5) g0 g1
   clear hX g0 g1
   refine (l02Same_quiet w5 (HP.out.below hbv5) HPT.out).mono ?_
   rintro e w6 ⟨rfl, hq6⟩
   have hbv6 := bthen hbv5 hq6.below
   cases hE : eqB f ((ar : Int), projT s ar f.2.length k)
   ·have HE := Lib.hid hE
    clear hE
    go_wp2_with fail
    go_roundw
    case rel => exact ⟨k + 1, by omega, by go_num, fun p hp => (Nat.lt_succ_iff_lt_or_eq.1 hp).elim (HALL.out p) (fun e => e ▸ HE.out), hbv6⟩
    case measure => simp [intOf]; omega
   ·have HT := Lib.hid (HYES.out k hkl hE)
    clear hE
    go_wp2_with fail
    go_ret
    exact ⟨ret_bool HT.out.symm, hbv6⟩
  ·obtain rfl : k = ar := by omega
   have HT := Lib.hid (HNO.out HALL.out)
   go_wp2_with fail
   go_ret
   exact ⟨ret_bool HT.out.symm, hbv⟩
end Go.Proofs.YtnhdohednekhjaaGreatDoor
namespace Go.Proofs.YtnhdohednekhjaaGreatDoor
open Go.RowKit Go.Sort
/-- a part of a row of numbers -/
theorem rd_sub {w : World} {b o n c : Nat} {xs : List Int} (h : intsT.Rd w [.slice (some ⟨b, o, none⟩) n c] xs) {i m c' : Nat} (him : i + m ≤ xs.length) (hm : 0 < m) (hc' : m ≤ c') : intsT.Rd w [.slice (some ⟨b, o + i, none⟩) m c'] ((xs.drop i).take m) := by
 obtain ⟨ad, cap, e1, h1, h2, hcell⟩ := ints_ex h
 obtain ⟨rfl, rfl, rfl⟩ : some ⟨b, o, none⟩ = ad ∧ n = xs.length ∧ c = cap := by simpa using e1
 obtain ⟨b', o', e2, hb, hce⟩ := hcell (by omega)
 obtain ⟨rfl, rfl⟩ : b = b' ∧ o = o' := by simpa using e2
 have hl : ((xs.drop i).take m).length = m := by simp; omega
 have hg : ∀ j (hj : j < m), ((xs.drop i).take m)[j]'(by rw [hl]; exact hj) = xs[i + j]'(by omega) := fun j hj => by simp
 refine rd_ints_mk hl hm hc' (by unfold capMax; omega) hb (fun a ha => ?_) (fun j hj => ?_)
 ·obtain ⟨j, hj, rfl⟩ := List.getElem_of_mem ha
  rw [hg j (by omega)]
  exact (hce (i + j) (by omega)).1
 ·rw [hg j (by omega), Nat.add_assoc]
  exact (hce (i + j) (by omega)).2
set_option maxHeartbeats 3200000 in
set_option maxRecDepth 100000 in
theorem l02Symmetric_any (w : World) {v : Value} {f : Int × List Int} (h : opT.Pt w v f) {s : Int} (hf : opOk s f) :
  Calls Tryz.prog 209 #[.int .i64 s, v] w fun e w' => e = .returned (.bool (tb (symP s f))) ∧ Below w.heap.size w w' := by
 obtain ⟨hs, har, hN, hfe, h1, h64⟩ := op_dims hf
 have HP := Lib.hid h
 have HF := Lib.hid hf
 obtain ⟨fb, fo, fa, fc, rfl, hfb, -, c0, c1, hx⟩ := pt_pair h
 obtain ⟨ad, cap, e1, -, -, hcell⟩ := ints_ex hx
 simp only [List.cons.injEq, Value.slice.injEq, and_true, true_and] at e1
 obtain ⟨rfl, rfl⟩ := e1
 obtain ⟨tb0, to0, rfl, htb, hte⟩ := hcell (by omega)
 have HTE := Lib.hid hte
 have HS := Lib.hid (sym_swap hf)
 obtain ⟨ar, har1⟩ : ∃ ar : Nat, f.1.toNat = ar := ⟨_, rfl⟩
 rw [har1] at har hfe HS
 have HFE := Lib.hid hfe
 rw [hfe] at c0
 clear h hf hN hfe har1 hx hcell hte
 go_enter Tryz.func209, Tryz.ntmps209
 go_wp2_with fail
 go_loopw [5] (fun i wr => ∃ k : Nat, k ≤ f.2.length ∧ i = .int .i64 k ∧ (∀ j : Nat, j < k → ∀ q, q + 1 < ar → opV s f.2 (swapL (digL s (j : Int) ar) q) = f.2.getD j 0) ∧ Below w.heap.size w wr) (fun i _ => f.2.length - (intOf i).toNat)
 case atStart => exact ⟨0, Nat.zero_le _, rfl, fun j hj => absurd hj (Nat.not_lt_zero j), Below.refl _ _⟩
 case round =>
  obtain ⟨k, hk, rfl, hall, hbv⟩ := hrel
  obtain ⟨wv, rfl⟩ : ∃ wv : World, wv = wr := ⟨_, rfl⟩
  have HALL := Lib.hid hall
  have hzv := hbv.size
  have d0 := (cellB hbv hfb).trans c0
  have d1 := (cellB hbv hfb).trans c1
  clear hall
  by_cases hkl : k < f.2.length
  ·have hg : f.2.getD k 0 = f.2[k] := by rw [List.getD_eq_getElem?_getD, List.getElem?_eq_getElem hkl]; rfl
   have hTK := (HTE.out k hkl).2
   rw [← hg] at hTK
   obtain ⟨V, hV⟩ : ∃ V, f.2.getD k 0 = V := ⟨_, rfl⟩
   rw [hV] at hTK
   have HV := Lib.hid hV
   clear hg hV
   go_wp2_with fail
   refine (l01Digits_any _ s (k : Int) ar (by omega) (by omega) (by omega) (by omega) (by omega)).mono ?_
   rintro e wd ⟨dv, rfl, hdf, hbd⟩
   have HTIN : Hid (inS s (digL s (k : Int) ar)) := digL_in hs.1
   have HTL : Hid ((digL s (k : Int) ar).length = ar) := digL_len
   have HNO : Hid (∀ q, q + 1 < ar → opV s f.2 (swapL (digL s (k : Int) ar) q) ≠ V → tb (symP s f) = false) := fun q hq hne => tb_false (fun hi => hne ((HS.out.1 hi k hkl q hq).trans HV.out))
   obtain ⟨T, hT⟩ : ∃ T, digL s (k : Int) ar = T := ⟨_, rfl⟩
   rw [hT] at hdf HTIN HTL HNO
   have HTT := Lib.hid hT
   obtain ⟨da, dc, hvd, -, -, hce⟩ := ints_ex hdf.rd
   obtain rfl : dv = _ := by simpa using hvd
   obtain ⟨db, dO, rfl, hdb, hce⟩ := hce (by have := HTL.out; omega)
   have HCE := Lib.hid hce
   have HTR := Lib.hid hdf.rd
   have hbd0 := bthen hbv hbd
   have hzd := hbd0.size
   have e0 := (cellB hbd (by omega)).trans d0
   clear hdf hce hT hvd d0 d1
   have hTl : T.length = ar := HTL.out
   subst hTl
   go_wp2_with fail
   go_loopw [7] (fun i wr => ∃ q : Nat, (q = 0 ∨ q + 1 ≤ T.length) ∧ i = .int .i64 q ∧ (∀ j : Nat, j < q → opV s f.2 (swapL T j) = V) ∧ Below wd.heap.size wd wr) (fun i _ => T.length - (intOf i).toNat)
   case atStart => exact ⟨0, .inl rfl, rfl, fun j hj => absurd hj (Nat.not_lt_zero j), Below.refl _ _⟩
   case round =>
    obtain ⟨q, hq, rfl, hal2, hbq⟩ := hrel
    obtain ⟨wq, rfl⟩ : ∃ wq : World, wq = wr := ⟨_, rfl⟩
    have HAL2 := Lib.hid hal2
    have hzq := hbq.size
    have hbq0 := bthen hbd0 hbq
    have g0 := (cellB hbq0 hfb).trans c0
    clear hal2
    have hw1 : IntKind.i64.wrap ((q : Int) + 1) = ((q + 1 : Nat) : Int) := by rw [wrap_small (by omega) (by omega)]; omega
    by_cases hql : q + 1 < T.length
    ·have HTQ := Lib.hid (HTR.out.below hbq)
     go_wp2_with fail
     refine (l00Own_any wq HTQ.out (by omega)).mono ?_
     rintro e wo ⟨u, rfl, hBl, hbo⟩
     obtain ⟨ob, oo, oc, rfl, hoc, hocm, hob, hobs, hoI, hof, hoH⟩ := fr_holds (hBl.fr (by unfold capMax; omega)) (by omega)
     have HOF : Hid (intsT.Fr wq.heap.size wo [.slice (some ⟨ob, oo, none⟩) T.length oc] T) := hBl.fr (by unfold capMax; omega)
     have hbo0 := bthen hbq hbo
     have hbo00 := bthen hbd0 hbo0
     have hzo := hbo00.size
     obtain ⟨hI0, hd0⟩ := HCE.out q (by omega)
     obtain ⟨hI1, hd1⟩ := HCE.out (q + 1) (by omega)
     replace hd0 := (cellB hbo0 hdb).trans hd0
     replace hd1 := (cellB hbo0 hdb).trans hd1
     have hgd : ∀ j (hj : j < T.length), T.getD j 0 = T[j] := fun j hj => by rw [List.getD_eq_getElem?_getD, List.getElem?_eq_getElem hj]; rfl
     rw [← hgd q (by omega)] at hd0 hI0
     rw [← hgd (q + 1) (by omega)] at hd1 hI1
     have ho0 : ∃ y, wo.cell? ⟨ob, oo + q, none⟩ = some y := ⟨_, (hoH q (by simp; omega)).1⟩
     have ho1 : ∃ y, wo.cell? ⟨ob, oo + (q + 1), none⟩ = some y := ⟨_, (hoH (q + 1) (by simp; omega)).1⟩
     obtain ⟨y0, ho0⟩ := ho0
     obtain ⟨y1, ho1⟩ := ho1
     have hm0 := hof (oo + q)
     have hm1 := hof (oo + (q + 1))
     have hne : db ≠ ob := by have := hbq.size; omega
     have HF2 : Hid (intsT.Fr wq.heap.size ((wo.setCell ⟨ob, oo + q, none⟩ (.int .i64 (T.getD (q + 1) 0))).setCell ⟨ob, oo + (q + 1), none⟩ (.int .i64 (T.getD q 0))) [.slice (some ⟨ob, oo, none⟩) T.length oc] (swapL T q)) := by
      have := fr_setI (fr_setI HOF.out (show q < T.length by omega) hI1) (i := q + 1) (a := T.getD q 0) (by rw [List.length_set]; omega) hI0
      unfold Hid
      simpa [swapL] using this
     have HSW : Hid (inS s (swapL T q)) := inS_perm (swapL_perm (by omega)) HTIN.out
     have HSL : Hid (((swapL T q).length : Int) = f.1) := by unfold Hid; rw [swapL_len]; exact HFE.out.symm
     have hb2 : Below wq.heap.size wq ((wo.setCell ⟨ob, oo + q, none⟩ (.int .i64 (T.getD (q + 1) 0))).setCell ⟨ob, oo + (q + 1), none⟩ (.int .i64 (T.getD q 0))) := (hbo.setCell hobs _).setCell hobs _
     have HNO2 := Lib.hid (HNO.out q hql)
     clear HNO hoH hBl hgd hof hoI
     generalize T.getD q 0 = x0 at *
     generalize T.getD (q + 1) 0 = x1 at *
     go_wp2_with fail
     generalize (wo.setCell ⟨ob, oo + q, none⟩ (.int .i64 x1)).setCell ⟨ob, oo + (q + 1), none⟩ (.int .i64 x0) = wx at HF2 hb2 ⊢
     have hbx1 := bthen hbq hb2
     have hbx := bthen hbd0 hbx1
     have yc1 := (cellB hbx hfb).trans c1
     have yc2 := (cellB hbx htb).trans hTK
     obtain ⟨V2, hV2⟩ : ∃ V2, opV s f.2 (swapL T q) = V2 := ⟨_, rfl⟩
     have HV2 := Lib.hid hV2
     rw [hV2] at HNO2
     have cQ : ∀ n, Calls Tryz.prog 122 #[.int .i64 s, .pointer (some ⟨fb, fo, none⟩), .slice (some ⟨ob, oo, none⟩) T.length oc] (wx.drewN n) fun e w'' => e = .returned (.int .i64 V2) ∧ ∃ m, w'' = wx.drewN m := fun n => by
      have := quiet_call (l02ValueV (wx.drewN n) (f := f) ((HP.out.below hbx).below (Quiet.drewN wx n).below) (HF2.out.rd.below (Quiet.drewN wx n).below) HF.out HSL.out HSW.out)
      rw [HV2.out] at this
      exact this
     clear hd0 hd1 ho0 ho1 hm0 hm1 hV2
     have hfx : fb < wx.heap.size := by have := hbx.size; omega
     have htx : tb0 < wx.heap.size := by have := hbx.size; omega
     cases hc : (V2 != V)
     ·have hVE : V2 = V := by simpa using hc
      have HVE := Lib.hid hVE
      clear hVE
      go_quiet (exact cQ _)
      go_wp2_with fail
      go_roundw
      case rel => exact ⟨q + 1, .inr (by omega), by go_num, fun j hj => (Nat.lt_succ_iff_lt_or_eq.1 hj).elim (HAL2.out j) (fun e => by rw [e]; exact HV2.out.trans HVE.out), bthen hbx1 (Quiet.drewN wx _).below⟩
      case measure => simp [intOf]; omega
     ·have HR := Lib.hid (HNO2.out (by simpa using hc))
      go_quiet (exact cQ _)
      go_wp2_with fail
      go_ret
      exact ⟨ret_bool HR.out.symm, bthen hbx (Quiet.drewN wx _).below⟩
    ·have HDONE : Hid (∀ j : Nat, j < k + 1 → ∀ q, q + 1 < T.length → opV s f.2 (swapL (digL s (j : Int) T.length) q) = f.2.getD j 0) := fun j hj p hp => by
      rcases Nat.lt_succ_iff_lt_or_eq.1 hj with h | h
      ·exact HALL.out j h p hp
      ·subst h
       rw [HTT.out, HV.out]
       exact HAL2.out p (by omega)
     go_wp2_with fail
     go_roundw
     case rel => exact ⟨k + 1, by omega, by go_num, HDONE.out, hbq0⟩
     case measure => simp [intOf]; omega
  ·obtain rfl : k = f.2.length := by omega
   have HR := Lib.hid (tb_true (HS.out.2 HALL.out))
   go_wp2_with fail
   go_ret
   exact ⟨ret_bool HR.out.symm, hbv⟩
end Go.Proofs.YtnhdohednekhjaaGreatDoor
