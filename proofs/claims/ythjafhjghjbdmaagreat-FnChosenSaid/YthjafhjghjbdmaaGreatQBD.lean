/-
Contracts: whether an operation is of a kind, the program's, kind by kind.
Contracts: whether an operation is of a kind, the program's: projections, semilattices; whole.
Contracts: the first polymorphism of a kind, the program's.
Contracts: a polymorphism with given values, the reference's.
Plain: the first operation of a kind, and the first one with a value at a list, in the list of all.
Plain: FirstPolymorphism and PolymorphismWith against the list of all operations.
Contracts: the laws' own small functions on bytes; plain facts on the operations that are found.
Contracts: tuples drawn from bytes; an operation applied; the kind of an operation, checked.
Plain: the index of the first one of a kind, of the first one with a value; one number, just made.
Contracts: the reference's tests of a kind: idempotent, conservative, flat.
-/
import Derived.Test.YthjafhjghjbdmaaGreatQBC
import Derived.Test.YthjafhjghjbdmaaGreatQAJ
import Derived.Test.YthjafhjghjbdmaaGreatQAI
import Derived.Test.YthjafhjghjbdmaaGreatQBB
import Derived.Test.YthjafhjghjbdmaaGreatQAB
import Derived.Test.YthjafhjghjbdmaaGreatQBA
namespace Go.Proofs.YthjafhjghjbdmaaGreat
open Go.RowKit Go.Sort
theorem idem_all {s : Int} {f : Int × List Int} (hs : 1 ≤ s) : idemP s f ↔ ∀ k : Nat, k < s.toNat → opV s f.2 (List.replicate f.1.toNat ((digL s (k : Int) 1).getD 0 0)) = (digL s (k : Int) 1).getD 0 0 := by
  rw [← all_dig (P := fun l => opV s f.2 (List.replicate f.1.toNat (l.getD 0 0)) = l.getD 0 0) hs (by rw [Int.pow_succ, Int.pow_zero]; omega)]
  constructor
  · intro h xs hl hin
    obtain ⟨x, rfl⟩ := List.length_eq_one_iff.1 hl
    have hx := hin x (by simp)
    exact h x hx.1 hx.2
  · exact fun h x h0 h1 => h [x] rfl (fun a ha => by rw [List.mem_singleton.1 ha]; exact ⟨h0, h1⟩)
theorem hasI_mem {xs : List Int} {n : Int} : hasI xs n = true ↔ n ∈ xs := by
  unfold hasI anyB
  simp
theorem asso_all {s : Int} {f : Int × List Int} {N : Nat} (hs : 1 ≤ s) (hN : s ^ 3 = N) : assoP s f ↔ ∀ k : Nat, k < N → ∀ a b c, digL s (k : Int) 3 = [a, b, c] → opV s f.2 [opV s f.2 [a, b], c] = opV s f.2 [a, opV s f.2 [b, c]] := by
  rw [← all_dig (P := fun l => ∀ a b c, l = [a, b, c] → opV s f.2 [opV s f.2 [a, b], c] = opV s f.2 [a, opV s f.2 [b, c]]) hs hN]
  constructor
  · rintro h xs - hin a b c rfl
    exact h a b c (hin a (by simp)) (hin b (by simp)) (hin c (by simp))
  · exact fun h a b c ha hb hc => h [a, b, c] rfl (in3 ha hb hc) a b c rfl
/-- how the test of associativity reads a list -/
def assoL (s : Int) (f : Int × List Int) (l : List Int) : Bool := opV s f.2 [opV s f.2 [l.getD 0 0, l.getD 1 0], l.getD 2 0] == opV s f.2 [l.getD 0 0, opV s f.2 [l.getD 1 0, l.getD 2 0]]
theorem asso_tb {s : Int} {f : Int × List Int} {N : Nat} (hs : 1 ≤ s) (hN : s ^ 3 = N) : allK (fun k => assoL s f (digL s (k : Int) 3)) N = tb (assoP s f) := by
  rw [Bool.eq_iff_iff, allK_iff, tb_iff, asso_all hs hN]
  refine ⟨fun h k hk a b c e => ?_, fun h k hk => ?_⟩
  · have := h k hk
    rw [e] at this
    simpa [assoL] using this
  · obtain ⟨a, b, c, e⟩ := dig3 s k
    rw [e]
    simpa [assoL] using h k hk a b c e
section
variable {s : Int} {f : Int × List Int}
set_option maxHeartbeats 1600000 in
set_option maxRecDepth 100000 in
theorem isKind_3 (w : World) {cs : Array Value} (h : opT.Rd w cs.toList f) (hf : opOk s f) :
    Calls Tryz.prog 53 #[.int .i64 s, .agg cs, .int .i64 3] w fun e w' => e = .returned (.bool (kindB s f 3)) ∧ Below w.heap.size w w' := by
  obtain ⟨hs, har, -, -, -, -⟩ := op_dims hf
  obtain ⟨u2, hv2, hI, hx⟩ := pair_ex h
  obtain rfl := agg_of hv2
  have H := Lib.hid h
  have HF := Lib.hid hf
  have hN : s ^ 1 = ((s.toNat : Nat) : Int) := by rw [Int.pow_succ, Int.pow_zero]; omega
  have HN := Lib.hid hN
  have HT : Hid (allK (fun k => opV s f.2 (List.replicate f.1.toNat ((digL s (k : Int) 1).getD 0 0)) == (digL s (k : Int) 1).getD 0 0) s.toNat = kindB s f 3) := by
    unfold Hid
    rw [kind_3, Bool.eq_iff_iff, allK_iff, tb_iff, idem_all hs.1]
    simp
  clear h hx hv2 hf hN
  go_enter Tryz.func53, Tryz.ntmps53
  go_wp2_with fail
  generalize hW : World.alloc (World.alloc w _) _ = W
  have hbW : Below w.heap.size w W := hW ▸ bAA
  have hsW : w.heap.size + 2 ≤ W.heap.size := by rw [← hW]; simp
  have b0 : W.cell? ⟨w.heap.size, 0, none⟩ = some (.int .i64 s) := by rw [← hW]; simp [go_sem]
  have f0 : W.cell? ⟨w.heap.size + 1, 0, none⟩ = some (.int .i64 f.1) := by rw [← hW]; simp [go_sem]
  have f1 : W.cell? ⟨w.heap.size + 1, 1, none⟩ = some u2 := by rw [← hW]; simp [go_sem]
  have HPT : Hid (opT.Pt W (.pointer (some ⟨w.heap.size + 1, 0, none⟩)) f) := pt_of2 (by omega) (H.out.below hbW) f0 f1
  clear hW f0 f1
  have hto : Hid (∀ W' u (k : Nat), Below W.heap.size W W' → k < s.toNat → intsT.Rd W' [u] (digL s k 1) → Calls Tryz.prog 136 (#[u] ++ #[.pointer (some ⟨w.heap.size + 1, 0, none⟩), .pointer (some ⟨w.heap.size, 0, none⟩)]) W' fun e w' => e = .returned (.bool ((fun l => opV s f.2 (List.replicate f.1.toNat (l.getD 0 0)) == l.getD 0 0) (digL s k 1))) ∧ Below W'.heap.size W' w') := by
    intro W' u k hb _ hu
    exact isKind1_any W' hu ((cellB hb (by omega)).trans b0) (HPT.out.below hb) HF.out digL_len (digL_in hs.1)
  refine (allLists_any W hs (m := 1) (by omega) HN.out 136 _ (enters Tryz.func136 (by kernel_rfl) rfl) (fun l => opV s f.2 (List.replicate f.1.toNat (l.getD 0 0)) == l.getD 0 0) hto).mono ?_
  rintro e w5 ⟨rfl, hb5⟩
  rw [HT.out]
  go_wp2_with fail
  go_ret
  exact ⟨rfl, bthen hbW hb5⟩
set_option maxHeartbeats 1600000 in
set_option maxRecDepth 100000 in
theorem isKind_4 (w : World) {cs : Array Value} (h : opT.Rd w cs.toList f) (hf : opOk s f) :
    Calls Tryz.prog 53 #[.int .i64 s, .agg cs, .int .i64 4] w fun e w' => e = .returned (.bool (kindB s f 4)) ∧ Below w.heap.size w w' := by
  obtain ⟨hs, har, hN, hfe, -, -⟩ := op_dims hf
  obtain ⟨u2, hv2, hI, hx⟩ := pair_ex h
  obtain rfl := agg_of hv2
  have H := Lib.hid h
  have HF := Lib.hid hf
  obtain ⟨ar, har1⟩ : ∃ ar : Nat, f.1.toNat = ar := ⟨_, rfl⟩
  have HT : Hid (allK (fun k => hasI (digL s (k : Int) ar) (opV s f.2 (digL s (k : Int) ar))) f.2.length = kindB s f 4) := by
    unfold Hid
    rw [kind_4, Bool.eq_iff_iff, allK_iff, tb_iff]
    unfold consvP
    rw [all_dig (P := fun l => opV s f.2 l ∈ l) hs.1 hN, har1]
    simp only [hasI_mem]
  rw [har1] at hN har hfe
  have HN := Lib.hid hN
  have HFE := Lib.hid hfe
  have HA := Lib.hid har1
  clear h hx hv2 hf hN hfe har1
  go_enter Tryz.func53, Tryz.ntmps53
  go_wp2_with fail
  generalize hW : World.alloc (World.alloc w _) _ = W
  have hbW : Below w.heap.size w W := hW ▸ bAA
  have hsW : w.heap.size + 2 ≤ W.heap.size := by rw [← hW]; simp
  have b0 : W.cell? ⟨w.heap.size, 0, none⟩ = some (.int .i64 s) := by rw [← hW]; simp [go_sem]
  have f0 : W.cell? ⟨w.heap.size + 1, 0, none⟩ = some (.int .i64 f.1) := by rw [← hW]; simp [go_sem]
  have f1 : W.cell? ⟨w.heap.size + 1, 1, none⟩ = some u2 := by rw [← hW]; simp [go_sem]
  have HPT : Hid (opT.Pt W (.pointer (some ⟨w.heap.size + 1, 0, none⟩)) f) := pt_of2 (by omega) (H.out.below hbW) f0 f1
  clear hW f0 f1
  rw [HFE.out]
  have hto : Hid (∀ W' u (k : Nat), Below W.heap.size W W' → k < f.2.length → intsT.Rd W' [u] (digL s k ar) → Calls Tryz.prog 137 (#[u] ++ #[.pointer (some ⟨w.heap.size + 1, 0, none⟩), .pointer (some ⟨w.heap.size, 0, none⟩)]) W' fun e w' => e = .returned (.bool ((fun l => hasI l (opV s f.2 l)) (digL s k ar))) ∧ Below W'.heap.size W' w') := by
    intro W' u k hb _ hu
    exact isKind2_any W' hu ((cellB hb (by omega)).trans b0) (HPT.out.below hb) HF.out (by rw [digL_len, HA.out]) (digL_in hs.1)
  refine (allLists_any W hs har.2 HN.out 137 _ (enters Tryz.func137 (by kernel_rfl) rfl) (fun l => hasI l (opV s f.2 l)) hto).mono ?_
  rintro e w5 ⟨rfl, hb5⟩
  rw [HT.out]
  go_wp2_with fail
  go_ret
  exact ⟨rfl, bthen hbW hb5⟩
set_option maxHeartbeats 1600000 in
set_option maxRecDepth 100000 in
theorem isKind_2 (w : World) {cs : Array Value} (h : opT.Rd w cs.toList f) (hf : opOk s f) :
    Calls Tryz.prog 53 #[.int .i64 s, .agg cs, .int .i64 2] w fun e w' => e = .returned (.bool (kindB s f 2)) ∧ Below w.heap.size w w' := by
  obtain ⟨hs, har, hN, hfe, h1, h64⟩ := op_dims hf
  obtain ⟨u2, hv2, hI, hx⟩ := pair_ex h
  obtain rfl := agg_of hv2
  obtain ⟨ta, tc, rfl⟩ := rd_slice hx
  have HX := Lib.hid hx
  have HT : Hid (((((compL (sortI f.2)).length : Nat) : Int) == 1) = kindB s f 2) := by
    unfold Hid
    rw [kind_2, Bool.eq_iff_iff, tb_iff, const_comp h1, beq_iff_eq]
    omega
  clear h hx hv2 hf hN hfe
  go_enter Tryz.func53, Tryz.ntmps53
  go_wp2_with fail
  generalize hW : World.alloc (World.alloc w _) _ = W
  have hbW : Below w.heap.size w W := hW ▸ bAA
  clear hW
  refine (rising_any W (HX.out.below hbW) h1 (by omega)).mono ?_
  rintro e w5 ⟨ad, c, rfl, hb5⟩
  go_wp2_with fail
  go_ret
  exact ⟨ret_bool HT.out, bthen hbW hb5⟩
set_option maxHeartbeats 1600000 in
set_option maxRecDepth 100000 in
theorem isKind_5 (w : World) {cs : Array Value} (h : opT.Rd w cs.toList f) (hf : opOk s f) :
    Calls Tryz.prog 53 #[.int .i64 s, .agg cs, .int .i64 5] w fun e w' => e = .returned (.bool (kindB s f 5)) ∧ Below w.heap.size w w' := by
  obtain ⟨u2, hv2, hI, hx⟩ := pair_ex h
  obtain rfl := agg_of hv2
  have H := Lib.hid h
  have HF := Lib.hid hf
  clear h hx hv2 hf
  cases h2 : (f.1 == 2)
  · have HT : Hid (kindB s f 5 = false) := by unfold Hid; rw [kind_5]; exact tb_false (fun hh => by rw [hh.1] at h2; exact absurd h2 (by decide))
    go_enter Tryz.func53, Tryz.ntmps53
    go_wp2_with fail
    go_ret
    exact ⟨ret_bool HT.out.symm, (by repeat (first | exact Below.refl _ _ | exact bA | assumption | refine Below.setCell ?_ (by first | omega | (simp; try omega)) _ | refine Below.alloc ?_ (by first | omega | (simp; try omega)) _ | refine Below.drew ?_ | refine bDN ?_ | refine bthen ?_ (by assumption)))⟩
  · have HT : Hid (tb (symP s f) = kindB s f 5) := by unfold Hid; rw [kind_5]; exact tb_congr ⟨fun h => ⟨by simpa using h2, h⟩, fun h => h.2⟩
    go_enter Tryz.func53, Tryz.ntmps53
    go_wp2_with fail
    generalize hW : World.alloc (World.alloc w _) _ = W
    have hbW : Below w.heap.size w W := hW ▸ bAA
    clear hW
    refine (isSymmetric_any W (f := f) (H.out.below hbW) HF.out).mono ?_
    rintro e w5 ⟨rfl, hb5⟩
    rw [HT.out]
    go_wp2_with fail
    go_ret
    exact ⟨rfl, bthen hbW hb5⟩
set_option maxHeartbeats 1600000 in
set_option maxRecDepth 100000 in
theorem isKind_10 (w : World) {cs : Array Value} (h : opT.Rd w cs.toList f) (hf : opOk s f) :
    Calls Tryz.prog 53 #[.int .i64 s, .agg cs, .int .i64 10] w fun e w' => e = .returned (.bool (kindB s f 10)) ∧ Below w.heap.size w w' := by
  obtain ⟨u2, hv2, hI, hx⟩ := pair_ex h
  obtain rfl := agg_of hv2
  have H := Lib.hid h
  have HF := Lib.hid hf
  clear h hx hv2 hf
  go_enter Tryz.func53, Tryz.ntmps53
  go_wp2_with fail
  generalize hW : World.alloc (World.alloc w _) _ = W
  have hbW : Below w.heap.size w W := hW ▸ bAA
  clear hW
  refine (isSymmetric_any W (f := f) (H.out.below hbW) HF.out).mono ?_
  rintro e w5 ⟨rfl, hb5⟩
  rw [← kind_10]
  go_wp2_with fail
  go_ret
  exact ⟨rfl, bthen hbW hb5⟩
set_option maxHeartbeats 1600000 in
set_option maxRecDepth 100000 in
theorem isKind_7 (w : World) {cs : Array Value} (h : opT.Rd w cs.toList f) (hf : opOk s f) :
    Calls Tryz.prog 53 #[.int .i64 s, .agg cs, .int .i64 7] w fun e w' => e = .returned (.bool (kindB s f 7)) ∧ Below w.heap.size w w' := by
  obtain ⟨u2, hv2, hI, hx⟩ := pair_ex h
  obtain rfl := agg_of hv2
  have H := Lib.hid h
  have HF := Lib.hid hf
  have HT : Hid (tb (ternP s f (fun x _ => x) (fun x _ => x) (fun x _ => x)) = kindB s f 7) := by unfold Hid; rw [kind_7]; exact tb_congr (tern_third (fun x y hx _ => hx) (fun _ => rfl) (fun h => by cases h))
  clear h hx hv2 hf
  go_enter Tryz.func53, Tryz.ntmps53
  go_wp2_with fail
  generalize hW : World.alloc (World.alloc w _) _ = W
  have hbW : Below w.heap.size w W := hW ▸ bAA
  clear hW
  refine (isTernary_any W (f := f) (H.out.below hbW) HF.out (enters Tryz.func142 (by kernel_rfl) rfl) isKind4_any).mono ?_
  rintro e w5 ⟨rfl, hb5⟩
  rw [HT.out]
  go_wp2_with fail
  go_ret
  exact ⟨rfl, bthen hbW hb5⟩
set_option maxHeartbeats 1600000 in
set_option maxRecDepth 100000 in
theorem isKind_8 (w : World) {cs : Array Value} (h : opT.Rd w cs.toList f) (hf : opOk s f) :
    Calls Tryz.prog 53 #[.int .i64 s, .agg cs, .int .i64 8] w fun e w' => e = .returned (.bool (kindB s f 8)) ∧ Below w.heap.size w w' := by
  obtain ⟨u2, hv2, hI, hx⟩ := pair_ex h
  obtain rfl := agg_of hv2
  have H := Lib.hid h
  have HF := Lib.hid hf
  have HT : Hid (tb (ternP s f (fun _ y => y) (fun _ y => y) (fun _ y => y)) = kindB s f 8) := by unfold Hid; rw [kind_8]; exact tb_congr (tern_third (fun x y _ hy => hy) (fun _ => rfl) (fun h => by cases h))
  clear h hx hv2 hf
  go_enter Tryz.func53, Tryz.ntmps53
  go_wp2_with fail
  generalize hW : World.alloc (World.alloc w _) _ = W
  have hbW : Below w.heap.size w W := hW ▸ bAA
  clear hW
  refine (isTernary_any W (f := f) (H.out.below hbW) HF.out (enters Tryz.func143 (by kernel_rfl) rfl) isKind5_any).mono ?_
  rintro e w5 ⟨rfl, hb5⟩
  rw [HT.out]
  go_wp2_with fail
  go_ret
  exact ⟨rfl, bthen hbW hb5⟩
set_option maxHeartbeats 1600000 in
set_option maxRecDepth 100000 in
theorem isKind_9 (w : World) {cs : Array Value} (h : opT.Rd w cs.toList f) (hf : opOk s f) :
    Calls Tryz.prog 53 #[.int .i64 s, .agg cs, .int .i64 9] w fun e w' => e = .returned (.bool (kindB s f 9)) ∧ Below w.heap.size w w' := by
  obtain ⟨u2, hv2, hI, hx⟩ := pair_ex h
  obtain rfl := agg_of hv2
  have H := Lib.hid h
  have HF := Lib.hid hf
  have HT : Hid (tb (ternP s f (fun _ y => y) (fun _ _ => -1) (fun _ y => y)) = kindB s f 9) := by unfold Hid; rw [kind_9]; exact tb_congr (tern_third (fun x y _ hy => hy) (fun h => by cases h) (fun _ => rfl))
  clear h hx hv2 hf
  go_enter Tryz.func53, Tryz.ntmps53
  go_wp2_with fail
  generalize hW : World.alloc (World.alloc w _) _ = W
  have hbW : Below w.heap.size w W := hW ▸ bAA
  clear hW
  refine (isTernary_any W (f := f) (H.out.below hbW) HF.out (enters Tryz.func144 (by kernel_rfl) rfl) isKind6_any).mono ?_
  rintro e w5 ⟨rfl, hb5⟩
  rw [HT.out]
  go_wp2_with fail
  go_ret
  exact ⟨rfl, bthen hbW hb5⟩
end
end Go.Proofs.YthjafhjghjbdmaaGreat
namespace Go.Proofs.YthjafhjghjbdmaaGreat
open Go.RowKit Go.Sort
section
variable {s : Int} {f : Int × List Int}
set_option maxHeartbeats 3200000 in
set_option maxRecDepth 100000 in
theorem isKind_6 (w : World) {cs : Array Value} (h : opT.Rd w cs.toList f) (hf : opOk s f) :
    Calls Tryz.prog 53 #[.int .i64 s, .agg cs, .int .i64 6] w fun e w' => e = .returned (.bool (kindB s f 6)) ∧ Below w.heap.size w w' := by
  obtain ⟨hs, har, -, -, -, -⟩ := op_dims hf
  obtain ⟨u2, hv2, hI, hx⟩ := pair_ex h
  obtain rfl := agg_of hv2
  have H := Lib.hid h
  have HF := Lib.hid hf
  obtain ⟨N, hN3⟩ : ∃ N : Nat, s ^ 3 = (N : Int) := ⟨(s ^ 3).toNat, by have : 0 < s ^ 3 := Int.pow_pos (by omega); omega⟩
  have HN := Lib.hid hN3
  have HAS := Lib.hid (asso_tb (f := f) hs.1 hN3)
  have HK : Hid (∀ p q r : Bool, kindB s f 3 = p → kindB s f 5 = q → tb (assoP s f) = r → kindB s f 6 = (p && q && r)) := by
    rintro p q r rfl rfl rfl
    rw [kind_3, kind_5, kind_6, tb_and, tb_and]
    exact tb_congr ⟨fun ⟨a, b, c, d⟩ => ⟨⟨c, a, b⟩, d⟩, fun ⟨⟨c, a, b⟩, d⟩ => ⟨a, b, c, d⟩⟩
  clear h hx hv2 hf hN3
  go_enter Tryz.func53, Tryz.ntmps53
  go_wp2_with fail
  generalize hW : World.alloc (World.alloc w _) _ = W
  have hbW : Below w.heap.size w W := hW ▸ bAA
  have hsW : w.heap.size + 2 ≤ W.heap.size := by rw [← hW]; simp
  have b0 : W.cell? ⟨w.heap.size, 0, none⟩ = some (.int .i64 s) := by rw [← hW]; simp [go_sem]
  have f0 : W.cell? ⟨w.heap.size + 1, 0, none⟩ = some (.int .i64 f.1) := by rw [← hW]; simp [go_sem]
  have f1 : W.cell? ⟨w.heap.size + 1, 1, none⟩ = some u2 := by rw [← hW]; simp [go_sem]
  clear hW
  refine (isKind_3 W (f := f) (H.out.below hbW) HF.out).mono ?_
  rintro e w1 ⟨rfl, hb1⟩
  have hz1 := hb1.size
  have hbw1 := bthen hbW hb1
  replace b0 := (cellB hb1 (by omega)).trans b0
  replace f0 := (cellB hb1 (by omega)).trans f0
  replace f1 := (cellB hb1 (by omega)).trans f1
  cases h3 : kindB s f 3
  · have HR : Hid (kindB s f 6 = false) := by unfold Hid; rw [HK.out _ _ _ h3 rfl rfl]; rfl
    go_wp2_with fail
    go_ret
    exact ⟨ret_bool HR.out.symm, hbw1⟩
  have H3 := Lib.hid h3
  clear h3
  go_wp2_with fail
  refine (isKind_5 w1 (f := f) (H.out.below hbw1) HF.out).mono ?_
  rintro e w2 ⟨rfl, hb2⟩
  have hz2 := hb2.size
  have hbw2 := bthen hbw1 hb2
  replace b0 := (cellB hb2 (by omega)).trans b0
  replace f0 := (cellB hb2 (by omega)).trans f0
  replace f1 := (cellB hb2 (by omega)).trans f1
  cases h5 : kindB s f 5
  · have HR : Hid (kindB s f 6 = false) := by unfold Hid; rw [HK.out _ _ _ H3.out h5 rfl]; rfl
    go_wp2_with fail
    go_ret
    exact ⟨ret_bool HR.out.symm, hbw2⟩
  have HR : Hid (tb (assoP s f) = kindB s f 6) := by unfold Hid; rw [HK.out _ _ _ H3.out h5 rfl]; rfl
  have h22 : f.1 = 2 := by rw [kind_5] at h5; exact (tb_iff.1 h5).1
  have H22 := Lib.hid h22
  have HPT : Hid (opT.Pt w2 (.pointer (some ⟨w.heap.size + 1, 0, none⟩)) f) := pt_of2 (by omega) (H.out.below hbw2) f0 f1
  clear h5 h22
  go_wp2_with fail
  have hto : Hid (∀ W' u (k : Nat), Below w2.heap.size w2 W' → k < N → intsT.Rd W' [u] (digL s k 3) → Calls Tryz.prog 140 (#[u] ++ #[.pointer (some ⟨w.heap.size + 1, 0, none⟩), .pointer (some ⟨w.heap.size, 0, none⟩)]) W' fun e w' => e = .returned (.bool ((fun l => assoL s f l) (digL s k 3))) ∧ Below W'.heap.size W' w') := by
    intro W' u k hb _ hu
    obtain ⟨a, b, c, e3⟩ := dig3 s k
    have hin := digL_in (s := s) (idx := (k : Int)) (n := 3) hs.1
    rw [e3] at hu hin ⊢
    exact isKind3_any W' hu ((cellB hb (by omega)).trans b0) (HPT.out.below hb) HF.out H22.out hin
  refine (allLists_any w2 hs (m := 3) (by omega) HN.out 140 _ (enters Tryz.func140 (by kernel_rfl) rfl) (fun l => assoL s f l) hto).mono ?_
  rintro e w5 ⟨rfl, hb5⟩
  rw [HAS.out, HR.out]
  go_wp2_with fail
  go_ret
  exact ⟨rfl, bthen hbw2 hb5⟩
set_option maxHeartbeats 3200000 in
set_option maxRecDepth 100000 in
theorem isKind_1 (w : World) {cs : Array Value} (h : opT.Rd w cs.toList f) (hf : opOk s f) :
    Calls Tryz.prog 53 #[.int .i64 s, .agg cs, .int .i64 1] w fun e w' => e = .returned (.bool (kindB s f 1)) ∧ Below w.heap.size w w' := by
  obtain ⟨hs, har, hN, hfe, -, -⟩ := op_dims hf
  obtain ⟨u2, hv2, hI, hx⟩ := pair_ex h
  obtain rfl := agg_of hv2
  have H := Lib.hid h
  have HF := Lib.hid hf
  obtain ⟨ar, har1⟩ : ∃ ar : Nat, f.1.toNat = ar := ⟨_, rfl⟩
  rw [har1] at hN har hfe
  have HN := Lib.hid hN
  have HYES : Hid (∀ p : Nat, p < ar → eqB f ((ar : Int), projT s ar f.2.length p) = true → kindB s f 1 = true) := fun p hp he => by
    rw [kind_1]
    exact tb_true ⟨p, by omega, by rw [har1, hfe]; exact eqB_iff.1 he⟩
  have HNO : Hid ((∀ p : Nat, p < ar → eqB f ((ar : Int), projT s ar f.2.length p) = false) → kindB s f 1 = false) := fun hn => by
    rw [kind_1]
    refine tb_false ?_
    rintro ⟨p, hp, he⟩
    have := hn p (by omega)
    rw [har1, hfe] at he
    rw [eqB_true he] at this
    cases this
  have HFE := Lib.hid hfe
  clear h hx hv2 hf hN hfe har1
  go_enter Tryz.func53, Tryz.ntmps53
  go_wp2_with fail
  generalize hW : World.alloc (World.alloc w _) _ = W
  have hbW : Below w.heap.size w W := hW ▸ bAA
  have hsW : w.heap.size + 2 ≤ W.heap.size := by rw [← hW]; simp
  have b0 : W.cell? ⟨w.heap.size, 0, none⟩ = some (.int .i64 s) := by rw [← hW]; simp [go_sem]
  have f0 : W.cell? ⟨w.heap.size + 1, 0, none⟩ = some (.int .i64 (ar : Int)) := by rw [← HFE.out, ← hW]; simp [go_sem]
  have f1 : W.cell? ⟨w.heap.size + 1, 1, none⟩ = some u2 := by rw [← hW]; simp [go_sem]
  clear hW
  rw [HFE.out]
  go_loopw [13] (fun i wr => ∃ k : Nat, k ≤ ar ∧ i = .int .i64 k ∧ (∀ p, p < k → eqB f ((ar : Int), projT s ar f.2.length p) = false) ∧ Below W.heap.size W wr) (fun i _ => ar - (intOf i).toNat)
  case atStart => exact ⟨0, Nat.zero_le _, rfl, fun p hp => absurd hp (Nat.not_lt_zero p), Below.refl _ _⟩
  case round =>
    obtain ⟨k, hk, rfl, hall, hbv⟩ := hrel
    obtain ⟨wv, rfl⟩ : ∃ wv : World, wv = wr := ⟨_, rfl⟩
    have HALL := Lib.hid hall
    have hzv := hbv.size
    clear hall
    by_cases hkl : k < ar
    · have c0 := (cellB hbv (by omega)).trans b0
      have c1 := (cellB hbv (by omega)).trans f0
      have c2 := (cellB hbv (by omega)).trans f1
      have HR : Hid (opT.Rd wv [.int .i64 (ar : Int), u2] f) := by have := H.out.below (bthen hbW hbv); rw [HFE.out] at this; exact this
      go_wp2_with fail
      refine wp_region_T (fun w' => w'.cell? ⟨w.heap.size, 0, none⟩ = some (.int .i64 s) ∧ w'.cell? ⟨w.heap.size + 1, 0, none⟩ = some (.int .i64 (ar : Int)) ∧ w'.cell? ⟨w.heap.size + 1, 1, none⟩ = some u2) [] (by kernel_rfl) ⟨c0, c1, c2⟩ (fun hHeld => ?_)
      refine wpAnyT_take (i := 0) (v := ?_) rfl (by kernel_rfl) (fun _ _ _ h => h) (Or.inl ⟨by rfl, ?_⟩) (by assumption) ?_
      rotate_left
      · (intro w hSw; (try dsimp only at hSw); go_simp <;> with_reducible rfl)
      go_simp
      refine wpAnyT_take (i := 1) (v := ?_) rfl (by kernel_rfl) (fun _ _ _ h => h) (Or.inl ⟨by rfl, ?_⟩) (by assumption) ?_
      rotate_left
      · (intro w hSw; (try dsimp only at hSw); go_simp <;> with_reducible rfl)
      go_simp
      refine wpAnyT_take (i := 2) (v := ?_) rfl (by kernel_rfl) (fun _ _ _ h => h) (Or.inl ⟨by rfl, ?_⟩) (by assumption) ?_
      rotate_left
      · (intro w hSw; (try dsimp only at hSw); go_simp <;> with_reducible rfl)
      go_simp
      refine wpAnyT_take (i := 3) (v := ?_) rfl (by kernel_rfl) (fun _ _ _ h => h) (Or.inl ⟨by rfl, ?_⟩) (by assumption) ?_
      rotate_left
      · (intro w hSw; (try dsimp only at hSw); go_simp <;> with_reducible rfl)
      go_simp
      refine wpAnyT_take (i := 4) (v := ?_) rfl (by kernel_rfl) (fun _ _ _ h => h) (Or.inl ⟨by rfl, ?_⟩) (by assumption) ?_
      rotate_left
      · (intro w hSw; (try dsimp only at hSw); go_simp <;> with_reducible rfl)
      go_simp
      have hv0 : Below wv.heap.size wv wv.drew := bD
      have HR3 := Lib.hid (HR.out.below hv0)
      have hz3 := hv0.size
      clear c0 c1 c2
      generalize wv.drew = w3 at hHeld hv0 HR3 hz3 ⊢
      obtain ⟨c0, c1, c2⟩ := hHeld
      refine wpAnyT_one (i := 5) rfl (by kernel_rfl) (fun K hK => ?_)
      go_simp
      go_at_call 133
      refine (projection_any w3 hs har HN.out hkl).mono ?_
      rintro e w4 ⟨cs, rfl, hfp, hb4⟩
      obtain ⟨pa, pc, rfl⟩ := fr_pair hfp
      have HP4 := Lib.hid hfp.rd
      have HR4 := Lib.hid (HR3.out.below hb4)
      have hz4 := hb4.size
      have hbw4 := bthen hv0 hb4
      replace c0 := (cellB hb4 (by omega)).trans c0
      replace c1 := (cellB hb4 (by omega)).trans c1
      replace c2 := (cellB hb4 (by omega)).trans c2
      clear hfp
      dsimp only
      refine hK.out _ _ ⟨c0, c1, c2⟩ (fun hHeld => ?_)
      clear hK K
      refine wpAnyT_one (i := 6) rfl (by kernel_rfl) (fun K hK => ?_)
      go_simp
      go_at_call 132
      refine (SameOp_any w4 (x := f) (y := ((ar : Int), projT s ar f.2.length k)) HR4.out HP4.out).mono ?_
      rintro e w5 ⟨rfl, hb5⟩
      have hz5 := hb5.size
      have hbw5 := bthen hbw4 hb5
      replace c0 := (cellB hb5 (by omega)).trans c0
      replace c1 := (cellB hb5 (by omega)).trans c1
      replace c2 := (cellB hb5 (by omega)).trans c2
      dsimp only
      refine hK.out _ _ ⟨c0, c1, c2⟩ (fun hHeld => ?_)
      clear hK K
      refine wpAnyT_done (by kernel_rfl) ?_ _
      go_simp
      cases hE : eqB f ((ar : Int), projT s ar f.2.length k)
      · have HE := Lib.hid hE
        clear hE
        go_wp2_with fail
        go_roundw
        case rel => exact ⟨k + 1, by omega, by go_num, fun p hp => (Nat.lt_succ_iff_lt_or_eq.1 hp).elim (HALL.out p) (fun e => e ▸ HE.out), bthen hbv hbw5⟩
        case measure => simp [intOf]; omega
      · have HT := Lib.hid (HYES.out k hkl hE)
        clear hE
        go_wp2_with fail
        go_ret
        exact ⟨ret_bool HT.out.symm, bthen hbW (bthen hbv hbw5)⟩
    · obtain rfl : k = ar := by omega
      have HT := Lib.hid (HNO.out HALL.out)
      go_wp2_with fail
      go_ret
      exact ⟨ret_bool HT.out.symm, bthen hbW hbv⟩
theorem isKind_any (w : World) {cs : Array Value} (h : opT.Rd w cs.toList f) (hf : opOk s f) {k : Int} (hk : 1 ≤ k ∧ k ≤ 10) :
    Calls Tryz.prog 53 #[.int .i64 s, .agg cs, .int .i64 k] w fun e w' => e = .returned (.bool (kindB s f k)) ∧ Below w.heap.size w w' := by
  rcases (show k = 1 ∨ k = 2 ∨ k = 3 ∨ k = 4 ∨ k = 5 ∨ k = 6 ∨ k = 7 ∨ k = 8 ∨ k = 9 ∨ k = 10 by omega) with rfl | rfl | rfl | rfl | rfl | rfl | rfl | rfl | rfl | rfl
  · exact isKind_1 w h hf
  · exact isKind_2 w h hf
  · exact isKind_3 w h hf
  · exact isKind_4 w h hf
  · exact isKind_5 w h hf
  · exact isKind_6 w h hf
  · exact isKind_7 w h hf
  · exact isKind_8 w h hf
  · exact isKind_9 w h hf
  · exact isKind_10 w h hf
end
end Go.Proofs.YthjafhjghjbdmaaGreat
namespace Go.Proofs.YthjafhjghjbdmaaGreat
open Go.RowKit Go.Sort
noncomputable def fpP (t : Tpl) (ar k : Int) : List Int → Bool := fun x => kindB t.1 (ar, x) k
noncomputable def fpR (t : Tpl) (ar k : Int) : FR := polyF t ar (fxN t ar) (ycP (fpP t ar k))
noncomputable def fpC (t : Tpl) (ar k : Int) : Int := match askC t ar == 0, inB k 1 10, limF t ar.toNat with
  | false, _, _ => askC t ar
  | true, false, _ => 2
  | true, true, true => 3
  | true, true, false => foC (fpR t ar k)
noncomputable def fpV (t : Tpl) (ar k : Int) : Int × List Int := match askC t ar == 0, inB k 1 10, limF t ar.toNat with
  | true, true, false => foV ar (fpR t ar k)
  | _, _, _ => (0, [])
section
variable {t : Tpl} {ar k : Int}
theorem fp_ask (h : askC t ar ≠ 0) : fpV t ar k = (0, []) ∧ fpC t ar k = askC t ar := by
  have : (askC t ar == 0) = false := by simpa using h
  simp [fpV, fpC, this]
theorem fp_rng (h : askC t ar = 0) (h1 : inB k 1 10 = false) : fpV t ar k = (0, []) ∧ fpC t ar k = 2 := by simp [fpV, fpC, h, h1]
theorem fp_lim (h : askC t ar = 0) (h1 : inB k 1 10 = true) (h2 : limF t ar.toNat = true) : fpV t ar k = (0, []) ∧ fpC t ar k = 3 := by simp [fpV, fpC, h, h1, h2]
theorem fp_fo (h : askC t ar = 0) (h1 : inB k 1 10 = true) (h2 : limF t ar.toNat = false) : fpV t ar k = foV ar (fpR t ar k) ∧ fpC t ar k = foC (fpR t ar k) := by simp [fpV, fpC, h, h1, h2]
theorem op_of_tab {x : List Int} (hT : tplOk t) (har : 1 ≤ ar ∧ ar ≤ 3) (hx : x.length = tabL t ar ∧ ∀ a ∈ x, 0 ≤ a ∧ a ≤ t.1 - 1) : opOk t.1 (ar, x) :=
  ⟨hT.1, har, by show (x.length : Int) = t.1 ^ ar.toNat; rw [tabL_of hT, hx.1], hx.2⟩
end
theorem isKd_any (a : Int) (w : World) : Calls Tryz.prog 48 #[.int .i64 a] w fun e w' => e = .returned (.bool (inB a 1 10)) ∧ w = w' := by
  go_enter Tryz.func48, Tryz.ntmps48
  go_wp2_with (go_at_call 128; refine (within_any _ _ _ _).mono ?_; rintro e w' ⟨rfl, rfl⟩)
  go_ret
  exact ⟨rfl, rfl⟩
set_option maxHeartbeats 1600000 in
theorem firstPoly1_any (w : World) {u : Value} {x : List Int} (hu : intsT.Rd w [u] x) {bt bk : Nat} {s ar k : Int} (hs : w.cell? ⟨bt, 0, none⟩ = some (.int .i64 s)) (hkc : w.cell? ⟨bk, 0, none⟩ = some (.int .i64 k)) (hf : opOk s (ar, x)) (hk : 1 ≤ k ∧ k ≤ 10) :
    Calls Tryz.prog 52 #[.agg #[.int .i64 ar, u], .pointer (some ⟨bt, 0, none⟩), .pointer (some ⟨bk, 0, none⟩)] w fun e w' => e = .returned (.bool (kindB s (ar, x) k)) ∧ Below w.heap.size w w' := by
  obtain ⟨ua, uc, rfl⟩ := rd_slice hu
  have hbt := cell_lt hs
  have hbk := cell_lt hkc
  have hI : I64 ar := I64.small (by have := hf.2.1; simp at this; omega) (by have := hf.2.1; simp at this; omega)
  have HF := Lib.hid hf
  have HR : Hid (opT.Rd w [.int .i64 ar, .slice ua x.length uc] (ar, x)) := pair_mk hI hu
  clear hf hu
  go_enter Tryz.func52, Tryz.ntmps52
  go_wp2_with fail
  generalize hW : World.alloc w _ = W
  have hbW : Below w.heap.size w W := hW ▸ bA
  clear hW
  refine (isKind_any W (f := (ar, x)) (HR.out.below hbW) HF.out hk).mono ?_
  rintro e w5 ⟨rfl, hb5⟩
  go_wp2_with fail
  go_ret
  exact ⟨rfl, bthen hbW hb5⟩
set_option maxHeartbeats 3200000 in
set_option maxRecDepth 100000 in
theorem FirstPolymorphism_any (w : World) {cs : Array Value} {t : Tpl} (h : tplT.Rd w cs.toList t) {ar k : Int} :
    Calls Tryz.prog 9 #[.agg cs, .int .i64 ar, .int .i64 k] w (RetAC opT w (fpV t ar k) (fpC t ar k)) := by
  have HT := Lib.hid h
  obtain ⟨v1, hv1, -, -⟩ := pair_ex h
  obtain rfl := agg_of hv1
  clear h hv1
  go_enter Tryz.func9, Tryz.ntmps9
  go_wp2_with fail
  generalize hW : World.alloc (World.alloc (World.alloc w _) _) _ = W
  have hbW : Below w.heap.size w W := hW ▸ bthen bAA bA
  have hsW : w.heap.size + 3 ≤ W.heap.size := by rw [← hW]; simp
  have t0 : W.cell? ⟨w.heap.size, 0, none⟩ = some (.int .i64 t.1) := by rw [← hW]; simp [go_sem]
  have t1 : W.cell? ⟨w.heap.size, 1, none⟩ = some v1 := by rw [← hW]; simp [go_sem]
  have a0 : W.cell? ⟨w.heap.size + 1, 0, none⟩ = some (.int .i64 k) := by rw [← hW]; simp [go_sem]
  have r0 : W.cell? ⟨w.heap.size + 1 + 1, 0, none⟩ = some (.int .i64 0) := by rw [← hW]; simp [go_sem]
  have r1 : W.cell? ⟨w.heap.size + 1 + 1, 1, none⟩ = some (.slice none 0 0) := by rw [← hW]; simp [go_sem]
  have q0 : W.frozen? ⟨w.heap.size + 1 + 1, 0, none⟩ = false := by rw [← hW]; simp [go_sem]
  have q1 : W.frozen? ⟨w.heap.size + 1 + 1, 1, none⟩ = false := by rw [← hW]; simp [go_sem]
  clear hW
  refine (searchFault_any _ (HT.out.below hbW) ar).mono ?_
  rintro e w1 ⟨rfl, hb1⟩
  have hB1 := bthen hbW hb1
  have hz1 := hb1.size
  replace t0 := (cellB hb1 (by omega)).trans t0
  replace t1 := (cellB hb1 (by omega)).trans t1
  replace a0 := (cellB hb1 (by omega)).trans a0
  replace r0 := (cellB hb1 (by omega)).trans r0
  replace r1 := (cellB hb1 (by omega)).trans r1
  replace q0 := (frozenB hb1 (by omega)).trans q0
  replace q1 := (frozenB hb1 (by omega)).trans q1
  have hl1 : w.heap.size + 3 ≤ w1.heap.size := by omega
  cases ha : (askC t ar != 0)
  · have ha0 : askC t ar = 0 := by simpa using ha
    have HAOK := Lib.hid (ask_ok ha0)
    have HA0 := Lib.hid ha0
    have har := (ask_ok ha0).2
    have hs4 := (ask_ok ha0).1.1
    unfold sizeOk at hs4
    rw [ha0]
    clear ha ha0
    go_wp2_with fail
    refine (isKd_any k w1).mono ?_
    rintro e _ ⟨rfl, rfl⟩
    cases hk : inB k 1 10
    · have HR := Lib.hid (fp_rng HA0.out hk)
      have HZ0 := Lib.hid (fun (x y : Value) => res2_0 (x := x) (y := y) r0)
      have HZ1 := Lib.hid (fun (x y : Value) => res2_1 (x := x) (y := y) r1)
      clear hk
      go_wp2_with fail
      refine bodyPost_ret (v := .tuple #[.agg #[.int .i64 0, .slice none 0 0], .int .i64 2]) (by simp [results, Tryz.results9, go_sem, HZ0.out, HZ1.out]) rfl ⟨[.int .i64 0, .slice none 0 0], by rw [HR.out.2], ?_, res2_b hB1 (by omega)⟩
      rw [HR.out.1]
      exact fr_op0
    · have HK := Lib.hid hk
      have HKB := Lib.hid (inB_true.1 hk)
      clear hk
      go_wp2_with fail
      refine (manyLooks_any _ (HT.out.below hB1) HAOK.out.1 har).mono ?_
      rintro e w6 ⟨rfl, hb6⟩
      have hB6 := bthen hB1 hb6
      have hz6 := hb6.size
      replace t0 := (cellB hb6 (by omega)).trans t0
      replace t1 := (cellB hb6 (by omega)).trans t1
      replace a0 := (cellB hb6 (by omega)).trans a0
      replace r0 := (cellB hb6 (by omega)).trans r0
      replace r1 := (cellB hb6 (by omega)).trans r1
      replace q0 := (frozenB hb6 (by omega)).trans q0
      replace q1 := (frozenB hb6 (by omega)).trans q1
      have hl6 : w.heap.size + 3 ≤ w6.heap.size := by omega
      have HLM : Hid (decide (4000 < sumL (minP ar.toNat) t.2) = limF t ar.toNat) := lim_min
      generalize sumL (minP ar.toNat) t.2 = S at *
      cases hlm : decide (4000 < S)
      · have HLF : Hid (limF t ar.toNat = false) := by unfold Hid; rw [← HLM.out]; exact hlm
        have HFO := Lib.hid (fp_fo HA0.out HK.out HLF.out)
        go_wp2_with fail
        refine (newFinder_any _ (HT.out.below hB6) HAOK.out.1 har HLF.out (tabL_of HAOK.out.1)).mono ?_
        rintro e w3 hnf
        obtain ⟨bs, gd, gt, vin, rfl, hbs, hgt, hne, hbx, hgth, hdu, hin, hb3⟩ := hnf
        have hz3 := hb3.size
        obtain ⟨hbslt, b0, b2, b3, b4, b5, b6, b7, -, e6, e7⟩ := hbx
        have hgtl := lt_of_block hgth
        have hNb := tabN_bd (tabN_of HAOK.out.1.1 (ar := ar.toNat) (by omega) (tabL_of HAOK.out.1))
        have hB3 := bthen hB6 hb3
        replace t0 := (cellB hb3 (by omega)).trans t0
        replace t1 := (cellB hb3 (by omega)).trans t1
        replace a0 := (cellB hb3 (by omega)).trans a0
        replace r0 := (cellB hb3 (by omega)).trans r0
        replace r1 := (cellB hb3 (by omega)).trans r1
        replace q0 := (frozenB hb3 (by omega)).trans q0
        replace q1 := (frozenB hb3 (by omega)).trans q1
        have hl3 : w.heap.size + 3 ≤ w3.heap.size := by omega
        have hI3 : IR 2 w6.heap.size w3 gt (tabL t ar) (tabL t ar) (List.replicate (tabL t ar) (-1)) := IR.of_mone hgth hgt (by omega)
        have HFD : Hid (Fd (fun q => (w6.heap.size ≤ q ∧ q < w3.heap.size) ∧ q ≠ bs) w3 bs t ar (duesF (looksA t ar.toNat) (tabL t ar)) (fxN t ar)) := by
          refine ⟨by omega, _, _, _, b0, b2, b3, b4, b5, hdu.mono (fun q h1 h2 => ⟨⟨h2.1, h1⟩, h2.2.1⟩), hin.mono (fun q h1 h2 => ⟨⟨h2.1, h1⟩, h2.2.1⟩), ?_⟩
          obtain ⟨fp, h2, -, h3, -⟩ := hI3.fr (by unfold capMax; omega)
          exact ⟨fp, h2, fun q hq => ⟨⟨h3 q hq, intsT.lt h2 q hq⟩, by rw [IR.fp hI3 h2 q hq]; exact hne⟩⟩
        have HTB : Hid (Tb 2 w3.heap.size w3 bs 0 (.slice none 0 0) []) := ⟨b6, b7, e6, e7, Bl.nil⟩
        have HIS : Hid (∀ W' u x, (∀ q, q < w6.heap.size → W'.heap[q]? = w3.heap[q]?) → intsT.Rd W' [u] x → (x.length = tabL t ar ∧ ∀ a ∈ x, 0 ≤ a ∧ a ≤ t.1 - 1) → Calls Tryz.prog 52 (#[.agg #[.int .i64 ar, u]] ++ #[.pointer (some ⟨w.heap.size, 0, none⟩), .pointer (some ⟨w.heap.size + 1, 0, none⟩)]) W' fun e W'' => e = .returned (.bool (fpP t ar k x)) ∧ Below W'.heap.size W' W'') := by
          intro W' u x hsm hu hx
          exact firstPoly1_any W' hu ((World.cell?_of_block (a := ⟨w.heap.size, 0, none⟩) (hsm _ (by show w.heap.size < _; omega))).trans t0) ((World.cell?_of_block (a := ⟨w.heap.size + 1, 0, none⟩) (hsm _ (by show w.heap.size + 1 < _; omega))).trans a0) (op_of_tab HAOK.out.1 har hx) HKB.out
        have hfl : (fxN t ar).length = tabL t ar := by simp [fxN]
        clear hI3 hdu hin hgth b0 b2 b3 b4 b5 b6 b7 e6 e7 hlm
        go_wp2_with fail
        refine (firstG_any w3 (p := fpP t ar k) HAOK.out.1 har HLF.out (b0 := w6.heap.size) hbs 52 _ (enters Tryz.func52 (by kernel_rfl) rfl) HIS.out HFD.out HTB.out hfl).mono ?_
        rintro e w5 ⟨cs5, rfl, hf5, ht5⟩
        rw [show polyF t ar (fxN t ar) (ycP (fpP t ar k)) = fpR t ar k from rfl] at hf5 ⊢
        rw [← HFO.out.1] at hf5
        rw [← HFO.out.2]
        generalize hV : fpV t ar k = V at hf5
        generalize hC : fpC t ar k = C
        have HCC := Lib.hid hC
        have HVV := Lib.hid hV
        obtain ⟨ad5, cap5, rfl⟩ := fr_pair hf5
        have HF5 := Lib.hid hf5
        have hb5 : Below w6.heap.size w3 w5 := ht5.below (by omega) (fun q hq h => by omega)
        have hB5 : Below w.heap.size w w5 := hB3.trans (hb5.mono (by omega))
        have hz5 := ht5.size
        replace t0 := (cellB hb5 (by omega)).trans t0
        replace t1 := (cellB hb5 (by omega)).trans t1
        replace a0 := (cellB hb5 (by omega)).trans a0
        replace r0 := (cellB hb5 (by omega)).trans r0
        replace r1 := (cellB hb5 (by omega)).trans r1
        replace q0 := (frozenB hb5 (by omega)).trans q0
        replace q1 := (frozenB hb5 (by omega)).trans q1
        have HZ0 := Lib.hid (fun (x y : Value) => res2_0 (x := x) (y := y) r0)
        have HZ1 := Lib.hid (fun (x y : Value) => res2_1 (x := x) (y := y) r1)
        clear hf5 ht5 hC hV
        go_wp2_with fail
        refine bodyPost_ret (v := .tuple #[.agg #[.int .i64 V.1, .slice ad5 V.2.length cap5], .int .i64 C]) (by simp [results, Tryz.results9, go_sem, HZ0.out, HZ1.out]) rfl ⟨[.int .i64 V.1, .slice ad5 V.2.length cap5], by rw [HCC.out], ?_, res2_b hB5 (by omega)⟩
        rw [HVV.out]
        exact ((HF5.out.set (a := ⟨w.heap.size + 1 + 1, 0, none⟩) (show w.heap.size + 1 + 1 < w3.heap.size by omega)).set (a := ⟨w.heap.size + 1 + 1, 1, none⟩) (show w.heap.size + 1 + 1 < w3.heap.size by omega)).mono (by omega)
      · have HR := Lib.hid (fp_lim HA0.out HK.out (by rw [← HLM.out]; exact hlm))
        have HZ0 := Lib.hid (fun (x y : Value) => res2_0 (x := x) (y := y) r0)
        have HZ1 := Lib.hid (fun (x y : Value) => res2_1 (x := x) (y := y) r1)
        go_wp2_with fail
        refine bodyPost_ret (v := .tuple #[.agg #[.int .i64 0, .slice none 0 0], .int .i64 3]) (by simp [results, Tryz.results9, go_sem, HZ0.out, HZ1.out]) rfl ⟨[.int .i64 0, .slice none 0 0], by rw [HR.out.2], ?_, res2_b hB6 (by omega)⟩
        rw [HR.out.1]
        exact fr_op0
  · have ha0 : askC t ar ≠ 0 := by simpa using ha
    have HR := Lib.hid (fp_ask (k := k) ha0)
    have hIA := ask_I t ar
    have HZ0 := Lib.hid (fun (x y : Value) => res2_0 (x := x) (y := y) r0)
    have HZ1 := Lib.hid (fun (x y : Value) => res2_1 (x := x) (y := y) r1)
    clear ha0
    generalize hA : askC t ar = A at *
    go_wp2_with fail
    refine bodyPost_ret (v := .tuple #[.agg #[.int .i64 0, .slice none 0 0], .int .i64 A]) (by simp [results, Tryz.results9, go_sem, HZ0.out, HZ1.out]) rfl ⟨[.int .i64 0, .slice none 0 0], by rw [HR.out.2], ?_, res2_b hB1 (by omega)⟩
    rw [HR.out.1]
    exact fr_op0
end Go.Proofs.YthjafhjghjbdmaaGreat
namespace Go.Proofs.YthjafhjghjbdmaaGreat
open Go.RowKit Go.Sort
section
variable {t : Tpl} {ar : Int} {ls : List (List Int)} {vs f : List Int}
end
theorem fo_0 {ar : Int} {R : FR} (h : R.1 = 0) : foV ar R = (0, []) ∧ foC R = 6 := by simp [foV, foC, h]
theorem fo_7 {ar : Int} {R : FR} (h : R.1 = 7) : foV ar R = (0, []) ∧ foC R = 7 := by simp [foV, foC, h]
theorem fo_m {ar : Int} {R : FR} {st : Nat} {x : List Int} (h : R = (-1, st, [x])) : foV ar R = (ar, x) ∧ foC R = 0 := by simp [foV, foC, h]
end Go.Proofs.YthjafhjghjbdmaaGreat
namespace Go.Proofs.YthjafhjghjbdmaaGreat
open Go.RowKit Go.Sort
/-- the first one of a list for which p, or none -/
def FstR {α : Type} (p : α → Bool) (K : List α) (hit : List α → α → Prop) (miss : Prop) : Prop := (∃ K1 x K2, K = K1 ++ x :: K2 ∧ (∀ y ∈ K1, p y = false) ∧ p x = true ∧ hit K1 x) ∨ ((∀ y ∈ K, p y = false) ∧ miss)
theorem FstR.pre {α : Type} {p : α → Bool} {A B : List α} {hit hit' : List α → α → Prop} {miss miss' : Prop} (hA : ∀ y ∈ A, p y = false) (h : FstR p B hit miss) (h1 : ∀ K x, hit K x → hit' (A ++ K) x) (h2 : miss → miss') : FstR p (A ++ B) hit' miss' := by
  rcases h with ⟨K1, x, K2, rfl, g1, g2, g3⟩ | ⟨g1, g2⟩
  · refine .inl ⟨A ++ K1, x, K2, by simp, fun y hy => (List.mem_append.1 hy).elim (hA y) (g1 y), g2, h1 _ _ g3⟩
  · exact .inr ⟨fun y hy => (List.mem_append.1 hy).elim (hA y) (g1 y), h2 g2⟩
theorem FstR.post {α : Type} {p : α → Bool} {A B : List α} {hit' : List α → α → Prop} {K1 : List α} {x : α} {K2 : List α} {miss : Prop} (hA : A = K1 ++ x :: K2) (g1 : ∀ y ∈ K1, p y = false) (g2 : p x = true) (g3 : hit' K1 x) : FstR p (A ++ B) hit' miss :=
  .inl ⟨K1, x, K2 ++ B, by rw [hA]; simp, g1, g2, g3⟩
theorem stop_at {s : Nat} {okT : List Int → Bool} {fx : List Int} {p : List Int → Bool} {N : Nat} (hfx : ∀ i, i < N → ∀ a, skipB fx i a = false) : ∀ (m : Nat) (vals : List Int) (st : Nat) (L0 L : List (List Int)), vals.length + m = N → (srch s okT fx (fun _ => 0) m vals (0, st, L0)).1 = 0 →
    FstR p (allF s okT m vals) (fun K1 x => ∃ st', srch s okT fx (ycP p) m vals (0, st, L) = (-1, st', L ++ K1 ++ [x])) (srch s okT fx (ycP p) m vals (0, st, L) = ((0 : Int), (srch s okT fx (fun _ => 0) m vals (0, st, L0)).2.1, L ++ allF s okT m vals))
  | 0, vals, st, L0, L, _, _ => by
    cases hp : p vals
    · refine .inr ⟨fun y hy => by rw [List.mem_singleton.1 hy]; exact hp, ?_⟩
      show (ycP p (L ++ [vals]), st, L ++ [vals]) = _
      rw [ycP_no hp]
      rfl
    · refine .inl ⟨[], vals, [], rfl, (fun y hy => by cases hy), hp, st, ?_⟩
      show (ycP p (L ++ [vals]), st, L ++ [vals]) = _
      rw [ycP_yes hp]
      simp
  | m + 1, vals, st, L0, L, hN, h => by
    have hsk := hfx vals.length (by omega)
    have key : ∀ (l : List Nat) (st : Nat) (L0 L : List (List Int)), (l.foldl (stepA (srch s okT fx (fun _ => 0) m) okT fx vals) (0, st, L0)).1 = 0 →
        FstR p (l.flatMap fun a : Nat => match okT (vals ++ [(a : Int)]) with
          | true => allF s okT m (vals ++ [(a : Int)])
          | false => []) (fun K1 x => ∃ st', l.foldl (stepA (srch s okT fx (ycP p) m) okT fx vals) (0, st, L) = (-1, st', L ++ K1 ++ [x]))
          (l.foldl (stepA (srch s okT fx (ycP p) m) okT fx vals) (0, st, L) = ((0 : Int), (l.foldl (stepA (srch s okT fx (fun _ => 0) m) okT fx vals) (0, st, L0)).2.1, L ++ l.flatMap fun a : Nat => match okT (vals ++ [(a : Int)]) with
          | true => allF s okT m (vals ++ [(a : Int)])
          | false => [])) := by
      intro l
      induction l with
      | nil => intro st L0 L _; exact .inr ⟨fun y hy => by simp at hy, by simp⟩
      | cons a l ih =>
        intro st L0 L
        rw [List.foldl_cons, List.foldl_cons, List.flatMap_cons]
        by_cases h2 : st = 6000
        · rw [step_bud (r := (0, st, L0)) rfl (hsk _) h2, fold_stop (by show (7 : Int) ≠ 0; decide)]
          intro h7
          exact absurd h7 (by show ¬ (7 : Int) = 0; decide)
        · cases h3 : okT (vals ++ [(a : Int)])
          · rw [step_no (r := (0, st, L0)) rfl (hsk _) h2 h3, step_no (r := (0, st, L)) rfl (hsk _) h2 h3]
            exact ih (st + 1) L0 L
          · rw [step_yes (r := (0, st, L0)) rfl (hsk _) h2 h3, step_yes (r := (0, st, L)) rfl (hsk _) h2 h3]
            simp only
            intro h
            by_cases h4 : (srch s okT fx (fun _ => 0) m (vals ++ [(a : Int)]) (0, st + 1, L0)).1 = 0
            · obtain ⟨R1, hR1⟩ : ∃ R1, srch s okT fx (fun _ => 0) m (vals ++ [(a : Int)]) (0, st + 1, L0) = R1 := ⟨_, rfl⟩
              have hih := stop_at (p := p) hfx m (vals ++ [(a : Int)]) (st + 1) L0 L (by simp; omega) h4
              rw [hR1] at h h4 hih ⊢
              obtain ⟨c1, s1, L1⟩ := R1
              obtain rfl : c1 = 0 := h4
              rcases hih with ⟨K1, x, K2, e1, g1, g2, st', g3⟩ | ⟨g1, g2⟩
              · refine FstR.post e1 g1 g2 ⟨st', ?_⟩
                rw [g3, fold_stop (by show (-1 : Int) ≠ 0; decide)]
              · rw [g2]
                refine FstR.pre g1 (ih s1 L1 (L ++ allF s okT m (vals ++ [(a : Int)])) h) (fun K x hx => ?_) (fun hx => ?_)
                · obtain ⟨st', hx⟩ := hx
                  exact ⟨st', by rw [hx]; simp⟩
                · rw [hx]; simp
            · rw [fold_stop h4] at h
              exact absurd h h4
    exact key _ st L0 L h
/-- a list is as some values that are laid down want it -/
def fitB (fx : List Int) (N : Nat) (y : List Int) : Bool := allK (fun i => !(skipB fx i (y.getD i 0))) N
theorem allF_at {s : Nat} {okT : List Int → Bool} {m : Nat} {vals y : List Int} (h : y ∈ allF s okT m vals) : ∀ i, i < vals.length → y.getD i 0 = vals.getD i 0 := fun i hi => by
  obtain ⟨z, rfl, -⟩ := allF_mem.1 h
  simp [List.getD_eq_getElem?_getD, List.getElem?_append_left hi]
theorem pruned {s : Nat} {okT : List Int → Bool} {fx : List Int} {N : Nat} : ∀ (m : Nat) (vals : List Int) (st : Nat) (L : List (List Int)), vals.length + m = N → (∀ i, i < vals.length → skipB fx i (vals.getD i 0) = false) →
    (srch s okT fx (fun _ => -1) m vals (0, st, L)).1 = 7 ∨ FstR (fitB fx N) (allF s okT m vals) (fun _ x => ∃ st', srch s okT fx (fun _ => -1) m vals (0, st, L) = (-1, st', L ++ [x])) (∃ st', srch s okT fx (fun _ => -1) m vals (0, st, L) = ((0 : Int), st', L))
  | 0, vals, st, L, hN, hv => by
    refine .inr (.inl ⟨[], vals, [], rfl, (fun y hy => by cases hy), ?_, st, rfl⟩)
    exact allK_iff.2 fun i hi => by rw [hv i (by omega)]; rfl
  | m + 1, vals, st, L, hN, hv => by
    have key : ∀ (l : List Nat) (st : Nat), (l.foldl (stepA (srch s okT fx (fun _ => -1) m) okT fx vals) (0, st, L)).1 = 7 ∨
        FstR (fitB fx N) (l.flatMap fun a : Nat => match okT (vals ++ [(a : Int)]) with
          | true => allF s okT m (vals ++ [(a : Int)])
          | false => []) (fun _ x => ∃ st', l.foldl (stepA (srch s okT fx (fun _ => -1) m) okT fx vals) (0, st, L) = (-1, st', L ++ [x]))
          (∃ st', l.foldl (stepA (srch s okT fx (fun _ => -1) m) okT fx vals) (0, st, L) = ((0 : Int), st', L)) := by
      intro l
      induction l with
      | nil => intro st; exact .inr (.inr ⟨fun y hy => by simp at hy, st, rfl⟩)
      | cons a l ih =>
        intro st
        rw [List.foldl_cons, List.flatMap_cons]
        cases h1 : skipB fx vals.length (a : Int)
        · by_cases h2 : st = 6000
          · rw [step_bud (r := (0, st, L)) rfl h1 h2, fold_stop (by show (7 : Int) ≠ 0; decide)]
            exact .inl rfl
          · cases h3 : okT (vals ++ [(a : Int)])
            · rw [step_no (r := (0, st, L)) rfl h1 h2 h3]
              exact ih (st + 1)
            · rw [step_yes (r := (0, st, L)) rfl h1 h2 h3]
              simp only
              rcases pruned (N := N) m (vals ++ [(a : Int)]) (st + 1) L (by simp; omega) (fun i hi => by
                rcases Nat.lt_or_ge i vals.length with h | h
                · rw [show (vals ++ [(a : Int)]).getD i 0 = vals.getD i 0 by simp [List.getD_eq_getElem?_getD, List.getElem?_append_left h]]
                  exact hv i h
                · obtain rfl : i = vals.length := by simp at hi; omega
                  rw [show (vals ++ [(a : Int)]).getD vals.length 0 = (a : Int) by simp [List.getD_eq_getElem?_getD]]
                  exact h1) with h7 | ⟨K1, x, K2, e1, g1, g2, st', g3⟩ | ⟨g1, st', g2⟩
              · rw [fold_stop (by rw [h7]; decide)]
                exact .inl h7
              · rw [g3, fold_stop (by show (-1 : Int) ≠ 0; decide)]
                exact .inr (FstR.post e1 g1 g2 ⟨st', rfl⟩)
              · rw [g2]
                rcases ih st' with h7 | h8
                · exact .inl h7
                · exact .inr (FstR.pre g1 h8 (fun K x hx => hx) (fun hx => hx))
        · rw [step_skip h1]
          rcases ih st with h7 | h8
          · exact .inl h7
          · refine .inr (FstR.pre (fun y hy => ?_) h8 (fun K x hx => hx) (fun hx => hx))
            cases h3 : okT (vals ++ [(a : Int)])
            · rw [h3] at hy; cases hy
            · rw [h3] at hy
              refine allK_no (k := vals.length) (by omega) ?_
              have := allF_at hy vals.length (by simp)
              rw [show (vals ++ [(a : Int)]).getD vals.length 0 = (a : Int) by simp [List.getD_eq_getElem?_getD]] at this
              rw [this, h1]
              rfl
    exact key _ st
end Go.Proofs.YthjafhjghjbdmaaGreat
namespace Go.Proofs.YthjafhjghjbdmaaGreat
open Go.RowKit Go.Sort
theorem FstR.map {α β : Type} {g : α → β} {p : α → Bool} {p' : β → Bool} {K : List α} {hit : List α → α → Prop} {hit' : β → Prop} {miss miss' : Prop} (hp : ∀ y, p' (g y) = p y) (h : FstR p K hit miss) (h1 : ∀ K1 x, hit K1 x → hit' (g x)) (h2 : miss → miss') : FstR p' (K.map g) (fun _ x => hit' x) miss' := by
  rcases h with ⟨K1, x, K2, rfl, g1, g2, g3⟩ | ⟨g1, g2⟩
  · refine .inl ⟨K1.map g, g x, K2.map g, by simp, fun y hy => ?_, by rw [hp]; exact g2, h1 _ _ g3⟩
    obtain ⟨z, hz, rfl⟩ := List.mem_map.1 hy
    rw [hp]; exact g1 z hz
  · refine .inr ⟨fun y hy => ?_, h2 g2⟩
    obtain ⟨z, hz, rfl⟩ := List.mem_map.1 hy
    rw [hp]; exact g1 z hz
theorem FstR.idx {α : Type} {p : α → Bool} {K : List α} {hit : α → Prop} {miss : Prop} (h : FstR p K (fun _ x => hit x) miss) :
    (∃ i, ∃ h : i < K.length, p K[i] = true ∧ (∀ j (hj : j < i), p (K[j]'(by omega)) = false) ∧ hit K[i]) ∨ ((∀ j (h : j < K.length), p K[j] = false) ∧ miss) := by
  rcases h with ⟨K1, x, K2, rfl, g1, g2, g3⟩ | ⟨g1, g2⟩
  · refine .inl ⟨K1.length, by simp, ?_, fun j hj => ?_, ?_⟩
    · simpa using g2
    · rw [List.getElem_append_left hj]
      exact g1 _ (List.getElem_mem hj)
    · simpa using g3
  · exact .inr ⟨fun j hj => g1 _ (List.getElem_mem hj), g2⟩
section
variable {t : Tpl} {ar : Int}
theorem po_facts (h : askC t ar = 0) (hc : poC t ar = 0) : limF t ar.toNat = false ∧ poV t ar = ((allF t.1.toNat (okF t ar) (tabL t ar) []).map fun x => (ar, x)) ∧ (srch t.1.toNat (okF t ar) (fxN t ar) (fun _ => 0) (tabL t ar) [] (0, 0, [])).1 = 0 := by
  have h1 : limF t ar.toNat = false := by
    cases h2 : limF t ar.toNat
    · rfl
    · rw [(po_lim h h2).2] at hc; exact absurd hc (by decide)
  have h2 : (poR t ar).1 = 0 := by
    by_cases hne : (poR t ar).1 = 0
    · exact hne
    · rw [(po_no h h1 hne).2] at hc; exact absurd hc hne
  have h5 := srch_all (N := tabL t ar) (s := t.1.toNat) (okT := okF t ar) (yc := po3) skip_fxN (tabL t ar) [] (0, 0, []) (by simp) h2
  refine ⟨h1, ?_, ?_⟩
  · rw [(po_yes h h1 h2).1]
    exact congrArg _ (show (poR t ar).2.2 = _ from by simpa [poR] using h5)
  · rcases srch_two (N := 0) (s := t.1.toNat) (okT := okF t ar) (fx := fxN t ar) (tabL t ar) [] (0, 0, []) with h4 | ⟨h4, -⟩
    · rw [← h4]; exact h2
    · exact absurd (h2.symm.trans h4) (by decide)
theorem fp_list (h : askC t ar = 0) (hc : poC t ar = 0) {k : Int} (hk : 1 ≤ k ∧ k ≤ 10) : FstR (fun f => kindB t.1 f k) (poV t ar) (fun _ f => fpV t ar k = f ∧ fpC t ar k = 0) (fpC t ar k = 6) := by
  obtain ⟨h1, h2, h3⟩ := po_facts h hc
  have h6 := stop_at (p := fpP t ar k) (N := tabL t ar) (s := t.1.toNat) (okT := okF t ar) skip_fxN (tabL t ar) [] 0 [] [] (by simp) h3
  have hfo := fp_fo (k := k) h (inB_true.2 hk) h1
  rw [h2]
  refine FstR.map (p := fpP t ar k) (hit' := fun f => fpV t ar k = f ∧ fpC t ar k = 0) (fun y => rfl) h6 (fun K1 x hx => ?_) (fun hx => ?_)
  · obtain ⟨st', hx⟩ := hx
    have hR : fpR t ar k = (-1, st', K1 ++ [x]) := by unfold fpR polyF; simpa using hx
    rw [hfo.1, hfo.2]
    simp [foV, foC, hR]
  · have hR : (fpR t ar k).1 = 0 := by
      show (polyF t ar (fxN t ar) (ycP (fpP t ar k))).1 = 0
      unfold polyF
      rw [hx]
    rw [hfo.2]
    exact (fo_0 (ar := ar) hR).2
theorem pw_list (h : askC t ar = 0) (hc : poC t ar = 0) {l0 : List Int} (hl : (l0.length : Int) = ar) (hin : inS t.1 l0) {v : Int} (hv : 0 ≤ v ∧ v ≤ t.1 - 1) : pwC t ar [l0] [v] = 7 ∨ FstR (fun f => opV t.1 f.2 l0 == v) (poV t ar) (fun _ f => pwV t ar [l0] [v] = f ∧ pwC t ar [l0] [v] = 0) (pwC t ar [l0] [v] = 6) := by
  obtain ⟨h1, h2, h3⟩ := po_facts h hc
  obtain ⟨hT, har⟩ := ask_ok h
  have hs := hT.1
  unfold sizeOk at hs
  have hok : wOk t ar [l0] [v] = true := by
    unfold wOk
    simp only [List.length_singleton, List.all_cons, List.all_nil, Bool.and_true, Bool.and_eq_true, tb_iff]
    exact ⟨⟨rfl, fun a ha => by rw [List.mem_singleton.1 ha]; exact hv⟩, hl, hin⟩
  have hb := idx_lt hs.1 (m := ar.toNat) (by omega) hin
  have hN := tabL_of (ar := ar) hT
  obtain ⟨q, hq⟩ : ∃ q : Nat, idxL t.1 0 l0 = q := ⟨_, (Int.toNat_of_nonneg hb.1).symm⟩
  have hqN : q < tabL t ar := by omega
  have hwf : wF t ar [l0] [v] = some ((List.replicate (tabL t ar) (-1)).set q v) := by
    show telK t.1 [l0] [v] (List.replicate (tabL t ar) (-1)) 1 = _
    rw [telK_yes (k := 0) rfl (by simp) (by simp) ?_]
    · simp [hq]
    · simp [hq, List.getD_eq_getElem?_getD, hqN]
  have hph := pw_ph h hok h1
  have hfit : ∀ y : List Int, fitB ((List.replicate (tabL t ar) (-1)).set q v) (tabL t ar) y = (opV t.1 y l0 == v) := fun y => by
    have hsk : ∀ i, i < tabL t ar → ∀ a, skipB ((List.replicate (tabL t ar) (-1)).set q v) i a = (decide (i = q) && (v != a)) := fun i hi a => by
      unfold skipB
      have hg : ((List.replicate (tabL t ar) (-1)).set q v).getD i 0 = if q = i then v else -1 := by
        rw [List.getD_eq_getElem?_getD, List.getElem?_eq_getElem (by simpa using hi), List.getElem_set]
        simp
      rw [hg]
      by_cases e : q = i
      · subst e
        simp [hv.1]
      · rw [if_neg e]
        simp [Ne.symm e]
    rw [Bool.eq_iff_iff]
    unfold fitB opV
    rw [allK_iff, hq, Int.toNat_natCast]
    constructor
    · intro h
      have := h q hqN
      rw [hsk q hqN] at this
      simp at this
      simp [this]
    · intro h i hi
      rw [hsk i hi]
      by_cases e : i = q
      · subst e
        have h' : y.getD i 0 = v := by simpa using h
        rw [h']
        simp
      · simp [e]
  have hV : pwV t ar [l0] [v] = foV ar (polyF t ar ((List.replicate (tabL t ar) (-1)).set q v) fun _ => -1) := by rw [hph.1]; unfold phV; rw [hwf]
  have hC : pwC t ar [l0] [v] = foC (polyF t ar ((List.replicate (tabL t ar) (-1)).set q v) fun _ => -1) := by rw [hph.2]; unfold phC; rw [hwf]
  rw [hV, hC, h2]
  rcases pruned (N := tabL t ar) (s := t.1.toNat) (okT := okF t ar) (fx := (List.replicate (tabL t ar) (-1)).set q v) (tabL t ar) [] 0 [] (by simp) (fun i hi => by simp at hi) with h7 | h8
  · exact .inl (fo_7 (ar := ar) h7).2
  · refine .inr (FstR.map (hit' := fun f => foV ar (polyF t ar ((List.replicate (tabL t ar) (-1)).set q v) fun _ => -1) = f ∧ foC (polyF t ar ((List.replicate (tabL t ar) (-1)).set q v) fun _ => -1) = 0) (fun y => (hfit y).symm) h8 (fun K1 x hx => ?_) (fun hx => ?_))
    · obtain ⟨st', hx⟩ := hx
      exact fo_m (st := st') (by simpa [polyF] using hx)
    · obtain ⟨st', hx⟩ := hx
      exact (fo_0 (ar := ar) (by unfold polyF; rw [hx])).2
end
end Go.Proofs.YthjafhjghjbdmaaGreat
namespace Go.Proofs.YthjafhjghjbdmaaGreat
open Go.RowKit Go.Sort
theorem a2Long_any (w : World) {v u : Value} {xs ys : List Int} (h : bytesT.Rd w [v] xs) (h' : bytesT.Rd w [u] ys) : Calls Tryz.prog 15 #[v, u] w fun e w' => ∃ b, e = .returned (.bool b) ∧ w = w' := by
  obtain ⟨ad, cap, rfl⟩ := rd_slice h
  obtain ⟨ad', cap', rfl⟩ := rd_slice h'
  clear h h'
  cases hb : decide ((3000 : Int) < ((xs.length : Nat) : Int))
  all_goals
    go_enter Tryz.func15, Tryz.ntmps15
    go_wp2_with fail
    go_ret
    exact ⟨_, rfl, rfl⟩
theorem a2At_any (w : World) {v : Value} {xs : List Int} (h : bytesT.Rd w [v] xs) {k : Nat} {n : Int} (hn : 1 ≤ n ∧ n ≤ 1000000) : Calls Tryz.prog 17 #[v, .int .i64 k, .int .i64 n] w fun e w' => ∃ x : Nat, e = .returned (.int .i64 (x : Int)) ∧ (x : Int) < n ∧ w = w' := by
  obtain ⟨ad, cap, e1, -, -, hc⟩ := bytes_ex h
  obtain rfl : v = _ := by simpa using e1
  clear h e1
  rcases Nat.lt_or_ge k xs.length with hk | hk
  · obtain ⟨b, o, rfl, hb, hce⟩ := hc (by omega)
    obtain ⟨hx, hcell⟩ := hce k hk
    generalize xs[k] = y at hx hcell
    have hcv : IntKind.i64.wrap y = y := wrap_small (by omega) (by omega)
    have hl1 : decide (((xs.length : Nat) : Int) ≤ (k : Int)) = false := by simp; omega
    have hl2 : decide (n < 1) = false := by simp; omega
    clear hce hc
    go_enter Tryz.func17, Tryz.ntmps17
    go_wp2_with fail
    go_ret
    have h5 : Int.tmod y n = y % n := Int.tmod_eq_emod_of_nonneg (by omega)
    have h6 := Int.emod_nonneg y (show n ≠ 0 by omega)
    have h7 := Int.emod_lt_of_pos y (show 0 < n by omega)
    refine ⟨(y % n).toNat, ?_, by omega, rfl⟩
    rw [show (((y % n).toNat : Nat) : Int) = y % n by omega]
    first | rfl | (rw [h5])
  · have hl1 : decide (((xs.length : Nat) : Int) ≤ (k : Int)) = true := by simp; omega
    clear hc
    go_enter Tryz.func17, Tryz.ntmps17
    go_wp2_with fail
    go_ret
    exact ⟨0, rfl, by omega, rfl⟩
section
variable {t : Tpl} {ar : Nat}
theorem ask_yes (ht : tplOk t) (har : 1 ≤ ar ∧ ar ≤ 3) : askC t (ar : Int) = 0 := by
  simp [askC, tb_true ht, inB_true.2 (show (1 : Int) ≤ (ar : Int) ∧ (ar : Int) ≤ 3 by omega)]
/-- the first projection is listed -/
theorem po_proj (ht : tplOk t) (har : 1 ≤ ar ∧ ar ≤ 3) (hc : poC t ar = 0) {N : Nat} (hN : t.1 ^ ar = N) : ∃ i, ∃ h : i < (poV t ar).length, (poV t ar)[i] = ((ar : Int), projT t.1 ar N 0) := by
  have h : ((ar : Int), projT t.1 ar N 0) ∈ poV t ar := (po_poly (ask_yes ht har) hc).2 ⟨rfl, poly_true.2 ⟨ht, proj_ok ht.1 har hN (by omega), fun r hr => keeps_proj (ht.2.2 r hr) hN har (by omega)⟩⟩
  exact List.mem_iff_getElem.1 h
/-- what is listed is valid, and keeps the template -/
theorem po_all (ht : tplOk t) (har : 1 ≤ ar ∧ ar ≤ 3) (hc : poC t ar = 0) {f : Int × List Int} (h : f ∈ poV t ar) : f.1 = ar ∧ opOk t.1 f ∧ polyB t f = true ∧ polyC t f = 0 := by
  obtain ⟨h1, h2⟩ := (po_poly (ask_yes ht har) hc).1 h
  obtain ⟨-, h3, -⟩ := poly_true.1 h2
  exact ⟨h1, h3, h2, by simp [polyC, polyOk, tb_true ht, tb_true h3]⟩
theorem po_many : (poV t (ar : Int)).length ≤ 64 := by
  cases h : askC t (ar : Int) == 0
  · rw [(po_ask (by simpa using h)).1]; simp
  have h0 : askC t (ar : Int) = 0 := by simpa using h
  cases h1 : limF t (ar : Int).toNat
  · by_cases h2 : (poR t ar).1 = 0
    · rw [(po_yes h0 h1 h2).1, List.length_map]; exact po_len h2
    · rw [(po_no h0 h1 h2).1]; simp
  · rw [(po_lim h0 h1).1]; simp
end
end Go.Proofs.YthjafhjghjbdmaaGreat
namespace Go.Proofs.YthjafhjghjbdmaaGreat
open Go.RowKit Go.Sort
set_option maxHeartbeats 1600000 in
theorem ApplyOp_any (w : World) {cs : Array Value} {f : Int × List Int} (h : opT.Rd w cs.toList f) {u : Value} {xs : List Int} (hu : intsT.Rd w [u] xs) {s : Int} (hf : opOk s f) (hl : (xs.length : Int) = f.1) (hin : inS s xs) :
    Calls Tryz.prog 23 #[.int .i64 s, .agg cs, u] w fun e w' => e = .returned (.tuple #[.int .i64 (opV s f.2 xs), .int .i64 0]) ∧ Below w.heap.size w w' := by
  obtain ⟨hs, har, -, -, -, -⟩ := op_dims hf
  have hvo : tb (opOk s f) = true := tb_true hf
  have hrv : tb (rowOk s f.1 xs) = true := tb_true ⟨hl, hin⟩
  obtain ⟨u2, hv2, hI, hx⟩ := pair_ex h
  obtain rfl := agg_of hv2
  obtain ⟨ua, uc, rfl⟩ := rd_slice hu
  have H := Lib.hid h
  have HU := Lib.hid hu
  have HF := Lib.hid hf
  have HL := Lib.hid hl
  have HIN := Lib.hid hin
  clear h hx hv2 hu hf hl hin
  go_enter Tryz.func23, Tryz.ntmps23
  go_wp2_with fail
  generalize hW : World.alloc w _ = W
  have hbW : Below w.heap.size w W := hW ▸ bA
  have hsW : w.heap.size + 1 ≤ W.heap.size := by rw [← hW]; simp
  have f0 : W.cell? ⟨w.heap.size, 0, none⟩ = some (.int .i64 f.1) := by rw [← hW]; simp [go_sem]
  have f1 : W.cell? ⟨w.heap.size, 1, none⟩ = some u2 := by rw [← hW]; simp [go_sem]
  clear hW
  refine (ValidOp_any W (f := f) (H.out.below hbW) s).mono ?_
  rintro e w1 ⟨rfl, hb1⟩
  rw [hvo]
  have hz1 := hb1.size
  have hbw1 := bthen hbW hb1
  replace f0 := (cellB hb1 (by omega)).trans f0
  replace f1 := (cellB hb1 (by omega)).trans f1
  clear hvo
  go_wp2_with fail
  refine (areValues_any w1 (HU.out.below hbw1) s f.1 (by omega) (by omega)).mono ?_
  rintro e w2 ⟨rfl, hb2⟩
  rw [hrv]
  have hz2 := hb2.size
  have hbw2 := bthen hbw1 hb2
  replace f0 := (cellB hb2 (by omega)).trans f0
  replace f1 := (cellB hb2 (by omega)).trans f1
  clear hrv
  go_wp2_with fail
  refine (opAt_any w2 (f := f) (H.out.below hbw2) (HU.out.below hbw2) HF.out HL.out HIN.out).mono ?_
  rintro e w3 ⟨rfl, hb3⟩
  go_wp2_with fail
  go_ret2
  exact ⟨rfl, bthen hbw2 hb3⟩
set_option maxHeartbeats 1600000 in
theorem IsOfKind_any (w : World) {cs : Array Value} {f : Int × List Int} (h : opT.Rd w cs.toList f) {s k : Int} (hf : opOk s f) (hk : 1 ≤ k ∧ k ≤ 10) :
    Calls Tryz.prog 20 #[.int .i64 s, .agg cs, .int .i64 k] w fun e w' => e = .returned (.tuple #[.bool (kindB s f k), .int .i64 0]) ∧ Below w.heap.size w w' := by
  have hvo : tb (opOk s f) = true := tb_true hf
  have hkd : inB k 1 10 = true := inB_true.2 hk
  obtain ⟨u2, hv2, hI, hx⟩ := pair_ex h
  obtain rfl := agg_of hv2
  have H := Lib.hid h
  have HF := Lib.hid hf
  clear h hx hv2 hf
  go_enter Tryz.func20, Tryz.ntmps20
  go_wp2_with fail
  generalize hW : World.alloc w _ = W
  have hbW : Below w.heap.size w W := hW ▸ bA
  have hsW : w.heap.size + 1 ≤ W.heap.size := by rw [← hW]; simp
  have f0 : W.cell? ⟨w.heap.size, 0, none⟩ = some (.int .i64 f.1) := by rw [← hW]; simp [go_sem]
  have f1 : W.cell? ⟨w.heap.size, 1, none⟩ = some u2 := by rw [← hW]; simp [go_sem]
  clear hW
  refine (ValidOp_any W (f := f) (H.out.below hbW) s).mono ?_
  rintro e w1 ⟨rfl, hb1⟩
  rw [hvo]
  have hz1 := hb1.size
  have hbw1 := bthen hbW hb1
  replace f0 := (cellB hb1 (by omega)).trans f0
  replace f1 := (cellB hb1 (by omega)).trans f1
  clear hvo
  go_wp2_with fail
  refine (isKd_any k w1).mono ?_
  rintro e _ ⟨rfl, rfl⟩
  rw [hkd]
  clear hkd
  go_wp2_with fail
  refine (isKind_any w1 (f := f) (H.out.below hbw1) HF.out hk).mono ?_
  rintro e w3 ⟨rfl, hb3⟩
  go_wp2_with fail
  go_ret2
  exact ⟨rfl, bthen hbw1 hb3⟩
set_option maxHeartbeats 3200000 in
set_option maxRecDepth 100000 in
theorem A2Tuples_any (w : World) {v : Value} {code : List Int} (h : bytesT.Rd w [v] code) {s : Int} {ar cnt : Nat} (hs : 1 ≤ s ∧ s ≤ 4) (har : 1 ≤ ar ∧ ar ≤ 3) (hcn : cnt ≤ 3) :
    Calls Tryz.prog 21 #[v, .int .i64 s, .int .i64 ar, .int .i64 cnt] w fun e w' => ∃ u ts, e = .returned u ∧ rowsT.Fr w.heap.size w' [u] ts ∧ ts.length = cnt ∧ (∀ l ∈ ts, l.length = ar ∧ inS s l) ∧ Below w.heap.size w w' := by
  obtain ⟨ad, cap, rfl⟩ := rd_slice h
  have H := Lib.hid h
  clear h
  go_enter Tryz.func21, Tryz.ntmps21
  go_wp2_with fail
  refine (l00From_any w H.out).mono ?_
  rintro e w1 ⟨rfl, hs1, hb1⟩
  have HS := Lib.hid hs1
  have hsl := hs1.lt
  have hz1 := hb1.size
  clear hs1
  go_wp2_with fail
  go_loopw [11, 10] (fun i g wr => ∃ (k : Nat) (ts : List (List Int)), k ≤ cnt ∧ i = .int .i64 k ∧ ts.length = k ∧ (∀ l ∈ ts, l.length = ar ∧ inS s l) ∧ Bl intsT 26 w1.heap.size wr.heap.size wr g ts ∧ SrcR w.heap.size w.heap.size (4 * k) wr ∧ TchP (fun q => q = w.heap.size) w1 wr) (fun i _ _ => cnt - (intOf i).toNat)
  case atStart => exact ⟨0, [], Nat.zero_le _, rfl, rfl, by simp, by simpa using Bl.lit0 (E := intsT) (e := 26) (w := w1) (Nat.le_refl _), HS.out.below bA, TchP.of_below bA _⟩
  case round =>
    obtain ⟨k, ts, hk, rfl, htl, hts, hBl, hsr, htc⟩ := hrel
    obtain ⟨wv, rfl⟩ : ∃ wv : World, wv = wr := ⟨_, rfl⟩
    have HB := Lib.hid hBl
    have HSR := Lib.hid hsr
    have HTC := Lib.hid htc
    have HTS := Lib.hid hts
    have HTL := Lib.hid htl
    have hzv := htc.size
    obtain ⟨ga, gn, gc, rfl⟩ := ex_slice (hBl.fr (by rw [htl]; unfold capMax; omega))
    clear hBl hsr htc hts htl
    by_cases hkl : k < cnt
    · go_wp2_with fail
      go_loopw [13, 12] (fun i g wq => ∃ (p : Nat) (xs : List Int), p ≤ ar ∧ i = .int .i64 p ∧ xs.length = p ∧ inS s xs ∧ Bl Ty.int 2 wv.heap.size wq.heap.size wq g xs ∧ SrcR w.heap.size w.heap.size (4 * k + p) wq ∧ TchP (fun q => q = w.heap.size) wv wq) (fun i _ _ => ar - (intOf i).toNat)
      case atStart => exact ⟨0, [], Nat.zero_le _, rfl, rfl, inS_nil, by simpa using Bl.lit0 (E := Ty.int) (e := 2) (w := wv) (Nat.le_refl _), (HSR.out.below bA).mono (by omega), TchP.of_below bA _⟩
      case round =>
        obtain ⟨p, xs, hp, rfl, hxl, hxs, hBx, hsx, htx⟩ := hrel
        obtain ⟨wq, rfl⟩ : ∃ wq : World, wq = wr := ⟨_, rfl⟩
        have HBX := Lib.hid hBx
        have HSX := Lib.hid hsx
        have HTX := Lib.hid htx
        have HXS := Lib.hid hxs
        have HXL := Lib.hid hxl
        have hzq := htx.size
        obtain ⟨xa, xn, xc, rfl⟩ := ex_slice (hBx.fr (by rw [hxl]; unfold capMax; omega))
        clear hBx hsx htx hxs hxl
        by_cases hpl : p < ar
        · go_wp2_with fail
          refine (pick_any wq HSX.out (by omega) (by omega) ⟨hs.1, by omega⟩).mono ?_
          rintro e w3 ⟨x, rfl, hx0, hx1, hs3, ht3⟩
          have hz3 := ht3.size
          have HB3 : Hid (Bl Ty.int 2 wv.heap.size w3.heap.size w3 (.slice xa xn xc) xs) := (HBX.out.sameB (fun q h1 h2 => ht3.block q h2 (by omega))).mono ht3.size
          have HS3 := Lib.hid hs3
          have HT3 : Hid (TchP (fun q => q = w.heap.size) wv w3) := HTX.out.then ht3 (fun _ _ h => h)
          have hIx : I64 x := i64_in hs ⟨hx0, hx1⟩
          have HXN : Hid (inS s (xs ++ [x])) := inS_push HXS.out ⟨hx0, hx1⟩
          have hzv3 : wv.heap.size ≤ w3.heap.size := by omega
          clear hs3 ht3 HBX
          go_wp2_with (at_builtin; go_loud (refine wpList_push (E := Ty.int) _ rfl _ _ 26 2 rfl elInt rfl (HB3.out.below (bA (w := w3)) (Nat.le_refl _)) rfl news1 (fr_int hIx) (by rw [HXL.out]; omega) (by decide) hzv3 (by first | (simp; done) | (simp; omega)) ?_; intro v5 w5 hB5 hg5 hown))
          have hge : ∀ q, (Value.slice xa xn xc).ownBlock = some q → wv.heap.size ≤ q := fun q hq => HB3.out.ge hq
          have ht5 : TchP (fun q => (Value.slice xa xn xc).ownBlock = some q) w3 w5 := (TchP.of_below (bA (w := w3)) _).then (TchP.grown hg5 (fun q h => h)) (fun q _ h => h)
          have HS5 : Hid (SrcR w.heap.size w.heap.size (4 * k + (p + 1 : Nat)) w5) := (HS3.out.mono (by omega)).tch ht5 (fun h => by have := hge _ h; omega) (fun q hq h => by have := hge _ h; omega)
          have HT5 : Hid (TchP (fun q => q = w.heap.size) wv w5) := HT3.out.then ht5 (fun q hq h => by have := hge q h; omega)
          have HB5 := Lib.hid hB5
          clear hB5 hg5 hown hge ht5
          go_wp2_with fail
          go_roundw
          case rel => exact ⟨p + 1, xs ++ [x], by omega, by go_num, by rw [List.length_append, HXL.out]; rfl, HXN.out, HB5.out, HS5.out, HT5.out⟩
          case measure => simp [intOf]; omega
        · obtain rfl : p = ar := by omega
          have HBO : Hid (Bl intsT 26 w1.heap.size wv.heap.size wq (.slice ga gn gc) ts) := HB.out.sameB (fun q h1 h2 => HTX.out.block q h2 (by omega))
          have HFX := Lib.hid (HBX.out.fr (by rw [HXL.out]; unfold capMax; omega))
          clear HB HBX
          go_wp2_with (at_builtin; go_loud (refine wpList_push (E := intsT) (top := wv.heap.size) _ rfl _ _ 49 26 rfl elInt64SS rfl (HBO.out.below ((Below.refl wv.heap.size wq).alloc (by omega) _) (Nat.le_refl _)) rfl news1 (HFX.out.below bA) (by rw [HTL.out]; omega) (by decide) hzv (by first | (simp; done) | (simp; omega)) ?_; intro v5 w5 hB5 hg5 hown))
          have hge : ∀ q, (Value.slice ga gn gc).ownBlock = some q → w1.heap.size ≤ q := fun q hq => HBO.out.ge hq
          have ht5 : TchP (fun q => (Value.slice ga gn gc).ownBlock = some q) wq w5 := (TchP.of_below (bA (w := wq)) _).then (TchP.grown hg5 (fun q h => h)) (fun q _ h => h)
          have HS5 : Hid (SrcR w.heap.size w.heap.size (4 * (k + 1 : Nat)) w5) := (HSX.out.mono (by omega)).tch ht5 (fun h => by have := hge _ h; omega) (fun q hq h => by have := hge _ h; omega)
          have HT5 : Hid (TchP (fun q => q = w.heap.size) w1 w5) := (HTC.out.then HTX.out (fun _ _ h => h)).then ht5 (fun q hq h => by have := hge q h; omega)
          have HB5 := Lib.hid hB5
          clear hB5 hg5 hown hge ht5
          go_wp2_with fail
          go_roundw
          case rel => exact ⟨k + 1, ts ++ [xs], by omega, by go_num, by rw [List.length_append, HTL.out]; rfl, fun l hl => (List.mem_append.1 hl).elim (HTS.out l) (fun h => by rw [List.mem_singleton.1 h]; exact ⟨HXL.out, HXS.out⟩), HB5.out, HS5.out, HT5.out⟩
          case measure => simp [intOf]; omega
    · obtain rfl : k = cnt := by omega
      go_wp2_with fail
      go_ret
      exact ⟨_, ts, rfl, (HB.out.fr (by rw [HTL.out]; unfold capMax; omega)).mono (by omega), HTL.out, HTS.out, hb1.trans (HTC.out.below (by omega) (fun q hq h => by omega))⟩
end Go.Proofs.YthjafhjghjbdmaaGreat
namespace Go.Proofs.YthjafhjghjbdmaaGreat
open Go.RowKit Go.Sort
theorem FstR.ix {α : Type} {p : α → Bool} {K : List α} {hit : α → Prop} {miss : Prop} (h : FstR p K (fun _ x => hit x) miss) :
    ∃ I, I ≤ K.length ∧ (∀ j (h : j < K.length), j < I → p K[j] = false) ∧ (∀ h : I < K.length, p K[I] = true) ∧ (∀ h : I < K.length, hit K[I]) ∧ (I = K.length → miss) := by
  rcases h.idx with ⟨i, hi, h1, h2, h3⟩ | ⟨h1, h2⟩
  · exact ⟨i, by omega, fun j _ hj => h2 j hj, fun _ => h1, fun _ => h3, fun e => by omega⟩
  · exact ⟨K.length, Nat.le_refl _, fun j hj _ => h1 j hj, fun h => absurd h (Nat.lt_irrefl _), fun h => absurd h (Nat.lt_irrefl _), fun _ => h2⟩
theorem first_ix {α : Type} (p : α → Bool) (K : List α) : ∃ I, I ≤ K.length ∧ (∀ j (h : j < K.length), j < I → p K[j] = false) ∧ (∀ h : I < K.length, p K[I] = true) := by
  have h : FstR p K (fun _ _ => True) True := by
    induction K with
    | nil => exact .inr ⟨by simp, trivial⟩
    | cons a K ih =>
      cases hp : p a
      · exact FstR.pre (A := [a]) (by simpa using hp) ih (fun _ _ h => h) (fun h => h)
      · exact .inl ⟨[], a, K, rfl, by simp, hp, trivial⟩
  obtain ⟨I, h1, h2, h3, -, -⟩ := h.ix
  exact ⟨I, h1, h2, h3⟩
section
variable {t : Tpl} {ar : Int}
theorem pw_ix (h : askC t ar = 0) (hc : poC t ar = 0) {l0 : List Int} (hl : (l0.length : Int) = ar) (hin : inS t.1 l0) {v : Int} (hv : 0 ≤ v ∧ v ≤ t.1 - 1) :
    ∃ I, I ≤ (poV t ar).length ∧ (∀ j (h : j < (poV t ar).length), j < I → (opV t.1 ((poV t ar)[j]).2 l0 == v) = false) ∧ (∀ h : I < (poV t ar).length, (opV t.1 ((poV t ar)[I]).2 l0 == v) = true) ∧
      (pwC t ar [l0] [v] = 7 ∨ (∃ h : I < (poV t ar).length, pwV t ar [l0] [v] = (poV t ar)[I] ∧ pwC t ar [l0] [v] = 0) ∨ (I = (poV t ar).length ∧ pwC t ar [l0] [v] = 6)) := by
  rcases pw_list h hc hl hin hv with h7 | h8
  · obtain ⟨I, h1, h2, h3⟩ := first_ix (fun f : Int × List Int => opV t.1 f.2 l0 == v) (poV t ar)
    exact ⟨I, h1, h2, h3, .inl h7⟩
  · obtain ⟨I, h1, h2, h3, h4, h5⟩ := h8.ix
    refine ⟨I, h1, h2, h3, .inr ?_⟩
    rcases Nat.lt_or_ge I (poV t ar).length with h6 | h6
    · exact .inl ⟨h6, h4 h6⟩
    · exact .inr ⟨by omega, h5 (by omega)⟩
end
/-- one number, just made -/
theorem fr_ints1 {base : Nat} {w : World} {a : Int} {e : TypeId} {g : Nat} (ha : I64 a) (hg : w.heap.size = g) (hbs : base ≤ g) : intsT.Fr base (w.alloc (.cells #[.int .i64 a] e)) [.slice (some ⟨g, 0, none⟩) 1 1] [a] := by
  subst hg
  refine IR.fr (e := e) ⟨rfl, ?_, hbs, World.ownsRow_lit w #[.int .i64 a] 1 hbs (by decide) (by rfl)⟩ (by decide)
  intro x hx
  simp at hx
  rcases hx with rfl
  exact ha
theorem pair_mk2' {w : World} {n : Int} {v : Value} {f : Int × List Int} (h1 : n = f.1) (h2 : I64 n) (h3 : intsT.Rd w [v] f.2) : opT.Rd w [.int .i64 n, v] f := by
  subst h1
  exact pair_mk h2 h3
end Go.Proofs.YthjafhjghjbdmaaGreat
namespace Go.Proofs.YthjafhjghjbdmaaGreat
open Go.RowKit Go.Sort
theorem l02ValueV (w : World) {v : Value} {f : Int × List Int} (h : opT.Pt w v f) {u : Value} {xs : List Int} (hu : intsT.Rd w [u] xs) {s : Int} (hf : opOk s f) (hl : (xs.length : Int) = f.1) (hin : inS s xs) :
    Calls Tryz.prog 192 #[.int .i64 s, v, u] w fun e w' => e = .returned (.int .i64 (opV s f.2 xs)) ∧ Quiet w w' := by
  obtain ⟨k, hk, hkl, hv⟩ := opV_at hf hl hin
  obtain ⟨hs, har, -, -, -, -⟩ := op_dims hf
  rw [hv]
  exact l02Value_quiet w h hu hs.1 (by omega) (by omega) hin hk hkl
theorem idem_nat {s : Int} {f : Int × List Int} (hs : 1 ≤ s) : idemP s f ↔ ∀ k : Nat, k < s.toNat → opV s f.2 (List.replicate f.1.toNat (k : Int)) = (k : Int) :=
  ⟨fun h k hk => h k (by omega) (by omega), fun h x h0 h1 => by have := h x.toNat (by omega); rwa [show ((x.toNat : Nat) : Int) = x by omega] at this⟩
set_option maxHeartbeats 1600000 in
set_option maxRecDepth 100000 in
theorem l02Idempotent_any (w : World) {v : Value} {f : Int × List Int} (h : opT.Pt w v f) {s : Int} (hf : opOk s f) :
    Calls Tryz.prog 121 #[.int .i64 s, v] w fun e w' => e = .returned (.bool (tb (idemP s f))) ∧ Below w.heap.size w w' := by
  obtain ⟨hs, har, hN, hfe, -, -⟩ := op_dims hf
  obtain ⟨fb, fo, fa, fc, rfl, hfb, -, c0, -, -⟩ := pt_pair h
  have HP := Lib.hid h
  have HF := Lib.hid hf
  have HID := Lib.hid (idem_nat (f := f) hs.1)
  obtain ⟨ar, har1⟩ : ∃ ar : Nat, f.1.toNat = ar := ⟨_, rfl⟩
  rw [har1] at har hfe HID
  rw [hfe] at c0
  obtain ⟨S, rfl⟩ : ∃ S : Nat, s = S := ⟨s.toNat, by omega⟩
  rw [Int.toNat_natCast] at HID
  have HFE := Lib.hid hfe
  clear h hf hN hfe har1
  go_enter Tryz.func121, Tryz.ntmps121
  go_wp2_with fail
  go_loopw [5] (fun i wr => ∃ k : Nat, k ≤ S ∧ i = .int .i64 k ∧ (∀ j : Nat, j < k → opV S f.2 (List.replicate ar (j : Int)) = (j : Int)) ∧ Below w.heap.size w wr) (fun i _ => S - (intOf i).toNat)
  case atStart => exact ⟨0, Nat.zero_le _, rfl, fun j hj => absurd hj (Nat.not_lt_zero j), Below.refl _ _⟩
  case round =>
    obtain ⟨k, hk, rfl, hall, hbv⟩ := hrel
    obtain ⟨wv, rfl⟩ : ∃ wv : World, wv = wr := ⟨_, rfl⟩
    have HALL := Lib.hid hall
    have hzv := hbv.size
    clear hall
    by_cases hkl : k < S
    · go_wp2_with fail
      go_loopw [7, 6] (fun i g wq => ∃ p : Nat, p ≤ ar ∧ i = .int .i64 p ∧ Bl Ty.int 2 wv.heap.size wq.heap.size wq g (List.replicate p (k : Int)) ∧ Below wv.heap.size wv wq) (fun i _ _ => ar - (intOf i).toNat)
      case atStart => exact ⟨0, Nat.zero_le _, rfl, by simpa using Bl.lit0 (E := Ty.int) (e := 2) (w := wv) (Nat.le_refl _), bA⟩
      case round =>
        obtain ⟨p, hp, rfl, hBl, hbq⟩ := hrel
        obtain ⟨wq, rfl⟩ : ∃ wq : World, wq = wr := ⟨_, rfl⟩
        have HB := Lib.hid hBl
        have hzq := hbq.size
        have hbq0 := bthen hbv hbq
        have d0 := (cellB hbq0 hfb).trans c0
        obtain ⟨ga, gn, gc, rfl⟩ := ex_slice (hBl.fr (by rw [List.length_replicate]; unfold capMax; omega))
        clear hBl
        by_cases hpl : p < ar
        · have HSC : Hid (List.replicate p (k : Int) ++ [(k : Int)] = List.replicate (p + 1) (k : Int)) := by unfold Hid; rw [List.replicate_succ']
          have hIk : I64 (k : Int) := I64.small (by omega) (by omega)
          go_wp2_with (refine wpList_push (E := Ty.int) _ rfl _ _ 26 2 rfl elInt rfl (HB.out.below (bA (w := wq)) (Nat.le_refl _)) rfl news1 (fr_int hIk) (by rw [List.length_replicate]; omega) (by decide) hzq (by first | (simp; done) | (simp; omega)) ?_; intro v1 w1 hB1 hg1 _)
          have hbel1 : Below wv.heap.size wv w1 := (hbq.alloc hbq.size _).grown hg1 (by first | (simp; done) | (simp; omega)) (fun q hq => HB.out.own hq)
          rw [HSC.out] at hB1
          have HB1 := Lib.hid hB1
          clear hB1
          go_wp2_with fail
          go_roundw
          case rel => exact ⟨p + 1, by omega, by go_num, HB1.out, hbel1⟩
          case measure => simp [intOf]; omega
        · obtain rfl : p = ar := by omega
          have HXR := Lib.hid (HB.out.fr (by rw [List.length_replicate]; unfold capMax; omega)).rd
          go_wp2_with fail
          refine (l02ValueV wq (f := f) (HP.out.below hbq0) HXR.out HF.out (by rw [List.length_replicate]; exact HFE.out.symm) (fun a ha => by rw [List.eq_of_mem_replicate ha]; omega)).mono ?_
          rintro e w5 ⟨rfl, hq5⟩
          have hb5 := hq5.below
          have hbb := bthen hbq0 hb5
          have HY : Hid (opV S f.2 (List.replicate p (k : Int)) ≠ k → tb (idemP S f) = false) := fun hne => tb_false (fun hi => hne (HID.out.1 hi k hkl))
          generalize hV : opV S f.2 (List.replicate p (k : Int)) = V at HY ⊢
          have HV := Lib.hid hV
          clear hV
          cases hc : (V != (k : Int))
          · have hVk : V = k := by simpa using hc
            have HVK := Lib.hid hVk
            clear hVk
            go_wp2_with fail
            go_roundw
            case rel => exact ⟨k + 1, by omega, by go_num, fun j hj => (Nat.lt_succ_iff_lt_or_eq.1 hj).elim (HALL.out j) (fun e => by rw [e]; exact HV.out.trans HVK.out), hbb⟩
            case measure => simp [intOf]; omega
          · have HR := Lib.hid (HY (by simpa using hc))
            clear HY
            go_wp2_with fail
            go_ret
            exact ⟨ret_bool HR.out.symm, hbb⟩
    · obtain rfl : k = S := by omega
      have HR := Lib.hid (tb_true (HID.out.2 HALL.out))
      go_wp2_with fail
      go_ret
      exact ⟨ret_bool HR.out.symm, hbv⟩
theorem consv_nat {s : Int} {f : Int × List Int} (hf : opOk s f) : consvP s f ↔ ∀ k : Nat, k < f.2.length → hasI (digL s (k : Int) f.1.toNat) (f.2.getD k 0) = true := by
  obtain ⟨hs, har, hN, hfe, -, -⟩ := op_dims hf
  unfold consvP
  rw [all_dig (P := fun l => opV s f.2 l ∈ l) hs.1 hN]
  simp only [hasI_mem]
  exact ⟨fun h k hk => by rw [← opV_dig hf hk]; exact h k hk, fun h k hk => by rw [opV_dig hf hk]; exact h k hk⟩
set_option maxHeartbeats 1600000 in
set_option maxRecDepth 100000 in
theorem l02Conservative_any (w : World) {v : Value} {f : Int × List Int} (h : opT.Pt w v f) {s : Int} (hf : opOk s f) :
    Calls Tryz.prog 122 #[.int .i64 s, v] w fun e w' => e = .returned (.bool (tb (consvP s f))) ∧ Below w.heap.size w w' := by
  obtain ⟨hs, har, hN, hfe, h1, h64⟩ := op_dims hf
  obtain ⟨fb, fo, fa, fc, rfl, hfb, -, c0, c1, hx⟩ := pt_pair h
  obtain ⟨ad, cap, e1, -, -, hcell⟩ := ints_ex hx
  simp only [List.cons.injEq, Value.slice.injEq, and_true, true_and] at e1
  obtain ⟨rfl, rfl⟩ := e1
  obtain ⟨tb0, to0, rfl, htb, hte⟩ := hcell (by omega)
  have HTE := Lib.hid hte
  have HCV := Lib.hid (consv_nat hf)
  obtain ⟨ar, har1⟩ : ∃ ar : Nat, f.1.toNat = ar := ⟨_, rfl⟩
  rw [har1] at har hfe HCV
  rw [hfe] at c0
  clear h hf hN hfe har1 hx hcell hte
  go_enter Tryz.func122, Tryz.ntmps122
  go_wp2_with fail
  go_loopw [5] (fun i wr => ∃ k : Nat, k ≤ f.2.length ∧ i = .int .i64 k ∧ (∀ j : Nat, j < k → hasI (digL s (j : Int) ar) (f.2.getD j 0) = true) ∧ Below w.heap.size w wr) (fun i _ => f.2.length - (intOf i).toNat)
  case atStart => exact ⟨0, Nat.zero_le _, rfl, fun j hj => absurd hj (Nat.not_lt_zero j), Below.refl _ _⟩
  case round =>
    obtain ⟨k, hk, rfl, hall, hbv⟩ := hrel
    obtain ⟨wv, rfl⟩ : ∃ wv : World, wv = wr := ⟨_, rfl⟩
    have HALL := Lib.hid hall
    have hzv := hbv.size
    have d0 := (cellB hbv hfb).trans c0
    have d1 := (cellB hbv hfb).trans c1
    clear hall
    by_cases hkl : k < f.2.length
    · have hg : f.2.getD k 0 = f.2[k] := by rw [List.getD_eq_getElem?_getD, List.getElem?_eq_getElem hkl]; rfl
      have d2 := (cellB hbv htb).trans (HTE.out k hkl).2
      rw [← hg] at d2
      have HNO : Hid (hasI (digL s (k : Int) ar) (f.2.getD k 0) = false → tb (consvP s f) = false) := fun hh => tb_false (fun hi => by rw [HCV.out.1 hi k hkl] at hh; cases hh)
      have hHK : hasI (digL s (k : Int) ar) (f.2.getD k 0) = hasI (digL s (k : Int) ar) (f.2.getD k 0) := rfl
      have HV : Hid (∃ V, V = f.2.getD k 0) := ⟨_, rfl⟩
      obtain ⟨V, hV⟩ := HV.out
      rw [← hV] at d2 HNO
      have HVV := Lib.hid hV
      clear hg hHK hV
      go_wp2_with fail
      refine wp_region_T (fun w' => w'.cell? ⟨fb, fo, none⟩ = some (.int .i64 (ar : Int)) ∧ w'.cell? ⟨fb, fo + 1, none⟩ = some (.slice (some ⟨tb0, to0, none⟩) f.2.length fc) ∧ w'.cell? ⟨tb0, to0 + k, none⟩ = some (.int .i64 V)) [] (by kernel_rfl) ⟨d0, d1, d2⟩ (fun hHeld => ?_)
      refine wpAnyT_take (i := 0) (v := ?_) rfl (by kernel_rfl) (fun _ _ _ h => h) (Or.inl ⟨by rfl, ?_⟩) (by assumption) ?_
      rotate_left
      · (intro w hSw; (try dsimp only at hSw); go_simp <;> with_reducible rfl)
      go_simp
      refine wpAnyT_take (i := 1) (v := ?_) rfl (by kernel_rfl) (fun _ _ _ h => h) (Or.inl ⟨by rfl, ?_⟩) (by assumption) ?_
      rotate_left
      · (intro w hSw; (try dsimp only at hSw); go_simp <;> with_reducible rfl)
      go_simp
      refine wpAnyT_take (i := 2) (v := ?_) rfl (by kernel_rfl) (fun _ _ _ h => h) (Or.inl ⟨by rfl, ?_⟩) (by assumption) ?_
      rotate_left
      · (intro w hSw; (try dsimp only at hSw); go_simp <;> with_reducible rfl)
      go_simp
      refine wpAnyT_take (i := 3) (v := ?_) rfl (by kernel_rfl) (fun _ _ _ h => h) (Or.inl ⟨by rfl, ?_⟩) (by assumption) ?_
      rotate_left
      · (intro w hSw; (try dsimp only at hSw); go_simp <;> with_reducible rfl)
      go_simp
      refine wpAnyT_take (i := 4) (v := ?_) rfl (by kernel_rfl) (fun _ _ _ h => h) (Or.inl ⟨by rfl, ?_⟩) (by assumption) ?_
      rotate_left
      · (intro w hSw; (try dsimp only at hSw); go_simp <;> with_reducible rfl)
      go_simp
      refine wpAnyT_take (i := 5) (v := ?_) rfl (by kernel_rfl) (fun _ _ _ h => h) (Or.inl ⟨by rfl, ?_⟩) (by assumption) ?_
      rotate_left
      · (intro w hSw; (try dsimp only at hSw); go_simp <;> with_reducible rfl)
      go_simp
      refine wpAnyT_take (i := 7) (v := ?_) rfl (by kernel_rfl) (fun _ _ _ h => h) (Or.inl ⟨by rfl, ?_⟩) (by assumption) ?_
      rotate_left
      · (intro w hSw; (try dsimp only at hSw); go_simp <;> with_reducible rfl)
      go_simp
      refine wpAnyT_take (i := 8) (v := ?_) rfl (by kernel_rfl) (fun _ _ _ h => h) (Or.inl ⟨by rfl, ?_⟩) (by assumption) ?_
      rotate_left
      · (intro w hSw; (try dsimp only at hSw); go_simp <;> with_reducible rfl)
      go_simp
      refine wpAnyT_take (i := 9) (v := ?_) rfl (by kernel_rfl) (fun _ _ _ h => h) (Or.inl ⟨by rfl, ?_⟩) (by assumption) ?_
      rotate_left
      · (intro w hSw; (try dsimp only at hSw); go_simp <;> with_reducible rfl)
      go_simp
      refine wpAnyT_take (i := 10) (v := ?_) rfl (by kernel_rfl) (fun _ _ _ h => h) (Or.inl ⟨by rfl, ?_⟩) (by assumption) ?_
      rotate_left
      · (intro w hSw; (try dsimp only at hSw); go_simp <;> with_reducible rfl)
      go_simp
      refine wpAnyT_take (i := 11) (v := ?_) rfl (by kernel_rfl) (fun _ _ _ h => h) (Or.inl ⟨by rfl, ?_⟩) (by assumption) ?_
      rotate_left
      · (intro w hSw; (try dsimp only at hSw); go_simp <;> with_reducible rfl)
      go_simp
      refine wpAnyT_take (i := 12) (v := ?_) rfl (by kernel_rfl) (fun _ _ _ h => h) (Or.inl ⟨by rfl, ?_⟩) (by assumption) ?_
      rotate_left
      · (intro w hSw; (try dsimp only at hSw); go_simp <;> with_reducible rfl)
      go_simp
      refine wpAnyT_take (i := 13) (v := ?_) rfl (by kernel_rfl) (fun _ _ _ h => h) (Or.inl ⟨by rfl, ?_⟩) (by assumption) ?_
      rotate_left
      · (intro w hSw; (try dsimp only at hSw); go_simp <;> with_reducible rfl)
      go_simp
      have hv0 : Below wv.heap.size wv wv.drew := bD
      have hz3 := hv0.size
      clear d0 d1 d2
      generalize wv.drew = w3 at hHeld hv0 hz3 ⊢
      obtain ⟨d0, d1, d2⟩ := hHeld
      refine wpAnyT_one (i := 6) rfl (by kernel_rfl) (fun K hK => ?_)
      go_simp
      go_at_call 159
      refine (l01Digits_any _ s (k : Int) ar (by omega) (by omega) (by omega) (by omega) (by omega)).mono ?_
      rintro e w5 ⟨dv, rfl, hdf, hb5⟩
      obtain ⟨da, dn, dc, rfl⟩ := ex_slice hdf
      have HDF := Lib.hid hdf
      have hz5 := hb5.size
      have hbw5 := bthen hv0 hb5
      replace d0 := (cellB hb5 (by omega)).trans d0
      replace d1 := (cellB hb5 (by omega)).trans d1
      replace d2 := (cellB hb5 (by omega)).trans d2
      clear hdf
      dsimp only
      refine hK.out _ _ ⟨d0, d1, d2⟩ (fun hHeld => ?_)
      clear hK K
      refine wpAnyT_one (i := 14) rfl (by kernel_rfl) (fun K hK => ?_)
      go_simp
      go_at_call 193
      refine (l00Has_any w5 HDF.out.rd V).mono ?_
      rintro e _ ⟨rfl, rfl⟩
      dsimp only
      refine hK.out _ _ ⟨d0, d1, d2⟩ (fun hHeld => ?_)
      clear hK K
      refine wpAnyT_take (i := 15) (v := ?_) rfl (by kernel_rfl) (fun _ _ _ h => h) (Or.inl ⟨by rfl, ?_⟩) (by assumption) ?_
      rotate_left
      · (intro w hSw; (try dsimp only at hSw); go_simp <;> with_reducible rfl)
      go_simp
      refine wpAnyT_done (by kernel_rfl) ?_ _
      go_simp
      cases hh : hasI (digL s (k : Int) ar) V
      · have HR := Lib.hid (HNO.out hh)
        clear hh
        go_wp2_with fail
        go_ret
        exact ⟨ret_bool HR.out.symm, bthen hbv hbw5⟩
      · have HH := Lib.hid hh
        clear hh
        go_wp2_with fail
        go_roundw
        case rel => exact ⟨k + 1, by omega, by go_num, fun j hj => (Nat.lt_succ_iff_lt_or_eq.1 hj).elim (HALL.out j) (fun e => by rw [e, ← HVV.out]; exact HH.out), bthen hbv hbw5⟩
        case measure => simp [intOf]; omega
    · obtain rfl : k = f.2.length := by omega
      have HR := Lib.hid (tb_true (HCV.out.2 HALL.out))
      go_wp2_with fail
      go_ret
      exact ⟨ret_bool HR.out.symm, hbv⟩
end Go.Proofs.YthjafhjghjbdmaaGreat
