/-
Contracts: compositions of operations, checked.
Contracts: the laws' own small functions on bytes; plain facts on the operations that are found.
Contracts: the program's search, for any listener that leans on what the operations that it is told are.
Contracts: values that are told to a search.
Plain: a polymorphism with given values. No program is named here.
Contracts: the first operation that a search finds.
Contracts: the first operation that a search finds for which a test is true, whatever the test.
Contracts: the first operation that a search finds for which a test is true: the function itself.
Contracts: the first polymorphism with given values, the program's.
Contracts: a polymorphism with given values, the program's.
Contracts: a polymorphism with given values, the program's, whole.
The library's contracts, laid at this seat's program. Written by the kit's lay-shelf and lay-plain: its numbers hold for that seat alone (shelf2.py).
The kinds of operations, in plain words; symmetric by sorting, and by swapping neighbours.
Contracts: slices.Sort and slices.Compact on new rows of numbers; the different numbers of a row.
Contracts: something of all lists; whether an operation is symmetric, the program's.
Contracts: a row of one number so many times (slices.Repeat), whatever the number: the text of F6, turned.
Contracts: whether a tuple has equal values for places with the same variable.
Contracts: whether a number is one of a list's; whether a constraint leaves values of two variables.
Contracts: the program's tests of a kind: idempotent, conservative; the different numbers of a row.
Contracts: whether a constraint leaves values of two variables, the program's.
Contracts: the pairs that constraints tell, the program's.
Contracts: the pairs that constraints tell, the reference's.
Contracts: full domains.
Contracts: the pairs that constraints tell, all of them.
-/
import Derived.Test.YtnhdohednekhjaaGreatDoorQAD
import Derived.Test.YtnhdohednekhjaaGreatDoorQAC
import Derived.Ground.SlgnProg
import Derived.Shelf.SlicesE.Compact
import Derived.Ground.SlgmProg
import Derived.Shelf.SortM.Plain
import Derived.Shelf.SortM.SortNone
import Derived.Test.YtnhdohednekhjaaGreatDoorProg
import Derived.Test.YtnhdohednekhjaaGreatDoorQAA
import Derived.Test.YtnhdohednekhjaaGreatDoorQAB
namespace Go.Proofs.YtnhdohednekhjaaGreatDoor
open Go.RowKit Go.Sort
theorem areOps1_any (w : World) {cs : Array Value} {g : Int × List Int} (h : opT.Rd w cs.toList g) {bs : Nat} {s : Int} (hc : w.cell? ⟨bs, 0, none⟩ = some (.int .i64 s)) :
  Calls Tryz.prog 191 #[.agg cs, .pointer (some ⟨bs, 0, none⟩)] w fun e w' => e = .returned (.bool (!tb (opOk s g))) ∧ Below w.heap.size w w' := by
 obtain ⟨u2, hv2, hI, hx⟩ := pair_ex h
 obtain rfl := agg_of hv2
 have H := Lib.hid h
 have hbs := cell_lt hc
 clear h hx hv2
 go_enter Tryz.func191, Tryz.ntmps191
 go_wp2_with fail
 refine (ValidOp_any _ (f := g) (H.out.below bA) s).mono ?_
 rintro e w1 ⟨rfl, hb1⟩
 go_wp2_with fail
 go_ret
 exact ⟨rfl, (by repeat (first | exact Below.refl _ _ | exact bA | assumption | refine Below.setCell ?_ (by first | omega | (simp; try omega)) _ | refine Below.alloc ?_ (by first | omega | (simp; try omega)) _ | refine Below.drew ?_ | refine bDN ?_ | refine bthen ?_ (by assumption)))⟩
theorem areOps_any (w : World) {v : Value} {gs : List (Int × List Int)} (h : opsT.Rd w [v] gs) {s : Int} (hs : 1 ≤ s ∧ s ≤ 4) (hg : ∀ g ∈ gs, opOk s g) :
  Calls Tryz.prog 107 #[.int .i64 s, v] w fun e w' => e = .returned (.bool true) ∧ Below w.heap.size w w' := by
 have b1 : inB s 1 4 = true := inB_true.2 hs
 have hany : anyB (fun g => !tb (opOk s g)) gs = false := by
  unfold anyB
  rw [List.any_eq_false]
  intro g hgm
  rw [tb_true (hg g hgm)]
  simp
 obtain ⟨va, vc, rfl⟩ := rd_slice h
 have H := Lib.hid h
 clear h hg
 go_enter Tryz.func107, Tryz.ntmps107
 go_wp2_with (go_at_call 113; refine (isSize_any _ _).mono ?_; rintro e w' ⟨rfl, rfl⟩; rw [b1])
 have hbA : Below w.heap.size w (w.alloc (.cells #[.int .i64 s] 2)) := bA
 refine (ContainsFuncOp_any _ (H.out.below hbA) (fun g => !tb (opOk s g)) 191 #[.pointer (some ⟨w.heap.size, 0, none⟩)] (enters Tryz.func191 (by kernel_rfl) rfl) (Lib.hid (fun W' hW' k hk cs hcs => areOps1_any W' hcs ((cellB hW' (by simp)).trans (by simp [go_sem]))))).mono ?_
 rintro e w2 ⟨rfl, hb2⟩
 rw [hany]
 go_wp2_with fail
 go_ret
 exact ⟨rfl, (by repeat (first | exact Below.refl _ _ | exact bA | assumption | refine Below.setCell ?_ (by first | omega | (simp; try omega)) _ | refine Below.alloc ?_ (by first | omega | (simp; try omega)) _ | refine Below.drew ?_ | refine bDN ?_ | refine bthen ?_ (by assumption)))⟩
set_option maxHeartbeats 3200000 in
set_option maxRecDepth 100000 in
theorem ComposeOps_any (w : World) {cs : Array Value} {f : Int × List Int} (h : opT.Rd w cs.toList f) {v : Value} {gs : List (Int × List Int)} (hl : opsT.Rd w [v] gs) {s : Int} {ar N : Nat} (hf : opOk s f) (hfl : f.1 = gs.length) (hg : ∀ g ∈ gs, opOk s g ∧ g.1 = ar) (hN : s ^ ar = N) :
  Calls Tryz.prog 34 #[.int .i64 s, .agg cs, v] w (RetAC opT w ((ar : Int), compT s ar N f.2 gs) 0) := by
 have hs := hf.1
 have ha := hf.2.1
 unfold sizeOk at hs
 have h0 : 0 < gs.length := by omega
 have har : 1 ≤ ar ∧ ar ≤ 3 := by
  obtain ⟨h1, h2⟩ := hg _ (List.getElem_mem h0)
  have := h1.2.1
  omega
 have hvo : tb (opOk s f) = true := tb_true hf
 have hany : anyB (fun g => g.1 != gs[0].1) gs = false := by
  unfold anyB
  rw [List.any_eq_false]
  intro g hgm
  rw [(hg g hgm).2, (hg _ (List.getElem_mem h0)).2]
  simp
 obtain ⟨u2, hv2, hI, hx⟩ := pair_ex h
 obtain rfl := agg_of hv2
 obtain ⟨ad, cap, e1, -, -, hcell⟩ := pairs_ex hl
 obtain rfl : v = _ := by simpa using e1
 obtain ⟨lb, lo, rfl, hlb, hle⟩ := hcell h0
 obtain ⟨_, _, _, t0, _⟩ := hle 0 h0
 have hg0 : gs[0].1 = (ar : Int) := (hg _ (List.getElem_mem h0)).2
 replace t0 : w.cell? ⟨lb, lo, none⟩ = some (.int .i64 (ar : Int)) := by rw [hg0] at t0; simpa using t0
 have hne : (((gs.length : Nat) : Int) != f.1) = false := by simp [hfl]
 have H := Lib.hid h
 have HL := Lib.hid hl
 have HF := Lib.hid hf
 have HG := Lib.hid hg
 have HANY := Lib.hid hany
 have HFL := Lib.hid hfl
 clear h hx hv2 hl hcell hle hf hg e1 hany hg0 hfl
 go_enter Tryz.func34, Tryz.ntmps34
 go_wp2_with fail
 generalize hW : World.alloc (World.alloc (World.alloc (World.alloc w _) _) _) _ = W
 have hbW : Below w.heap.size w W := hW ▸ ((bAA (w := w)).alloc (by simp; omega) _).alloc (by simp; omega) _
 have hsW : w.heap.size + 4 ≤ W.heap.size := by rw [← hW]; simp
 have b0 : W.cell? ⟨w.heap.size, 0, none⟩ = some (.int .i64 s) := by rw [← hW]; simp [go_sem]
 have f0 : W.cell? ⟨w.heap.size + 1, 0, none⟩ = some (.int .i64 f.1) := by rw [← hW]; simp [go_sem]
 have f1 : W.cell? ⟨w.heap.size + 1, 1, none⟩ = some u2 := by rw [← hW]; simp [go_sem]
 have l0 : W.cell? ⟨w.heap.size + 1 + 1, 0, none⟩ = some (.slice (some ⟨lb, lo, none⟩) gs.length cap) := by rw [← hW]; simp [go_sem]
 have r0 : W.cell? ⟨w.heap.size + 1 + 1 + 1, 0, none⟩ = some (.int .i64 0) := by rw [← hW]; simp [go_sem]
 have r1 : W.cell? ⟨w.heap.size + 1 + 1 + 1, 1, none⟩ = some (.slice none 0 0) := by rw [← hW]; simp [go_sem]
 have q0 : W.frozen? ⟨w.heap.size + 1 + 1 + 1, 0, none⟩ = false := by rw [← hW]; simp [go_sem]
 have q1 : W.frozen? ⟨w.heap.size + 1 + 1 + 1, 1, none⟩ = false := by rw [← hW]; simp [go_sem]
 replace t0 := (cellB hbW hlb).trans t0
 have hlW : lb < W.heap.size := by omega
 clear hW
 refine (ValidOp_any W (f := f) (H.out.below hbW) s).mono ?_
 rintro e w1 ⟨rfl, hb1⟩
 rw [hvo]
 have hz1 := hb1.size
 replace b0 := (cellB hb1 (by omega)).trans b0
 replace f0 := (cellB hb1 (by omega)).trans f0
 replace f1 := (cellB hb1 (by omega)).trans f1
 replace l0 := (cellB hb1 (by omega)).trans l0
 replace r0 := (cellB hb1 (by omega)).trans r0
 replace r1 := (cellB hb1 (by omega)).trans r1
 replace t0 := (cellB hb1 (by omega)).trans t0
 replace q0 := (frozenB hb1 (by omega)).trans q0
 replace q1 := (frozenB hb1 (by omega)).trans q1
 have hbw1 := bthen hbW hb1
 clear hvo
 go_wp2_with fail
 refine (areOps_any w1 (HL.out.below hbw1) hs (fun g hgm => (HG.out g hgm).1)).mono ?_
 rintro e w2 ⟨rfl, hb2⟩
 have hz2 := hb2.size
 replace b0 := (cellB hb2 (by omega)).trans b0
 replace f0 := (cellB hb2 (by omega)).trans f0
 replace f1 := (cellB hb2 (by omega)).trans f1
 replace l0 := (cellB hb2 (by omega)).trans l0
 replace r0 := (cellB hb2 (by omega)).trans r0
 replace r1 := (cellB hb2 (by omega)).trans r1
 replace t0 := (cellB hb2 (by omega)).trans t0
 replace q0 := (frozenB hb2 (by omega)).trans q0
 replace q1 := (frozenB hb2 (by omega)).trans q1
 have hbw2 := bthen hbw1 hb2
 go_wp2_with fail
 refine (ContainsFuncOp_any w2 (HL.out.below hbw2) (fun g => g.1 != gs[0].1) 109 #[.pointer (some ⟨w.heap.size + 1 + 1, 0, none⟩)] (enters Tryz.func109 (by kernel_rfl) rfl) (Lib.hid (fun W' hW' k hk cs hcs => compose1_any W' hcs ((cellB hW' (by omega)).trans l0) ((HL.out.below hbw2).below hW') h0))).mono ?_
 rintro e w3 ⟨rfl, hb3⟩
 rw [HANY.out]
 have hz3 := hb3.size
 replace b0 := (cellB hb3 (by omega)).trans b0
 replace f0 := (cellB hb3 (by omega)).trans f0
 replace f1 := (cellB hb3 (by omega)).trans f1
 replace l0 := (cellB hb3 (by omega)).trans l0
 replace r0 := (cellB hb3 (by omega)).trans r0
 replace r1 := (cellB hb3 (by omega)).trans r1
 replace t0 := (cellB hb3 (by omega)).trans t0
 replace q0 := (frozenB hb3 (by omega)).trans q0
 replace q1 := (frozenB hb3 (by omega)).trans q1
 have hbw3 := bthen hbw2 hb3
 clear hne
 go_wp2_with fail
 refine wp_region_T (fun w' => w'.cell? ⟨w.heap.size, 0, none⟩ = some (.int .i64 s) ∧ w'.cell? ⟨w.heap.size + 1 + 1, 0, none⟩ = some (.slice (some ⟨lb, lo, none⟩) gs.length cap) ∧ w'.cell? ⟨lb, lo, none⟩ = some (.int .i64 (ar : Int))) [7] (by kernel_rfl) ⟨b0, l0, t0⟩ (fun hHeld => ?_)
 refine wpAnyT_take (i := 0) (v := ?_) rfl (by kernel_rfl) (fun _ _ _ h => h) (Or.inl ⟨by rfl, ?_⟩) (by assumption) ?_
 rotate_left
 ·(intro w hSw; (try dsimp only at hSw); go_simp <;> with_reducible rfl)
 go_simp
 refine wpAnyT_take (i := 1) (v := ?_) rfl (by kernel_rfl) (fun _ _ _ h => h) (Or.inl ⟨by rfl, ?_⟩) (by assumption) ?_
 rotate_left
 ·(intro w hSw; (try dsimp only at hSw); go_simp <;> with_reducible rfl)
 go_simp
 refine wpAnyT_take (i := 2) (v := ?_) rfl (by kernel_rfl) (fun _ _ _ h => h) (Or.inl ⟨by rfl, ?_⟩) (by assumption) ?_
 rotate_left
 ·(intro w hSw; (try dsimp only at hSw); go_simp <;> with_reducible rfl)
 go_simp
 refine wpAnyT_take (i := 3) (v := ?_) rfl (by kernel_rfl) (fun _ _ _ h => h) (Or.inl ⟨by rfl, ?_⟩) (by assumption) ?_
 rotate_left
 ·(intro w hSw; (try dsimp only at hSw); go_simp <;> with_reducible rfl)
 go_simp
 refine wpAnyT_take (i := 4) (v := ?_) rfl (by kernel_rfl) (fun _ _ _ h => h) (Or.inl ⟨by rfl, ?_⟩) (by assumption) ?_
 rotate_left
 ·(intro w hSw; (try dsimp only at hSw); go_simp <;> with_reducible rfl)
 go_simp
 refine wpAnyT_take (i := 5) (v := ?_) rfl (by kernel_rfl) (fun _ _ _ h => h) (Or.inl ⟨by rfl, ?_⟩) (by assumption) ?_
 rotate_left
 ·(intro w hSw; (try dsimp only at hSw); go_simp <;> with_reducible rfl)
 go_simp
 have hv0 : Below w3.heap.size w3 w3.drew := bD
 have hz4 := hv0.size
 replace b0 := (cellB hv0 (by omega)).trans b0
 replace f0 := (cellB hv0 (by omega)).trans f0
 replace f1 := (cellB hv0 (by omega)).trans f1
 replace l0 := (cellB hv0 (by omega)).trans l0
 replace r0 := (cellB hv0 (by omega)).trans r0
 replace r1 := (cellB hv0 (by omega)).trans r1
 replace t0 := (cellB hv0 (by omega)).trans t0
 replace q0 := (frozenB hv0 (by omega)).trans q0
 replace q1 := (frozenB hv0 (by omega)).trans q1
 have hbw4 := bthen hbw3 hv0
 generalize w3.drew = w4 at *
 have hPT : opT.Pt w4 (.pointer (some ⟨w.heap.size + 1, 0, none⟩)) f := ⟨_, 0, _, rfl, by omega, H.out.below hbw4, fun j hj => by
  rcases (show j = 0 ∨ j = 1 by simp at hj; omega) with rfl | rfl
  ·exact f0
  ·exact f1⟩
 have HPT := Lib.hid hPT
 clear hPT
 have hpI : ∀ k, k < N → I64 ((fun xs : List Int => opV s f.2 (valsL s gs xs)) (digL s ((k : Nat) : Int) ar)) := fun k hk => by
  have h1 := opV_in (xs := valsL s gs (digL s ((k : Nat) : Int) ar)) HF.out (by rw [valsL_len]; exact HFL.out.symm) (valsL_in (fun g hgm => ⟨(HG.out g hgm).1, by rw [digL_len]; exact (HG.out g hgm).2⟩) (digL_in (by omega)))
  show I64 (opV s f.2 (valsL s gs (digL s ((k : Nat) : Int) ar)))
  exact I64.small (by omega) (by omega)
 have hto : Hid (∀ W' u (k : Nat), Below w4.heap.size w4 W' → k < N → intsT.Rd W' [u] (digL s k ar) → Calls Tryz.prog 111 (#[u] ++ #[.pointer (some ⟨w.heap.size + 1 + 1, 0, none⟩), .pointer (some ⟨w.heap.size, 0, none⟩), .pointer (some ⟨w.heap.size + 1, 0, none⟩)]) W' fun e w' => e = .returned (.int .i64 ((fun xs : List Int => opV s f.2 (valsL s gs xs)) (digL s k ar))) ∧ Below W'.heap.size W' w') := by
  intro W' u k hb _ hu
  exact compose2_any W' hu ((cellB hb (by omega)).trans l0) ((HL.out.below hbw4).below hb) ((cellB hb (by omega)).trans b0) (HPT.out.below hb) HF.out HFL.out (fun g hgm => ⟨(HG.out g hgm).1, by rw [digL_len]; exact (HG.out g hgm).2⟩) (digL_in (by omega))
 refine wpAnyT_one (i := 6) rfl (by kernel_rfl) (fun K hK => ?_)
 go_simp
 go_at_call 110
 refine (opOf_any w4 s ar hs har 111 _ (enters Tryz.func111 (by kernel_rfl) rfl) (fun xs => opV s f.2 (valsL s gs xs)) N hN hpI hto).mono ?_
 rintro e w5 ⟨cs, rfl, hfr, hb5⟩
 have hz5 := hb5.size
 replace b0 := (cellB hb5 (by omega)).trans b0
 replace l0 := (cellB hb5 (by omega)).trans l0
 replace r0 := (cellB hb5 (by omega)).trans r0
 replace r1 := (cellB hb5 (by omega)).trans r1
 replace t0 := (cellB hb5 (by omega)).trans t0
 replace q0 := (frozenB hb5 (by omega)).trans q0
 replace q1 := (frozenB hb5 (by omega)).trans q1
 have hlT : (tabOf s ar N fun xs => opV s f.2 (valsL s gs xs)) = compT s ar N f.2 gs := rfl
 rw [hlT] at hfr
 obtain ⟨ta, tc, rfl⟩ := fr_pair hfr
 obtain ⟨g0, g1⟩ := set2_cells (x := .int .i64 (ar : Int)) (y := .slice ta (compT s ar N f.2 gs).length tc) r0 r1
 have HFF : Hid (opT.Fr w.heap.size ((w5.setCell ⟨w.heap.size + 1 + 1 + 1, 0, none⟩ (.int .i64 (ar : Int))).setCell ⟨w.heap.size + 1 + 1 + 1, 1, none⟩ (.slice ta (compT s ar N f.2 gs).length tc)) [.int .i64 (ar : Int), .slice ta (compT s ar N f.2 gs).length tc] ((ar : Int), compT s ar N f.2 gs)) := ((hfr.set (by simp; omega)).set (by simp; omega)).mono (by omega)
 have HBB : Hid (Below w.heap.size w ((w5.setCell ⟨w.heap.size + 1 + 1 + 1, 0, none⟩ (.int .i64 (ar : Int))).setCell ⟨w.heap.size + 1 + 1 + 1, 1, none⟩ (.slice ta (compT s ar N f.2 gs).length tc))) := ((bthen hbw4 hb5).setCell (by simp; omega) _).setCell (by simp; omega) _
 clear hfr hto hpI hlT
 dsimp only
 refine hK.out _ _ ⟨b0, l0, t0⟩ (fun hHeld => ?_)
 clear hK K
 refine wpAnyT_last (i := 7) rfl (by kernel_rfl) (by kernel_rfl) (fun K hK => ?_)
 go_simp
 refine hK.out _ _ ?_
 clear hK K
 refine wpAnyT_last (i := 8) rfl (by kernel_rfl) (by kernel_rfl) (fun K hK => ?_)
 go_simp
 refine hK.out _ _ ?_
 clear hK K
 refine wpAnyT_done (by kernel_rfl) ?_ _
 go_simp
 go_wp2_with fail
 refine bodyPost_ret (v := .tuple #[.agg #[.int .i64 (ar : Int), .slice ta (compT s ar N f.2 gs).length tc], .int .i64 0]) (by simp [results, Tryz.results34, go_sem, g0, g1]) rfl ⟨[.int .i64 (ar : Int), .slice ta (compT s ar N f.2 gs).length tc], rfl, HFF.out, HBB.out⟩
end Go.Proofs.YtnhdohednekhjaaGreatDoor
namespace Go.Proofs.YtnhdohednekhjaaGreatDoor
open Go.RowKit Go.Sort
section
variable {t : Tpl} {ar : Nat}
end
end Go.Proofs.YtnhdohednekhjaaGreatDoor
namespace Go.Proofs.YtnhdohednekhjaaGreatDoor
open Go.RowKit Go.Sort
/-- a listener of operations: what it keeps (I), and the blocks that are its own (O); it is told operations with the property V alone -/
structure YfV (P : Program) (ar : Int) (g : FuncId) (caps : Array Value) (yc : List (List Int) → Int) (V : List Int → Prop) (I : List (List Int) → (Nat → Prop) → World → Prop) : Prop where
 stable : ∀ {told O w w'}, I told O w → (∀ k, k < w.heap.size → O k → w'.heap[k]? = w.heap[k]?) → w.heap.size ≤ w'.heap.size → I told O w'
 lt : ∀ {told O w}, I told O w → ∀ k, O k → k < w.heap.size
 step : ∀ {told O w0 w u x}, I told O w0 → Below w0.heap.size w0 w → intsT.Fr w0.heap.size w [u] x → x.length ≤ 64 → told.length ≤ 2000000 → V x →
  Calls P g (#[.agg #[.int .i64 ar, u]] ++ caps) w fun e w' => e = .returned (.int .i64 (yc (told ++ [x]))) ∧ ∃ O', I (told ++ [x]) O' w' ∧ TchP O w w' ∧ ∀ k, O' k → O k ∨ w0.heap.size ≤ k
end Go.Proofs.YtnhdohednekhjaaGreatDoor
namespace Go.Proofs.YtnhdohednekhjaaGreatDoor
open Go.RowKit Go.Sort
section
variable {s : Int} {ls : List (List Int)} {vs f g : List Int} {k : Nat}
end
end Go.Proofs.YtnhdohednekhjaaGreatDoor
namespace Go.Proofs.YtnhdohednekhjaaGreatDoor
open Go.RowKit Go.Sort
section
variable {t : Tpl} {ar : Int} {ls : List (List Int)} {vs : List Int}
end
end Go.Proofs.YtnhdohednekhjaaGreatDoor
namespace Go.Proofs.YtnhdohednekhjaaGreatDoor
open Go.RowKit Go.Sort
end Go.Proofs.YtnhdohednekhjaaGreatDoor
namespace Go.Proofs.YtnhdohednekhjaaGreatDoor
open Go.RowKit Go.Sort
end Go.Proofs.YtnhdohednekhjaaGreatDoor
namespace Go.Proofs.YtnhdohednekhjaaGreatDoor
open Go.RowKit Go.Sort
end Go.Proofs.YtnhdohednekhjaaGreatDoor
namespace Go.Proofs.YtnhdohednekhjaaGreatDoor
open Go.RowKit Go.Sort
end Go.Proofs.YtnhdohednekhjaaGreatDoor
namespace Go.Proofs.YtnhdohednekhjaaGreatDoor
open Go.RowKit Go.Sort
end Go.Proofs.YtnhdohednekhjaaGreatDoor
namespace Go.Proofs.YtnhdohednekhjaaGreatDoor
open Go.RowKit Go.Sort
end Go.Proofs.YtnhdohednekhjaaGreatDoor
namespace Go.Proofs
open Go.Shelf
def Tryz.laysSlE43_f232_ren : Go.Shelf.Ren := ⟨fun | 43 => 232 | n => n, fun | 22 => 48 | 23 => 2 | 3 => 3 | 4 => 4 | 0 => 0 | n => n, fun | n => n⟩
theorem Tryz.laysSlE43_f232 : Go.Proofs.SlLaysE.n43 Tryz.prog Tryz.laysSlE43_f232_ren := {
 mixed := by kernel_rfl
 f43 := ⟨Tryz.f232.name, by decide, Tryz.func232.trans (congrArg some (by kernel_rfl))⟩
 t0 := Tryz.underlying0
 a0 := Tryz.isAgg0
 z0 := Tryz.sizeOf0
 v0 := Tryz.zeroValue0
 t3 := Tryz.underlying3
 a3 := Tryz.isAgg3
 z3 := Tryz.sizeOf3
 v3 := Tryz.zeroValue3
 t4 := Tryz.underlying4
 a4 := Tryz.isAgg4
 z4 := Tryz.sizeOf4
 v4 := Tryz.zeroValue4
 t22 := Tryz.underlying48
 a22 := Tryz.isAgg48
 z22 := Tryz.sizeOf48
 v22 := Tryz.zeroValue48
 a23 := Tryz.isAgg2
 z23 := Tryz.sizeOf2 }
open Go.RowKit Go.Lib Go.Sort in
/-- slices.Compact: "Compact replaces consecutive runs of equal elements with a single copy. .. Compact zeroes the elements between the new length and the original length.": IT RETURNS THE SLICE CUT TO 'compactUpTo d d.size'; ITS CELLS HOLD THAT, THEN ZERO VALUES up to the old length; the library's two loops are walked. (LAID AT THE INSTANCE 'slices.Compact[[]int64,int64]': no walk: one application.) -/
theorem Tryz.slices_Compact {α : Type} [Inhabited α] [DecidableEq α] (enc : α → Value) (hO : OneCell enc) (heq : EqlAt Tryz.prog 2 enc (fun x y => decide (x = y))) (hne : NeqAt Tryz.prog 2 enc (fun x y => decide (x = y))) (zr : α) (v23 : ∀ w, (zeroValue 2).run Tryz.prog w = .ok (enc zr) w) (blk off cap : Nat) (d : Array α) (w : World) (hH : Holds enc w blk off d) (hsz : d.size ≤ 9223372036854775807) (hcap : d.size ≤ cap) :
  Calls Tryz.prog 232 #[.slice (some ⟨blk, off, none⟩) d.size cap] w fun e w' => e = .returned (.slice (some ⟨blk, off, none⟩) (compactUpTo d d.size).length cap) ∧ ∃ q, w' = putRow enc (Sort.ahead w q) blk off (compactUpTo d d.size ++ List.replicate (d.size - (compactUpTo d d.size).length) zr).toArray := AnyE.slices_Compact Tryz.laysSlE43_f232 enc hO heq hne zr v23 blk off cap d w hH hsz hcap
def Tryz.laysSlM5_f231_ren : Go.Shelf.Ren := ⟨fun | 5 => 231 | 8 => 254 | 7 => 253 | 19 => 281 | 20 => 268 | 10 => 272 | 11 => 273 | 12 => 274 | 13 => 275 | 14 => 276 | 15 => 277 | 16 => 278 | 17 => 279 | 18 => 280 | 30 => 287 | 31 => 288 | 32 => 289 | 33 => 290 | 34 => 291 | 35 => 252 | 40 => 292 | n => n, fun | 23 => 48 | 25 => 2 | 3 => 3 | 32 => 208 | 22 => 48 | 0 => 0 | 44 => 245 | 46 => 155 | 4 => 4 | 36 => 263 | 35 => 262 | 41 => 192 | 5 => 5 | 9 => 9 | 53 => 277 | 57 => 281 | 63 => 285 | 64 => 286 | n => n, fun | n => n⟩
theorem Tryz.laysSlM5_f231 : Go.Proofs.SlLaysM.n5 Tryz.prog Tryz.laysSlM5_f231_ren := {
 mixed := by kernel_rfl
 f5 := ⟨Tryz.f231.name, by decide, Tryz.func231.trans (congrArg some (by kernel_rfl))⟩
 f7 := ⟨Tryz.f253.name, by decide, Tryz.func253.trans (congrArg some (by kernel_rfl))⟩
 f8 := Tryz.func254.trans (congrArg some (by kernel_rfl))
 f10 := ⟨Tryz.f272.name, by decide, Tryz.func272.trans (congrArg some (by kernel_rfl))⟩
 f11 := ⟨Tryz.f273.name, by decide, Tryz.func273.trans (congrArg some (by kernel_rfl))⟩
 f12 := ⟨Tryz.f274.name, by decide, Tryz.func274.trans (congrArg some (by kernel_rfl))⟩
 f13 := ⟨Tryz.f275.name, by decide, Tryz.func275.trans (congrArg some (by kernel_rfl))⟩
 f14 := ⟨Tryz.f276.name, by decide, Tryz.func276.trans (congrArg some (by kernel_rfl))⟩
 f15 := ⟨Tryz.f277.name, by decide, Tryz.func277.trans (congrArg some (by kernel_rfl))⟩
 f16 := ⟨Tryz.f278.name, by decide, Tryz.func278.trans (congrArg some (by kernel_rfl))⟩
 f17 := ⟨Tryz.f279.name, by decide, Tryz.func279.trans (congrArg some (by kernel_rfl))⟩
 f18 := ⟨Tryz.f280.name, by decide, Tryz.func280.trans (congrArg some (by kernel_rfl))⟩
 f19 := Tryz.func281.trans (congrArg some (by kernel_rfl))
 f20 := Tryz.func268.trans (congrArg some (by kernel_rfl))
 f30 := ⟨Tryz.f287.name, by decide, Tryz.func287.trans (congrArg some (by kernel_rfl))⟩
 f31 := Tryz.func288.trans (congrArg some (by kernel_rfl))
 f32 := Tryz.func289.trans (congrArg some (by kernel_rfl))
 f33 := ⟨Tryz.f290.name, by decide, Tryz.func290.trans (congrArg some (by kernel_rfl))⟩
 f34 := ⟨Tryz.f291.name, by decide, Tryz.func291.trans (congrArg some (by kernel_rfl))⟩
 f35 := ⟨Tryz.f252.name, by decide, Tryz.func252.trans (congrArg some (by kernel_rfl))⟩
 f40 := ⟨Tryz.f292.name, by decide, Tryz.func292.trans (congrArg some (by kernel_rfl))⟩
 t0 := Tryz.underlying0
 a0 := Tryz.isAgg0
 z0 := Tryz.sizeOf0
 v0 := Tryz.zeroValue0
 t3 := Tryz.underlying3
 a3 := Tryz.isAgg3
 z3 := Tryz.sizeOf3
 v3 := Tryz.zeroValue3
 t4 := Tryz.underlying4
 a4 := Tryz.isAgg4
 z4 := Tryz.sizeOf4
 v4 := Tryz.zeroValue4
 t5 := Tryz.underlying5
 a5 := Tryz.isAgg5
 z5 := Tryz.sizeOf5
 v5 := Tryz.zeroValue5
 t9 := Tryz.underlying9
 a9 := Tryz.isAgg9
 z9 := Tryz.sizeOf9
 v9 := Tryz.zeroValue9
 t22 := Tryz.underlying48
 a22 := Tryz.isAgg48
 z22 := Tryz.sizeOf48
 v22 := Tryz.zeroValue48
 t23 := Tryz.underlying48
 a23 := Tryz.isAgg48
 z23 := Tryz.sizeOf48
 v23 := Tryz.zeroValue48
 t25 := Tryz.underlying2
 a25 := Tryz.isAgg2
 z25 := Tryz.sizeOf2
 v25 := Tryz.zeroValue2
 t32 := Tryz.underlying208
 a32 := Tryz.isAgg208
 z32 := Tryz.sizeOf208
 v32 := Tryz.zeroValue208
 t35 := Tryz.underlying262
 a35 := Tryz.isAgg262
 z35 := Tryz.sizeOf262
 v35 := Tryz.zeroValue262
 t36 := Tryz.underlying263
 a36 := Tryz.isAgg263
 z36 := Tryz.sizeOf263
 v36 := Tryz.zeroValue263
 t41 := Tryz.underlying192
 a41 := Tryz.isAgg192
 z41 := Tryz.sizeOf192
 v41 := Tryz.zeroValue192
 t44 := Tryz.underlying245
 a44 := Tryz.isAgg245
 z44 := Tryz.sizeOf245
 v44 := Tryz.zeroValue245
 t46 := Tryz.underlying155
 a46 := Tryz.isAgg155
 z46 := Tryz.sizeOf155
 v46 := Tryz.zeroValue155
 t53 := Tryz.underlying277
 a53 := Tryz.isAgg277
 z53 := Tryz.sizeOf277
 v53 := Tryz.zeroValue277
 t57 := Tryz.underlying281
 a57 := Tryz.isAgg281
 z57 := Tryz.sizeOf281
 v57 := Tryz.zeroValue281
 t63 := Tryz.underlying285
 a63 := Tryz.isAgg285
 z63 := Tryz.sizeOf285
 v63 := Tryz.zeroValue285
 t64 := Tryz.underlying286
 a64 := Tryz.isAgg286
 z64 := Tryz.sizeOf286
 v64 := Tryz.zeroValue286 }
open Go.Sort Go.RowKit in
theorem Tryz.slices_Sort_int (blk off cap : Nat) (zs : List Int) (w : World) (hH : Holds (Value.int .i64) w blk off zs.toArray) (hblk : blk < w.heap.size) (hsz : zs.length < 4611686018427387904) :
  Calls Tryz.prog 231 #[.slice (some ⟨blk, off, none⟩) zs.length cap] w fun e w' =>
   e = .returned (.tuple #[]) ∧ ∃ n os, w' = grow (putRow (Value.int .i64) (Sort.ahead w n) blk off (zs.mergeSort fun x y => decide (x ≤ y)).toArray) os := AnyM.slices_Sort_int Tryz.laysSlM5_f231 blk off cap zs w hH hblk hsz
open Go.RowKit Go.Sort in
/-- .. and plain. (LAID AT THE INSTANCE 'slices.Sort[[]int64,int64]': no walk: one application.) -/
theorem Tryz.slices_Sort_int_none (p : Option Addr) (cap : Nat) (w : World) :
  Calls Tryz.prog 231 #[.slice p 0 cap] w fun e w' => e = .returned (.tuple #[]) ∧ w' = w := AnyM.slices_Sort_int_none Tryz.laysSlM5_f231 p cap w
end Go.Proofs
namespace Go.Proofs.YtnhdohednekhjaaGreatDoor
open Go.RowKit Go.Sort
/-- something is so of all numbers below n -/
def allK (p : Nat → Bool) : Nat → Bool
 | 0 => true
 | n + 1 => allK p n && p n
theorem allK_iff {p : Nat → Bool} : ∀ {n : Nat}, allK p n = true ↔ ∀ k, k < n → p k = true
 | 0 => ⟨fun _ k hk => absurd hk (Nat.not_lt_zero k), fun _ => rfl⟩
 | n + 1 => by
  rw [allK, Bool.and_eq_true, allK_iff]
  exact ⟨fun h k hk => (Nat.lt_succ_iff_lt_or_eq.1 hk).elim (h.1 k) (fun e => e ▸ h.2), fun h => ⟨fun k hk => h k (Nat.lt_succ_of_lt hk), h n (Nat.lt_succ_self n)⟩⟩
theorem allK_no {p : Nat → Bool} {n k : Nat} (hk : k < n) (h : p k = false) : allK p n = false := by
 cases h1 : allK p n
 ·rfl
 ·rw [allK_iff.1 h1 k hk] at h; cases h
/-- the kinds -/
def projP (s : Int) (f : Int × List Int) : Prop := ∃ p : Nat, (p : Int) < f.1 ∧ f = (f.1, projT s f.1.toNat f.2.length p)
def constP (f : Int × List Int) : Prop := ∀ k, k < f.2.length → f.2.getD k 0 = f.2.getD 0 0
def idemP (s : Int) (f : Int × List Int) : Prop := ∀ x : Int, 0 ≤ x → x ≤ s - 1 → opV s f.2 (List.replicate f.1.toNat x) = x
def consvP (s : Int) (f : Int × List Int) : Prop := ∀ xs : List Int, xs.length = f.1.toNat → inS s xs → opV s f.2 xs ∈ xs
def symP (s : Int) (f : Int × List Int) : Prop := ∀ xs ys : List Int, xs.length = f.1.toNat → inS s xs → xs.Perm ys → opV s f.2 xs = opV s f.2 ys
def assoP (s : Int) (f : Int × List Int) : Prop := ∀ a b c : Int, 0 ≤ a ∧ a ≤ s - 1 → 0 ≤ b ∧ b ≤ s - 1 → 0 ≤ c ∧ c ≤ s - 1 → opV s f.2 [opV s f.2 [a, b], c] = opV s f.2 [a, opV s f.2 [b, c]]
def thirdP (s : Int) (f : Int × List Int) (want : Int → Int → Int) (mid : Bool) : Prop := f.1 = 3 ∧ ∀ x y : Int, 0 ≤ x ∧ x ≤ s - 1 → 0 ≤ y ∧ y ≤ s - 1 → opV s f.2 [x, x, y] = want x y ∧ opV s f.2 [y, x, x] = want x y ∧ (mid = true → opV s f.2 [x, y, x] = want x y)
def kindP (s : Int) (f : Int × List Int) (k : Int) : Prop :=
 if k = 1 then projP s f else if k = 2 then constP f else if k = 3 then idemP s f else if k = 4 then consvP s f else if k = 5 then f.1 = 2 ∧ symP s f
 else if k = 6 then f.1 = 2 ∧ symP s f ∧ idemP s f ∧ assoP s f else if k = 7 then thirdP s f (fun x _ => x) true else if k = 8 then thirdP s f (fun _ y => y) true
 else if k = 9 then thirdP s f (fun _ y => y) false else symP s f
noncomputable def kindB (s : Int) (f : Int × List Int) (k : Int) : Bool := tb (kindP s f k)
section
variable {s : Int} {f : Int × List Int}
theorem kind_1 : kindB s f 1 = tb (projP s f) := by simp [kindB, kindP]
theorem kind_2 : kindB s f 2 = tb (constP f) := by simp [kindB, kindP]
theorem kind_3 : kindB s f 3 = tb (idemP s f) := by simp [kindB, kindP]
theorem kind_4 : kindB s f 4 = tb (consvP s f) := by simp [kindB, kindP]
theorem kind_5 : kindB s f 5 = tb (f.1 = 2 ∧ symP s f) := by simp [kindB, kindP]
theorem kind_6 : kindB s f 6 = tb (f.1 = 2 ∧ symP s f ∧ idemP s f ∧ assoP s f) := by simp [kindB, kindP]
theorem kind_7 : kindB s f 7 = tb (thirdP s f (fun x _ => x) true) := by simp [kindB, kindP]
theorem kind_8 : kindB s f 8 = tb (thirdP s f (fun _ y => y) true) := by simp [kindB, kindP]
theorem kind_9 : kindB s f 9 = tb (thirdP s f (fun _ y => y) false) := by simp [kindB, kindP]
theorem kind_10 : kindB s f 10 = tb (symP s f) := by simp [kindB, kindP]
end
/-- all lists are those that are counted out -/
theorem all_dig {s : Int} {m N : Nat} (hs : 1 ≤ s) (hN : s ^ m = N) {P : List Int → Prop} : (∀ xs : List Int, xs.length = m → inS s xs → P xs) ↔ ∀ k : Nat, k < N → P (digL s (k : Int) m) := by
 refine ⟨fun h k _ => h _ digL_len (digL_in hs), fun h xs hl hin => ?_⟩
 have hb := idx_lt hs hl hin
 have h1 := h (idxL s 0 xs).toNat (by omega)
 rw [show (((idxL s 0 xs).toNat : Nat) : Int) = idxL s 0 xs by omega, dig_of hs hl hin] at h1
 exact h1
theorem op_dims {s : Int} {f : Int × List Int} (hf : opOk s f) : (1 ≤ s ∧ s ≤ 4) ∧ (1 ≤ f.1.toNat ∧ f.1.toNat ≤ 3) ∧ s ^ f.1.toNat = ((f.2.length : Nat) : Int) ∧ f.1 = ((f.1.toNat : Nat) : Int) ∧ 1 ≤ f.2.length ∧ f.2.length ≤ 64 := by
 obtain ⟨hs, ha, hr, -⟩ := hf
 unfold sizeOk at hs
 have h1 := pow_mono' (s := s) (c := 4) (by omega) (by omega) f.1.toNat
 have h2 : 0 < s ^ f.1.toNat := Int.pow_pos (by omega)
 have h3 : (4 : Int) ^ f.1.toNat ≤ 64 := by rcases (show f.1.toNat = 1 ∨ f.1.toNat = 2 ∨ f.1.toNat = 3 by omega) with e | e | e <;> rw [e] <;> decide
 exact ⟨hs, by omega, hr.symm, by omega, by omega, by omega⟩
theorem opV_dig {s : Int} {f : Int × List Int} (hf : opOk s f) {k : Nat} (hk : k < f.2.length) : opV s f.2 (digL s (k : Int) f.1.toNat) = f.2.getD k 0 := by
 obtain ⟨hs, -, hN, -, -, -⟩ := op_dims hf
 have h1 := dig_idx (s := s) (idx := (k : Int)) (n := f.1.toNat) hs.1 (by omega) (by omega) f.1.toNat (Nat.le_refl _)
 rw [Nat.sub_self, Int.pow_zero, Int.ediv_one, List.take_of_length_le (by rw [digL_len]; exact Nat.le_refl _)] at h1
 unfold opV
 rw [h1, Int.toNat_natCast]
/-- what neighbours that are swapped leave alone, all orders leave alone -/
theorem perm_swaps {g : List Int → Int} {Q : List Int → Prop} (hQ : ∀ xs ys : List Int, xs.Perm ys → Q xs → Q ys) (h : ∀ p a b q, Q (p ++ a :: b :: q) → g (p ++ a :: b :: q) = g (p ++ b :: a :: q)) {l1 l2 : List Int} (hp : l1.Perm l2) : ∀ p, Q (p ++ l1) → g (p ++ l1) = g (p ++ l2) := by
 induction hp with
 | nil => exact fun _ _ => rfl
 | cons x _ ih =>
  intro p hq
  have := ih (p ++ [x]) (by simpa using hq)
  simpa using this
 | swap x y l => exact fun p hq => h p y x l hq
 | trans h1 _ ih1 ih2 => exact fun p hq => (ih1 p hq).trans (ih2 p (hQ _ _ (h1.append_left p) hq))
/-- a list with two neighbours swapped, as the reference does it -/
def swapL (l : List Int) (i : Nat) : List Int := (l.set i (l.getD (i + 1) 0)).set (i + 1) (l.getD i 0)
theorem swapL_len {l : List Int} {i : Nat} : (swapL l i).length = l.length := by simp [swapL]
theorem swapL_app {p q : List Int} {a b : Int} : swapL (p ++ a :: b :: q) p.length = p ++ b :: a :: q := by
 unfold swapL
 rw [show (p ++ a :: b :: q).getD (p.length + 1) 0 = b by simp [List.getD_eq_getElem?_getD], show (p ++ a :: b :: q).getD p.length 0 = a by simp [List.getD_eq_getElem?_getD]]
 rw [List.set_append_right _ _ (Nat.le_refl _), List.set_append_right _ _ (by omega)]
 simp
theorem swapL_split {l : List Int} {i : Nat} (h : i + 1 < l.length) : ∃ p a b q, l = p ++ a :: b :: q ∧ p.length = i := by
 refine ⟨l.take i, l[i], l[i + 1], l.drop (i + 2), ?_, by simp; omega⟩
 rw [List.getElem_cons_drop, List.getElem_cons_drop, List.take_append_drop]
theorem swapL_perm {l : List Int} {i : Nat} (h : i + 1 < l.length) : l.Perm (swapL l i) := by
 obtain ⟨p, a, b, q, rfl, rfl⟩ := swapL_split h
 rw [swapL_app]
 exact (List.Perm.swap b a q).append_left p
theorem inS_perm {s : Int} {xs ys : List Int} (h : xs.Perm ys) (hx : inS s xs) : inS s ys := fun a ha => hx a (h.mem_iff.2 ha)
theorem sym_swap {s : Int} {f : Int × List Int} (hf : opOk s f) : symP s f ↔ ∀ k, k < f.2.length → ∀ i, i + 1 < f.1.toNat → opV s f.2 (swapL (digL s (k : Int) f.1.toNat) i) = f.2.getD k 0 := by
 obtain ⟨hs, -, hN, -, -, -⟩ := op_dims hf
 constructor
 ·intro h k hk i hi
  rw [← opV_dig hf hk]
  exact (h _ _ digL_len (digL_in hs.1) (swapL_perm (by rw [digL_len]; exact hi))).symm
 ·intro h xs ys hl hin hp
  refine perm_swaps (g := opV s f.2) (Q := fun l => l.length = f.1.toNat ∧ inS s l) (fun xs ys h hq => ⟨h.length_eq ▸ hq.1, inS_perm h hq.2⟩) (fun p a b q hq => ?_) hp [] ⟨hl, hin⟩
  have hb := idx_lt hs.1 hq.1 hq.2
  have h1 := h (idxL s 0 (p ++ a :: b :: q)).toNat (by omega) p.length (by rw [← hq.1]; simp)
  rw [← opV_dig hf (by omega), show (((idxL s 0 (p ++ a :: b :: q)).toNat : Nat) : Int) = idxL s 0 (p ++ a :: b :: q) by omega, dig_of hs.1 hq.1 hq.2, swapL_app] at h1
  exact h1.symm
/-- a list in ascending order -/
def sortI (l : List Int) : List Int := l.mergeSort fun x y => decide (x ≤ y)
theorem sortI_perm (l : List Int) : (sortI l).Perm l := List.mergeSort_perm _ _
theorem sortI_sorted (l : List Int) : (sortI l).Pairwise fun x y => x ≤ y := by
 have := List.pairwise_mergeSort (le := fun x y : Int => decide (x ≤ y)) (fun a b c h1 h2 => by simp at *; omega) (fun a b => by simp; omega) l
 simpa [sortI] using this
theorem sorted_uniq : ∀ {xs ys : List Int}, xs.Perm ys → xs.Pairwise (fun x y => x ≤ y) → ys.Pairwise (fun x y => x ≤ y) → xs = ys
 | [], ys, h, _, _ => (List.nil_perm.1 h).symm
 | x :: xs, ys, h, hx, hy => by
  match ys with
  | [] => exact absurd h.length_eq (by simp)
  | y :: ys =>
   have h1 := (List.pairwise_cons.1 hx).1
   have h2 := (List.pairwise_cons.1 hy).1
   have hxy : x = y := by
    have a1 : x ∈ y :: ys := h.mem_iff.1 (List.mem_cons_self ..)
    have a2 : y ∈ x :: xs := h.mem_iff.2 (List.mem_cons_self ..)
    rcases List.mem_cons.1 a1 with e | e
    ·exact e
    ·rcases List.mem_cons.1 a2 with e' | e'
     ·exact e'.symm
     ·have := h2 x e; have := h1 y e'; omega
   subst hxy
   rw [sorted_uniq ((List.perm_cons x).1 h) (List.Pairwise.of_cons hx) (List.Pairwise.of_cons hy)]
theorem sortI_eq {xs ys : List Int} (h : xs.Perm ys) : sortI xs = sortI ys :=
 sorted_uniq (((sortI_perm xs).trans h).trans (sortI_perm ys).symm) (sortI_sorted xs) (sortI_sorted ys)
theorem sortI_len {l : List Int} : (sortI l).length = l.length := (sortI_perm l).length_eq
theorem sortI_in {s : Int} {l : List Int} (h : inS s l) : inS s (sortI l) := inS_perm (sortI_perm l).symm h
theorem sym_sort {s : Int} {f : Int × List Int} (hf : opOk s f) : symP s f ↔ ∀ k : Nat, k < f.2.length → opV s f.2 (digL s (k : Int) f.1.toNat) = opV s f.2 (sortI (digL s (k : Int) f.1.toNat)) := by
 obtain ⟨hs, -, hN, -, -, -⟩ := op_dims hf
 rw [← all_dig (P := fun l => opV s f.2 l = opV s f.2 (sortI l)) hs.1 hN]
 constructor
 ·exact fun h xs hl hin => h _ _ hl hin (sortI_perm xs).symm
 ·intro h xs ys hl hin hp
  rw [h xs hl hin, sortI_eq hp, ← h ys (hp.length_eq ▸ hl) (inS_perm hp hin)]
end Go.Proofs.YtnhdohednekhjaaGreatDoor
namespace Go.Proofs.YtnhdohednekhjaaGreatDoor
open Go.RowKit Go.Sort
theorem block_putRow {α : Type} [Inhabited α] (enc : α → Value) (w : World) (b o : Nat) (d : Array α) {k : Nat} (h : k ≠ b) : (putRow enc w b o d).heap[k]? = w.heap[k]? := by
 simp only [putRow, mapBlock, Array.getElem?_modify]
 rw [if_neg (fun e => h e.symm)]
theorem tchP_sorted {α : Type} [Inhabited α] (enc : α → Value) (w : World) (b o n : Nat) (d : Array α) (os : Array Obj) : TchP (fun k => k = b) w (Go.Sort.grow (putRow enc (Go.Sort.ahead w n) b o d) os) :=
 ⟨rfl, rfl, rfl, by rw [Go.Sort.size_grow, size_putRow]; exact Nat.le_add_right _ _, fun k hk hn => by
  rw [Go.Sort.heap_grow_old _ _ (by rw [size_putRow]; exact hk), block_putRow enc _ b o d hn]
  rfl⟩
theorem tchP_put {α : Type} [Inhabited α] (enc : α → Value) (w : World) (b o n : Nat) (d : Array α) : TchP (fun k => k = b) w (putRow enc (Go.Sort.ahead w n) b o d) := by
 have := tchP_sorted enc w b o n d #[]
 rwa [Go.Sort.grow_empty] at this
/-- a new row of numbers, by its cells -/
theorem fr_ints_mk {base : Nat} {w : World} {b o c n : Nat} {ys : List Int} (hl : ys.length = n) (h0 : 0 < n) (hc : n ≤ c) (hcm : n ≤ capMax) (hb : b < w.heap.size) (hbs : base ≤ b) (hI : ∀ a ∈ ys, I64 a)
  (hcell : ∀ j (h : j < ys.length), w.cell? ⟨b, o + j, none⟩ = some (.int .i64 ys[j])) (hf : ∀ i, w.frozen? ⟨b, i, none⟩ = false) : intsT.Fr base w [.slice (some ⟨b, o, none⟩) n c] ys := by
 subst hl
 refine ⟨b :: (List.range ys.length).flatMap fun _ => [], ⟨_, c, rfl, hc, hcm, .inr ⟨h0, b, o, fun _ => [], rfl, hb, rfl, fun i hi => ⟨[.int .i64 ys[i]], ⟨rfl, hI _ (List.getElem_mem hi), rfl⟩, fun j hj => ?_⟩⟩⟩, ?_, ?_, ?_⟩
 ·obtain rfl : j = 0 := by simpa using hj
  simp [Ty.int, hcell i hi]
 ·rw [List.flatMap_eq_nil_iff.2 (fun _ _ => rfl)]
  simp
 ·intro k hk
  simp at hk
  omega
 ·intro k hk i
  simp at hk
  subst hk
  exact hf i
/-- a new row of numbers: what the library's laws ask of it -/
theorem fr_holds {base : Nat} {w : World} {u : Value} {xs : List Int} (h : intsT.Fr base w [u] xs) (h0 : 0 < xs.length) :
  ∃ b o c, u = .slice (some ⟨b, o, none⟩) xs.length c ∧ xs.length ≤ c ∧ xs.length ≤ capMax ∧ b < w.heap.size ∧ base ≤ b ∧ (∀ a ∈ xs, I64 a) ∧ (∀ i, w.frozen? ⟨b, i, none⟩ = false) ∧ Holds (Value.int .i64) w b o xs.toArray := by
 obtain ⟨fp, ⟨ad, c, hv, h1, h2, h3⟩, -, h5, h6⟩ := h
 obtain rfl : u = _ := by simpa using hv
 rcases h3 with ⟨h3, _⟩ | ⟨_, b, o, fps, rfl, hb, rfl, h4⟩
 ·omega
 ·have hin : b ∈ b :: (List.range xs.length).flatMap fps := List.mem_cons_self ..
  have hcl : ∀ i (h : i < xs.length), I64 xs[i] ∧ w.cell? ⟨b, o + i, none⟩ = some (.int .i64 xs[i]) := fun i hi => by
   obtain ⟨cs, ⟨rfl, hI, -⟩, hc⟩ := h4 i hi
   exact ⟨hI, by simpa [Ty.int] using hc 0 (by simp)⟩
  refine ⟨b, o, c, rfl, h1, h2, hb, h5 b hin, fun a ha => ?_, fun i => h6 b hin i, fun j hj => ⟨?_, h6 b hin _⟩⟩
  ·obtain ⟨i, hi, rfl⟩ := List.getElem_of_mem ha
   exact (hcl i hi).1
  ·have hj' : j < xs.length := by simpa using hj
   rw [(hcl j hj').2]
   simp [hj']
/-- .. and behind a law's put -/
theorem fr_put {base : Nat} {w : World} {b o c m n : Nat} {xs ys : List Int} {d : Array Int} {os : Array Obj} (hH : Holds (Value.int .i64) w b o xs.toArray) (hd : d.size = xs.length) (hm : m ≤ xs.length) (hl : ys.length = m) (h0 : 0 < m) (hy : ∀ j (h : j < ys.length), d[j]! = ys[j]) (hc : xs.length ≤ c) (hcm : xs.length ≤ capMax) (hb : b < w.heap.size) (hbs : base ≤ b)
  (hI : ∀ a ∈ ys, I64 a) (hf : ∀ i, w.frozen? ⟨b, i, none⟩ = false) : intsT.Fr base (Go.Sort.grow (putRow (Value.int .i64) (Go.Sort.ahead w n) b o d) os) [.slice (some ⟨b, o, none⟩) m c] ys := by
 have hb' : b < (putRow (Value.int .i64) (Go.Sort.ahead w n) b o d).heap.size := by rw [size_putRow]; exact hb
 refine fr_ints_mk hl h0 (by omega) (by omega) (by rw [Go.Sort.size_grow]; omega) hbs hI (fun j hj => ?_) (fun i => ?_)
 ·rw [Go.Sort.cell?_grow _ _ _ hb', cell?_putRow (Value.int .i64) (Go.Sort.ahead w n) b o xs.toArray d hH (by simpa using hd) j (by omega), hy j hj]
 ·rw [Go.Sort.frozen?_grow _ _ _ hb', frozen?_putRow]
  exact hf i
theorem SortI_any (w : World) {base : Nat} {ad : Option Addr} {n c : Nat} {xs : List Int} (h : intsT.Fr base w [.slice ad n c] xs) (hl : xs.length ≤ 1000000) :
  Calls Tryz.prog 231 #[.slice ad n c] w fun e w' => e = .returned (.tuple #[]) ∧ intsT.Fr base w' [.slice ad n c] (sortI xs) ∧ TchP (fun k => base ≤ k) w w' := by
 rcases Nat.eq_zero_or_pos xs.length with h0 | h0
 ·obtain rfl := List.eq_nil_of_length_eq_zero h0
  obtain ⟨ad', c', hv⟩ := fr_slice h
  obtain ⟨rfl, rfl, rfl⟩ : ad = ad' ∧ n = 0 ∧ c = c' := by simpa using hv
  refine (Tryz.slices_Sort_int_none ad c w).mono ?_
  rintro e w' ⟨rfl, rfl⟩
  exact ⟨rfl, by simpa [sortI] using h, TchP.refl _ _⟩
 ·obtain ⟨b, o, c', hv, hc, hcm, hb, hbs, hI, hf, hH⟩ := fr_holds h h0
  obtain ⟨rfl, rfl, rfl⟩ : ad = some ⟨b, o, none⟩ ∧ n = xs.length ∧ c = c' := by simpa using hv
  refine (Tryz.slices_Sort_int b o c xs w hH hb (by omega)).mono ?_
  rintro e w' ⟨rfl, m, os, rfl⟩
  refine ⟨rfl, fr_put hH (by rw [List.size_toArray]; exact sortI_len) (Nat.le_refl _) sortI_len h0 (fun j hj => ?_) hc hcm hb hbs (fun a ha => hI a ((sortI_perm xs).mem_iff.1 ha)) hf, (tchP_sorted _ _ _ _ _ _ _).mono (fun k _ h => by rw [h]; exact hbs)⟩
  have hj' : j < (xs.mergeSort fun x y => decide (x ≤ y)).length := hj
  simp [sortI, List.getElem?_eq_getElem hj']
/-- the length of what is left of a row when equal neighbours are struck -/
def compL (xs : List Int) : List Int := Go.Lib.compactUpTo xs.toArray xs.length
theorem comp_len (d : Array Int) : ∀ m, 1 ≤ m → 1 ≤ (Go.Lib.compactUpTo d m).length ∧ ((Go.Lib.compactUpTo d m).length = 1 ↔ ∀ j, j + 1 < m → d[j + 1]! = d[j]!)
 | 0, h => by omega
 | 1, _ => by
  have : Go.Lib.compactUpTo d 1 = [d[0]!] := by
   rw [Go.Lib.compactUpTo_succ, if_pos (Go.Lib.keeps_lt_one d 0 (by omega))]
   rfl
  rw [this]
  exact ⟨Nat.le_refl _, fun _ j hj => by omega, fun _ => rfl⟩
 | m + 2, _ => by
  obtain ⟨h1, h2⟩ := comp_len d (m + 1) (by omega)
  rw [Go.Lib.compactUpTo_succ]
  by_cases h : d[m + 1]! = d[m]!
  ·rw [if_neg (by rw [Go.Lib.keeps_neg (by omega) (by simpa using h)]; simp), List.append_nil]
   refine ⟨h1, h2.trans ⟨fun h3 j hj => ?_, fun h3 j hj => h3 j (by omega)⟩⟩
   rcases Nat.lt_or_ge (j + 1) (m + 1) with h4 | h4
   ·exact h3 j h4
   ·obtain rfl : j = m := by omega
    exact h
  ·rw [if_pos (Go.Lib.keeps_pos (by simpa using h)), List.length_append, List.length_singleton]
   exact ⟨by omega, fun h3 => by omega, fun h3 => absurd (h3 m (by omega)) h⟩
theorem comp_one {ys : List Int} (h0 : 0 < ys.length) : (compL ys).length = 1 ↔ ∀ a ∈ ys, ∀ b ∈ ys, a = b := by
 unfold compL
 rw [(comp_len ys.toArray ys.length h0).2]
 have hg : ∀ j, j < ys.length → ys.toArray[j]! = ys.getD j 0 := fun j hj => by simp [List.getD_eq_getElem?_getD, List.getElem?_eq_getElem hj]
 constructor
 ·intro h
  have key : ∀ j, j < ys.length → ys.getD j 0 = ys.getD 0 0 := fun j => by
   induction j with
   | zero => exact fun _ => rfl
   | succ j ih =>
    intro hj
    have := h j hj
    rw [hg _ hj, hg j (by omega)] at this
    rw [this, ih (by omega)]
  have hm : ∀ a ∈ ys, a = ys.getD 0 0 := fun a ha => by
   obtain ⟨i, hi, rfl⟩ := List.getElem_of_mem ha
   rw [← key i hi, List.getD_eq_getElem?_getD, List.getElem?_eq_getElem hi]
   rfl
  exact fun a ha b hb => (hm a ha).trans (hm b hb).symm
 ·intro h j hj
  rw [hg _ hj, hg j (by omega)]
  have e1 : ys.getD (j + 1) 0 = ys[j + 1] := by rw [List.getD_eq_getElem?_getD, List.getElem?_eq_getElem hj]; rfl
  have e2 : ys.getD j 0 = ys[j] := by rw [List.getD_eq_getElem?_getD, List.getElem?_eq_getElem (by omega)]; rfl
  rw [e1, e2]
  exact h _ (List.getElem_mem hj) _ (List.getElem_mem (by omega))
theorem const_comp {f : Int × List Int} (h0 : 0 < f.2.length) : constP f ↔ (compL (sortI f.2)).length = 1 := by
 rw [comp_one (by rw [sortI_len]; exact h0)]
 have hm : ∀ {a : Int}, a ∈ sortI f.2 ↔ a ∈ f.2 := (sortI_perm f.2).mem_iff
 have hg : ∀ j (h : j < f.2.length), f.2.getD j 0 = f.2[j] := fun j h => by rw [List.getD_eq_getElem?_getD, List.getElem?_eq_getElem h]; rfl
 constructor
 ·intro h a ha b hb
  have key : ∀ a ∈ f.2, a = f.2.getD 0 0 := fun a ha => by
   obtain ⟨i, hi, rfl⟩ := List.getElem_of_mem ha
   rw [← hg i hi]
   exact h i hi
  exact (key a (hm.1 ha)).trans (key b (hm.1 hb)).symm
 ·intro h k hk
  rw [hg k hk, hg 0 h0]
  exact h _ (hm.2 (List.getElem_mem hk)) _ (hm.2 (List.getElem_mem h0))
theorem compactI_any (w : World) {base : Nat} {ad : Option Addr} {n c : Nat} {xs : List Int} (h : intsT.Fr base w [.slice ad n c] xs) (h0 : 0 < xs.length) (hl : xs.length ≤ 1000000) :
  Calls Tryz.prog 232 #[.slice ad n c] w fun e w' => e = .returned (.slice ad (compL xs).length c) ∧ TchP (fun k => base ≤ k) w w' := by
 obtain ⟨b, o, c', hv, hc, hcm, hb, hbs, hI, hf, hH⟩ := fr_holds h h0
 obtain ⟨rfl, rfl, rfl⟩ : ad = some ⟨b, o, none⟩ ∧ n = xs.length ∧ c = c' := by simpa using hv
 have h1 := Tryz.slices_Compact (Value.int .i64) (fun _ => rfl) (EqlAt.intD _ _ .i64) (NeqAt.intD _ _ .i64) 0 Tryz.zeroValue2 b o c xs.toArray w hH (by simp; omega) (by simpa using hc)
 rw [List.size_toArray] at h1
 refine h1.mono ?_
 rintro e w' ⟨rfl, q, rfl⟩
 exact ⟨rfl, (tchP_put _ _ _ _ _ _).mono (fun k _ h => by rw [h]; exact hbs)⟩
end Go.Proofs.YtnhdohednekhjaaGreatDoor
namespace Go.Proofs.YtnhdohednekhjaaGreatDoor
open Go.RowKit Go.Sort
/-- an operation in a box -/
theorem pt_of2 {w : World} {b : Nat} {f : Int × List Int} {u : Value} (hb : b < w.heap.size) (h : opT.Rd w [.int .i64 f.1, u] f) (h0 : w.cell? ⟨b, 0, none⟩ = some (.int .i64 f.1)) (h1 : w.cell? ⟨b, 1, none⟩ = some u) : opT.Pt w (.pointer (some ⟨b, 0, none⟩)) f :=
 ⟨_, 0, _, rfl, hb, h, fun j hj => by
  rcases (show j = 0 ∨ j = 1 by simp at hj; omega) with rfl | rfl
  ·exact h0
  ·exact h1⟩
set_option maxHeartbeats 1600000 in
theorem allLists_any (w : World) {s : Int} {m N : Nat} (hs : 1 ≤ s ∧ s ≤ 4) (hm : m ≤ 3) (hN : s ^ m = N) (g : Nat) (caps : Array Value) (eg : ∀ args w, (callFunc g args).run Tryz.prog w = .ok (.enter g args) w) (p : List Int → Bool)
  (hto : Hid (∀ W u (k : Nat), Below w.heap.size w W → k < N → intsT.Rd W [u] (digL s k m) → Calls Tryz.prog g (#[u] ++ caps) W fun e w' => e = .returned (.bool (p (digL s k m))) ∧ Below W.heap.size W w')) :
  Calls Tryz.prog 124 #[.int .i64 s, .int .i64 m, .func (.func g) #[] caps] w fun e w' => e = .returned (.bool (allK (fun k => p (digL s (k : Int) m)) N)) ∧ Below w.heap.size w w' := by
 have hNb : N ≤ 64 := by
  have h1 := pow_mono' (s := s) (c := 4) (by omega) (by omega) m
  rcases (show m = 0 ∨ m = 1 ∨ m = 2 ∨ m = 3 by omega) with e | e | e | e <;> subst e <;> simp at h1 hN <;> omega
 have HN : Hid (s ^ ((m : Int)).toNat = N) := by unfold Hid; rw [Int.toNat_natCast]; exact hN
 clear hN
 go_enter Tryz.func124, Tryz.ntmps124
 go_wp2_with fail
 refine (power_any _ s (m : Int) (by omega) (by omega) (by omega)).mono ?_
 rintro e _ ⟨rfl, rfl⟩
 rw [HN.out]
 go_wp2_with fail
 go_loopw [11] (fun i wr => ∃ k : Nat, k ≤ N ∧ i = .int .i64 k ∧ (∀ j, j < k → p (digL s (j : Int) m) = true) ∧ Below w.heap.size w wr) (fun i _ => N - (intOf i).toNat)
 case atStart => exact ⟨0, Nat.zero_le _, rfl, fun j hj => absurd hj (Nat.not_lt_zero j), Below.refl _ _⟩
 case round =>
  obtain ⟨k, hk, rfl, hall, hbv⟩ := hrel
  obtain ⟨wv, rfl⟩ : ∃ wv : World, wv = wr := ⟨_, rfl⟩
  have HALL := Lib.hid hall
  clear hall
  by_cases hkl : k < N
  ·go_wp2_with fail
   refine (listOf_any _ s (k : Int) m (by omega) (by omega) (by omega) (by omega) (by omega)).mono ?_
   rintro e w5 ⟨dv, rfl, hdf, hb5⟩
   obtain ⟨ad, nd, cd, rfl⟩ := ex_slice hdf
   have HDF := Lib.hid hdf
   have hb5' := bthen hbv hb5
   clear hdf
   go_wp2_with fail
   refine (hto.out w5 _ k hb5' hkl HDF.out.rd).mono ?_
   rintro e w7 ⟨rfl, hb7⟩
   have hb7' := bthen hb5' hb7
   cases hp : p (digL s (k : Int) m)
   ·have HR := Lib.hid (allK_no (p := fun k => p (digL s (k : Int) m)) hkl hp)
    clear hp
    go_wp2_with fail
    go_ret
    exact ⟨ret_bool HR.out.symm, hb7'⟩
   ·have HP := Lib.hid hp
    clear hp
    go_wp2_with fail
    go_roundw
    case rel => exact ⟨k + 1, by omega, by go_num, fun j hj => (Nat.lt_succ_iff_lt_or_eq.1 hj).elim (HALL.out j) (fun e => e ▸ HP.out), hb7'⟩
    case measure => simp [intOf]; omega
  ·obtain rfl : k = N := by omega
   go_wp2_with fail
   go_ret
   exact ⟨ret_bool (allK_iff.2 HALL.out).symm, hbv⟩
set_option maxHeartbeats 1600000 in
set_option maxRecDepth 100000 in
theorem isSymmetric1_any (w : World) {u : Value} {xs : List Int} (hu : intsT.Rd w [u] xs) {f : Int × List Int} {s : Int} {bs bf : Nat} (hc : w.cell? ⟨bs, 0, none⟩ = some (.int .i64 s)) (hP : opT.Pt w (.pointer (some ⟨bf, 0, none⟩)) f) (hf : opOk s f) (hl : xs.length = f.1.toNat) (hin : inS s xs) :
  Calls Tryz.prog 234 #[u, .pointer (some ⟨bf, 0, none⟩), .pointer (some ⟨bs, 0, none⟩)] w fun e w' => e = .returned (.bool (opV s f.2 xs == opV s f.2 (sortI xs))) ∧ Below w.heap.size w w' := by
 obtain ⟨fb, fo, fa, fc, hpe, hfb, hIf, f0, f1, hfx⟩ := pt_pair hP
 simp only [Value.pointer.injEq, Option.some.injEq, Addr.mk.injEq, and_true] at hpe
 obtain ⟨rfl, rfl⟩ := hpe
 obtain ⟨ua, uc, rfl⟩ := rd_slice hu
 obtain ⟨hs, har, hN, hfe, -, -⟩ := op_dims hf
 have hbs := cell_lt hc
 have HU := Lib.hid hu
 have HIN := Lib.hid hin
 have HF := Lib.hid hf
 have HFX := Lib.hid hfx
 have HL : Hid ((xs.length : Int) = f.1) := by unfold Hid; omega
 have HL2 : Hid (((sortI xs).length : Int) = f.1) := by unfold Hid; rw [sortI_len]; exact HL.out
 have hx3 : xs.length ≤ 3 := by omega
 have HSI := Lib.hid (sortI_in hin)
 clear hu hin hf hfx hP hfe hN hl
 go_enter Tryz.func234, Tryz.ntmps234
 go_wp2_with fail
 refine (Clone_any _ HU.out (by omega)).mono ?_
 rintro e w1 ⟨v1, rfl, hf1, hb1⟩
 obtain ⟨ca, cc, rfl⟩ := fr_slice hf1
 have HC := Lib.hid hf1
 have hz1 := hb1.size
 clear hf1
 go_wp2_with fail
 refine (SortI_any w1 HC.out (by omega)).mono ?_
 rintro e w2 ⟨rfl, hs2, ht2⟩
 have hb2 : Below w.heap.size w1 w2 := ht2.below hz1 (fun k hk h => by omega)
 have hbb : Below w.heap.size w w2 := hb1.trans hb2
 have HS := Lib.hid hs2.rd
 have HU2 := Lib.hid (HU.out.below hbb)
 have hbb2 := hbb
 replace f0 := (cellB hbb (by omega)).trans f0
 replace f1 := (cellB hbb (by omega)).trans f1
 replace hc := (cellB hbb (by omega)).trans hc
 have hz2 := hbb.size
 have HFR : Hid (opT.Rd w2 [.int .i64 f.1, .slice fa f.2.length fc] f) := pair_mk hIf (HFX.out.below hbb)
 clear hs2 ht2 hb2 HC
 go_wp2_with fail
 refine wp_region_T (fun w' => w'.cell? ⟨bs, 0, none⟩ = some (.int .i64 s) ∧ w'.cell? ⟨bf, 0, none⟩ = some (.int .i64 f.1) ∧ w'.cell? ⟨bf, 1, none⟩ = some (.slice fa f.2.length fc)) [] (by kernel_rfl) ⟨hc, f0, f1⟩ (fun hHeld => ?_)
 refine wpAnyT_take (i := 0) (v := ?_) rfl (by kernel_rfl) (fun _ _ _ h => h) (Or.inl ⟨by rfl, ?_⟩) (by assumption) ?_
 rotate_left
 ·(intro w hSw; (try dsimp only at hSw); go_simp <;> with_reducible rfl)
 go_simp
 refine wpAnyT_take (i := 1) (v := ?_) rfl (by kernel_rfl) (fun _ _ _ h => h) (Or.inl ⟨by rfl, ?_⟩) (by assumption) ?_
 rotate_left
 ·(intro w hSw; (try dsimp only at hSw); go_simp <;> with_reducible rfl)
 go_simp
 refine wpAnyT_take (i := 2) (v := ?_) rfl (by kernel_rfl) (fun _ _ _ h => h) (Or.inl ⟨by rfl, ?_⟩) (by assumption) ?_
 rotate_left
 ·(intro w hSw; (try dsimp only at hSw); go_simp <;> with_reducible rfl)
 go_simp
 refine wpAnyT_take (i := 4) (v := ?_) rfl (by kernel_rfl) (fun _ _ _ h => h) (Or.inl ⟨by rfl, ?_⟩) (by assumption) ?_
 rotate_left
 ·(intro w hSw; (try dsimp only at hSw); go_simp <;> with_reducible rfl)
 go_simp
 refine wpAnyT_take (i := 5) (v := ?_) rfl (by kernel_rfl) (fun _ _ _ h => h) (Or.inl ⟨by rfl, ?_⟩) (by assumption) ?_
 rotate_left
 ·(intro w hSw; (try dsimp only at hSw); go_simp <;> with_reducible rfl)
 go_simp
 refine wpAnyT_take (i := 6) (v := ?_) rfl (by kernel_rfl) (fun _ _ _ h => h) (Or.inl ⟨by rfl, ?_⟩) (by assumption) ?_
 rotate_left
 ·(intro w hSw; (try dsimp only at hSw); go_simp <;> with_reducible rfl)
 go_simp
 have hv0 : Below w2.heap.size w2 w2.drew := bD
 have HU3 := Lib.hid (HU2.out.below hv0)
 have HS3 := Lib.hid (HS.out.below hv0)
 have HF3 := Lib.hid (HFR.out.below hv0)
 have hb3 := bthen hbb2 hv0
 have hz3 := hv0.size
 clear f0 f1 hc
 generalize w2.drew = w3 at hHeld hv0 HU3 HS3 HF3 hb3 hz3 ⊢
 obtain ⟨hc, f0, f1⟩ := hHeld
 refine wpAnyT_one (i := 3) rfl (by kernel_rfl) (fun K hK => ?_)
 go_simp
 go_at_call 112
 refine (opAt_any w3 (f := f) HF3.out HU3.out HF.out HL.out HIN.out).mono ?_
 rintro e w4 ⟨rfl, hb4⟩
 have hz4 := hb4.size
 have HS4 := Lib.hid (HS3.out.below hb4)
 have HF4 := Lib.hid (HF3.out.below hb4)
 have hbw4 := bthen hb3 hb4
 replace f0 := (cellB hb4 (by omega)).trans f0
 replace f1 := (cellB hb4 (by omega)).trans f1
 replace hc := (cellB hb4 (by omega)).trans hc
 dsimp only
 refine hK.out _ _ ⟨hc, f0, f1⟩ (fun hHeld => ?_)
 clear hK K
 refine wpAnyT_one (i := 7) rfl (by kernel_rfl) (fun K hK => ?_)
 go_simp
 go_at_call 112
 refine (opAt_any w4 (f := f) HF4.out HS4.out HF.out HL2.out HSI.out).mono ?_
 rintro e w5 ⟨rfl, hb5⟩
 have hz5 := hb5.size
 have hbw5 := bthen hbw4 hb5
 replace f0 := (cellB hb5 (by omega)).trans f0
 replace f1 := (cellB hb5 (by omega)).trans f1
 replace hc := (cellB hb5 (by omega)).trans hc
 dsimp only
 refine hK.out _ _ ⟨hc, f0, f1⟩ (fun hHeld => ?_)
 clear hK K
 refine wpAnyT_take (i := 8) (v := ?_) rfl (by kernel_rfl) (fun _ _ _ h => h) (Or.inl ⟨by rfl, ?_⟩) (by assumption) ?_
 rotate_left
 ·(intro w hSw; (try dsimp only at hSw); go_simp <;> with_reducible rfl)
 go_simp
 refine wpAnyT_take (i := 9) (v := ?_) rfl (by kernel_rfl) (fun _ _ _ h => h) (Or.inl ⟨by rfl, ?_⟩) (by assumption) ?_
 rotate_left
 ·(intro w hSw; (try dsimp only at hSw); go_simp <;> with_reducible rfl)
 go_simp
 refine wpAnyT_done (by kernel_rfl) ?_ _
 go_simp
 go_wp2_with fail
 go_ret
 exact ⟨rfl, hbw5⟩
set_option maxHeartbeats 1600000 in
set_option maxRecDepth 100000 in
theorem isSymmetric_any (w : World) {cs : Array Value} {f : Int × List Int} (h : opT.Rd w cs.toList f) {s : Int} (hf : opOk s f) :
  Calls Tryz.prog 200 #[.int .i64 s, .agg cs] w fun e w' => e = .returned (.bool (tb (symP s f))) ∧ Below w.heap.size w w' := by
 obtain ⟨hs, har, hN, hfe, -, -⟩ := op_dims hf
 obtain ⟨u2, hv2, hI, hx⟩ := pair_ex h
 obtain rfl := agg_of hv2
 have H := Lib.hid h
 have HF := Lib.hid hf
 have HN := Lib.hid hN
 obtain ⟨ar, har1⟩ : ∃ ar : Nat, f.1.toNat = ar := ⟨_, rfl⟩
 have HSYM : Hid (allK (fun k => opV s f.2 (digL s (k : Int) ar) == opV s f.2 (sortI (digL s (k : Int) ar))) f.2.length = tb (symP s f)) := by
  unfold Hid
  rw [Bool.eq_iff_iff, allK_iff, tb_iff, sym_sort hf, har1]
  simp
 rw [har1] at HN har hfe
 have HFE := Lib.hid hfe
 have HA := Lib.hid har1
 clear h hx hv2 hf hN hfe har1
 go_enter Tryz.func200, Tryz.ntmps200
 go_wp2_with fail
 generalize hW : World.alloc (World.alloc w _) _ = W
 have hbW : Below w.heap.size w W := hW ▸ bAA
 have hsW : w.heap.size + 2 ≤ W.heap.size := by rw [← hW]; simp
 have b0 : W.cell? ⟨w.heap.size, 0, none⟩ = some (.int .i64 s) := by rw [← hW]; simp [go_sem]
 have f0 : W.cell? ⟨w.heap.size + 1, 0, none⟩ = some (.int .i64 f.1) := by rw [← hW]; simp [go_sem]
 have f1 : W.cell? ⟨w.heap.size + 1, 1, none⟩ = some u2 := by rw [← hW]; simp [go_sem]
 have HPT : Hid (opT.Pt W (.pointer (some ⟨w.heap.size + 1, 0, none⟩)) f) := pt_of2 (by omega) (H.out.below hbW) f0 f1
 clear hW f0 f1
 rw [HFE.out]
 have hto : Hid (∀ W' u (k : Nat), Below W.heap.size W W' → k < f.2.length → intsT.Rd W' [u] (digL s k ar) → Calls Tryz.prog 234 (#[u] ++ #[.pointer (some ⟨w.heap.size + 1, 0, none⟩), .pointer (some ⟨w.heap.size, 0, none⟩)]) W' fun e w' => e = .returned (.bool ((fun xs => opV s f.2 xs == opV s f.2 (sortI xs)) (digL s k ar))) ∧ Below W'.heap.size W' w') := by
  intro W' u k hb _ hu
  exact isSymmetric1_any W' hu ((cellB hb (by omega)).trans b0) (HPT.out.below hb) HF.out (by rw [digL_len, HA.out]) (digL_in hs.1)
 refine (allLists_any W hs har.2 HN.out 234 _ (enters Tryz.func234 (by kernel_rfl) rfl) (fun xs => opV s f.2 xs == opV s f.2 (sortI xs)) hto).mono ?_
 rintro e w5 ⟨rfl, hb5⟩
 rw [HSYM.out]
 go_wp2_with fail
 go_ret
 exact ⟨rfl, bthen hbW hb5⟩
end Go.Proofs.YtnhdohednekhjaaGreatDoor
namespace Go.Proofs.YtnhdohednekhjaaGreatDoor
open Go.RowKit Go.Sort
def monx (c0 : Int) (n N : Nat) : List Value := List.replicate n (Value.int .i64 c0) ++ List.replicate (N - n) (Value.int .i64 0)
theorem monx_len {c0 : Int} {n N : Nat} (h : n ≤ N) : (monx c0 n N).length = N := by simp [monx]; omega
theorem monx_zero {c0 : Int} {N : Nat} : monx c0 0 N = (List.replicate N (0 : Int)).map (Value.int .i64) := by simp [monx]
theorem monx_splice {c0 : Int} {n m N : Nat} (h : n + m ≤ N) : splice (monx c0 n N) n (List.replicate m (Value.int .i64 c0)) = monx c0 (n + m) N := by
 unfold splice monx
 rw [List.take_append_of_le_length (by simp), List.take_of_length_le (by simp), List.drop_append, List.length_replicate, List.length_replicate, List.drop_of_length_le (by simp), List.nil_append, List.drop_replicate, ← List.append_assoc, List.replicate_append_replicate, show N - n - (n + m - n) = N - (n + m) by omega]
theorem monx_cell {c0 : Int} {w : World} {g n N : Nat} {t : TypeId} (hg : w.heap[g]? = some (.cells (monx c0 n N).toArray t (0, 0))) {j : Nat} (hj : j < n) : w.cell? ⟨g, j, none⟩ = some (.int .i64 c0) := by
 simp [World.cell?, hg, monx, List.getElem?_append_left, hj]
theorem repx_pos {c0 : Int} {w1 : World} {b o g : Nat} (c1 : w1.cell? ⟨b, o, none⟩ = some (.int .i64 c0)) : 0 < [Value.int .i64 c0].length → (some (⟨g, 0, none⟩ : Addr) = some ⟨g, 0, none⟩) ∧ ∃ ad, some (⟨b, o, none⟩ : Addr) = some ad ∧ ∀ j v, [Value.int .i64 c0][j]? = some v → w1.cell? (ad.add j) = some v :=
 fun _ => ⟨rfl, _, rfl, fun j v hj => by
  cases j with
  | zero => simp at hj; subst hj; simpa [Addr.add] using c1
  | succ j => simp at hj⟩
def RepX (c0 : Int) (w : World) (N : Nat) (e : Ending) (w' : World) : Prop := ∃ g, e = .returned (.slice (some ⟨g, 0, none⟩) N N) ∧ w.heap.size ≤ g ∧ w'.heap[g]? = some (.cells (monx c0 N N).toArray 2 (0, 0)) ∧ Below w.heap.size w w'
set_option maxHeartbeats 3200000 in
set_option maxRecDepth 100000 in
theorem RepeatX_any (w : World) {c0 : Int} {b o c N : Nat} (hb : b < w.heap.size) (hc : w.cell? ⟨b, o, none⟩ = some (.int .i64 c0)) (hT : tabN N) :
  Calls Tryz.prog 198 #[.slice (some ⟨b, o, none⟩) 1 c, .int .i64 (N : Int)] w (RepX c0 w N) := by
 have hN := tabN_bd hT
 have HT := Lib.hid hT
 have hw : IntKind.u64.wrap (N : Int) = N := by rw [IntKind.wrap_u64]; omega
 have hw2 : IntKind.i64.wrap (N : Int) = N := wrap_small (by omega) (by omega)
 have hno : decide ((N : Int) < 0) = false := by simp
 have hno2 : decide ((9223372036854775807 : Int) < (N : Int)) = false := by simp; omega
 have hmin : [Value.int .i64 c0].length = Nat.min 1 N := (Nat.min_eq_left hN.1).symm
 have hfit : 0 + [Value.int .i64 c0].length ≤ (monx c0 0 N).length := by rw [monx_len (Nat.zero_le _)]; exact hN.1
 have hone : ∀ v ∈ [Value.int .i64 c0], v.oneCell' = true := by intro v hv; rw [List.mem_singleton.1 hv]; rfl
 clear hT
 go_enter Tryz.func198, Tryz.ntmps198
 go_wp2_with (first | (go_at_call 233; refine (Mul_one N HT.out _).mono ?_; rintro e _ ⟨rfl, rfl⟩) | (refine wpList_mkI _ rfl _ _ 48 2 rfl Tryz.underlying48 infoInt w.heap.size N rfl rfl (by omega) (by decide) (by first | (simp; done) | omega) ?_; intro w1 hA hg1 hs1; have hb1 := below_of_grown hg1; have hh := hA.heapAt; have c1 := (hb1.cell (p := ⟨b, o, none⟩) hb).trans hc; rw [← monx_zero (c0 := c0)] at hh; have hpos := Lib.hid (repx_pos (g := w.heap.size) c1); clear hA hg1 hs1) | (with_reducible refine wpList_copy_splice rfl (.tmp 31) (.tmp 32) 48 48 rfl 2 Tryz.underlying48 (by kernel_rfl) (some ⟨w.heap.size, 0, none⟩) (some ⟨b, o, none⟩) N N 1 c rfl rfl w.heap.size 0 (monx c0 0 N) 2 hh [.int .i64 c0] hmin hpos.out hfit hone w.heap.size w hb1 (Nat.le_refl _) ?_; intro w2 hg2 hb2))
 have HG2 : Hid (w2.heap[w.heap.size]? = some (.cells (monx c0 1 N).toArray 2 (0, 0))) := by
  have h1 := hg2.out
  rw [show ([Value.int .i64 c0] : List Value) = List.replicate 1 (Value.int .i64 c0) from rfl, monx_splice (by omega)] at h1
  exact h1
 clear hg2 hh c1
 go_wp2_with fail
 go_loopw [8] (fun i wr => ∃ n : Nat, 1 ≤ n ∧ n ≤ N ∧ i = .int .i64 n ∧ wr.heap[w.heap.size]? = some (.cells (monx c0 n N).toArray 2 (0, 0)) ∧ Below w.heap.size w wr) (fun i _ => N - (intOf i).toNat)
 case atStart => exact ⟨1, Nat.le_refl _, hN.1, by first | rfl | simp [goInt], HG2.out, hb2⟩
 case round =>
  obtain ⟨n, hn1, hnN, rfl, hg, hbe⟩ := hrel
  have HG := Lib.hid hg
  clear hg HG2
  by_cases hlt : n < N
  ·obtain ⟨m, hm⟩ : ∃ m, m = Nat.min n (N - n) := ⟨_, rfl⟩
   have hm1 : m ≤ n ∧ m ≤ N - n ∧ 1 ≤ m := by rw [hm]; refine ⟨Nat.min_le_left _ _, Nat.min_le_right _ _, ?_⟩; show 1 ≤ min n (N - n); omega
   have HM : Hid ((List.replicate m (Value.int .i64 c0)).length = Nat.min n (N - n)) := by unfold Hid; rw [List.length_replicate, hm]
   have HSP := Lib.hid (monx_splice (c0 := c0) (n := n) (m := m) (N := N) (by omega))
   have HCE := Lib.hid (fun j (hj : j < n) => monx_cell (c0 := c0) (n := n) (N := N) HG.out hj)
   have HON : Hid (∀ v ∈ List.replicate m (Value.int .i64 c0), v.oneCell' = true) := fun v hv => by rw [List.eq_of_mem_replicate hv]; rfl
   have hne : ¬ (N = n) := by omega
   have hwr : IntKind.i64.wrap ((n : Int) + (m : Int)) = ((n + m : Nat) : Int) := by rw [wrap_small (by omega) (by omega)]; omega
   clear hm
   go_wp2_with fail
   refine wp_region_T (fun _ => True) [7] (by kernel_rfl) trivial (fun hHeld => ?_)
   refine wpAnyT_any (i := 0) (v := ?_) rfl (by kernel_rfl) (fun _ _ _ h => h) (Or.inl ⟨by rfl, ?_⟩) (by first | exact fun _ => by assumption | (intro hp; exact absurd hp (by rw [show pastB _ _ = true by kernel_rfl]; simp))) ?_
   rotate_left
   ·(intro w hSw; (try dsimp only at hSw); go_simp <;> with_reducible rfl)
   try simp only [Act.put]
   go_simp
   refine wpAnyT_take (i := 1) (v := ?_) rfl (by kernel_rfl) (fun _ _ _ h => h) (Or.inl ⟨by rfl, ?_⟩) (by assumption) ?_
   rotate_left
   ·(intro w hSw; (try dsimp only at hSw); go_simp <;> with_reducible rfl)
   go_simp
   refine wpAnyT_take (i := 2) (v := ?_) rfl (by kernel_rfl) (fun _ _ _ h => h) (Or.inl ⟨by rfl, ?_⟩) (by assumption) ?_
   rotate_left
   ·(intro w hSw; (try dsimp only at hSw); go_simp <;> with_reducible rfl)
   go_simp
   refine wpAnyT_take (i := 3) (v := ?_) rfl (by kernel_rfl) (fun _ _ _ h => h) (Or.inl ⟨by rfl, ?_⟩) (by assumption) ?_
   rotate_left
   ·(intro w hSw; (try dsimp only at hSw); go_simp <;> with_reducible rfl)
   go_simp
   refine wpAnyT_take (i := 4) (v := ?_) rfl (by kernel_rfl) (fun _ _ _ h => h) (Or.inl ⟨by rfl, ?_⟩) (by assumption) ?_
   rotate_left
   ·(intro w hSw; (try dsimp only at hSw); go_simp <;> with_reducible rfl)
   go_simp
   refine wpAnyT_take (i := 5) (v := ?_) rfl (by kernel_rfl) (fun _ _ _ h => h) (Or.inl ⟨by rfl, ?_⟩) (by assumption) ?_
   rotate_left
   ·(intro w hSw; (try dsimp only at hSw); go_simp <;> with_reducible rfl)
   go_simp
   refine wpAnyT_take (i := 6) (v := ?_) rfl (by kernel_rfl) (fun _ _ _ h => h) (Or.inl ⟨by rfl, ?_⟩) (by assumption) ?_
   rotate_left
   ·(intro w hSw; (try dsimp only at hSw); go_simp <;> with_reducible rfl)
   go_simp
   refine wpAnyT_last (i := 7) rfl (by kernel_rfl) (by kernel_rfl) (fun K hK => ?_)
   refine step_copy_splice rfl (.tmp 41) (.tmp 44) 48 48 rfl 2 Tryz.underlying48 (by kernel_rfl) (some ⟨w.heap.size, n, none⟩) (some ⟨w.heap.size, 0, none⟩) (N - n) (N - n) n N rfl rfl w.heap.size n (monx c0 n N) 2 HG.out (List.replicate m (Value.int .i64 c0)) HM.out (fun _ => ⟨rfl, _, rfl, fun j v hj => ?_⟩) (by rw [List.length_replicate, monx_len hnN]; omega) HON.out w.heap.size w (hbe.drew) (Nat.le_refl _) ?_
   ·rw [List.getElem?_replicate] at hj
    by_cases hjm : j < m
    ·rw [if_pos hjm] at hj
     obtain rfl := Option.some.inj hj
     have h1 := HCE.out j (by omega)
     cases j with
     | zero => simpa [Addr.add] using h1
     | succ j => simpa [Addr.add] using h1
    ·rw [if_neg hjm] at hj
     cases hj
   intro w4 hg4 hb4
   rw [HSP.out] at hg4
   simp only [List.length_replicate]
   refine hK.out _ _ ?_
   clear hK K
   refine wpAnyT_last (i := 8) rfl (by kernel_rfl) (by kernel_rfl) (fun K hK => ?_)
   go_simp
   refine hK.out _ _ ?_
   clear hK K
   refine wpAnyT_last (i := 9) rfl (by kernel_rfl) (by kernel_rfl) (fun K hK => ?_)
   go_simp
   refine hK.out _ _ ?_
   clear hK K
   refine wpAnyT_done (by kernel_rfl) ?_ _
   go_simp
   go_wp2_with fail
   go_roundw
   case rel => exact ⟨n + m, by omega, by omega, by first | rfl | go_num | simp [goInt, hwr], hg4.out, hb4⟩
   case measure => (clear hwr; simp [intOf]; omega)
  ·obtain rfl : n = N := by omega
   go_wp2_with fail
   go_ret
   exact ⟨_, rfl, Nat.le_refl _, HG.out, hbe⟩
end Go.Proofs.YtnhdohednekhjaaGreatDoor
namespace Go.Proofs.YtnhdohednekhjaaGreatDoor
open Go.RowKit Go.Sort
def agR (sc tu : List Int) (i k : Nat) : Prop := sc.getD k 0 = sc.getD i 0 → tu.getD k 0 = tu.getD i 0
def agIn (sc tu : List Int) (i m : Nat) : Prop := ∀ k, k < m → agR sc tu i k
def agTo (sc tu : List Int) (n : Nat) : Prop := ∀ i, i < n → agIn sc tu i i
theorem beq_swap {a b : Int} {r : Bool} (h : (a == b) = r) : (b == a) = r := by rw [← h]; exact BEq.comm
end Go.Proofs.YtnhdohednekhjaaGreatDoor
namespace Go.Proofs.YtnhdohednekhjaaGreatDoor
open Go.RowKit Go.Sort
/-- is a number one of a list's -/
def hasI (xs : List Int) (n : Int) : Bool := anyB (fun a => n == a) xs
theorem hasI_no {xs : List Int} {n : Int} (h : noneB (fun a => n == a) xs) : hasI xs n = false := by
 unfold hasI anyB
 rw [List.any_eq_false]
 intro a ha hh
 have h1 : (n == a) = false := h a ha
 rw [h1] at hh
 cases hh
theorem hasI_yes {xs : List Int} {n : Int} {k : Nat} (h : k < xs.length) (he : (n == xs[k]) = true) : hasI xs n = true := by
 unfold hasI anyB
 rw [List.any_eq_true]
 exact ⟨_, List.getElem_mem h, he⟩
theorem hasI_first {xs : List Int} {n : Int} : decide (0 ≤ firstI (fun a => n == a) xs) = hasI xs n := firstI_any _ _
set_option maxHeartbeats 800000 in
theorem IndexI_any (w : World) {v : Value} {xs : List Int} (h : intsT.Rd w [v] xs) (n : Int) :
  Calls Tryz.prog 176 #[v, .int .i64 n] w fun e w' => e = .returned (.int .i64 (firstI (fun a => n == a) xs)) ∧ w = w' := by
 obtain ⟨ad, cap, hv, -, hcl, hcell⟩ := ints_ex h
 obtain rfl : v = _ := by simpa using hv
 clear h hv
 go_enter Tryz.func176, Tryz.ntmps176
 go_wp2_with fail
 go_loop [8] (fun i => ∃ k : Nat, k ≤ xs.length ∧ i = .int .i64 k ∧ noneB (fun a => n == a) (xs.take k)) (fun i => xs.length - (intOf i).toNat)
 case atStart => exact ⟨0, Nat.zero_le _, rfl, noneB_zero _ _⟩
 case round =>
  obtain ⟨k, hk, rfl, hne⟩ := hrel
  have HNE := Lib.hid hne
  clear hne
  by_cases hkl : k < xs.length
  ·obtain ⟨b, o, rfl, hb, hce⟩ := hcell (by omega)
   have e0 := (hce k hkl).2
   clear hcell hce
   cases he : (n == xs[k])
   ·have HN := Lib.hid (noneB_succ (p := fun a => n == a) hkl HNE.out he)
    go_wp2_with fail
    go_round
    case rel => exact ⟨k + 1, by omega, by go_num, HN.out⟩
    case measure => simp [intOf]; omega
   ·have HN := Lib.hid (firstI_at (p := fun a => n == a) hkl HNE.out he)
    go_wp2_with fail
    go_ret
    exact ⟨ret_int HN.out.symm, rfl⟩
  ·obtain rfl : k = xs.length := by omega
   have HN : Hid (firstI (fun a => n == a) xs = -1) := firstI_none (by have := HNE.out; rwa [List.take_length] at this)
   clear hcell
   go_wp2_with fail
   go_ret
   exact ⟨ret_int HN.out.symm, rfl⟩
theorem ContainsI_any (w : World) {v : Value} {xs : List Int} (h : intsT.Rd w [v] xs) (n : Int) :
  Calls Tryz.prog 174 #[v, .int .i64 n] w fun e w' => e = .returned (.bool (hasI xs n)) ∧ w = w' := by
 have HX := Lib.hid h
 have HF := Lib.hid (hasI_first (xs := xs) (n := n))
 clear h
 go_enter Tryz.func174, Tryz.ntmps174
 go_wp2_with fail
 refine (IndexI_any _ HX.out n).mono ?_
 rintro e _ ⟨rfl, rfl⟩
 go_wp2_with fail
 go_ret
 exact ⟨ret_bool HF.out, rfl⟩
set_option maxHeartbeats 800000 in
theorem l00Has_any (w : World) {v : Value} {xs : List Int} (h : intsT.Rd w [v] xs) (n : Int) :
  Calls Tryz.prog 126 #[v, .int .i64 n] w fun e w' => e = .returned (.bool (hasI xs n)) ∧ w = w' := by
 obtain ⟨ad, cap, hv, -, hcl, hcell⟩ := ints_ex h
 obtain rfl : v = _ := by simpa using hv
 clear h hv
 go_enter Tryz.func126, Tryz.ntmps126
 go_wp2_with fail
 go_loop [5] (fun i => ∃ k : Nat, k ≤ xs.length ∧ i = .int .i64 k ∧ noneB (fun a => n == a) (xs.take k)) (fun i => xs.length - (intOf i).toNat)
 case atStart => exact ⟨0, Nat.zero_le _, rfl, noneB_zero _ _⟩
 case round =>
  obtain ⟨k, hk, rfl, hne⟩ := hrel
  have HNE := Lib.hid hne
  clear hne
  by_cases hkl : k < xs.length
  ·obtain ⟨b, o, rfl, hb, hce⟩ := hcell (by omega)
   have e0 := (hce k hkl).2
   clear hcell hce
   cases he : (n == xs[k])
   ·have HN := Lib.hid (noneB_succ (p := fun a => n == a) hkl HNE.out he)
    have he' := beq_swap he
    clear he
    go_wp2_with fail
    go_round
    case rel => exact ⟨k + 1, by omega, by go_num, HN.out⟩
    case measure => simp [intOf]; omega
   ·have HN := Lib.hid (hasI_yes hkl he)
    have he' := beq_swap he
    clear he
    go_wp2_with fail
    go_ret
    exact ⟨ret_bool HN.out.symm, rfl⟩
  ·obtain rfl : k = xs.length := by omega
   have HN : Hid (hasI xs n = false) := hasI_no (by have := HNE.out; rwa [List.take_length] at this)
   clear hcell
   go_wp2_with fail
   go_ret
   exact ⟨ret_bool HN.out.symm, rfl⟩
end Go.Proofs.YtnhdohednekhjaaGreatDoor
namespace Go.Proofs.YtnhdohednekhjaaGreatDoor
open Go.RowKit Go.Sort
theorem rep_rd {w : World} {g N : Nat} {c0 : Int} (h : w.heap[g]? = some (.cells (monx c0 N N).toArray 2 (0, 0))) (h0 : 0 < N) (hN : N ≤ 100) (hI : I64 c0) : intsT.Rd w [.slice (some ⟨g, 0, none⟩) N N] (List.replicate N c0) := by
 have hg : g < w.heap.size := by
  rcases Nat.lt_or_ge g w.heap.size with h1 | h1
  ·exact h1
  ·rw [Array.getElem?_eq_none h1] at h; cases h
 refine (fr_ints_mk (base := 0) (by simp) h0 (Nat.le_refl _) (by unfold capMax; omega) hg (Nat.zero_le _) (fun a ha => by rw [List.eq_of_mem_replicate ha]; exact hI) (fun j hj => ?_) (fun i => ?_)).rd
 ·have hj' : j < N := by simpa using hj
  rw [Nat.zero_add, monx_cell h hj', List.getElem_replicate]
 ·simp [World.frozen?, h]
set_option maxHeartbeats 1600000 in
set_option maxRecDepth 100000 in
theorem isKind1_any (w : World) {u : Value} {xs : List Int} (hu : intsT.Rd w [u] xs) {f : Int × List Int} {s : Int} {bs bf : Nat} (hc : w.cell? ⟨bs, 0, none⟩ = some (.int .i64 s)) (hP : opT.Pt w (.pointer (some ⟨bf, 0, none⟩)) f) (hf : opOk s f) (hl : xs.length = 1) (hin : inS s xs) :
  Calls Tryz.prog 197 #[u, .pointer (some ⟨bf, 0, none⟩), .pointer (some ⟨bs, 0, none⟩)] w fun e w' => e = .returned (.bool (opV s f.2 (List.replicate f.1.toNat (xs.getD 0 0)) == xs.getD 0 0)) ∧ Below w.heap.size w w' := by
 obtain ⟨x, rfl⟩ : ∃ x, xs = [x] := List.length_eq_one_iff.1 hl
 obtain ⟨hs, har, hN, hfe, -, -⟩ := op_dims hf
 obtain ⟨n, tab⟩ := f
 obtain ⟨ar, rfl⟩ : ∃ ar : Nat, n = ar := ⟨_, hfe⟩
 simp only [Int.toNat_natCast] at har hN ⊢
 obtain ⟨fb, fo, fa, fc, hpe, hfb, hIf, f0, f1, hfx⟩ := pt_pair hP
 simp only [Value.pointer.injEq, Option.some.injEq, Addr.mk.injEq, and_true] at hpe
 obtain ⟨rfl, rfl⟩ := hpe
 obtain ⟨ad, cap, e1, -, -, hcell⟩ := ints_ex hu
 obtain rfl : u = _ := by simpa using e1
 obtain ⟨db, dO, rfl, hdb, hce⟩ := hcell (by simp)
 have d0 : w.cell? ⟨db, dO, none⟩ = some (.int .i64 x) := (hce 0 (by simp)).2
 have hx : 0 ≤ x ∧ x ≤ s - 1 := hin x (by simp)
 have hbs := cell_lt hc
 have HF := Lib.hid hf
 have HFR : Hid (opT.Rd w [.int .i64 (ar : Int), .slice fa tab.length fc] ((ar : Int), tab)) := pair_mk hIf hfx
 have HTN : Hid (tabN ar) := by unfold Hid tabN; omega
 have hIx : I64 x := I64.small (by omega) (by omega)
 have HRI : Hid (inS s (List.replicate ar x)) := fun a ha => by rw [List.eq_of_mem_replicate ha]; exact hx
 replace f0 : w.cell? ⟨bf, 0, none⟩ = some (.int .i64 (ar : Int)) := f0
 replace f1 : w.cell? ⟨bf, 1, none⟩ = some (.slice fa tab.length fc) := f1
 have hgx : ([x] : List Int).getD 0 0 = x := rfl
 rw [hgx]
 clear hu hin hf hfx hP hfe hN hl e1 hcell hce hgx
 go_enter Tryz.func197, Tryz.ntmps197
 go_wp2_with fail
 refine wp_region_T (fun w' => w'.cell? ⟨bs, 0, none⟩ = some (.int .i64 s) ∧ w'.cell? ⟨bf, 0, none⟩ = some (.int .i64 (ar : Int)) ∧ w'.cell? ⟨bf, 1, none⟩ = some (.slice fa tab.length fc) ∧ w'.cell? ⟨db, dO, none⟩ = some (.int .i64 x)) [] (by kernel_rfl) ⟨hc, f0, f1, d0⟩ (fun hHeld => ?_)
 refine wpAnyT_take (i := 0) (v := ?_) rfl (by kernel_rfl) (fun _ _ _ h => h) (Or.inl ⟨by rfl, ?_⟩) (by assumption) ?_
 rotate_left
 ·(intro w hSw; (try dsimp only at hSw); go_simp <;> with_reducible rfl)
 go_simp
 refine wpAnyT_take (i := 1) (v := ?_) rfl (by kernel_rfl) (fun _ _ _ h => h) (Or.inl ⟨by rfl, ?_⟩) (by assumption) ?_
 rotate_left
 ·(intro w hSw; (try dsimp only at hSw); go_simp <;> with_reducible rfl)
 go_simp
 refine wpAnyT_take (i := 2) (v := ?_) rfl (by kernel_rfl) (fun _ _ _ h => h) (Or.inl ⟨by rfl, ?_⟩) (by assumption) ?_
 rotate_left
 ·(intro w hSw; (try dsimp only at hSw); go_simp <;> with_reducible rfl)
 go_simp
 refine wpAnyT_take (i := 3) (v := ?_) rfl (by kernel_rfl) (fun _ _ _ h => h) (Or.inl ⟨by rfl, ?_⟩) (by assumption) ?_
 rotate_left
 ·(intro w hSw; (try dsimp only at hSw); go_simp <;> with_reducible rfl)
 go_simp
 refine wpAnyT_take (i := 4) (v := ?_) rfl (by kernel_rfl) (fun _ _ _ h => h) (Or.inl ⟨by rfl, ?_⟩) (by assumption) ?_
 rotate_left
 ·(intro w hSw; (try dsimp only at hSw); go_simp <;> with_reducible rfl)
 go_simp
 refine wpAnyT_take (i := 7) (v := ?_) rfl (by kernel_rfl) (fun _ _ _ h => h) (Or.inl ⟨by rfl, ?_⟩) (by assumption) ?_
 rotate_left
 ·(intro w hSw; (try dsimp only at hSw); go_simp <;> with_reducible rfl)
 go_simp
 refine wpAnyT_take (i := 8) (v := ?_) rfl (by kernel_rfl) (fun _ _ _ h => h) (Or.inl ⟨by rfl, ?_⟩) (by assumption) ?_
 rotate_left
 ·(intro w hSw; (try dsimp only at hSw); go_simp <;> with_reducible rfl)
 go_simp
 refine wpAnyT_take (i := 9) (v := ?_) rfl (by kernel_rfl) (fun _ _ _ h => h) (Or.inl ⟨by rfl, ?_⟩) (by assumption) ?_
 rotate_left
 ·(intro w hSw; (try dsimp only at hSw); go_simp <;> with_reducible rfl)
 go_simp
 have hv0 : Below w.heap.size w w.drew := bD
 have HF3 := Lib.hid (HFR.out.below hv0)
 have hz3 := hv0.size
 clear f0 f1 hc d0
 generalize w.drew = w3 at hHeld hv0 HF3 hz3 ⊢
 obtain ⟨hc, f0, f1, d0⟩ := hHeld
 refine wpAnyT_one (i := 5) rfl (by kernel_rfl) (fun K hK => ?_)
 go_simp
 go_at_call 198
 refine (RepeatX_any w3 (c0 := x) (N := ar) (by omega) d0 HTN.out).mono ?_
 rintro e w4 ⟨g, rfl, hg, hgh, hb4⟩
 have hz4 := hb4.size
 have HR4 := Lib.hid (rep_rd hgh (by omega) (by omega) hIx)
 have HF4 := Lib.hid (HF3.out.below hb4)
 have hbw4 := bthen hv0 hb4
 replace f0 := (cellB hb4 (by omega)).trans f0
 replace f1 := (cellB hb4 (by omega)).trans f1
 replace hc := (cellB hb4 (by omega)).trans hc
 replace d0 := (cellB hb4 (by omega)).trans d0
 clear hgh
 dsimp only
 refine hK.out _ _ ⟨hc, f0, f1, d0⟩ (fun hHeld => ?_)
 clear hK K
 refine wpAnyT_one (i := 6) rfl (by kernel_rfl) (fun K hK => ?_)
 go_simp
 go_at_call 112
 refine (opAt_any w4 (f := ((ar : Int), tab)) HF4.out HR4.out HF.out (by simp) HRI.out).mono ?_
 rintro e w5 ⟨rfl, hb5⟩
 have hz5 := hb5.size
 have hbw5 := bthen hbw4 hb5
 replace f0 := (cellB hb5 (by omega)).trans f0
 replace f1 := (cellB hb5 (by omega)).trans f1
 replace hc := (cellB hb5 (by omega)).trans hc
 replace d0 := (cellB hb5 (by omega)).trans d0
 dsimp only
 refine hK.out _ _ ⟨hc, f0, f1, d0⟩ (fun hHeld => ?_)
 clear hK K
 refine wpAnyT_take (i := 10) (v := ?_) rfl (by kernel_rfl) (fun _ _ _ h => h) (Or.inl ⟨by rfl, ?_⟩) (by assumption) ?_
 rotate_left
 ·(intro w hSw; (try dsimp only at hSw); go_simp <;> with_reducible rfl)
 go_simp
 refine wpAnyT_take (i := 11) (v := ?_) rfl (by kernel_rfl) (fun _ _ _ h => h) (Or.inl ⟨by rfl, ?_⟩) (by assumption) ?_
 rotate_left
 ·(intro w hSw; (try dsimp only at hSw); go_simp <;> with_reducible rfl)
 go_simp
 refine wpAnyT_done (by kernel_rfl) ?_ _
 go_simp
 go_wp2_with fail
 go_ret
 exact ⟨rfl, hbw5⟩
set_option maxHeartbeats 1600000 in
set_option maxRecDepth 100000 in
theorem isKind2_any (w : World) {u : Value} {xs : List Int} (hu : intsT.Rd w [u] xs) {f : Int × List Int} {s : Int} {bs bf : Nat} (hc : w.cell? ⟨bs, 0, none⟩ = some (.int .i64 s)) (hP : opT.Pt w (.pointer (some ⟨bf, 0, none⟩)) f) (hf : opOk s f) (hl : xs.length = f.1.toNat) (hin : inS s xs) :
  Calls Tryz.prog 199 #[u, .pointer (some ⟨bf, 0, none⟩), .pointer (some ⟨bs, 0, none⟩)] w fun e w' => e = .returned (.bool (hasI xs (opV s f.2 xs))) ∧ Below w.heap.size w w' := by
 obtain ⟨fb, fo, fa, fc, hpe, hfb, hIf, f0, f1, hfx⟩ := pt_pair hP
 simp only [Value.pointer.injEq, Option.some.injEq, Addr.mk.injEq, and_true] at hpe
 obtain ⟨rfl, rfl⟩ := hpe
 obtain ⟨ua, uc, rfl⟩ := rd_slice hu
 obtain ⟨hs, har, hN, hfe, -, -⟩ := op_dims hf
 have HU := Lib.hid hu
 have HIN := Lib.hid hin
 have HF := Lib.hid hf
 have HL : Hid ((xs.length : Int) = f.1) := by unfold Hid; omega
 have HFR : Hid (opT.Rd w [.int .i64 f.1, .slice fa f.2.length fc] f) := pair_mk hIf hfx
 clear hu hin hf hfx hP hfe hN hl
 go_enter Tryz.func199, Tryz.ntmps199
 go_wp2_with fail
 refine (opAt_any w (f := f) HFR.out HU.out HF.out HL.out HIN.out).mono ?_
 rintro e w1 ⟨rfl, hb1⟩
 have HU1 := Lib.hid (HU.out.below hb1)
 go_wp2_with fail
 refine (ContainsI_any w1 HU1.out _).mono ?_
 rintro e _ ⟨rfl, rfl⟩
 go_wp2_with fail
 go_ret
 exact ⟨rfl, hb1⟩
set_option maxHeartbeats 1600000 in
theorem rising_any (w : World) {u : Value} {xs : List Int} (hu : intsT.Rd w [u] xs) (h0 : 0 < xs.length) (hl : xs.length ≤ 1000000) :
  Calls Tryz.prog 196 #[u] w fun e w' => ∃ ad c, e = .returned (.slice ad (compL (sortI xs)).length c) ∧ Below w.heap.size w w' := by
 obtain ⟨ua, uc, rfl⟩ := rd_slice hu
 have HU := Lib.hid hu
 clear hu
 go_enter Tryz.func196, Tryz.ntmps196
 go_wp2_with fail
 refine (Clone_any _ HU.out (by omega)).mono ?_
 rintro e w1 ⟨v1, rfl, hf1, hb1⟩
 obtain ⟨ca, cc, rfl⟩ := fr_slice hf1
 have HC := Lib.hid hf1
 have hz1 := hb1.size
 clear hf1
 go_wp2_with fail
 refine (SortI_any w1 HC.out (by omega)).mono ?_
 rintro e w2 ⟨rfl, hs2, ht2⟩
 have hb2 : Below w.heap.size w1 w2 := ht2.below hz1 (fun k hk h => by omega)
 have HS := Lib.hid hs2
 have hz2 := ht2.size
 clear hs2 ht2 HC
 go_wp2_with fail
 refine (compactI_any w2 HS.out (by rw [sortI_len]; omega) (by rw [sortI_len]; omega)).mono ?_
 rintro e w3 ⟨rfl, ht3⟩
 have hb3 : Below w.heap.size w2 w3 := ht3.below (by omega) (fun k hk h => by omega)
 go_wp2_with fail
 go_ret
 exact ⟨_, _, rfl, (hb1.trans hb2).trans hb3⟩
end Go.Proofs.YtnhdohednekhjaaGreatDoor
namespace Go.Proofs.YtnhdohednekhjaaGreatDoor
open Go.RowKit Go.Sort
/-- the values of a tuple at the places of two variables are right, as far as place n -/
def okR (sc tu : List Int) (i j a b : Int) (q : Nat) : Prop := (sc.getD q 0 = i → tu.getD q 0 = a) ∧ (sc.getD q 0 = j → tu.getD q 0 = b)
def okTo (sc tu : List Int) (i j a b : Int) (n : Nat) : Prop := ∀ q, q < n → okR sc tu i j a b q
def okT (sc tu : List Int) (i j a b : Int) : Prop := okTo sc tu i j a b sc.length ∧ agTo sc tu sc.length
end Go.Proofs.YtnhdohednekhjaaGreatDoor
namespace Go.Proofs.YtnhdohednekhjaaGreatDoor
open Go.RowKit Go.Sort
end Go.Proofs.YtnhdohednekhjaaGreatDoor
namespace Go.Proofs.YtnhdohednekhjaaGreatDoor
open Go.RowKit Go.Sort
end Go.Proofs.YtnhdohednekhjaaGreatDoor
namespace Go.Proofs.YtnhdohednekhjaaGreatDoor
open Go.RowKit Go.Sort
section
variable {t : Int × List (Int × List (List Int))} {x : Int × List (Int × List Int)}
end
end Go.Proofs.YtnhdohednekhjaaGreatDoor
namespace Go.Proofs.YtnhdohednekhjaaGreatDoor
open Go.RowKit Go.Sort
/-- two numbers, just made -/
theorem fr_ints2 {base : Nat} {w : World} {a b : Int} {e : TypeId} {g : Nat} (ha : I64 a) (hb : I64 b) (hg : w.heap.size = g) (hbs : base ≤ g) : intsT.Fr base (w.alloc (.cells #[.int .i64 a, .int .i64 b] e)) [.slice (some ⟨g, 0, none⟩) 2 2] [a, b] := by
 subst hg
 refine IR.fr (e := e) ⟨rfl, ?_, hbs, World.ownsRow_lit w #[.int .i64 a, .int .i64 b] 2 hbs (by decide) (by rfl)⟩ (by decide)
 intro x hx
 simp at hx
 rcases hx with rfl | rfl
 ·exact ha
 ·exact hb
end Go.Proofs.YtnhdohednekhjaaGreatDoor
