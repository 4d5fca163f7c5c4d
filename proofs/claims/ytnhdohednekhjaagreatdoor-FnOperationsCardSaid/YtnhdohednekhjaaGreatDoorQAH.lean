/-
Contracts: the graph of an operation.
Contracts: a polymorphism with given values, the reference's.
Plain: the first operation of a kind, and the first one with a value at a list, in the list of all.
Plain: FirstPolymorphism and PolymorphismWith against the list of all operations.
Plain: when a polymorphism with given values is found: when there is one.
Contracts: a polymorphism with given values, the reference's, whole.
Plain: how great an operation with given values is.
Contracts: the lists of the values of tuples at all places, both sides.
Contracts: the code of tuples of which there may be a hull, both sides.
Some rows of new data that now stand in a newer row: it is new data, too. No program is named here.
The hull of tuples: what it is; the relation of all tuples; contracts: the reference's hull.
Contracts: the hull of tuples, the reference's.
Contracts: the hull of tuples, the program's.
Contracts: the hull of tuples, whole, both sides.
Plain: the hull of tuples: what polymorphisms make of them.
Plain: the hull is a relation, and operations that keep the template keep it.
Contracts: whether two relations are the same, the reference's.
Contracts: the hull of a relation; whether a relation is definable; both sides.
Contracts: whether a relation is definable, both sides.
Contracts: an operation that breaks a relation, the program's.
Plain: the index of the first one of a kind, of the first one with a value; one number, just made.
Plain: whether a relation is its own hull, and the operation that breaks it where it is not.
Plain: the closure of a set of tuples under operations.
Plain: the graph of an operation, as a list; an operation found by its graph.
Contracts: the reference's tests of a kind: associative, thirds; whole.
Contracts: the reference's tests of a kind: thirds; whole.
Contracts: the kinds of an operation, both sides.
Plain: what FnOperations asks of compositions, minors, constants, dependence and kinds.
-/
import Derived.Test.YtnhdohednekhjaaGreatDoorQAG
import Derived.Test.YtnhdohednekhjaaGreatDoorQAC
import Derived.Test.YtnhdohednekhjaaGreatDoorQAE
import Derived.Test.YtnhdohednekhjaaGreatDoorQAB
import Derived.Test.YtnhdohednekhjaaGreatDoorQAD
namespace Go.Proofs.YtnhdohednekhjaaGreatDoor
open Go.RowKit Go.Sort
set_option maxHeartbeats 3200000 in
set_option maxRecDepth 100000 in
theorem graph1_any (w : World) {u : Value} {xs : List Int} (hu : intsT.Rd w [u] xs) {f : Int × List Int} {s : Int} {n bf bs : Nat} (hP : opT.Pt w (.pointer (some ⟨bf, 0, none⟩)) f) (hc : w.cell? ⟨bs, 0, none⟩ = some (.int .i64 s)) (hf : opOk s f) (hn : f.1 = (n : Int)) (hl : xs.length = n + 1) (hin : inS s xs) :
  Calls Tryz.prog 130 #[u, .pointer (some ⟨bf, 0, none⟩), .pointer (some ⟨bs, 0, none⟩)] w fun e w' => e = .returned (.bool (opV s f.2 (xs.take n) == xs.getD n 0)) ∧ Below w.heap.size w w' := by
 obtain ⟨fb, fo, fa, fc, hpe, hfb, hIf, f0, f1, hfx⟩ := pt_pair hP
 simp only [Value.pointer.injEq, Option.some.injEq, Addr.mk.injEq, and_true] at hpe
 obtain ⟨rfl, rfl⟩ := hpe
 have ha := hf.2.1
 have hn3 : 1 ≤ n ∧ n ≤ 3 := by omega
 have hx0 := hu
 obtain ⟨uad, uc, hv, huc, -, hce⟩ := ints_ex hu
 obtain rfl : u = _ := by simpa using hv
 obtain ⟨ub, uo, rfl, hub, hce⟩ := hce (by omega)
 have d0 := (hce n (by omega)).2
 have hxn : xs.getD n 0 = xs[n]'(by omega) := by rw [List.getD_eq_getElem?_getD, List.getElem?_eq_getElem (by omega)]; rfl
 rw [← hxn] at d0
 have HTK : Hid (intsT.Rd w [.slice (some ⟨ub, uo, none⟩) n uc] (xs.take n)) := by
  have h5 := rd_sub hx0 (i := 0) (m := n) (c' := uc) (by omega) (by omega) (by omega)
  unfold Hid
  simpa using h5
 have hbs := cell_lt hc
 have HF := Lib.hid hf
 have HFR : Hid (opT.Rd w (#[.int .i64 (n : Int), .slice fa f.2.length fc] : Array Value).toList f) := by
  unfold Hid
  have e : (Value.int .i64 (n : Int)) = .int .i64 f.1 := by rw [hn]
  rw [e]
  exact pair_mk hIf hfx
 have HLN : Hid (((xs.take n).length : Int) = f.1) := by unfold Hid; rw [List.length_take, hn]; omega
 have HIA : Hid (inS s (xs.take n)) := fun a ha => hin a (List.mem_of_mem_take ha)
 rw [hn] at f0
 have huc2 : n ≤ uc := by omega
 have huc3 : ((n : Int)) ≤ (uc : Int) := by omega
 have hnl : n < xs.length := by omega
 have hnl2 : ((n : Int)) < ((xs.length : Nat) : Int) := by omega
 clear hu hx0 hv hf hin hP hfx hIf hce hxn hn hl
 generalize xs.getD n 0 = x at d0 ⊢
 go_enter Tryz.func130, Tryz.ntmps130
 go_wp2_with fail
 refine wp_region_loose [exV (.agg #[.int .i64 (n : Int), .slice fa f.2.length fc]), exV (.int .i64 s), exV (.slice (some ⟨ub, uo, none⟩) xs.length uc), exV (.pointer (some ⟨bf, 0, none⟩)), exV (.int .i64 (n : Int)), exV (.slice (some ⟨ub, uo, none⟩) n uc), exV (.int .i64 (opV s f.2 (xs.take n))), exV (.slice (some ⟨ub, uo, none⟩) xs.length uc), exV (.pointer (some ⟨bf, 0, none⟩)), exV (.int .i64 (n : Int)), exV (.pointer (some ⟨ub, uo + n, none⟩)), exV (.int .i64 x), exV (.bool (opV s f.2 (xs.take n) == x)), exV (.bool (opV s f.2 (xs.take n) == x))] (by kernel_rfl) (by kernel_rfl) ⟨st_exV, st_exV, st_exV, st_exV, st_exV, st_exV, st_exV, st_exV, st_exV, st_exV, st_exV, st_exV, st_exV, st_exV, trivial⟩ ⟨?j1_0, ?j1_1, ?j1_2, ?j1_3, ?j1_4, ?j1_5, ?j1_6, ?j1_7, ?j1_8, ?j1_9, ?j1_10, ?j1_11, ?j1_12, ?j1_13, trivial⟩ ?hQ1
 case j1_0 =>
  intro a' w' hb hd
  have e1 : a'.tmps[1]?.getD undef = .pointer (some ⟨bf, 0, none⟩) := ev (slot_o hd 1 rfl rfl)
  have q : ∀ b o, b < w.heap.size → w'.cell? ⟨b, o, none⟩ = w.cell? ⟨b, o, none⟩ := (bcell hb).1
  go_simp
  exact ⟨Below.refl _ _, rfl⟩
 case j1_1 =>
  intro a' w' hb hd
  have e2 : a'.tmps[2]?.getD undef = .pointer (some ⟨bs, 0, none⟩) := ev (slot_o hd 2 rfl rfl)
  have q : ∀ b o, b < w.heap.size → w'.cell? ⟨b, o, none⟩ = w.cell? ⟨b, o, none⟩ := (bcell hb).1
  go_simp
  exact ⟨Below.refl _ _, rfl⟩
 case j1_2 =>
  intro a' w' hb hd
  have e0 : a'.tmps[0]?.getD undef = .slice (some ⟨ub, uo, none⟩) xs.length uc := ev (slot_o hd 0 rfl rfl)
  go_simp
  exact ⟨Below.refl _ _, rfl⟩
 case j1_3 =>
  intro a' w' hb hd
  have e1 : a'.tmps[1]?.getD undef = .pointer (some ⟨bf, 0, none⟩) := ev (slot_o hd 1 rfl rfl)
  go_simp
  exact ⟨Below.refl _ _, rfl⟩
 case j1_4 =>
  intro a' w' hb hd
  have e8 : a'.tmps[8]?.getD undef = .pointer (some ⟨bf, 0, none⟩) := ev (slot_w hd 8 (exV (.pointer (some ⟨bf, 0, none⟩))) rfl rfl)
  have q : ∀ b o, b < w.heap.size → w'.cell? ⟨b, o, none⟩ = w.cell? ⟨b, o, none⟩ := (bcell hb).1
  go_simp
  exact ⟨Below.refl _ _, rfl⟩
 case j1_5 =>
  intro a' w' hb hd
  have e7 : a'.tmps[7]?.getD undef = .slice (some ⟨ub, uo, none⟩) xs.length uc := ev (slot_w hd 7 (exV (.slice (some ⟨ub, uo, none⟩) xs.length uc)) rfl rfl)
  have e9 : a'.tmps[9]?.getD undef = .int .i64 (n : Int) := ev (slot_w hd 9 (exV (.int .i64 (n : Int))) rfl rfl)
  go_simp
  exact ⟨Below.refl _ _, rfl⟩
 case j1_6 =>
  intro a' w' hb hd
  have e5 : a'.tmps[5]?.getD undef = .agg #[.int .i64 (n : Int), .slice fa f.2.length fc] := ev (slot_w hd 5 (exV (.agg #[.int .i64 (n : Int), .slice fa f.2.length fc])) rfl rfl)
  have e6 : a'.tmps[6]?.getD undef = .int .i64 s := ev (slot_w hd 6 (exV (.int .i64 s)) rfl rfl)
  have e10 : a'.tmps[10]?.getD undef = .slice (some ⟨ub, uo, none⟩) n uc := ev (slot_w hd 10 (exV (.slice (some ⟨ub, uo, none⟩) n uc)) rfl rfl)
  go_simp
  exact ⟨Below.refl _ _, (opAt_any w' (HFR.out.below hb) (HTK.out.below hb) HF.out HLN.out HIA.out).mono fun e w'' ⟨he, hb⟩ => ⟨_, he, hb, rfl⟩⟩
 case j1_7 =>
  intro a' w' hb hd
  have e0 : a'.tmps[0]?.getD undef = .slice (some ⟨ub, uo, none⟩) xs.length uc := ev (slot_o hd 0 rfl rfl)
  go_simp
  exact ⟨Below.refl _ _, rfl⟩
 case j1_8 =>
  intro a' w' hb hd
  have e1 : a'.tmps[1]?.getD undef = .pointer (some ⟨bf, 0, none⟩) := ev (slot_o hd 1 rfl rfl)
  go_simp
  exact ⟨Below.refl _ _, rfl⟩
 case j1_9 =>
  intro a' w' hb hd
  have e13 : a'.tmps[13]?.getD undef = .pointer (some ⟨bf, 0, none⟩) := ev (slot_w hd 13 (exV (.pointer (some ⟨bf, 0, none⟩))) rfl rfl)
  have q : ∀ b o, b < w.heap.size → w'.cell? ⟨b, o, none⟩ = w.cell? ⟨b, o, none⟩ := (bcell hb).1
  go_simp
  exact ⟨Below.refl _ _, rfl⟩
 case j1_10 =>
  intro a' w' hb hd
  have e12 : a'.tmps[12]?.getD undef = .slice (some ⟨ub, uo, none⟩) xs.length uc := ev (slot_w hd 12 (exV (.slice (some ⟨ub, uo, none⟩) xs.length uc)) rfl rfl)
  have e14 : a'.tmps[14]?.getD undef = .int .i64 (n : Int) := ev (slot_w hd 14 (exV (.int .i64 (n : Int))) rfl rfl)
  go_simp
  exact ⟨Below.refl _ _, rfl⟩
 case j1_11 =>
  intro a' w' hb hd
  have e15 : a'.tmps[15]?.getD undef = .pointer (some ⟨ub, uo + n, none⟩) := ev (slot_w hd 15 (exV (.pointer (some ⟨ub, uo + n, none⟩))) rfl rfl)
  have q : ∀ b o, b < w.heap.size → w'.cell? ⟨b, o, none⟩ = w.cell? ⟨b, o, none⟩ := (bcell hb).1
  go_simp
  exact ⟨Below.refl _ _, rfl⟩
 case j1_12 =>
  intro a' w' hb hd
  have e11 : a'.tmps[11]?.getD undef = .int .i64 (opV s f.2 (xs.take n)) := ev (slot_w hd 11 (exV (.int .i64 (opV s f.2 (xs.take n)))) rfl rfl)
  have e16 : a'.tmps[16]?.getD undef = .int .i64 x := ev (slot_w hd 16 (exV (.int .i64 x)) rfl rfl)
  go_simp
  exact ⟨Below.refl _ _, rfl⟩
 case j1_13 =>
  intro a' w' hb hd
  have e17 : a'.tmps[17]?.getD undef = .bool (opV s f.2 (xs.take n) == x) := ev (slot_w hd 17 (exV (.bool (opV s f.2 (xs.take n) == x))) rfl rfl)
  go_simp
  exact ⟨Below.refl _ _, rfl⟩
 intro vs1 w1 hb1 H0
 obtain ⟨v1_0, _, rfl, p0, H1⟩ := HAll_cons H0
 obtain ⟨v1_1, _, rfl, p1, H2⟩ := HAll_cons H1
 obtain ⟨v1_2, _, rfl, p2, H3⟩ := HAll_cons H2
 obtain ⟨v1_3, _, rfl, p3, H4⟩ := HAll_cons H3
 obtain ⟨v1_4, _, rfl, p4, H5⟩ := HAll_cons H4
 obtain ⟨v1_5, _, rfl, p5, H6⟩ := HAll_cons H5
 obtain ⟨v1_6, _, rfl, p6, H7⟩ := HAll_cons H6
 obtain ⟨v1_7, _, rfl, p7, H8⟩ := HAll_cons H7
 obtain ⟨v1_8, _, rfl, p8, H9⟩ := HAll_cons H8
 obtain ⟨v1_9, _, rfl, p9, H10⟩ := HAll_cons H9
 obtain ⟨v1_10, _, rfl, p10, H11⟩ := HAll_cons H10
 obtain ⟨v1_11, _, rfl, p11, H12⟩ := HAll_cons H11
 obtain ⟨v1_12, _, rfl, p12, H13⟩ := HAll_cons H12
 obtain ⟨v1_13, _, rfl, p13, H14⟩ := HAll_cons H13
 obtain rfl := HAll_nil H14
 obtain rfl := p0 rfl
 obtain rfl := p1 rfl
 obtain rfl := p2 rfl
 obtain rfl := p3 rfl
 obtain rfl := p4 rfl
 obtain rfl := p5 rfl
 obtain rfl := p6 rfl
 obtain rfl := p7 rfl
 obtain rfl := p8 rfl
 obtain rfl := p9 rfl
 obtain rfl := p10 rfl
 obtain rfl := p11 rfl
 obtain rfl := p12 rfl
 obtain rfl := p13 rfl
 clear p0 p1 p2 p3 p4 p5 p6 p7 p8 p9 p10 p11 p12 p13 H0 H1 H2 H3 H4 H5 H6 H7 H8 H9 H10 H11 H12 H13 H14
 simp only [putAll, Act.put]
 go_simp
 go_wp2_with fail
 go_ret
 exact ⟨rfl, hb1⟩
def graB (s : Int) (n : Nat) (tab xs : List Int) : Bool := opV s tab (xs.take n) == xs.getD n 0
def graL (s : Int) (n ar N : Nat) (tab : List Int) : List (List Int) := relL s ar (graB s n tab) N
set_option maxHeartbeats 3200000 in
set_option maxRecDepth 100000 in
theorem GraphOfOp_any (w : World) {cs : Array Value} {f : Int × List Int} (h : opT.Rd w cs.toList f) {s : Int} {n ar N : Nat} (hf : opOk s f) (hn : f.1 = (n : Int)) (hra : ar = n + 1) (hN : s ^ ar = N) :
  Calls Tryz.prog 46 #[.int .i64 s, .agg cs] w (RetAC relT w ((ar : Int), graL s n ar N f.2) 0) := by
 have hs := hf.1
 have ha := hf.2.1
 unfold sizeOk at hs
 have hn3 : 1 ≤ n ∧ n ≤ 3 := by omega
 have hvo : tb (opOk s f) = true := tb_true hf
 have hfn : Hid (f.1 = (n : Int)) := hn
 have HRA := Lib.hid hra
 have har4 : ar ≤ 4 := by omega
 obtain ⟨u2, hv2, hI, hx⟩ := pair_ex h
 obtain rfl := agg_of hv2
 have H := Lib.hid h
 have HF := Lib.hid hf
 have hwr : IntKind.i64.wrap ((n : Int) + 1) = (ar : Int) := (wrap_small (by omega) (by omega)).trans (by omega)
 have hfv : (Value.int .i64 f.1) = .int .i64 (n : Int) := by rw [hn]
 have HFV := Lib.hid hfv
 clear h hx hv2 hf hI hn hfv hra
 go_enter Tryz.func46, Tryz.ntmps46
 go_wp2_with fail
 generalize hW : World.alloc (World.alloc (World.alloc w _) _) _ = W
 have hbW : Below w.heap.size w W := hW ▸ (bAA (w := w)).alloc (by simp; omega) _
 have hsW : w.heap.size + 3 ≤ W.heap.size := by rw [← hW]; simp
 have b0 : W.cell? ⟨w.heap.size, 0, none⟩ = some (.int .i64 s) := by rw [← hW]; simp [go_sem]
 have f0 : W.cell? ⟨w.heap.size + 1, 0, none⟩ = some (.int .i64 f.1) := by rw [← hW]; simp [go_sem]
 have f1 : W.cell? ⟨w.heap.size + 1, 1, none⟩ = some u2 := by rw [← hW]; simp [go_sem]
 have r0 : W.cell? ⟨w.heap.size + 1 + 1, 0, none⟩ = some (.int .i64 0) := by rw [← hW]; simp [go_sem]
 have r1 : W.cell? ⟨w.heap.size + 1 + 1, 1, none⟩ = some (.slice none 0 0) := by rw [← hW]; simp [go_sem]
 have q0 : W.frozen? ⟨w.heap.size + 1 + 1, 0, none⟩ = false := by rw [← hW]; simp [go_sem]
 have q1 : W.frozen? ⟨w.heap.size + 1 + 1, 1, none⟩ = false := by rw [← hW]; simp [go_sem]
 clear hW
 refine (ValidOp_any W (f := f) (H.out.below hbW) s).mono ?_
 rintro e w1 ⟨rfl, hb1⟩
 rw [hvo]
 have hz1 := hb1.size
 replace b0 := (cellB hb1 (by omega)).trans b0
 replace f0 := (cellB hb1 (by omega)).trans f0
 replace f1 := (cellB hb1 (by omega)).trans f1
 replace r0 := (cellB hb1 (by omega)).trans r0
 replace r1 := (cellB hb1 (by omega)).trans r1
 replace q0 := (frozenB hb1 (by omega)).trans q0
 replace q1 := (frozenB hb1 (by omega)).trans q1
 have hbw1 := bthen hbW hb1
 clear hvo
 have hPT : opT.Pt w1 (.pointer (some ⟨w.heap.size + 1, 0, none⟩)) f := ⟨_, 0, _, rfl, by omega, H.out.below hbw1, fun j hj => by
  rcases (show j = 0 ∨ j = 1 by simp at hj; omega) with rfl | rfl
  ·exact f0
  ·exact f1⟩
 have HPT := Lib.hid hPT
 clear hPT
 rw [HFV.out] at f0
 have hto : Hid (∀ W' u (k : Nat), Below w1.heap.size w1 W' → k < N → intsT.Rd W' [u] (digL s k ar) → Calls Tryz.prog 130 (#[u] ++ #[.pointer (some ⟨w.heap.size + 1, 0, none⟩), .pointer (some ⟨w.heap.size, 0, none⟩)]) W' fun e w' => e = .returned (.bool (graB s n f.2 (digL s k ar))) ∧ Below W'.heap.size W' w') := by
  intro W' u k hb _ hu
  exact graph1_any W' hu (HPT.out.below hb) ((cellB hb (by omega)).trans b0) HF.out hfn.out (digL_len.trans HRA.out) (digL_in (by omega))
 go_wp2_with fail
 refine (relOf_any w1 s ar hs (by omega) 130 _ (enters Tryz.func130 (by kernel_rfl) rfl) (graB s n f.2) N hN hto).mono ?_
 rintro e w5 ⟨cs, rfl, hfr, hb5⟩
 have hz5 := hb5.size
 replace b0 := (cellB hb5 (by omega)).trans b0
 replace r0 := (cellB hb5 (by omega)).trans r0
 replace r1 := (cellB hb5 (by omega)).trans r1
 replace q0 := (frozenB hb5 (by omega)).trans q0
 replace q1 := (frozenB hb5 (by omega)).trans q1
 have hlT : relL s ar (graB s n f.2) N = graL s n ar N f.2 := rfl
 rw [hlT] at hfr
 obtain ⟨ta, tc, rfl⟩ := fr_pair hfr
 obtain ⟨g0, g1⟩ := set2_cells (x := .int .i64 (ar : Int)) (y := .slice ta (graL s n ar N f.2).length tc) r0 r1
 have HFF : Hid (relT.Fr w.heap.size ((w5.setCell ⟨w.heap.size + 1 + 1, 0, none⟩ (.int .i64 (ar : Int))).setCell ⟨w.heap.size + 1 + 1, 1, none⟩ (.slice ta (graL s n ar N f.2).length tc)) [.int .i64 (ar : Int), .slice ta (graL s n ar N f.2).length tc] ((ar : Int), graL s n ar N f.2)) := ((hfr.set (by simp; omega)).set (by simp; omega)).mono (by omega)
 have HBB : Hid (Below w.heap.size w ((w5.setCell ⟨w.heap.size + 1 + 1, 0, none⟩ (.int .i64 (ar : Int))).setCell ⟨w.heap.size + 1 + 1, 1, none⟩ (.slice ta (graL s n ar N f.2).length tc))) := ((bthen hbw1 hb5).setCell (by simp; omega) _).setCell (by simp; omega) _
 clear hfr hto
 go_wp2_with fail
 refine bodyPost_ret (v := .tuple #[.agg #[.int .i64 (ar : Int), .slice ta (graL s n ar N f.2).length tc], .int .i64 0]) (by simp [results, Tryz.results46, go_sem, g0, g1]) rfl ⟨[.int .i64 (ar : Int), .slice ta (graL s n ar N f.2).length tc], rfl, HFF.out, HBB.out⟩
end Go.Proofs.YtnhdohednekhjaaGreatDoor
namespace Go.Proofs.YtnhdohednekhjaaGreatDoor
open Go.RowKit Go.Sort
section
variable {t : Tpl} {ar : Int} {ls : List (List Int)} {vs f : List Int}
end
end Go.Proofs.YtnhdohednekhjaaGreatDoor
namespace Go.Proofs.YtnhdohednekhjaaGreatDoor
open Go.RowKit Go.Sort
/-- the first one of a list for which p, or none -/
def FstR {α : Type} (p : α → Bool) (K : List α) (hit : List α → α → Prop) (miss : Prop) : Prop := (∃ K1 x K2, K = K1 ++ x :: K2 ∧ (∀ y ∈ K1, p y = false) ∧ p x = true ∧ hit K1 x) ∨ ((∀ y ∈ K, p y = false) ∧ miss)
theorem FstR.pre {α : Type} {p : α → Bool} {A B : List α} {hit hit' : List α → α → Prop} {miss miss' : Prop} (hA : ∀ y ∈ A, p y = false) (h : FstR p B hit miss) (h1 : ∀ K x, hit K x → hit' (A ++ K) x) (h2 : miss → miss') : FstR p (A ++ B) hit' miss' := by
 rcases h with ⟨K1, x, K2, rfl, g1, g2, g3⟩ | ⟨g1, g2⟩
 ·refine .inl ⟨A ++ K1, x, K2, by simp, fun y hy => (List.mem_append.1 hy).elim (hA y) (g1 y), g2, h1 _ _ g3⟩
 ·exact .inr ⟨fun y hy => (List.mem_append.1 hy).elim (hA y) (g1 y), h2 g2⟩
theorem FstR.post {α : Type} {p : α → Bool} {A B : List α} {hit' : List α → α → Prop} {K1 : List α} {x : α} {K2 : List α} {miss : Prop} (hA : A = K1 ++ x :: K2) (g1 : ∀ y ∈ K1, p y = false) (g2 : p x = true) (g3 : hit' K1 x) : FstR p (A ++ B) hit' miss :=
 .inl ⟨K1, x, K2 ++ B, by rw [hA]; simp, g1, g2, g3⟩
end Go.Proofs.YtnhdohednekhjaaGreatDoor
namespace Go.Proofs.YtnhdohednekhjaaGreatDoor
open Go.RowKit Go.Sort
theorem FstR.map {α β : Type} {g : α → β} {p : α → Bool} {p' : β → Bool} {K : List α} {hit : List α → α → Prop} {hit' : β → Prop} {miss miss' : Prop} (hp : ∀ y, p' (g y) = p y) (h : FstR p K hit miss) (h1 : ∀ K1 x, hit K1 x → hit' (g x)) (h2 : miss → miss') : FstR p' (K.map g) (fun _ x => hit' x) miss' := by
 rcases h with ⟨K1, x, K2, rfl, g1, g2, g3⟩ | ⟨g1, g2⟩
 ·refine .inl ⟨K1.map g, g x, K2.map g, by simp, fun y hy => ?_, by rw [hp]; exact g2, h1 _ _ g3⟩
  obtain ⟨z, hz, rfl⟩ := List.mem_map.1 hy
  rw [hp]; exact g1 z hz
 ·refine .inr ⟨fun y hy => ?_, h2 g2⟩
  obtain ⟨z, hz, rfl⟩ := List.mem_map.1 hy
  rw [hp]; exact g1 z hz
theorem FstR.idx {α : Type} {p : α → Bool} {K : List α} {hit : α → Prop} {miss : Prop} (h : FstR p K (fun _ x => hit x) miss) :
  (∃ i, ∃ h : i < K.length, p K[i] = true ∧ (∀ j (hj : j < i), p (K[j]'(by omega)) = false) ∧ hit K[i]) ∨ ((∀ j (h : j < K.length), p K[j] = false) ∧ miss) := by
 rcases h with ⟨K1, x, K2, rfl, g1, g2, g3⟩ | ⟨g1, g2⟩
 ·refine .inl ⟨K1.length, by simp, ?_, fun j hj => ?_, ?_⟩
  ·simpa using g2
  ·rw [List.getElem_append_left hj]
   exact g1 _ (List.getElem_mem hj)
  ·simpa using g3
 ·exact .inr ⟨fun j hj => g1 _ (List.getElem_mem hj), g2⟩
section
variable {t : Tpl} {ar : Int}
end
end Go.Proofs.YtnhdohednekhjaaGreatDoor
namespace Go.Proofs.YtnhdohednekhjaaGreatDoor
open Go.RowKit Go.Sort
section
variable {t : Tpl} {ar : Int} {ls : List (List Int)} {vs : List Int}
end
end Go.Proofs.YtnhdohednekhjaaGreatDoor
namespace Go.Proofs.YtnhdohednekhjaaGreatDoor
open Go.RowKit Go.Sort
section
variable {t : Tpl} {ar : Int} {ls : List (List Int)} {vs : List Int}
end
end Go.Proofs.YtnhdohednekhjaaGreatDoor
namespace Go.Proofs.YtnhdohednekhjaaGreatDoor
open Go.RowKit Go.Sort
end Go.Proofs.YtnhdohednekhjaaGreatDoor
namespace Go.Proofs.YtnhdohednekhjaaGreatDoor
open Go.RowKit Go.Sort
end Go.Proofs.YtnhdohednekhjaaGreatDoor
namespace Go.Proofs.YtnhdohednekhjaaGreatDoor
open Go.RowKit Go.Sort
section
variable {t : Tpl} {u : List (List Int)}
end
end Go.Proofs.YtnhdohednekhjaaGreatDoor
namespace Go.Proofs.YtnhdohednekhjaaGreatDoor
open Go.RowKit Go.Sort
end Go.Proofs.YtnhdohednekhjaaGreatDoor
namespace Go.Proofs.YtnhdohednekhjaaGreatDoor
open Go.RowKit Go.Sort
section
variable {t : Tpl} {u : List (List Int)} {k : Nat}
end
end Go.Proofs.YtnhdohednekhjaaGreatDoor
namespace Go.Proofs.YtnhdohednekhjaaGreatDoor
open Go.RowKit Go.Sort
end Go.Proofs.YtnhdohednekhjaaGreatDoor
namespace Go.Proofs.YtnhdohednekhjaaGreatDoor
open Go.RowKit Go.Sort
end Go.Proofs.YtnhdohednekhjaaGreatDoor
namespace Go.Proofs.YtnhdohednekhjaaGreatDoor
open Go.RowKit Go.Sort
end Go.Proofs.YtnhdohednekhjaaGreatDoor
namespace Go.Proofs.YtnhdohednekhjaaGreatDoor
open Go.RowKit Go.Sort
section
variable {t : Tpl} {u : List (List Int)}
end
end Go.Proofs.YtnhdohednekhjaaGreatDoor
namespace Go.Proofs.YtnhdohednekhjaaGreatDoor
open Go.RowKit Go.Sort
section
variable {t : Tpl} {u : List (List Int)}
end
end Go.Proofs.YtnhdohednekhjaaGreatDoor
namespace Go.Proofs.YtnhdohednekhjaaGreatDoor
open Go.RowKit Go.Sort
end Go.Proofs.YtnhdohednekhjaaGreatDoor
namespace Go.Proofs.YtnhdohednekhjaaGreatDoor
open Go.RowKit Go.Sort
abbrev RelV := Int × List (List Int)
section
variable {t : Tpl} {r : RelV}
end
end Go.Proofs.YtnhdohednekhjaaGreatDoor
namespace Go.Proofs.YtnhdohednekhjaaGreatDoor
open Go.RowKit Go.Sort
end Go.Proofs.YtnhdohednekhjaaGreatDoor
namespace Go.Proofs.YtnhdohednekhjaaGreatDoor
open Go.RowKit Go.Sort
section
variable {t : Tpl} {r : RelV}
end
end Go.Proofs.YtnhdohednekhjaaGreatDoor
namespace Go.Proofs.YtnhdohednekhjaaGreatDoor
open Go.RowKit Go.Sort
section
variable {t : Tpl} {ar : Int}
end
end Go.Proofs.YtnhdohednekhjaaGreatDoor
namespace Go.Proofs.YtnhdohednekhjaaGreatDoor
open Go.RowKit Go.Sort
theorem ltL_irrefl {x : List Int} : ¬ ltL x x := by unfold ltL; rw [cmpL_self]; omega
theorem pw_ext : ∀ {xs ys : List (List Int)}, xs.Pairwise ltL → ys.Pairwise ltL → (∀ a, a ∈ xs ↔ a ∈ ys) → xs = ys
 | [], [], _, _, _ => rfl
 | [], y :: ys, _, _, h => absurd ((h y).2 (List.mem_cons_self ..)) (by simp)
 | x :: xs, [], _, _, h => absurd ((h x).1 (List.mem_cons_self ..)) (by simp)
 | x :: xs, y :: ys, hx, hy, h => by
  obtain ⟨x1, x2⟩ := List.pairwise_cons.1 hx
  obtain ⟨y1, y2⟩ := List.pairwise_cons.1 hy
  have e : x = y := by
   rcases List.mem_cons.1 ((h x).1 (List.mem_cons_self ..)) with e | e
   ·exact e
   ·rcases List.mem_cons.1 ((h y).2 (List.mem_cons_self ..)) with e' | e'
    ·exact e'.symm
    ·exact absurd (ltL_trans (y1 x e) (x1 y e')) ltL_irrefl
  subst e
  rw [pw_ext x2 y2 fun a => ⟨fun ha => ?_, fun ha => ?_⟩]
  ·rcases List.mem_cons.1 ((h a).1 (List.mem_cons_of_mem _ ha)) with e | e
   ·subst e; exact absurd (x1 _ ha) ltL_irrefl
   ·exact e
  ·rcases List.mem_cons.1 ((h a).2 (List.mem_cons_of_mem _ ha)) with e | e
   ·subst e; exact absurd (y1 _ ha) ltL_irrefl
   ·exact e
theorem sortedL_pw {xs : List (List Int)} (h : sortedL xs) : xs.Pairwise ltL := List.pairwise_iff_getElem.2 fun _ _ _ hj hij => sortedL_lt h hj hij
section
variable {t : Tpl} {r : RelV}
end
end Go.Proofs.YtnhdohednekhjaaGreatDoor
namespace Go.Proofs.YtnhdohednekhjaaGreatDoor
open Go.RowKit Go.Sort
/-- what operations make of tuples, and of what they make -/
inductive Clo (s : Int) (ops : List (Int × List Int)) (ar : Nat) (T : List (List Int)) : List Int → Prop
 | base {l : List Int} (h : l ∈ T) : Clo s ops ar T l
 | step {f : Int × List Int} {ts : List (List Int)} (hf : f ∈ ops) (hl : (ts.length : Int) = f.1) (h : ∀ l ∈ ts, Clo s ops ar T l) : Clo s ops ar T (madeL s f.2 ts ar)
def tupP (s : Int) (ar : Nat) (l : List Int) : Prop := l.length = ar ∧ ∀ a ∈ l, 0 ≤ a ∧ a ≤ s - 1
/-- all tuples for which something is so, in order -/
theorem relL_iff {s : Int} {ar N : Nat} {p : List Int → Bool} (hs : 1 ≤ s) (hN : s ^ ar = N) {l : List Int} (hl : tupP s ar l) : l ∈ relL s ar p N ↔ p l = true := by
 have hb := idx_lt hs hl.1 hl.2
 rw [hN] at hb
 have e := dig_of hs hl.1 hl.2
 have h := relL_mem (s := s) (n := ar) (N := N) (p := p) (k := (idxL s 0 l).toNat) (by omega)
 rw [show (((idxL s 0 l).toNat : Nat) : Int) = idxL s 0 l by omega, e] at h
 rw [← h, tb_iff]
theorem relL_tup {s : Int} {ar N : Nat} {p : List Int → Bool} (hs : 1 ≤ s) {l : List Int} (h : l ∈ relL s ar p N) : tupP s ar l := by
 obtain ⟨h1, -⟩ := List.mem_filter.1 h
 obtain ⟨k, -, rfl⟩ := List.mem_map.1 h1
 exact ⟨digL_len, digL_in hs⟩
theorem relL_ok {s : Int} {ar N : Nat} {p : List Int → Bool} (hs : sizeOk s) (har : 1 ≤ ar ∧ ar ≤ 4) (hN : s ^ ar = N) : relOk s ((ar : Int), relL s ar p N) := by
 have h1 := hs.1
 refine ⟨hs, ⟨by show (1 : Int) ≤ ar; omega, by show (ar : Int) ≤ 4; omega⟩, fun i hi => ⟨?_, relL_sorted h1 hN i hi⟩⟩
 have := relL_tup h1 (List.getElem_mem hi)
 exact ⟨by show ((_ : Nat) : Int) = (ar : Int); rw [this.1], this.2⟩
end Go.Proofs.YtnhdohednekhjaaGreatDoor
namespace Go.Proofs.YtnhdohednekhjaaGreatDoor
open Go.RowKit Go.Sort
theorem idxL_snoc {s a : Int} {xs : List Int} : idxL s 0 (xs ++ [a]) = idxL s 0 xs * s + a := by rw [idxL_append]; rfl
/-- the graph's row at a place of the table -/
def graR (s : Int) (n : Nat) (tab : List Int) (k : Nat) : List Int := digL s k n ++ [tab.getD k 0]
theorem graR_len {s : Int} {n k : Nat} {tab : List Int} : (graR s n tab k).length = n + 1 := by simp [graR, digL_len]
theorem tab_in {s : Int} {f : Int × List Int} (hf : opOk s f) {k : Nat} (hk : k < f.2.length) : 0 ≤ f.2.getD k 0 ∧ f.2.getD k 0 ≤ s - 1 := by
 rw [List.getD_eq_getElem?_getD, List.getElem?_eq_getElem hk]
 exact hf.2.2.2 _ (List.getElem_mem hk)
theorem graR_in {s : Int} {f : Int × List Int} (hf : opOk s f) {n k : Nat} (hk : k < f.2.length) : ∀ a ∈ graR s n f.2 k, 0 ≤ a ∧ a ≤ s - 1 := fun a ha => by
 rcases List.mem_append.1 ha with h | h
 ·exact digL_in hf.1.1 a h
 ·rw [List.mem_singleton.1 h]
  exact tab_in hf hk
theorem graR_idx {s : Int} {f : Int × List Int} (hf : opOk s f) {n k : Nat} (hn : f.1 = (n : Int)) (hk : k < f.2.length) : idxL s 0 (graR s n f.2 k) = (k : Int) * s + f.2.getD k 0 := by
 obtain ⟨-, -, h3, -, -, -⟩ := op_dims hf
 have e : f.1.toNat = n := by omega
 rw [e] at h3
 have hd := dig_idx (s := s) (idx := (k : Int)) (n := n) hf.1.1 (by omega) (by omega) n (Nat.le_refl _)
 rw [Nat.sub_self, Int.pow_zero, Int.ediv_one, List.take_of_length_le (by rw [digL_len]; exact Nat.le_refl _)] at hd
 unfold graR
 rw [idxL_snoc, hd]
theorem graR_lt {s : Int} {f : Int × List Int} (hf : opOk s f) {n i j : Nat} (hn : f.1 = (n : Int)) (hij : i < j) (hj : j < f.2.length) : ltL (graR s n f.2 i) (graR s n f.2 j) := by
 refine lt_of_idx (a := 0) hf.1.1 (by rw [graR_len, graR_len]) (graR_in hf (by omega)) (graR_in hf hj) ?_
 rw [graR_idx hf hn (by omega), graR_idx hf hn hj]
 have h1 := tab_in hf (show i < f.2.length by omega)
 have h2 := tab_in hf hj
 have h3 : ((i : Int) + 1) * s ≤ (j : Int) * s := Int.mul_le_mul_of_nonneg_right (by omega) (by have := hf.1.1; omega)
 rw [Int.add_mul, Int.one_mul] at h3
 omega
theorem graL_eq {s : Int} {f : Int × List Int} (hf : opOk s f) {n N : Nat} (hn : f.1 = (n : Int)) (hN : s ^ (n + 1) = N) : graL s n (n + 1) N f.2 = (List.range f.2.length).map (graR s n f.2) := by
 obtain ⟨-, -, h3, -, -, -⟩ := op_dims hf
 have en : f.1.toNat = n := by omega
 rw [en] at h3
 have hs := hf.1.1
 refine pw_ext (sortedL_pw (relL_sorted hs hN)) ?_ fun l => ?_
 ·rw [List.pairwise_map]
  exact List.pairwise_lt_range.imp_of_mem fun _ hb h => graR_lt hf hn h (by simpa using hb)
 constructor
 ·intro hl
  have ht := relL_tup hs hl
  have hg := (relL_iff hs hN ht).1 hl
  have hg' : opV s f.2 (l.take n) = l.getD n 0 := by simpa [graB] using hg
  have hln := ht.1
  have htl : (l.take n).length = n := by rw [List.length_take]; omega
  have hti : ∀ a ∈ l.take n, 0 ≤ a ∧ a ≤ s - 1 := fun a ha => ht.2 a (List.mem_of_mem_take ha)
  have hb := idx_lt hs htl hti
  have hd := dig_of hs htl hti
  have ek : (((idxL s 0 (l.take n)).toNat : Nat) : Int) = idxL s 0 (l.take n) := by omega
  refine List.mem_map.2 ⟨(idxL s 0 (l.take n)).toNat, by rw [List.mem_range]; omega, ?_⟩
  unfold graR
  rw [ek, hd]
  have ev : f.2.getD (idxL s 0 (l.take n)).toNat 0 = l.getD n 0 := hg'
  rw [ev, List.getD_eq_getElem?_getD, List.getElem?_eq_getElem (by omega), Option.getD_some, ← List.take_succ_eq_append_getElem (by omega), List.take_of_length_le (by omega)]
 ·intro hl
  obtain ⟨k, hk, rfl⟩ := List.mem_map.1 hl
  have hk' : k < f.2.length := by simpa using hk
  refine (relL_iff hs hN ⟨graR_len, graR_in hf hk'⟩).2 ?_
  have hv := opV_dig hf hk'
  rw [en] at hv
  unfold graB graR
  rw [List.take_left' digL_len, hv, List.getD_eq_getElem?_getD (l := digL s (k : Int) n ++ _), List.getElem?_append_right (by rw [digL_len]; exact Nat.le_refl _), digL_len, Nat.sub_self]
  simp
theorem graL_ok {s : Int} {f : Int × List Int} (hf : opOk s f) {n N : Nat} (hn : f.1 = (n : Int)) (hN : s ^ (n + 1) = N) : relOk s (((n + 1 : Nat) : Int), graL s n (n + 1) N f.2) := by
 have := hf.2.1
 exact relL_ok hf.1 (by omega) hN
end Go.Proofs.YtnhdohednekhjaaGreatDoor
namespace Go.Proofs.YtnhdohednekhjaaGreatDoor
open Go.RowKit Go.Sort
set_option maxHeartbeats 3200000 in
set_option maxRecDepth 100000 in
theorem l02Associative_any (w : World) {v : Value} {f : Int × List Int} (h : opT.Pt w v f) {s : Int} (hf : opOk s f) (h2 : f.1 = 2) :
  Calls Tryz.prog 210 #[.int .i64 s, v] w fun e w' => e = .returned (.bool (tb (assoP s f))) ∧ Below w.heap.size w w' := by
 obtain ⟨hs, har, -, hfe, h1, h64⟩ := op_dims hf
 have HP := Lib.hid h
 have HF := Lib.hid hf
 obtain ⟨fb, fo, fa, fc, rfl, hfb, -, -, -, -⟩ := pt_pair h
 obtain ⟨N, hN⟩ : ∃ N : Nat, s ^ 3 = (N : Int) := ⟨(s ^ 3).toNat, by have : 0 < s ^ 3 := Int.pow_pos (by omega); omega⟩
 have hNb : N ≤ 64 := by
  have h1 := pow_mono' (s := s) (c := 4) (by omega) (by omega) 3
  simp at h1
  omega
 have HAS := Lib.hid (asso_all (f := f) hs.1 hN)
 have HN : Hid (s ^ ((3 : Int)).toNat = N) := hN
 have hl2 : ∀ x y : Int, ((([x, y] : List Int).length : Nat) : Int) = f.1 := fun _ _ => by rw [h2]; rfl
 have HL2 := Lib.hid hl2
 clear h hf hfe hN h2 hl2
 go_enter Tryz.func210, Tryz.ntmps210
 go_wp2_with fail
 go_loopw [5] (fun i wr => ∃ k : Nat, k ≤ N ∧ i = .int .i64 k ∧ (∀ j : Nat, j < k → ∀ a b c, digL s (j : Int) 3 = [a, b, c] → opV s f.2 [opV s f.2 [a, b], c] = opV s f.2 [a, opV s f.2 [b, c]]) ∧ Below w.heap.size w wr) (fun i _ => N - (intOf i).toNat)
 case atStart => exact ⟨0, Nat.zero_le _, rfl, fun j hj => absurd hj (Nat.not_lt_zero j), Below.refl _ _⟩
 case round =>
  obtain ⟨k, hk, rfl, hall, hbv⟩ := hrel
  obtain ⟨wv, rfl⟩ : ∃ wv : World, wv = wr := ⟨_, rfl⟩
  have HALL := Lib.hid hall
  have hzv := hbv.size
  clear hall
  by_cases hkl : k < N
  ·go_wp2_with (go_at_call 145; refine (l01Power_any _ s (3 : Int) (by omega) (by omega) (by omega)).mono ?_; rintro e w' ⟨rfl, rfl⟩; rw [HN.out])
   refine (l01Digits_any _ s (k : Int) 3 (by omega) (by omega) (by omega) (by omega) (by omega)).mono ?_
   rintro e wd ⟨dv, rfl, hdf, hbd⟩
   obtain ⟨a, b, c, hT⟩ := dig3 s k
   have hin := digL_in (s := s) (idx := (k : Int)) (n := 3) hs.1
   rw [hT] at hdf hin
   have ra : 0 ≤ a ∧ a ≤ s - 1 := hin a (by simp)
   have rb : 0 ≤ b ∧ b ≤ s - 1 := hin b (by simp)
   have rc : 0 ≤ c ∧ c ≤ s - 1 := hin c (by simp)
   have r1 := opV_in HF.out (HL2.out a b) (in2 ra rb)
   have r3 := opV_in HF.out (HL2.out b c) (in2 rb rc)
   obtain ⟨V1, hV1⟩ : ∃ V, opV s f.2 [a, b] = V := ⟨_, rfl⟩
   obtain ⟨V3, hV3⟩ : ∃ V, opV s f.2 [b, c] = V := ⟨_, rfl⟩
   rw [hV1] at r1
   rw [hV3] at r3
   obtain ⟨V2, hV2⟩ : ∃ V, opV s f.2 [V1, c] = V := ⟨_, rfl⟩
   obtain ⟨V4, hV4⟩ : ∃ V, opV s f.2 [a, V3] = V := ⟨_, rfl⟩
   obtain ⟨da, dc, hvd, hdc, -, hce⟩ := ints_ex hdf.rd
   obtain rfl : dv = _ := by simpa using hvd
   obtain ⟨db, dO, rfl, hdb, hce⟩ := hce (by simp)
   have d0 : wd.cell? ⟨db, dO, none⟩ = some (.int .i64 a) := (hce 0 (by simp)).2
   have d2 : wd.cell? ⟨db, dO + 2, none⟩ = some (.int .i64 c) := (hce 2 (by simp)).2
   have hdc3 : 3 ≤ dc := hdc
   have hd2 : (2 : Int) ≤ (dc : Int) := by omega
   have hd3 : (3 : Int) ≤ (dc : Int) := by omega
   have hd1 : ¬ (dc = 1) := by omega
   have hd4 : ¬ (dc = 0) := by omega
   have HAB : Hid (∀ c', 2 ≤ c' → intsT.Rd wd [.slice (some ⟨db, dO, none⟩) 2 c'] [a, b]) := fun c' hc' => by have := rd_sub hdf.rd (i := 0) (m := 2) (c' := c') (by simp) (by omega) hc'; simpa using this
   have HBC : Hid (∀ c', 2 ≤ c' → intsT.Rd wd [.slice (some ⟨db, dO + 1, none⟩) 2 c'] [b, c]) := fun c' hc' => by have := rd_sub hdf.rd (i := 1) (m := 2) (c' := c') (by simp) (by omega) hc'; simpa using this
   have HNO : Hid (V2 ≠ V4 → tb (assoP s f) = false) := fun hne => tb_false (fun hi => hne (by have := HAS.out.1 hi k hkl a b c hT; rw [hV1, hV3, hV2, hV4] at this; exact this))
   have HYES : Hid (V2 = V4 → ∀ j : Nat, j < k + 1 → ∀ a b c, digL s (j : Int) 3 = [a, b, c] → opV s f.2 [opV s f.2 [a, b], c] = opV s f.2 [a, opV s f.2 [b, c]]) := fun he j hj a' b' c' hd => by
    rcases Nat.lt_succ_iff_lt_or_eq.1 hj with h | h
    ·exact HALL.out j h a' b' c' hd
    ·subst h
     rw [hT] at hd
     simp only [List.cons.injEq, and_true] at hd
     obtain ⟨rfl, rfl, rfl⟩ := hd
     rw [hV1, hV3, hV2, hV4]
     exact he
   have HRa := Lib.hid ra
   have HRb := Lib.hid rb
   have HRc := Lib.hid rc
   have HR1 := Lib.hid r1
   have HR3 := Lib.hid r3
   have E1 := Lib.hid hV1
   have E2 := Lib.hid hV2
   have E3 := Lib.hid hV3
   have E4 := Lib.hid hV4
   have hbd0 := bthen hbv hbd
   have hzd := hbd0.size
   have hI1 := i64_in hs r1
   have hI3 := i64_in hs r3
   have hIa := i64_in hs ra
   have hIc := i64_in hs rc
   have HI := Lib.hid (And.intro hI1 (And.intro hI3 (And.intro hIa hIc)))
   clear hdf hce hvd hdc hT hin ra rb rc r1 r3 hV1 hV2 hV3 hV4 hI1 hI3 hIa hIc
   go_wp2_with fail
   refine wp_region_T (fun w' => w'.cell? ⟨db, dO + 2, none⟩ = some (.int .i64 c)) [] (by kernel_rfl) d2 (fun hHeld => ?_)
   refine wpAnyT_take (i := 0) (v := ?_) rfl (by kernel_rfl) (fun _ _ _ h => h) (Or.inl ⟨by rfl, ?_⟩) (by assumption) ?_
   rotate_left
   ·(intro w hSw; (try dsimp only at hSw); go_simp <;> with_reducible rfl)
   go_simp
   refine wpAnyT_take (i := 1) (v := ?_) rfl (by kernel_rfl) (fun _ _ _ h => h) (Or.inl ⟨by rfl, ?_⟩) (by assumption) ?_
   rotate_left
   ·(intro w hSw; (try dsimp only at hSw); go_simp <;> with_reducible rfl)
   go_simp
   refine wpAnyT_take (i := 2) (v := ?_) rfl (by kernel_rfl) (fun _ _ _ h => h) (Or.inl ⟨by rfl, ?_⟩) (by assumption) ?_
   rotate_left
   ·(intro w hSw; (try dsimp only at hSw); go_simp <;> with_reducible rfl)
   go_simp
   refine wpAnyT_take (i := 3) (v := ?_) rfl (by kernel_rfl) (fun _ _ _ h => h) (Or.inl ⟨by rfl, ?_⟩) (by assumption) ?_
   rotate_left
   ·(intro w hSw; (try dsimp only at hSw); go_simp <;> with_reducible rfl)
   go_simp
   refine wpAnyT_take (i := 4) (v := ?_) rfl (by kernel_rfl) (fun _ _ _ h => h) (Or.inl ⟨by rfl, ?_⟩) (by assumption) ?_
   rotate_left
   ·(intro w hSw; (try dsimp only at hSw); go_simp <;> with_reducible rfl)
   go_simp
   refine wpAnyT_take (i := 5) (v := ?_) rfl (by kernel_rfl) (fun _ _ _ h => h) (Or.inl ⟨by rfl, ?_⟩) (by assumption) ?_
   rotate_left
   ·(intro w hSw; (try dsimp only at hSw); go_simp <;> with_reducible rfl)
   go_simp
   refine wpAnyT_take (i := 7) (v := ?_) rfl (by kernel_rfl) (fun _ _ _ h => h) (Or.inl ⟨by rfl, ?_⟩) (by assumption) ?_
   rotate_left
   ·(intro w hSw; (try dsimp only at hSw); go_simp <;> with_reducible rfl)
   go_simp
   refine wpAnyT_take (i := 8) (v := ?_) rfl (by kernel_rfl) (fun _ _ _ h => h) (Or.inl ⟨by rfl, ?_⟩) (by assumption) ?_
   rotate_left
   ·(intro w hSw; (try dsimp only at hSw); go_simp <;> with_reducible rfl)
   go_simp
   refine wpAnyT_take (i := 9) (v := ?_) rfl (by kernel_rfl) (fun _ _ _ h => h) (Or.inl ⟨by rfl, ?_⟩) (by assumption) ?_
   rotate_left
   ·(intro w hSw; (try dsimp only at hSw); go_simp <;> with_reducible rfl)
   go_simp
   have hv0 : Below wd.heap.size wd wd.drew := bD
   have hz3 := hv0.size
   replace d0 := (cellB hv0 hdb).trans d0
   have hdb3 : db < wd.drew.heap.size := by omega
   have HAB3 : Hid (∀ c', 2 ≤ c' → intsT.Rd wd.drew [.slice (some ⟨db, dO, none⟩) 2 c'] [a, b]) := fun c' hc' => (HAB.out c' hc').below hv0
   have HBC3 : Hid (∀ c', 2 ≤ c' → intsT.Rd wd.drew [.slice (some ⟨db, dO + 1, none⟩) 2 c'] [b, c]) := fun c' hc' => (HBC.out c' hc').below hv0
   have hbd3 := bthen hbd0 hv0
   clear d2 hdb
   generalize wd.drew = w3 at hHeld hv0 hz3 d0 HAB3 HBC3 hbd3 hdb3 ⊢
   have d2 := hHeld
   refine wpAnyT_one (i := 6) rfl (by kernel_rfl) (fun K hK => ?_)
   go_simp
   go_at_call 122
   refine (l02ValueV w3 (f := f) (HP.out.below hbd3) (HAB3.out _ (by omega)) HF.out (HL2.out a b) (in2 HRa.out HRb.out)).mono ?_
   rintro e w4 ⟨rfl, hq4⟩
   rw [E1.out]
   have hb4 := hq4.below
   have hz4 := hb4.size
   have hbd4 := bthen hbd3 hb4
   replace d0 := (cellB hb4 (by omega)).trans d0
   replace d2 := (cellB hb4 (by omega)).trans d2
   have HBC4 : Hid (∀ c', 2 ≤ c' → intsT.Rd w4 [.slice (some ⟨db, dO + 1, none⟩) 2 c'] [b, c]) := fun c' hc' => (HBC3.out c' hc').below hb4
   have hdb4 : db < w4.heap.size := by omega
   clear HAB3 HBC3 hq4
   dsimp only
   refine hK.out _ _ d2 (fun hHeld => ?_)
   clear hK K
   refine wpAnyT_one (i := 10) rfl (by kernel_rfl) (fun K hK => ?_)
   go_simp
   refine hK.out _ _ (by go_keep) (fun hHeld => ?_)
   clear hK K
   refine wpAnyT_one (i := 11) rfl (by kernel_rfl) (fun K hK => ?_)
   go_simp
   go_at_call 122
   refine (l02ValueV _ (f := f) (HP.out.below (bthen hbd4 bA)) (fr_ints2 (base := 0) HI.out.1 HI.out.2.2.2 rfl (Nat.zero_le _)).rd HF.out (HL2.out V1 c) (in2 HR1.out HRc.out)).mono ?_
   rintro e w6 ⟨rfl, hq6⟩
   rw [E2.out]
   have hb6 : Below w4.heap.size w4 w6 := bthen bA hq6.below
   have hz6 := hb6.size
   have hbd6 := bthen hbd4 hb6
   replace d0 := (cellB hb6 hdb4).trans d0
   replace d2 := (cellB hb6 hdb4).trans d2
   have HBC6 : Hid (∀ c', 2 ≤ c' → intsT.Rd w6 [.slice (some ⟨db, dO + 1, none⟩) 2 c'] [b, c]) := fun c' hc' => (HBC4.out c' hc').below hb6
   have hdb6 : db < w6.heap.size := by omega
   clear HBC4 hq6
   dsimp only
   refine hK.out _ _ d2 (fun hHeld => ?_)
   clear hK K
   refine wpAnyT_take (i := 12) (v := ?_) rfl (by kernel_rfl) (fun _ _ _ h => h) (Or.inl ⟨by rfl, ?_⟩) (by assumption) ?_
   rotate_left
   ·(intro w hSw; (try dsimp only at hSw); go_simp <;> with_reducible rfl)
   go_simp
   refine wpAnyT_done (by kernel_rfl) ?_ _
   go_simp
   go_wp2_with fail
   refine wp_region_T (fun w' => w'.cell? ⟨db, dO, none⟩ = some (.int .i64 a)) [] (by kernel_rfl) d0 (fun hHeld => ?_)
   refine wpAnyT_take (i := 0) (v := ?_) rfl (by kernel_rfl) (fun _ _ _ h => h) (Or.inl ⟨by rfl, ?_⟩) (by assumption) ?_
   rotate_left
   ·(intro w hSw; (try dsimp only at hSw); go_simp <;> with_reducible rfl)
   go_simp
   refine wpAnyT_take (i := 1) (v := ?_) rfl (by kernel_rfl) (fun _ _ _ h => h) (Or.inl ⟨by rfl, ?_⟩) (by assumption) ?_
   rotate_left
   ·(intro w hSw; (try dsimp only at hSw); go_simp <;> with_reducible rfl)
   go_simp
   refine wpAnyT_take (i := 2) (v := ?_) rfl (by kernel_rfl) (fun _ _ _ h => h) (Or.inl ⟨by rfl, ?_⟩) (by assumption) ?_
   rotate_left
   ·(intro w hSw; (try dsimp only at hSw); go_simp <;> with_reducible rfl)
   go_simp
   refine wpAnyT_take (i := 3) (v := ?_) rfl (by kernel_rfl) (fun _ _ _ h => h) (Or.inl ⟨by rfl, ?_⟩) (by assumption) ?_
   rotate_left
   ·(intro w hSw; (try dsimp only at hSw); go_simp <;> with_reducible rfl)
   go_simp
   refine wpAnyT_take (i := 4) (v := ?_) rfl (by kernel_rfl) (fun _ _ _ h => h) (Or.inl ⟨by rfl, ?_⟩) (by assumption) ?_
   rotate_left
   ·(intro w hSw; (try dsimp only at hSw); go_simp <;> with_reducible rfl)
   go_simp
   refine wpAnyT_take (i := 5) (v := ?_) rfl (by kernel_rfl) (fun _ _ _ h => h) (Or.inl ⟨by rfl, ?_⟩) (by assumption) ?_
   rotate_left
   ·(intro w hSw; (try dsimp only at hSw); go_simp <;> with_reducible rfl)
   go_simp
   refine wpAnyT_take (i := 6) (v := ?_) rfl (by kernel_rfl) (fun _ _ _ h => h) (Or.inl ⟨by rfl, ?_⟩) (by assumption) ?_
   rotate_left
   ·(intro w hSw; (try dsimp only at hSw); go_simp <;> with_reducible rfl)
   go_simp
   refine wpAnyT_take (i := 7) (v := ?_) rfl (by kernel_rfl) (fun _ _ _ h => h) (Or.inl ⟨by rfl, ?_⟩) (by assumption) ?_
   rotate_left
   ·(intro w hSw; (try dsimp only at hSw); go_simp <;> with_reducible rfl)
   go_simp
   refine wpAnyT_take (i := 8) (v := ?_) rfl (by kernel_rfl) (fun _ _ _ h => h) (Or.inl ⟨by rfl, ?_⟩) (by assumption) ?_
   rotate_left
   ·(intro w hSw; (try dsimp only at hSw); go_simp <;> with_reducible rfl)
   go_simp
   have hv7 : Below w6.heap.size w6 w6.drew := bD
   have hz7 := hv7.size
   have HBC7 : Hid (∀ c', 2 ≤ c' → intsT.Rd w6.drew [.slice (some ⟨db, dO + 1, none⟩) 2 c'] [b, c]) := fun c' hc' => (HBC6.out c' hc').below hv7
   have hbd7 := bthen hbd6 hv7
   have hdb7 : db < w6.drew.heap.size := by omega
   clear d0 d2
   generalize w6.drew = w7 at hHeld hv7 hz7 HBC7 hbd7 hdb7 ⊢
   have d0 := hHeld
   refine wpAnyT_one (i := 9) rfl (by kernel_rfl) (fun K hK => ?_)
   go_simp
   go_at_call 122
   refine (l02ValueV w7 (f := f) (HP.out.below hbd7) (HBC7.out _ (by omega)) HF.out (HL2.out b c) (in2 HRb.out HRc.out)).mono ?_
   rintro e w8 ⟨rfl, hq8⟩
   rw [E3.out]
   have hb8 := hq8.below
   have hz8 := hb8.size
   have hbd8 := bthen hbd7 hb8
   replace d0 := (cellB hb8 (by omega)).trans d0
   clear HBC7 hq8
   dsimp only
   refine hK.out _ _ d0 (fun hHeld => ?_)
   clear hK K
   refine wpAnyT_one (i := 10) rfl (by kernel_rfl) (fun K hK => ?_)
   go_simp
   refine hK.out _ _ (by go_keep) (fun hHeld => ?_)
   clear hK K
   refine wpAnyT_one (i := 11) rfl (by kernel_rfl) (fun K hK => ?_)
   go_simp
   go_at_call 122
   refine (l02ValueV _ (f := f) (HP.out.below (bthen hbd8 bA)) (fr_ints2 (base := 0) HI.out.2.2.1 HI.out.2.1 rfl (Nat.zero_le _)).rd HF.out (HL2.out a V3) (in2 HRa.out HR3.out)).mono ?_
   rintro e w9 ⟨rfl, hq9⟩
   rw [E4.out]
   have hb9 : Below w8.heap.size w8 w9 := bthen bA hq9.below
   have hbd9 := bthen hbd8 hb9
   have hdb8 : db < w8.heap.size := by omega
   replace d0 := (cellB hb9 hdb8).trans d0
   clear hq9
   dsimp only
   refine hK.out _ _ d0 (fun hHeld => ?_)
   clear hK K
   refine wpAnyT_take (i := 12) (v := ?_) rfl (by kernel_rfl) (fun _ _ _ h => h) (Or.inl ⟨by rfl, ?_⟩) (by assumption) ?_
   rotate_left
   ·(intro w hSw; (try dsimp only at hSw); go_simp <;> with_reducible rfl)
   go_simp
   refine wpAnyT_done (by kernel_rfl) ?_ _
   go_simp
   cases hc : (V2 != V4)
   ·have HY := Lib.hid (HYES.out (by simpa using hc))
    clear HYES HNO
    go_wp2_with fail
    go_roundw
    case rel => exact ⟨k + 1, by omega, by go_num, HY.out, hbd9⟩
    case measure => simp [intOf]; omega
   ·have HR := Lib.hid (HNO.out (by simpa using hc))
    clear HYES HNO
    go_wp2_with fail
    go_ret
    exact ⟨ret_bool HR.out.symm, hbd9⟩
  ·obtain rfl : k = N := by omega
   have HR := Lib.hid (tb_true (HAS.out.2 HALL.out))
   go_wp2_with (go_at_call 145; refine (l01Power_any _ s (3 : Int) (by omega) (by omega) (by omega)).mono ?_; rintro e w' ⟨rfl, rfl⟩; rw [HN.out])
   go_ret
   exact ⟨ret_bool HR.out.symm, hbv⟩
end Go.Proofs.YtnhdohednekhjaaGreatDoor
namespace Go.Proofs.YtnhdohednekhjaaGreatDoor
open Go.RowKit Go.Sort
/-- the value that is due -/
def dueT (odd : Bool) (x y : Int) : Int := match odd with
 | true => y
 | false => x
/-- what three values tell -/
def badT (mid : Bool) (V1 V2 V3 d : Int) : Bool := (V1 != d) || (V3 != d) || (mid && (V2 != d))
set_option maxHeartbeats 3200000 in
set_option maxRecDepth 100000 in
theorem l02Thirds_any (w : World) {v : Value} {f : Int × List Int} (h : opT.Pt w v f) {s : Int} (hf : opOk s f) (mid odd : Bool) :
  Calls Tryz.prog 211 #[.int .i64 s, v, .bool mid, .bool odd] w fun e w' => e = .returned (.bool (tb (thirdP s f (dueT odd) mid))) ∧ Below w.heap.size w w' := by
 obtain ⟨hs, har, -, hfe, h1, h64⟩ := op_dims hf
 have HP := Lib.hid h
 have HF := Lib.hid hf
 obtain ⟨fb, fo, fa, fc, rfl, hfb, -, c0, -, -⟩ := pt_pair h
 cases h3 : (f.1 != 3)
 rotate_left
 ·have HR : Hid (tb (thirdP s f (dueT odd) mid) = false) := tb_false (fun hh => by rw [hh.1] at h3; exact absurd h3 (by decide))
  clear h hf hfe
  go_enter Tryz.func211, Tryz.ntmps211
  go_wp2_with fail
  go_ret
  exact ⟨ret_bool HR.out.symm, (by repeat (first | exact Below.refl _ _ | exact bA | assumption | refine Below.setCell ?_ (by first | omega | (simp; try omega)) _ | refine Below.alloc ?_ (by first | omega | (simp; try omega)) _ | refine Below.drew ?_ | refine bDN ?_ | refine bthen ?_ (by assumption)))⟩
 have h33 : f.1 = 3 := by simpa using h3
 rw [h33] at c0
 have HL3 : Hid (∀ x y z : Int, ((([x, y, z] : List Int).length : Nat) : Int) = f.1) := fun _ _ _ => by rw [h33]; rfl
 obtain ⟨S, rfl⟩ : ∃ S : Nat, s = S := ⟨s.toNat, by omega⟩
 have HTH : Hid (thirdP S f (dueT odd) mid ↔ ∀ x y : Nat, x < S → y < S → badT mid (opV S f.2 [(x : Int), x, y]) (opV S f.2 [(x : Int), y, x]) (opV S f.2 [(y : Int), x, x]) (dueT odd x y) = false) := by
  unfold Hid thirdP
  constructor
  ·rintro ⟨-, h⟩ x y hx hy
   obtain ⟨g1, g2, g3⟩ := h x y ⟨by omega, by omega⟩ ⟨by omega, by omega⟩
   unfold badT
   rw [g1, g2]
   cases mid
   ·simp
   ·rw [g3 rfl]; simp
  ·refine fun h => ⟨h33, fun x y hx hy => ?_⟩
   have := h x.toNat y.toNat (by omega) (by omega)
   rw [show ((x.toNat : Nat) : Int) = x by omega, show ((y.toNat : Nat) : Int) = y by omega] at this
   unfold badT at this
   simp only [Bool.or_eq_false_iff, bne_eq_false_iff_eq] at this
   obtain ⟨⟨g1, g2⟩, g3⟩ := this
   refine ⟨g1, g2, fun hm => ?_⟩
   subst hm
   simpa using g3
 clear h hf hfe h33 h3
 go_enter Tryz.func211, Tryz.ntmps211
 go_wp2_with fail
 go_loopw [9] (fun i wr => ∃ k : Nat, k ≤ S ∧ i = .int .i64 k ∧ (∀ x : Nat, x < k → ∀ y : Nat, y < S → badT mid (opV S f.2 [(x : Int), x, y]) (opV S f.2 [(x : Int), y, x]) (opV S f.2 [(y : Int), x, x]) (dueT odd x y) = false) ∧ Below w.heap.size w wr) (fun i _ => S - (intOf i).toNat)
 case atStart => exact ⟨0, Nat.zero_le _, rfl, fun j hj => absurd hj (Nat.not_lt_zero j), Below.refl _ _⟩
 case round =>
  obtain ⟨k, hk, rfl, hall, hbv⟩ := hrel
  obtain ⟨wv, rfl⟩ : ∃ wv : World, wv = wr := ⟨_, rfl⟩
  have HALL := Lib.hid hall
  have hzv := hbv.size
  clear hall
  by_cases hkl : k < S
  ·go_wp2_with fail
   go_loopw [10] (fun i wr => ∃ q : Nat, q ≤ S ∧ i = .int .i64 q ∧ (∀ y : Nat, y < q → badT mid (opV S f.2 [(k : Int), k, y]) (opV S f.2 [(k : Int), y, k]) (opV S f.2 [(y : Int), k, k]) (dueT odd k y) = false) ∧ Below wv.heap.size wv wr) (fun i _ => S - (intOf i).toNat)
   case atStart => exact ⟨0, Nat.zero_le _, rfl, fun j hj => absurd hj (Nat.not_lt_zero j), Below.refl _ _⟩
   case round =>
    obtain ⟨q, hq, rfl, hal2, hbq⟩ := hrel
    obtain ⟨wq, rfl⟩ : ∃ wq : World, wq = wr := ⟨_, rfl⟩
    have HAL2 := Lib.hid hal2
    have hbq0 := bthen hbv hbq
    clear hal2
    by_cases hql : q < S
    ·have rx : 0 ≤ (k : Int) ∧ (k : Int) ≤ (S : Int) - 1 := by omega
     have ry : 0 ≤ (q : Int) ∧ (q : Int) ≤ (S : Int) - 1 := by omega
     have HNO : Hid (badT mid (opV S f.2 [(k : Int), k, q]) (opV S f.2 [(k : Int), q, k]) (opV S f.2 [(q : Int), k, k]) (dueT odd k q) = true → tb (thirdP S f (dueT odd) mid) = false) := fun hb => tb_false (fun hi => by rw [HTH.out.1 hi k q hkl hql] at hb; cases hb)
     have HYES : Hid (badT mid (opV S f.2 [(k : Int), k, q]) (opV S f.2 [(k : Int), q, k]) (opV S f.2 [(q : Int), k, k]) (dueT odd k q) = false → ∀ y : Nat, y < q + 1 → badT mid (opV S f.2 [(k : Int), k, y]) (opV S f.2 [(k : Int), y, k]) (opV S f.2 [(y : Int), k, k]) (dueT odd k y) = false) := fun hb y hy => (Nat.lt_succ_iff_lt_or_eq.1 hy).elim (HAL2.out y) (fun e => by subst e; exact hb)
     obtain ⟨V1, hV1⟩ : ∃ V, opV S f.2 [(k : Int), k, q] = V := ⟨_, rfl⟩
     obtain ⟨V2, hV2⟩ : ∃ V, opV S f.2 [(k : Int), q, k] = V := ⟨_, rfl⟩
     obtain ⟨V3, hV3⟩ : ∃ V, opV S f.2 [(q : Int), k, k] = V := ⟨_, rfl⟩
     rw [hV1, hV2, hV3] at HNO HYES
     have E1 := Lib.hid hV1
     have E2 := Lib.hid hV2
     have E3 := Lib.hid hV3
     have HRX := Lib.hid rx
     have HRY := Lib.hid ry
     have HIX := Lib.hid (i64_in hs rx)
     have HIY := Lib.hid (i64_in hs ry)
     clear hV1 hV2 hV3 rx ry
     have HD : Hid (∃ d, d = dueT odd (k : Int) (q : Int)) := ⟨_, rfl⟩
     have hstep : ∀ d : Int, dueT odd (k : Int) (q : Int) = d → (odd = true → d = (q : Int)) ∧ (odd = false → d = (k : Int)) := by
      rintro d rfl
      exact ⟨fun h => by rw [h]; rfl, fun h => by rw [h]; rfl⟩
     clear hstep HD
     cases odd
     all_goals
      simp only [dueT] at HNO HYES
      go_wp2_with fail
      refine (l02ValueV _ (f := f) (HP.out.below (bthen hbq0 bA)) (fr_ints3 (base := 0) HIX.out HIX.out HIY.out rfl (Nat.zero_le _)).rd HF.out (HL3.out k k q) (in3 HRX.out HRX.out HRY.out)).mono ?_
      rintro e w1 ⟨rfl, hq1⟩
      rw [E1.out]
      have hb1 : Below wq.heap.size wq w1 := bthen bA hq1.below
      have hbq1 := bthen hbq0 hb1
      clear hq1
     ·skip
      cases a1 : (V1 != (k : Int))
      rotate_left
      ·have HR := Lib.hid (HNO.out (by simp [badT, a1]))
       go_wp2_with fail
       go_ret
       exact ⟨ret_bool HR.out.symm, hbq1⟩
      go_wp2_with fail
      refine (l02ValueV _ (f := f) (HP.out.below (bthen hbq1 bA)) (fr_ints3 (base := 0) HIY.out HIX.out HIX.out rfl (Nat.zero_le _)).rd HF.out (HL3.out q k k) (in3 HRY.out HRX.out HRX.out)).mono ?_
      rintro e w2 ⟨rfl, hq2⟩
      rw [E3.out]
      have hb2 : Below w1.heap.size w1 w2 := bthen bA hq2.below
      have hbq2 := bthen hbq1 hb2
      have hbv2 := bthen hb1 hb2
      clear hq2
      cases a3 : (V3 != (k : Int))
      rotate_left
      ·have HR := Lib.hid (HNO.out (by simp [badT, a3]))
       go_wp2_with fail
       go_ret
       exact ⟨ret_bool HR.out.symm, hbq2⟩
      cases mid
      ·have HY := Lib.hid (HYES.out (by simp [badT, a1, a3]))
       go_wp2_with fail
       go_roundw
       case rel => exact ⟨q + 1, by omega, by go_num, HY.out, bthen hbq hbv2⟩
       case measure => simp [intOf]; omega
      go_wp2_with fail
      refine (l02ValueV _ (f := f) (HP.out.below (bthen hbq2 bA)) (fr_ints3 (base := 0) HIX.out HIY.out HIX.out rfl (Nat.zero_le _)).rd HF.out (HL3.out k q k) (in3 HRX.out HRY.out HRX.out)).mono ?_
      rintro e w3 ⟨rfl, hq3⟩
      rw [E2.out]
      have hb3 : Below w2.heap.size w2 w3 := bthen bA hq3.below
      have hbq3 := bthen hbq2 hb3
      have hbv3 := bthen hbv2 hb3
      clear hq3
      cases a2 : (V2 != (k : Int))
      ·have HY := Lib.hid (HYES.out (by simp [badT, a1, a3, a2]))
       go_wp2_with fail
       go_roundw
       case rel => exact ⟨q + 1, by omega, by go_num, HY.out, bthen hbq hbv3⟩
       case measure => simp [intOf]; omega
      ·have HR := Lib.hid (HNO.out (by simp [badT, a2]))
       go_wp2_with fail
       go_ret
       exact ⟨ret_bool HR.out.symm, hbq3⟩
     ·skip
      cases a1 : (V1 != (q : Int))
      rotate_left
      ·have HR := Lib.hid (HNO.out (by simp [badT, a1]))
       go_wp2_with fail
       go_ret
       exact ⟨ret_bool HR.out.symm, hbq1⟩
      go_wp2_with fail
      refine (l02ValueV _ (f := f) (HP.out.below (bthen hbq1 bA)) (fr_ints3 (base := 0) HIY.out HIX.out HIX.out rfl (Nat.zero_le _)).rd HF.out (HL3.out q k k) (in3 HRY.out HRX.out HRX.out)).mono ?_
      rintro e w2 ⟨rfl, hq2⟩
      rw [E3.out]
      have hb2 : Below w1.heap.size w1 w2 := bthen bA hq2.below
      have hbq2 := bthen hbq1 hb2
      have hbv2 := bthen hb1 hb2
      clear hq2
      cases a3 : (V3 != (q : Int))
      rotate_left
      ·have HR := Lib.hid (HNO.out (by simp [badT, a3]))
       go_wp2_with fail
       go_ret
       exact ⟨ret_bool HR.out.symm, hbq2⟩
      cases mid
      ·have HY := Lib.hid (HYES.out (by simp [badT, a1, a3]))
       go_wp2_with fail
       go_roundw
       case rel => exact ⟨q + 1, by omega, by go_num, HY.out, bthen hbq hbv2⟩
       case measure => simp [intOf]; omega
      go_wp2_with fail
      refine (l02ValueV _ (f := f) (HP.out.below (bthen hbq2 bA)) (fr_ints3 (base := 0) HIX.out HIY.out HIX.out rfl (Nat.zero_le _)).rd HF.out (HL3.out k q k) (in3 HRX.out HRY.out HRX.out)).mono ?_
      rintro e w3 ⟨rfl, hq3⟩
      rw [E2.out]
      have hb3 : Below w2.heap.size w2 w3 := bthen bA hq3.below
      have hbq3 := bthen hbq2 hb3
      have hbv3 := bthen hbv2 hb3
      clear hq3
      cases a2 : (V2 != (q : Int))
      ·have HY := Lib.hid (HYES.out (by simp [badT, a1, a3, a2]))
       go_wp2_with fail
       go_roundw
       case rel => exact ⟨q + 1, by omega, by go_num, HY.out, bthen hbq hbv3⟩
       case measure => simp [intOf]; omega
      ·have HR := Lib.hid (HNO.out (by simp [badT, a2]))
       go_wp2_with fail
       go_ret
       exact ⟨ret_bool HR.out.symm, hbq3⟩
    ·obtain rfl : q = S := by omega
     have HDONE : Hid (∀ x : Nat, x < k + 1 → ∀ y : Nat, y < q → badT mid (opV q f.2 [(x : Int), x, y]) (opV q f.2 [(x : Int), y, x]) (opV q f.2 [(y : Int), x, x]) (dueT odd x y) = false) := fun x hx y hy => (Nat.lt_succ_iff_lt_or_eq.1 hx).elim (fun h => HALL.out x h y hy) (fun e => by subst e; exact HAL2.out y hy)
     go_wp2_with fail
     go_roundw
     case rel => exact ⟨k + 1, by omega, by go_num, HDONE.out, hbq0⟩
     case measure => simp [intOf]; omega
  ·obtain rfl : k = S := by omega
   have HR := Lib.hid (tb_true (HTH.out.2 (fun x y hx hy => HALL.out x hx y hy)))
   go_wp2_with fail
   go_ret
   exact ⟨ret_bool HR.out.symm, hbv⟩
section
variable {s : Int} {f : Int × List Int}
theorem third_7 : kindB s f 7 = tb (thirdP s f (dueT false) true) := by
 rw [kind_7]
 rfl
theorem third_8 : kindB s f 8 = tb (thirdP s f (dueT true) true) := by
 rw [kind_8]
 rfl
theorem third_9 : kindB s f 9 = tb (thirdP s f (dueT true) false) := by
 rw [kind_9]
 rfl
set_option maxHeartbeats 3200000 in
theorem l02Kind_any (w : World) {v : Value} (h : opT.Pt w v f) (hf : opOk s f) {k : Int} (hk : 1 ≤ k ∧ k ≤ 10) :
  Calls Tryz.prog 129 #[.int .i64 s, v, .int .i64 k] w fun e w' => e = .returned (.bool (kindB s f k)) ∧ Below w.heap.size w w' := by
 have HP := Lib.hid h
 have HF := Lib.hid hf
 obtain ⟨fb, fo, fa, fc, rfl, hfb, -, c0, -, -⟩ := pt_pair h
 clear h hf
 rcases (show k = 1 ∨ k = 2 ∨ k = 3 ∨ k = 4 ∨ k = 5 ∨ k = 6 ∨ k = 7 ∨ k = 8 ∨ k = 9 ∨ k = 10 by omega) with rfl | rfl | rfl | rfl | rfl | rfl | rfl | rfl | rfl | rfl
 ·rw [kind_1]
  go_enter Tryz.func129, Tryz.ntmps129
  go_wp2_with fail
  refine (l02FlatP_any w HP.out HF.out).mono ?_
  rintro e w1 ⟨rfl, hb1⟩
  go_wp2_with fail
  go_ret
  exact ⟨rfl, hb1⟩
 ·rw [kind_2]
  go_enter Tryz.func129, Tryz.ntmps129
  go_wp2_with fail
  refine (l02FlatC_any w HP.out HF.out).mono ?_
  rintro e w1 ⟨rfl, hb1⟩
  go_wp2_with fail
  go_ret
  exact ⟨rfl, hb1⟩
 ·rw [kind_3]
  go_enter Tryz.func129, Tryz.ntmps129
  go_wp2_with fail
  refine (l02Idempotent_any w HP.out HF.out).mono ?_
  rintro e w1 ⟨rfl, hb1⟩
  go_wp2_with fail
  go_ret
  exact ⟨rfl, hb1⟩
 ·rw [kind_4]
  go_enter Tryz.func129, Tryz.ntmps129
  go_wp2_with fail
  refine (l02Conservative_any w HP.out HF.out).mono ?_
  rintro e w1 ⟨rfl, hb1⟩
  go_wp2_with fail
  go_ret
  exact ⟨rfl, hb1⟩
 ·cases h2 : (f.1 == 2)
  ·have HT : Hid (kindB s f 5 = false) := by unfold Hid; rw [kind_5]; exact tb_false (fun hh => by rw [hh.1] at h2; exact absurd h2 (by decide))
   go_enter Tryz.func129, Tryz.ntmps129
   go_wp2_with fail
   go_ret
   exact ⟨ret_bool HT.out.symm, (by repeat (first | exact Below.refl _ _ | exact bA | assumption | refine Below.setCell ?_ (by first | omega | (simp; try omega)) _ | refine Below.alloc ?_ (by first | omega | (simp; try omega)) _ | refine Below.drew ?_ | refine bDN ?_ | refine bthen ?_ (by assumption)))⟩
  ·have HT : Hid (tb (symP s f) = kindB s f 5) := by unfold Hid; rw [kind_5]; exact tb_congr ⟨fun h => ⟨by simpa using h2, h⟩, fun h => h.2⟩
   go_enter Tryz.func129, Tryz.ntmps129
   go_wp2_with fail
   refine (l02Symmetric_any w HP.out HF.out).mono ?_
   rintro e w1 ⟨rfl, hb1⟩
   rw [HT.out]
   go_wp2_with fail
   go_ret
   exact ⟨rfl, hb1⟩
 ·cases h2 : (f.1 == 2)
  ·have HT : Hid (kindB s f 6 = false) := by unfold Hid; rw [kind_6]; exact tb_false (fun hh => by rw [hh.1] at h2; exact absurd h2 (by decide))
   go_enter Tryz.func129, Tryz.ntmps129
   go_wp2_with fail
   go_ret
   exact ⟨ret_bool HT.out.symm, (by repeat (first | exact Below.refl _ _ | exact bA | assumption | refine Below.setCell ?_ (by first | omega | (simp; try omega)) _ | refine Below.alloc ?_ (by first | omega | (simp; try omega)) _ | refine Below.drew ?_ | refine bDN ?_ | refine bthen ?_ (by assumption)))⟩
  ·have h22 : f.1 = 2 := by simpa using h2
   have H22 := Lib.hid h22
   have HK : Hid (∀ p q r : Bool, tb (symP s f) = p → tb (idemP s f) = q → tb (assoP s f) = r → kindB s f 6 = (p && q && r)) := by
    rintro p q r rfl rfl rfl
    rw [kind_6, tb_and, tb_and]
    exact tb_congr ⟨fun ⟨_, b, c, d⟩ => ⟨⟨b, c⟩, d⟩, fun ⟨⟨b, c⟩, d⟩ => ⟨h22, b, c, d⟩⟩
   clear h22
   go_enter Tryz.func129, Tryz.ntmps129
   go_wp2_with fail
   refine (l02Symmetric_any w HP.out HF.out).mono ?_
   rintro e w1 ⟨rfl, hb1⟩
   cases h5 : tb (symP s f)
   ·have HR : Hid (kindB s f 6 = false) := by unfold Hid; rw [HK.out _ _ _ h5 rfl rfl]; rfl
    go_wp2_with fail
    go_ret
    exact ⟨ret_bool HR.out.symm, hb1⟩
   have H5 := Lib.hid h5
   clear h5
   go_wp2_with fail
   refine (l02Idempotent_any w1 (HP.out.below hb1) HF.out).mono ?_
   rintro e w2 ⟨rfl, hb2⟩
   have hbb := bthen hb1 hb2
   cases h3 : tb (idemP s f)
   ·have HR : Hid (kindB s f 6 = false) := by unfold Hid; rw [HK.out _ _ _ H5.out h3 rfl]; rfl
    go_wp2_with fail
    go_ret
    exact ⟨ret_bool HR.out.symm, hbb⟩
   have HR : Hid (tb (assoP s f) = kindB s f 6) := by unfold Hid; rw [HK.out _ _ _ H5.out h3 rfl]; rfl
   clear h3
   go_wp2_with fail
   refine (l02Associative_any w2 (HP.out.below hbb) HF.out H22.out).mono ?_
   rintro e w3 ⟨rfl, hb3⟩
   rw [HR.out]
   go_wp2_with fail
   go_ret
   exact ⟨rfl, bthen hbb hb3⟩
 ·rw [third_7]
  go_enter Tryz.func129, Tryz.ntmps129
  go_wp2_with fail
  refine (l02Thirds_any w HP.out HF.out true false).mono ?_
  rintro e w1 ⟨rfl, hb1⟩
  go_wp2_with fail
  go_ret
  exact ⟨rfl, hb1⟩
 ·rw [third_8]
  go_enter Tryz.func129, Tryz.ntmps129
  go_wp2_with fail
  refine (l02Thirds_any w HP.out HF.out true true).mono ?_
  rintro e w1 ⟨rfl, hb1⟩
  go_wp2_with fail
  go_ret
  exact ⟨rfl, hb1⟩
 ·rw [third_9]
  go_enter Tryz.func129, Tryz.ntmps129
  go_wp2_with fail
  refine (l02Thirds_any w HP.out HF.out false true).mono ?_
  rintro e w1 ⟨rfl, hb1⟩
  go_wp2_with fail
  go_ret
  exact ⟨rfl, hb1⟩
 ·rw [kind_10]
  go_enter Tryz.func129, Tryz.ntmps129
  go_wp2_with fail
  refine (l02Symmetric_any w HP.out HF.out).mono ?_
  rintro e w1 ⟨rfl, hb1⟩
  go_wp2_with fail
  go_ret
  exact ⟨rfl, hb1⟩
end
end Go.Proofs.YtnhdohednekhjaaGreatDoor
namespace Go.Proofs.YtnhdohednekhjaaGreatDoor
open Go.RowKit Go.Sort
/-- the kinds up to k -/
noncomputable def kdsL (s : Int) (f : Int × List Int) (k : Nat) : List Int := ((List.range k).map fun i : Nat => ((i + 1 : Nat) : Int)).filter fun j => kindB s f j
noncomputable def kdsV (s : Int) (f : Int × List Int) : List Int := kdsL s f 10
theorem kds_yes {s : Int} {f : Int × List Int} {k : Nat} (h : kindB s f ((k + 1 : Nat) : Int) = true) : kdsL s f k ++ [((k + 1 : Nat) : Int)] = kdsL s f (k + 1) := by
 unfold kdsL
 rw [List.range_succ, List.map_append, List.filter_append]
 congr 1
 simp only [List.map_cons, List.map_nil, List.filter_cons, h, if_true, List.filter_nil]
theorem kds_no {s : Int} {f : Int × List Int} {k : Nat} (h : kindB s f ((k + 1 : Nat) : Int) = false) : kdsL s f k = kdsL s f (k + 1) := by
 unfold kdsL
 rw [List.range_succ, List.map_append, List.filter_append]
 simp only [List.map_cons, List.map_nil, List.filter_cons, h, List.filter_nil]
 simp
theorem kds_len {s : Int} {f : Int × List Int} {k : Nat} : (kdsL s f k).length ≤ k := by
 unfold kdsL
 exact Nat.le_trans (List.length_filter_le _ _) (by simp)
theorem kds_mem {s : Int} {f : Int × List Int} {j : Int} : j ∈ kdsV s f ↔ (1 ≤ j ∧ j ≤ 10) ∧ kindB s f j = true := by
 unfold kdsV kdsL
 rw [List.mem_filter, List.mem_map]
 refine and_congr_left fun _ => ?_
 constructor
 ·rintro ⟨i, hi, rfl⟩
  have := List.mem_range.1 hi
  omega
 ·intro h
  exact ⟨(j - 1).toNat, List.mem_range.2 (by omega), by omega⟩
set_option maxHeartbeats 3200000 in
set_option maxRecDepth 100000 in
theorem KindsOf_any (w : World) {cs : Array Value} {f : Int × List Int} (h : opT.Rd w cs.toList f) {s : Int} (hf : opOk s f) :
  Calls Tryz.prog 44 #[.int .i64 s, .agg cs] w (RetSC intsT w (kdsV s f) 0) := by
 have hvo : tb (opOk s f) = true := tb_true hf
 have H := Lib.hid h
 have HF := Lib.hid hf
 obtain ⟨u, hv, hI, hx⟩ := pair_ex h
 obtain rfl := agg_of hv
 clear h hv hx hI hf
 go_enter Tryz.func44, Tryz.ntmps44
 go_wp2_with fail
 generalize hW : World.alloc w _ = W
 have hbW : Below w.heap.size w W := hW ▸ bA
 have hsW : w.heap.size + 1 ≤ W.heap.size := by rw [← hW]; simp
 have c0 : W.cell? ⟨w.heap.size, 0, none⟩ = some (.int .i64 f.1) := by rw [← hW]; simp [go_sem]
 have c1 : W.cell? ⟨w.heap.size, 1, none⟩ = some u := by rw [← hW]; simp [go_sem]
 clear hW
 refine (ValidOp_any W (H.out.below hbW) s).mono ?_
 rintro e w1 ⟨rfl, hb1⟩
 rw [hvo]
 have hbw1 := bthen hbW hb1
 have hz1 := hb1.size
 replace c0 := (cellB hb1 (by omega)).trans c0
 replace c1 := (cellB hb1 (by omega)).trans c1
 go_wp2_with fail
 have HC := Lib.hid (And.intro c0 c1)
 have hw1 : w.heap.size < w1.heap.size := by omega
 clear c0 c1
 go_loopw [7, 6] (fun i g wr => ∃ k : Nat, k ≤ 10 ∧ i = .int .i64 ((k + 1 : Nat) : Int) ∧ Bl Ty.int 2 w1.heap.size wr.heap.size wr g (kdsL s f k) ∧ Below w1.heap.size w1 wr) (fun i _ _ => 11 - (intOf i).toNat)
 case atStart => exact ⟨0, Nat.zero_le _, rfl, by simpa [kdsL] using Bl.lit0 (E := Ty.int) (e := 2) (w := w1) (Nat.le_refl _), bA⟩
 case round =>
  obtain ⟨k, hk, rfl, hBl, hbe⟩ := hrel
  obtain ⟨wv, rfl⟩ : ∃ wv : World, wv = wr := ⟨_, rfl⟩
  have hkl := kds_len (s := s) (f := f) (k := k)
  obtain ⟨ga, gn, gc, rfl⟩ := ex_slice (hBl.fr (by unfold capMax; omega))
  have HB := Lib.hid hBl
  have hzv := hbe.size
  clear hBl
  obtain ⟨c0, c1⟩ := HC.out
  replace c0 := (cellB hbe (by omega)).trans c0
  replace c1 := (cellB hbe (by omega)).trans c1
  have hbv := bthen hbw1 hbe
  obtain ⟨j, hj⟩ : ∃ j : Int, ((k + 1 : Nat) : Int) = j := ⟨_, rfl⟩
  have hjw : IntKind.i64.wrap (j + 1) = ((k + 1 + 1 : Nat) : Int) := by rw [← hj]; exact (wrap_small (by omega) (by omega)).trans (by omega)
  have hjb : 1 ≤ j ∧ j ≤ 11 ∧ j = (k : Int) + 1 := by omega
  have HKY : Hid (kindB s f j = true → kdsL s f k ++ [j] = kdsL s f (k + 1)) := by rw [← hj]; exact kds_yes
  have HKN : Hid (kindB s f j = false → kdsL s f k = kdsL s f (k + 1)) := by rw [← hj]; exact kds_no
  have HJ := Lib.hid hjb
  rw [hj]
  clear hj hjb
  go_wp2_with fail
  refine (isKd_any _ _).mono ?_
  rintro e _ ⟨rfl, rfl⟩
  by_cases hk10 : k < 10
  ·have hjc := HJ.out
   have hin : inB j 1 10 = true := inB_true.2 ⟨by omega, by omega⟩
   have hj10 : 1 ≤ j ∧ j ≤ 10 := by omega
   clear hjc
   rw [hin]
   cases hq : kindB s f j
   ·have HK := Lib.hid (HKN.out hq)
    go_wp2_with fail
    refine (isKind_any wv (H.out.below hbv) HF.out (k := j) hj10).mono ?_
    rintro e w2 ⟨rfl, hb2⟩
    rw [hq]
    have HB2 : Hid (Bl Ty.int 2 w1.heap.size w2.heap.size w2 (.slice ga gn gc) (kdsL s f k)) := (HB.out.below hb2 (Nat.le_refl _)).mono hb2.size
    have hbe2 := bthen hbe hb2
    go_wp2_with fail
    go_roundw
    case rel => exact ⟨k + 1, by omega, by go_num, by rw [← HK.out]; exact HB2.out, hbe2⟩
    case measure => have := HJ.out; simp [intOf]; omega
   ·have HK := Lib.hid (HKY.out hq)
    go_wp2_with fail
    refine (isKind_any wv (H.out.below hbv) HF.out (k := j) hj10).mono ?_
    rintro e w2 ⟨rfl, hb2⟩
    rw [hq]
    have HB2 : Hid (Bl Ty.int 2 w1.heap.size w2.heap.size w2 (.slice ga gn gc) (kdsL s f k)) := (HB.out.below hb2 (Nat.le_refl _)).mono hb2.size
    have hbe2 := bthen hbe hb2
    have hz2 := hb2.size
    have hIk : I64 j := I64.small (by omega) (by omega)
    have hzw : w1.heap.size ≤ w2.heap.size := by omega
    clear HB hb2 c0 c1
    go_wp2_with (at_builtin; go_loud (refine wpList_push (E := Ty.int) _ rfl _ _ 48 2 rfl elInt rfl (HB2.out.below (bA (w := w2)) (Nat.le_refl _)) rfl news1 (fr_int hIk) (by omega) (by decide) hzw (by first | (simp; done) | (simp; omega)) ?_; intro v5 w5 hB5 hg5 hown; rw [HK.out] at hB5))
    have hb5 : Below w1.heap.size w2 w5 := ((bA (w := w2)).mono (by omega)).grown hg5 (by first | (simp; done) | (simp; omega)) (fun q hq => HB2.out.own hq)
    have hbe5 := hbe2.trans hb5
    have HB5 := Lib.hid hB5
    clear hB5 hg5 hown
    go_wp2_with fail
    go_roundw
    case rel => exact ⟨k + 1, by omega, by go_num, HB5.out, hbe5⟩
    case measure => have := HJ.out; simp [intOf]; omega
  ·obtain rfl : k = 10 := by omega
   have hj11 : j = 11 := by have := HJ.out; omega
   have hin : inB j 1 10 = false := by rw [hj11]; decide
   clear hj11
   rw [hin]
   have HF2 := Lib.hid (HB.out.fr (by unfold capMax; omega))
   go_wp2_with fail
   go_ret2
   exact ⟨_, rfl, HF2.out.mono (by omega), hbv⟩
set_option maxHeartbeats 3200000 in
set_option maxRecDepth 100000 in
theorem specKindsOf_any (w : World) {cs : Array Value} {f : Int × List Int} (h : opT.Rd w cs.toList f) {s : Int} (hf : opOk s f) :
  Calls Tryz.prog 45 #[.int .i64 s, .agg cs] w (RetSC intsT w (kdsV s f) 0) := by
 have hvo : tb (opOk s f) = true := tb_true hf
 have H := Lib.hid h
 have HF := Lib.hid hf
 have p1 := (pt_box (T := 63) h)
 obtain ⟨u, hv, hI, hx⟩ := pair_ex h
 obtain rfl := agg_of hv
 clear h hv hx hI hf
 go_enter Tryz.func45, Tryz.ntmps45
 go_wp2_with fail
 generalize hW : World.alloc w _ = W
 have hbW : Below w.heap.size w W := hW ▸ bA
 have hsW : w.heap.size + 1 ≤ W.heap.size := by rw [← hW]; simp
 have c0 : W.cell? ⟨w.heap.size, 0, none⟩ = some (.int .i64 f.1) := by rw [← hW]; simp [go_sem]
 have c1 : W.cell? ⟨w.heap.size, 1, none⟩ = some u := by rw [← hW]; simp [go_sem]
 have HPT : Hid (opT.Pt W (.pointer (some ⟨w.heap.size, 0, none⟩)) f) := by unfold Hid; rw [← hW]; exact p1
 clear hW p1
 refine (l02Ok_quiet W HPT.out s).mono ?_
 rintro e w1 ⟨rfl, hq1⟩
 have hb1 := hq1.below
 have HPT1 := Lib.hid (HPT.out.below hb1)
 rw [hvo]
 have hbw1 := bthen hbW hb1
 have hz1 := hb1.size
 replace c0 := (cellB hb1 (by omega)).trans c0
 replace c1 := (cellB hb1 (by omega)).trans c1
 go_wp2_with fail
 have HC := Lib.hid (And.intro c0 c1)
 have hw1 : w.heap.size < w1.heap.size := by omega
 clear c0 c1
 go_loopw [7, 6] (fun i g wr => ∃ k : Nat, k ≤ 10 ∧ i = .int .i64 ((k + 1 : Nat) : Int) ∧ Bl Ty.int 2 w1.heap.size wr.heap.size wr g (kdsL s f k) ∧ Below w1.heap.size w1 wr) (fun i _ _ => 11 - (intOf i).toNat)
 case atStart => exact ⟨0, Nat.zero_le _, rfl, by simpa [kdsL] using Bl.lit0 (E := Ty.int) (e := 2) (w := w1) (Nat.le_refl _), bA⟩
 case round =>
  obtain ⟨k, hk, rfl, hBl, hbe⟩ := hrel
  obtain ⟨wv, rfl⟩ : ∃ wv : World, wv = wr := ⟨_, rfl⟩
  have hkl := kds_len (s := s) (f := f) (k := k)
  obtain ⟨ga, gn, gc, rfl⟩ := ex_slice (hBl.fr (by unfold capMax; omega))
  have HB := Lib.hid hBl
  have hzv := hbe.size
  clear hBl
  obtain ⟨c0, c1⟩ := HC.out
  replace c0 := (cellB hbe (by omega)).trans c0
  replace c1 := (cellB hbe (by omega)).trans c1
  have hbv := bthen hbw1 hbe
  obtain ⟨j, hj⟩ : ∃ j : Int, ((k + 1 : Nat) : Int) = j := ⟨_, rfl⟩
  have hjw : IntKind.i64.wrap (j + 1) = ((k + 1 + 1 : Nat) : Int) := by rw [← hj]; exact (wrap_small (by omega) (by omega)).trans (by omega)
  have hjb : 1 ≤ j ∧ j ≤ 11 ∧ j = (k : Int) + 1 := by omega
  have HKY : Hid (kindB s f j = true → kdsL s f k ++ [j] = kdsL s f (k + 1)) := by rw [← hj]; exact kds_yes
  have HKN : Hid (kindB s f j = false → kdsL s f k = kdsL s f (k + 1)) := by rw [← hj]; exact kds_no
  have HJ := Lib.hid hjb
  rw [hj]
  clear hj hjb
  by_cases hk10 : k < 10
  ·have hjc := HJ.out
   have hj10 : 1 ≤ j ∧ j ≤ 10 := by omega
   clear hjc
   have hle : ¬ (10 : Int) < j := by omega
   cases hq : kindB s f j
   ·have HK := Lib.hid (HKN.out hq)
    go_wp2_with fail
    refine (l02Kind_any wv (HPT1.out.below hbe) HF.out (k := j) hj10).mono ?_
    rintro e w2 ⟨rfl, hb2⟩
    rw [hq]
    have HB2 : Hid (Bl Ty.int 2 w1.heap.size w2.heap.size w2 (.slice ga gn gc) (kdsL s f k)) := (HB.out.below hb2 (Nat.le_refl _)).mono hb2.size
    have hbe2 := bthen hbe hb2
    go_wp2_with fail
    go_roundw
    case rel => exact ⟨k + 1, by omega, by go_num, by rw [← HK.out]; exact HB2.out, hbe2⟩
    case measure => have := HJ.out; simp [intOf]; omega
   ·have HK := Lib.hid (HKY.out hq)
    go_wp2_with fail
    refine (l02Kind_any wv (HPT1.out.below hbe) HF.out (k := j) hj10).mono ?_
    rintro e w2 ⟨rfl, hb2⟩
    rw [hq]
    have HB2 : Hid (Bl Ty.int 2 w1.heap.size w2.heap.size w2 (.slice ga gn gc) (kdsL s f k)) := (HB.out.below hb2 (Nat.le_refl _)).mono hb2.size
    have hbe2 := bthen hbe hb2
    have hz2 := hb2.size
    have hIk : I64 j := I64.small (by omega) (by omega)
    have hzw : w1.heap.size ≤ w2.heap.size := by omega
    clear HB hb2 c0 c1
    go_wp2_with (at_builtin; go_loud (refine wpList_push (E := Ty.int) _ rfl _ _ 48 2 rfl elInt rfl (HB2.out.below (bA (w := w2)) (Nat.le_refl _)) rfl news1 (fr_int hIk) (by omega) (by decide) hzw (by first | (simp; done) | (simp; omega)) ?_; intro v5 w5 hB5 hg5 hown; rw [HK.out] at hB5))
    have hb5 : Below w1.heap.size w2 w5 := ((bA (w := w2)).mono (by omega)).grown hg5 (by first | (simp; done) | (simp; omega)) (fun q hq => HB2.out.own hq)
    have hbe5 := hbe2.trans hb5
    have HB5 := Lib.hid hB5
    clear hB5 hg5 hown
    go_wp2_with fail
    go_roundw
    case rel => exact ⟨k + 1, by omega, by go_num, HB5.out, hbe5⟩
    case measure => have := HJ.out; simp [intOf]; omega
  ·obtain rfl : k = 10 := by omega
   have hj11 : j = 11 := by have := HJ.out; omega
   have hgt : (10 : Int) < j := by omega
   clear hj11
   have HF2 := Lib.hid (HB.out.fr (by unfold capMax; omega))
   go_wp2_with fail
   go_ret2
   exact ⟨_, rfl, HF2.out.mono (by omega), hbv⟩
end Go.Proofs.YtnhdohednekhjaaGreatDoor
namespace Go.Proofs.YtnhdohednekhjaaGreatDoor
open Go.RowKit Go.Sort
section
variable {s : Int} {f g h : Int × List Int} {N ar : Nat} {u ps : List Int}
theorem op_two (hf : opOk s f) (h2 : f.1 = 2) : s ^ 2 = ((f.2.length : Nat) : Int) := by
 have h := (op_dims hf).2.2.1
 rw [h2] at h
 exact h
theorem cp_ok (hf : opOk s f) (hf2 : f.1 = 2) (hg : opOk s g) (hg2 : g.1 = 2) (hh : opOk s h) (hh2 : h.1 = 2) (hN : s ^ 2 = (N : Int)) : opOk s (((2 : Nat) : Int), compT s 2 N f.2 [g, h]) :=
 op_ok hf.1 (by omega) hN tabOf_len fun a ha => by
  obtain ⟨i, -, rfl⟩ := List.mem_map.1 ha
  have hin : inS s (digL s (i : Int) 2) := digL_in hf.1.1
  have h1 := opV_in hg (xs := digL s (i : Int) 2) (by rw [digL_len]; exact hg2.symm) hin
  have h2 := opV_in hh (xs := digL s (i : Int) 2) (by rw [digL_len]; exact hh2.symm) hin
  exact opV_in (xs := [opV s g.2 (digL s (i : Int) 2), opV s h.2 (digL s (i : Int) 2)]) hf (by simpa using hf2.symm) (fun a ha => by
   simp only [List.mem_cons, List.not_mem_nil, or_false] at ha
   rcases ha with rfl | rfl
   ·exact h1
   ·exact h2)
theorem cp_at (hs : 1 ≤ s) (hN : s ^ 2 = (N : Int)) (hu : tupP s 2 u) : opV s (compT s 2 N f.2 [g, h]) u = opV s f.2 [opV s g.2 u, opV s h.2 u] := by
 unfold compT
 rw [tabOf_at hs hN hu.1 hu.2]
 rfl
theorem cp_self (hf : opOk s f) (hf2 : f.1 = 2) (hN : s ^ 2 = (N : Int)) : (((2 : Nat) : Int), compT s 2 N f.2 [(((2 : Nat) : Int), projT s 2 N 0), (((2 : Nat) : Int), projT s 2 N 1)]) = f := by
 have hs := hf.1.1
 have h0 := op_two hf hf2
 have hl : N = f.2.length := by omega
 refine Prod.ext hf2.symm (List.ext_getElem (by rw [show (compT s 2 N f.2 [(((2 : Nat) : Int), projT s 2 N 0), (((2 : Nat) : Int), projT s 2 N 1)]).length = N from tabOf_len]; exact hl) fun i h1 h2 => ?_)
 have hd := opV_dig hf h2
 rw [hf2, show ((2 : Int)).toNat = 2 from rfl] at hd
 have hin : inS s (digL s (i : Int) 2) := digL_in hs
 have e : (compT s 2 N f.2 [(((2 : Nat) : Int), projT s 2 N 0), (((2 : Nat) : Int), projT s 2 N 1)])[i] = opV s f.2 [opV s (projT s 2 N 0) (digL s (i : Int) 2), opV s (projT s 2 N 1) (digL s (i : Int) 2)] := by simp [compT, tabOf]
 show (compT s 2 N f.2 [(((2 : Nat) : Int), projT s 2 N 0), (((2 : Nat) : Int), projT s 2 N 1)])[i] = f.2[i]
 rw [e, show opV s (projT s 2 N 0) (digL s (i : Int) 2) = (digL s (i : Int) 2).getD 0 0 from tabOf_at hs hN digL_len hin, show opV s (projT s 2 N 1) (digL s (i : Int) 2) = (digL s (i : Int) 2).getD 1 0 from tabOf_at hs hN digL_len hin]
 obtain ⟨x, y, hxy⟩ := dig2 s (i : Int)
 rw [hxy] at hd ⊢
 rw [List.getD_eq_getElem?_getD, List.getElem?_eq_getElem h2] at hd
 exact hd
theorem mi_ok (hf : opOk s f) (hpl : (ps.length : Int) = f.1) (hpi : ∀ p ∈ ps, 0 ≤ p ∧ p ≤ (ar : Int) - 1) (har : 1 ≤ ar ∧ ar ≤ 3) (hN : s ^ ar = (N : Int)) : opOk s ((ar : Int), minT s ar N f.2 ps) :=
 op_ok hf.1 har hN tabOf_len fun a ha => by
  obtain ⟨i, -, rfl⟩ := List.mem_map.1 ha
  exact opV_in (xs := atL (digL s (i : Int) ar) ps) hf (by rw [atL_len]; exact hpl) (atL_inS (digL_in hf.1.1) (fun p hp => by rw [digL_len]; have := hpi p hp; omega))
theorem mi_at (hs : 1 ≤ s) (hN : s ^ ar = (N : Int)) (hu : tupP s ar u) : opV s (minT s ar N f.2 ps) u = opV s f.2 (atL u ps) := by
 unfold minT
 rw [tabOf_at hs hN hu.1 hu.2]
theorem con_ok {p : Int} (hs : 1 ≤ s ∧ s ≤ 4) (har : 1 ≤ ar ∧ ar ≤ 3) (hN : s ^ ar = (N : Int)) (hp : 0 ≤ p ∧ p ≤ s - 1) : opOk s ((ar : Int), conT ar N p) :=
 op_ok hs har hN (by simp [conT]) fun a ha => by
  rw [List.eq_of_mem_replicate ha]; exact hp
theorem con_at {p : Int} (hs : 1 ≤ s) (hN : s ^ ar = (N : Int)) (hu : tupP s ar u) : opV s (conT ar N p) u = p := by
 rw [← tab_con (s := s) (ar := ar), tabOf_at hs hN hu.1 hu.2]
/-- a place that does not count -/
def depB (s : Int) (tab : List Int) (n N p : Nat) : Bool := allK (fun k => opV s tab ((digL s (k : Int) n).set p 0) == opV s tab (digL s (k : Int) n)) N
/-- the places below m that count -/
def depL (s : Int) (tab : List Int) (n N m : Nat) : List Int := ((List.range m).filter fun p => !depB s tab n N p).map fun p : Nat => (p : Int)
theorem dep_yes {tab : List Int} {n m : Nat} (h : depB s tab n N m = true) : depL s tab n N m = depL s tab n N (m + 1) := by
 unfold depL
 rw [List.range_succ, List.filter_append, List.map_append]
 simp [h]
theorem dep_not {tab : List Int} {n m : Nat} (h : depB s tab n N m = false) : depL s tab n N m ++ [(m : Int)] = depL s tab n N (m + 1) := by
 unfold depL
 rw [List.range_succ, List.filter_append, List.map_append]
 simp [h]
theorem dep_len {tab : List Int} {n m : Nat} : (depL s tab n N m).length ≤ m := by
 unfold depL
 rw [List.length_map]
 exact Nat.le_trans (List.length_filter_le _ _) (by simp)
theorem dep_same {tab : List Int} {n p : Nat} {a : Int} (hs : 1 ≤ s) (hN : s ^ n = (N : Int)) (hp : p < n) (hno : hasI (depL s tab n N n) (p : Int) = false) (hu : tupP s n u) (ha : 0 ≤ a ∧ a ≤ s - 1) : opV s tab (u.set p a) = opV s tab u := by
 have hb : depB s tab n N p = true := by
  cases hb : depB s tab n N p
  ·have : hasI (depL s tab n N n) (p : Int) = true := by
    rw [hasI_mem]
    exact List.mem_map.2 ⟨p, List.mem_filter.2 ⟨List.mem_range.2 hp, by rw [hb]; rfl⟩, rfl⟩
   rw [this] at hno; cases hno
  ·rfl
 have hall := (all_dig (P := fun xs => opV s tab (xs.set p 0) = opV s tab xs) hs hN).2 fun k hk => beq_iff_eq.1 (allK_iff.1 hb k hk)
 have h1 := hall u hu.1 hu.2
 have h2 := hall (u.set p a) (by rw [List.length_set]; exact hu.1) (fun b hb => by
  rcases List.mem_or_eq_of_mem_set hb with h | rfl
  ·exact hu.2 b h
  ·exact ha)
 rw [List.set_set] at h2
 rw [← h2, h1]
theorem kd_has {j : Int} (hj : 1 ≤ j ∧ j ≤ 10) : hasI (kdsV s f) j = kindB s f j := by
 rw [Bool.eq_iff_iff, hasI_mem, kds_mem]
 exact ⟨fun h => h.2, fun h => ⟨hj, h⟩⟩
theorem kd_semi (h : kindB s f 6 = true) : kindB s f 5 = true ∧ kindB s f 3 = true := by
 rw [kind_6, tb_iff] at h
 rw [kind_5, kind_3, tb_iff, tb_iff]
 exact ⟨⟨h.1, h.2.1⟩, h.2.2.1⟩
theorem kd_proj (hf : opOk s f) (h : kindB s f 1 = true) : kindB s f 4 = true := by
 obtain ⟨hs, har, hN, hfe, -, -⟩ := op_dims hf
 rw [kind_1, tb_iff] at h
 rw [kind_4, tb_iff]
 obtain ⟨p, hp, he⟩ := h
 intro xs hl hin
 have h2 : f.2 = projT s f.1.toNat f.2.length p := congrArg Prod.snd he
 have h3 : opV s (projT s f.1.toNat f.2.length p) xs = xs.getD p 0 := tabOf_at hs.1 hN hl hin
 rw [h2, h3, List.getD_eq_getElem?_getD, List.getElem?_eq_getElem (by omega)]
 exact List.getElem_mem _
end
end Go.Proofs.YtnhdohednekhjaaGreatDoor
