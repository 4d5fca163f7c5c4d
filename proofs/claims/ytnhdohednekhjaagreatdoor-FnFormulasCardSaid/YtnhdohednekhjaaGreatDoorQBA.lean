/-
Contracts: relations and tuples compared; whether a relation has a tuple, and whether an operation keeps a relation, checked.
Contracts: a template drawn from bytes; whether a relation has a tuple, checked (the reference's).
Bytes put behind a literal's byte, in a region that makes a box; the law's own test of its bytes' length.
Contracts: formulas drawn from bytes.
Contracts: the program's InstanceText and FormulaText.
Contracts: the reference's InstanceText and FormulaText.
Contracts: the reference's FormulaText.
Texts byte by byte; contracts: a text cut at a byte, a number read, the reference's.
The library's contracts, laid at this seat's program. Written by the kit's lay-shelf and lay-plain: its numbers hold for that seat alone (shelf2.py).
Contracts: a number read from its text, digits read, the program's. The library's package variables that they reach are told by a premise.
Contracts: digits read from a text, the program's.
Contracts: an atom read from its word, the program's.
Contracts: a formula read from its text, the reference's.
-/
import Derived.Test.YtnhdohednekhjaaGreatDoorQAG
import Derived.Test.YtnhdohednekhjaaGreatDoorQAB
import Derived.Test.YtnhdohednekhjaaGreatDoorQAF
import Derived.Test.YtnhdohednekhjaaGreatDoorQAJ
import Derived.Test.YtnhdohednekhjaaGreatDoorQAH
import Derived.Test.YtnhdohednekhjaaGreatDoorQAI
import Derived.Shelf.Strconv.ParseIntPublic10
import Derived.Test.YtnhdohednekhjaaGreatDoorProg
import Derived.Lib.SmallJoins
import Derived.Lib.AppendIntMem
import Derived.Test.YtnhdohednekhjaaGreatDoorQAC
namespace Go.Proofs.YtnhdohednekhjaaGreatDoor
open Go.RowKit Go.Sort
theorem specSameRel_any (w : World) {cs cs' : Array Value} {x y : Int × List (List Int)} (h : relT.Rd w cs.toList x) (h' : relT.Rd w cs'.toList y) :
  Calls Tryz.prog 11 #[.agg cs, .agg cs'] w fun e w' => e = .returned (.bool (eqB x y)) ∧ Below w.heap.size w w' := by
 have p1 := (pt_box (T := 35) h)
 have p2 := (pt_box (T := 35) (h'.below (bA (o := .cells cs.toList.toArray 35))))
 obtain ⟨u, hv, _⟩ := pair_ex h
 obtain rfl := agg_of hv
 obtain ⟨u', hv', _⟩ := pair_ex h'
 obtain rfl := agg_of hv'
 have p1' := p1.below (bA (o := .cells [.int .i64 y.1, u'].toArray 35))
 clear hv hv' h h' p1
 go_enter Tryz.func11, Tryz.ntmps11
 go_wp2_with fail
 rw [World.size_alloc] at p2
 refine (l01Same_quiet _ p1' p2).mono ?_
 rintro e w1 ⟨rfl, n, rfl⟩
 go_wp2_with fail
 go_ret
 exact ⟨rfl, (by repeat (first | exact Below.refl _ _ | exact bA | assumption | refine Below.setCell ?_ (by first | omega | (simp; try omega)) _ | refine Below.alloc ?_ (by first | omega | (simp; try omega)) _ | refine Below.drew ?_ | refine bDN ?_ | refine bthen ?_ (by assumption)))⟩
end Go.Proofs.YtnhdohednekhjaaGreatDoor
namespace Go.Proofs.YtnhdohednekhjaaGreatDoor
open Go.RowKit Go.Sort
set_option maxHeartbeats 1600000 in
set_option maxRecDepth 100000 in
theorem P6Template_any (w : World) {v : Value} {code : List Int} (h : bytesT.Rd w [v] code) {s : Int} (hs : 1 ≤ s ∧ s ≤ 4) :
  Calls Tryz.prog 7 #[v, .int .i64 s] w fun e w' => ∃ (cs : List Value) (t : Int × List (Int × List (List Int))), e = .returned (.agg cs.toArray) ∧ tplT.Fr w.heap.size w' cs t ∧ tplOk t ∧ t.1 = s ∧ t.2.length ≤ 3 ∧ Below w.heap.size w w' := by
 obtain ⟨ad, cap, rfl⟩ := rd_slice h
 have H := Lib.hid h
 clear h
 go_enter Tryz.func7, Tryz.ntmps7
 go_wp2_with fail
 generalize hW : World.alloc w _ = W
 have hbW : Below w.heap.size w W := hW ▸ bA
 have hsW : w.heap.size + 1 ≤ W.heap.size := by rw [← hW]; simp
 have r0 : W.cell? ⟨w.heap.size, 0, none⟩ = some (.int .i64 0) := by rw [← hW]; simp [go_sem]
 have r1 : W.cell? ⟨w.heap.size, 1, none⟩ = some (.slice none 0 0) := by rw [← hW]; simp [go_sem]
 have q0 : W.frozen? ⟨w.heap.size, 0, none⟩ = false := by rw [← hW]; simp [go_sem]
 have q1 : W.frozen? ⟨w.heap.size, 1, none⟩ = false := by rw [← hW]; simp [go_sem]
 clear hW
 refine (l00From_any W (H.out.below hbW)).mono ?_
 rintro e w1 ⟨rfl, hs1, hb1⟩
 have HS := Lib.hid hs1
 have hz1 := hs1.lt
 replace r0 := (cellB hb1 (by omega)).trans r0
 replace r1 := (cellB hb1 (by omega)).trans r1
 replace q0 := (frozenB hb1 (by omega)).trans q0
 replace q1 := (frozenB hb1 (by omega)).trans q1
 clear hs1
 go_wp2_with fail
 refine (l01TemplateDrawn_any w1 HS.out (by omega) (by omega) hs).mono ?_
 rintro e w2 ⟨u, n, T, b0, rfl, hI, hb0, hb02, hBl, hTl, ⟨hn, hT3, hT⟩, hs2, ht2⟩
 have hn' : n = s := hn
 subst hn'
 have hT3' : T.length ≤ 3 := hT3
 have hfr := hBl.fr (by unfold capMax; omega)
 obtain ⟨ua, uc, rfl⟩ := fr_slice hfr
 have HF : Hid (tplT.Fr b0 w2 [.int .i64 n, .slice ua T.length uc] (n, T)) := fr_cons hI hfr
 have HOK : Hid (tplOk (n, T)) := ⟨hs, by show T.length ≤ 6; omega, fun r hr => (hT r hr).1⟩
 have hb2 : Below W.heap.size w1 w2 := ht2.below (by omega) (fun k hk e => by omega)
 have hz2 := ht2.size
 replace r0 := (cellB hb2 (show w.heap.size < W.heap.size by omega)).trans r0
 replace r1 := (cellB hb2 (show w.heap.size < W.heap.size by omega)).trans r1
 replace q0 := (frozenB hb2 (show w.heap.size < W.heap.size by omega)).trans q0
 replace q1 := (frozenB hb2 (show w.heap.size < W.heap.size by omega)).trans q1
 have hbw2 : Below w.heap.size w w2 := (bthen hbW hb1).trans (hb2.mono (by omega))
 clear hfr hBl hs2 ht2 hT hI
 obtain ⟨g0, g1⟩ := set2_cells (x := .int .i64 n) (y := .slice ua T.length uc) r0 r1
 go_wp2_with fail
 refine bodyPost_ret (v := .agg #[.int .i64 n, .slice ua T.length uc]) (by simp [results, Tryz.results7, go_sem, g0, g1]) rfl ⟨[.int .i64 n, .slice ua T.length uc], (n, T), rfl, ?_, HOK.out, rfl, hT3', ?_⟩
 ·exact ((HF.out.set (a := ⟨w.heap.size, 0, none⟩) (show w.heap.size < b0 by omega)).set (a := ⟨w.heap.size, 1, none⟩) (show w.heap.size < b0 by omega)).mono (by omega)
 ·exact (hbw2.setCell (Nat.le_refl _) _).setCell (Nat.le_refl _) _
theorem specHasTupleX_any (w : World) {cs : Array Value} {r : Int × List (List Int)} {u : Value} {ys : List Int} (h : relT.Rd w cs.toList r) (hu : intsT.Rd w [u] ys) {s : Int} (hr : relOk s r) :
  Calls Tryz.prog 31 #[.int .i64 s, .agg cs, u] w fun e w' => e = .returned (.tuple #[.bool (tb (ys ∈ r.2)), .int .i64 0]) ∧ Below w.heap.size w w' := by
 have hvo : tb (relOk s r) = true := tb_true hr
 have p1 := (pt_box (T := 35) h)
 have HU := Lib.hid hu
 obtain ⟨u2, hv2, hI, hx⟩ := pair_ex h
 obtain rfl := agg_of hv2
 clear h hx hv2 hu hr
 go_enter Tryz.func31, Tryz.ntmps31
 go_wp2_with fail
 generalize hW : World.alloc w _ = W at p1 ⊢
 have hbW : Below w.heap.size w W := hW ▸ bA
 have HU1 := Lib.hid (HU.out.below hbW)
 clear hW HU
 refine (l01Ok_quiet _ p1 s).mono ?_
 rintro e w1 ⟨rfl, hq⟩
 have hb1 := hq.below
 rw [hvo]
 go_wp2_with fail
 refine (l01Has_quiet _ (p1.below hb1) (HU1.out.below hb1)).mono ?_
 rintro e w2 ⟨rfl, hq2⟩
 have hb2 := hq2.below
 go_wp2_with fail
 go_ret2
 exact ⟨rfl, bthen (bthen hbW hb1) hb2⟩
end Go.Proofs.YtnhdohednekhjaaGreatDoor
namespace Go.Proofs.YtnhdohednekhjaaGreatDoor
open Go.RowKit Go.Sort
theorem f6bigL_any (w : World) {v : Value} {xs : List Int} (h : bytesT.Rd w [v] xs) : Calls Tryz.prog 5 #[v] w fun e w' => e = .returned (.bool (decide ((4096 : Int) < ((xs.length : Nat) : Int)))) ∧ w = w' := by
 obtain ⟨ad, cap, rfl⟩ := rd_slice h
 clear h
 cases hb : decide ((4096 : Int) < ((xs.length : Nat) : Int))
 ·have hn : ¬ (4096 : Int) < ((xs.length : Nat) : Int) := of_decide_eq_false hb
  go_enter Tryz.func5, Tryz.ntmps5
  go_wp2
  go_ret
  exact ⟨rfl, rfl⟩
 ·have hn : (4096 : Int) < ((xs.length : Nat) : Int) := of_decide_eq_true hb
  go_enter Tryz.func5, Tryz.ntmps5
  go_wp2
  go_ret
  exact ⟨rfl, rfl⟩
/-- a literal of one byte, of the region's own -/
def litO (c : Int) : OP := fun o v W => ∃ g, v = .slice (some ⟨g, 0, none⟩) 1 1 ∧ g < W.heap.size ∧ W.cell? ⟨g, 0, none⟩ = some (.int .u8 c) ∧ o ≠ some g
theorem st_litO {c : Int} : StG .plain (litO c) :=
 ⟨⟨fun _ _ _ _ ⟨g, h1, h2, h3, h4⟩ hb => ⟨g, h1, Nat.lt_of_lt_of_le h2 hb.size, (cellB hb h2).trans h3, h4⟩, fun _ _ _ ⟨g, h1, h2, h3, _⟩ hb => ⟨g, h1, Nat.lt_of_lt_of_le h2 hb.size, (cellB hb h2).trans h3, fun e => by simp only [Option.some.injEq] at e; omega⟩⟩,
  fun b _ _ _ ⟨g, h1, h2, h3, h4⟩ hb => ⟨g, h1, Nat.lt_of_lt_of_le h2 hb.size, by rw [← h3]; exact World.cell?_of_block (hb.block g h2 (fun e => h4 (by rw [e]))), h4⟩⟩
theorem rd_bytes {w : World} {b o cap : Nat} {xs : List Int} (h00 : 0 < xs.length) (h0 : xs.length ≤ cap) (h1 : xs.length ≤ 1000000) (hb : b < w.heap.size) (h : ∀ i (h : i < xs.length), (0 ≤ xs[i] ∧ xs[i] ≤ 255) ∧ w.cell? ⟨b, o + i, none⟩ = some (.int .u8 xs[i])) : ∃ fp, bytesT.rd w [.slice (some ⟨b, o, none⟩) xs.length cap] xs fp ∧ ∀ k ∈ fp, k = b := by
 refine ⟨b :: (List.range xs.length).flatMap fun _ => [], ⟨_, cap, rfl, h0, by unfold capMax; omega, .inr ⟨h00, b, o, fun _ => [], rfl, hb, rfl, fun i hi => ⟨[.int .u8 xs[i]], ⟨rfl, (h i hi).1, rfl⟩, fun j hj => ?_⟩⟩⟩, fun k hk => ?_⟩
 ·obtain rfl : j = 0 := by simpa using hj
  simpa [Ty.byte] using (h i hi).2
 ·rcases List.mem_cons.1 hk with rfl | hk
  ·rfl
  ·obtain ⟨_, _, h⟩ := List.mem_flatMap.1 hk
   cases h
theorem run_onB {P : Program} (W : World) (t ty e : TypeId) (hT : ElT P t e 1 1) {c : Int} (hc : 0 ≤ c ∧ c ≤ 255) {g : Nat} (hg : g < W.heap.size) (hcell : W.cell? ⟨g, 0, none⟩ = some (.int .u8 c)) {u : Value} {xs : List Int} (hr : bytesT.Rd W [u] xs) (hl : xs.length ≤ 4096) :
  ∃ v' W', (Builtin.append_ #[t, t] ty #[.slice (some ⟨g, 0, none⟩) 1 1, u]).run P W = .ok v' W' ∧ Below W.heap.size W W' ∧ ∃ fp, bytesT.rd W' [v'] (c :: xs) fp ∧ ∀ k ∈ fp, k = g ∨ W.heap.size ≤ k := by
 obtain ⟨ad, cap, hu, h1, h2, h3⟩ := bytes_ex hr
 obtain rfl : u = .slice ad xs.length cap := by simpa using hu
 obtain ⟨i, z, ht, hi, hz, hsz, hbt, hzs, hp⟩ := hT
 rcases Nat.eq_zero_or_pos xs.length with h0 | h0
 ·obtain rfl := List.length_eq_zero_iff.1 h0
  obtain ⟨fp, f1, f2⟩ := rd_bytes (w := W) (b := g) (o := 0) (cap := 1) (xs := [c]) (by simp) (by simp) (by simp) hg (fun i hi => by
   obtain rfl : i = 0 := by simpa using hi
   exact ⟨hc, hcell⟩)
  refine ⟨_, W, ?_, Below.refl _ _, fp, f1, fun k hk => .inl (f2 k hk)⟩
  have hnc : (1 : Nat) + 0 ≤ 1 := Nat.le_refl _
  cases ad <;> simp [Builtin.append_, run_underlying ht, sizeOf, typeInfo, hi, Builtin.lenOf, Builtin.firstCells, storeCells, run_load_zero]
 ·obtain ⟨b, o, rfl, hb, hce⟩ := h3 h0
  have hnews : ∀ (j : Nat) (u : Value), (xs.map (Value.int .u8))[j]? = some u → W.cell? ((⟨b, o, none⟩ : Addr).add j) = some u := by
   intro j u hj
   rw [List.getElem?_map] at hj
   by_cases hjl : j < xs.length
   ·rw [List.getElem?_eq_getElem hjl] at hj
    simp only [Option.map_some, Option.some.injEq] at hj
    subst hj
    have := (hce j hjl).2
    by_cases hj0 : j = 0
    ·subst hj0
     simpa [Addr.add] using this
    ·simpa [Addr.add, hj0] using this
   ·rw [List.getElem?_eq_none (by omega)] at hj
    simp at hj
  have holds : ∀ (j : Nat) (u : Value), [Value.int .u8 c][j]? = some u → W.cell? ((⟨g, 0, none⟩ : Addr).add j) = some u := by
   intro j u hj
   obtain ⟨hj1, hj2⟩ := List.getElem?_eq_some_iff.1 hj
   obtain rfl : j = 0 := by simpa using hj1
   subst hj2
   simpa [Addr.add] using hcell
  have hrun := run_append_grow (P := P) (w := W) t ty e i z ht hi hz ⟨g, 0, none⟩ 1 1 [.int .u8 c] (by simp [hsz]) holds ⟨b, o, none⟩ xs.length cap (xs.map (Value.int .u8)) (by simp [hsz]) hnews (by omega) (by omega) (growslice_fits (by omega) (by rw [hbt]; omega))
  have hcap := grownCap_ge W (1 + xs.length) 1 e
  generalize grownCap W (1 + xs.length) 1 e = cp at hrun hcap
  rw [show 1 + xs.length = (c :: xs).length by rw [List.length_cons]; omega] at hrun hcap
  generalize hz : Builtin.zeroCells z.cells (cp - (c :: xs).length) = zc at hrun
  obtain ⟨fp, f1, f2⟩ := rd_bytes (w := W.drew.alloc (.cells ([Value.int .u8 c].toArray ++ (xs.map (Value.int .u8)).toArray ++ zc) e)) (b := W.heap.size) (o := 0) (cap := cp) (xs := c :: xs) (by simp) hcap (by rw [List.length_cons]; omega) (by simp) (fun i hi => by
   refine ⟨?_, ?_⟩
   ·cases i with
    | zero => exact hc
    | succ i => exact (hce i (by simpa using hi)).1
   ·have e1 : (W.drew.alloc (.cells ([Value.int .u8 c].toArray ++ (xs.map (Value.int .u8)).toArray ++ zc) e)).cell? ⟨W.heap.size, 0 + i, none⟩ = ([Value.int .u8 c].toArray ++ (xs.map (Value.int .u8)).toArray ++ zc)[i]? := by rw [Nat.zero_add]; exact World.cell?_alloc_at _ _ _ _ rfl
    rw [e1, Array.getElem?_append_left (by simp at hi ⊢; omega)]
    cases i with
    | zero => simp
    | succ i => simp at hi; simp [hi])
  exact ⟨_, _, hrun, (Below.drew (Below.refl _ _)).alloc (by simp) _, fp, f1, fun k hk => .inr (by rw [f2 k hk]; exact Nat.le_refl _)⟩
end Go.Proofs.YtnhdohednekhjaaGreatDoor
namespace Go.Proofs.YtnhdohednekhjaaGreatDoor
open Go.RowKit Go.Sort
theorem arOf_at {t : Tpl} (hT : tplOk t) {rel : Int} (h : -1 ≤ rel ∧ rel < (t.2.length : Int)) : 1 ≤ arOf t rel ∧ arOf t rel ≤ 4 := by
 unfold arOf
 split
 ·omega
 ·rw [dif_pos ⟨by omega, by omega⟩]
  have := (hT.2.2 _ (List.getElem_mem (by omega : rel.toNat < t.2.length))).2.1
  exact this
/-- a drawn formula comes back -/
def FmR (sb B : Nat) (K : Int) (t : Tpl) (free : Nat) (w : World) (e : Ending) (w' : World) : Prop :=
 ∃ (cs : List Value) (f : Int × Int × List (Int × List Int)), e = .returned (.agg cs.toArray) ∧ frmT.Fr w.heap.size w' cs f ∧ frmOk t f ∧ f.1 = free ∧ f.2.1 ≤ free + 2 ∧ f.2.2.length ≤ 4 ∧ SrcR sb B K w' ∧ TchP (fun q => q = sb) w w'
set_option maxHeartbeats 12800000 in
set_option maxRecDepth 100000 in
theorem l03Drawn_any (w : World) {sb B : Nat} {K : Int} (h : SrcR sb B K w) (hK0 : 0 ≤ K) (hK : K ≤ 100000) {vt : Value} {t : Tpl} (ht : ∀ X, TchP (fun q => q = sb) w X → tplT.Pt X vt t) (hT : tplOk t) {free : Nat} (hfr : 1 ≤ free ∧ free ≤ 2) :
  Calls Tryz.prog 56 #[.pointer (some ⟨sb, 0, none⟩), vt, .int .i64 (free : Int)] w (FmR sb B (K + 100) t free w) := by
 have hsb := h.lt
 have hBs : B ≤ sb := let ⟨_, _, _, _, _, _, _, _, _, _, _, _, _, _, h⟩ := h; h
 obtain ⟨tq, tf, tad, tcap, rfl, htq, -, tc0, tc1, -⟩ := pt_pair (ht w (TchP.refl _ _))
 have HPT := Lib.hid ht
 have HT := Lib.hid hT
 have H := Lib.hid h
 have hTl := hT.2.1
 have HC1 : Hid (∀ X, TchP (fun q => q = sb) w X → ∃ cap : Option Addr × Nat, X.cell? ⟨tq, tf + 1, none⟩ = some (.slice cap.1 t.2.length cap.2)) := fun X hX => by
  obtain ⟨_, _, ad, cp, hpv, -, -, -, hp1, -⟩ := pt_pair (ht X hX)
  simp only [Value.pointer.injEq, Option.some.injEq, Addr.mk.injEq, and_true] at hpv
  obtain ⟨rfl, rfl⟩ := hpv
  exact ⟨(ad, cp), hp1⟩
 clear h ht hT tc0 tc1
 go_enter Tryz.func56, Tryz.ntmps56
 go_wp2_with fail
 generalize hW : World.alloc w _ = W
 have hbW : Below w.heap.size w W := hW ▸ bA
 have hsW : w.heap.size + 1 ≤ W.heap.size := by rw [← hW]; simp
 have r0 : W.cell? ⟨w.heap.size, 0, none⟩ = some (.int .i64 0) := by rw [← hW]; simp [go_sem]
 have r1 : W.cell? ⟨w.heap.size, 1, none⟩ = some (.int .i64 0) := by rw [← hW]; simp [go_sem]
 have r2 : W.cell? ⟨w.heap.size, 2, none⟩ = some (.slice none 0 0) := by rw [← hW]; simp [go_sem]
 have q0 : W.frozen? ⟨w.heap.size, 0, none⟩ = false := by rw [← hW]; simp [go_sem]
 have q1 : W.frozen? ⟨w.heap.size, 1, none⟩ = false := by rw [← hW]; simp [go_sem]
 have q2 : W.frozen? ⟨w.heap.size, 2, none⟩ = false := by rw [← hW]; simp [go_sem]
 have HRQ := Lib.hid (And.intro r0 (And.intro r1 (And.intro r2 (And.intro q0 (And.intro q1 q2)))))
 have HSW := Lib.hid (H.out.below hbW)
 have HTW : Hid (TchP (fun q => q = sb) w W) := TchP.of_below hbW _
 clear hW r0 r1 r2 q0 q1 q2 H
 refine (pick_any W HSW.out hK0 (by omega) (n := 3) (by omega)).mono ?_
 rintro e w1 ⟨x, rfl, hx0, hx1, hs1, ht1⟩
 have hz1 := ht1.size
 have HS1 := Lib.hid hs1
 have HT1 : Hid (TchP (fun q => q = sb) W w1) := ht1
 obtain ⟨nv, hnv⟩ : ∃ nv : Nat, (free : Int) + x = (nv : Int) := ⟨((free : Int) + x).toNat, by omega⟩
 have hwr : IntKind.i64.wrap ((free : Int) + x) = (nv : Int) := by rw [hnv]; exact wrap_small (by omega) (by omega)
 have hnv2 : free ≤ nv ∧ nv ≤ free + 2 := by omega
 clear hs1 ht1 HSW
 go_wp2_with fail
 clear hwr
 generalize hW2 : World.alloc w1 _ = w2
 have hb2 : Below w1.heap.size w1 w2 := hW2 ▸ bA
 have hsw2 : w1.heap.size + 1 ≤ w2.heap.size := by rw [← hW2]; simp
 have c0 : w2.cell? ⟨w1.heap.size, 0, none⟩ = some (.int .i64 (free : Int)) := by rw [← hW2]; simp [go_sem]
 have c1 : w2.cell? ⟨w1.heap.size, 1, none⟩ = some (.int .i64 (nv : Int)) := by rw [← hW2]; simp [go_sem]
 have c2 : w2.cell? ⟨w1.heap.size, 2, none⟩ = some (.slice none 0 0) := by rw [← hW2]; simp [go_sem]
 have m2 : w2.frozen? ⟨w1.heap.size, 2, none⟩ = false := by rw [← hW2]; simp [go_sem]
 have HS2 := Lib.hid (HS1.out.below hb2)
 have HT2 : Hid (TchP (fun q => q = sb) W w2) := HT1.out.then (TchP.of_below hb2 _) (fun _ _ h => h)
 clear hW2 HS1 HT1
 refine (pick_any w2 HS2.out (by omega) (by omega) (n := 5) (by omega)).mono ?_
 rintro e w3 ⟨y, rfl, hy0, hy1, hs3, ht3⟩
 have hz3 := ht3.size
 replace c0 := (ht3.cell (i := 0) (b := w1.heap.size) (by omega) (by omega)).trans c0
 replace c1 := (ht3.cell (i := 1) (b := w1.heap.size) (by omega) (by omega)).trans c1
 replace c2 := (ht3.cell (i := 2) (b := w1.heap.size) (by omega) (by omega)).trans c2
 replace m2 := (ht3.frozen (i := 2) (b := w1.heap.size) (by omega) (by omega)).trans m2
 have HS3 := Lib.hid hs3
 have HT3 : Hid (TchP (fun q => q = sb) W w3) := HT2.out.then ht3 (fun _ _ h => h)
 obtain ⟨n, hn⟩ : ∃ n : Nat, y = (n : Int) := ⟨y.toNat, by omega⟩
 subst hn
 have hlx : w1.heap.size < w3.heap.size := by omega
 clear hs3 ht3 HS2 HT2
 go_wp2_with fail
 go_loopg [8] n (fun g i wr => ∃ (k : Nat) (va : Value) (A : List (Int × List Int)), k = g ∧ k ≤ 4 ∧ i = .int .i64 k ∧ A.length + k ≤ 4 ∧ Bl opT 98 (w1.heap.size + 1) wr.heap.size wr va A ∧ (∀ a ∈ A, atomOk t nv a) ∧ wr.cell? ⟨w1.heap.size, 0, none⟩ = some (.int .i64 (free : Int)) ∧ wr.cell? ⟨w1.heap.size, 1, none⟩ = some (.int .i64 (nv : Int)) ∧ wr.cell? ⟨w1.heap.size, 2, none⟩ = some va ∧ wr.frozen? ⟨w1.heap.size, 2, none⟩ = false ∧ SrcR sb B (K + 2 + 20 * (4 - (k : Int))) wr ∧ TchP (fun q => q = sb) W wr ∧ w1.heap.size + 1 ≤ wr.heap.size)
 case atStart => exact ⟨n, _, [], rfl, by omega, rfl, by simp; omega, Bl.nil, by simp, c0, c1, c2, m2, HS3.out.mono (by omega), HT3.out, by omega⟩
 case round =>
  clear c0 c1 c2 m2
  obtain ⟨k, va, A, rfl, hk, rfl, hAl, hBa, hok, c0, c1, c2, m2, hsr, htc, hsz⟩ := hrel
  have HB := Lib.hid hBa
  have HOK := Lib.hid hok
  have HSR := Lib.hid hsr
  have HTC := Lib.hid htc
  have hzv := htc.size
  have hne1 : w1.heap.size ≠ sb := by omega
  obtain ⟨xa, xn, xc, rfl⟩ := ex_slice (hBa.fr (by unfold capMax; omega))
  obtain ⟨wv, rfl⟩ : ∃ wv : World, wv = wr := ⟨_, rfl⟩
  clear hBa hok hsr htc
  by_cases hkl : 0 < k
  ·have HTV : Hid (TchP (fun q => q = sb) w wv) := HTW.out.then HTC.out (fun _ _ h => h)
   obtain ⟨tcp, d1⟩ := HC1.out wv HTV.out
   go_wp2_with fail
   refine (pick_any wv HSR.out (by omega) (by omega) (n := (t.2.length : Int) + 1) (by omega)).mono ?_
   rintro e w4 ⟨z, rfl, hz0', hz1', hs4, ht4⟩
   have hz4 := ht4.size
   have HS4 := Lib.hid hs4
   replace c0 := (ht4.cell (i := 0) (b := w1.heap.size) (by omega) (by omega)).trans c0
   replace c1 := (ht4.cell (i := 1) (b := w1.heap.size) (by omega) (by omega)).trans c1
   replace c2 := (ht4.cell (i := 2) (b := w1.heap.size) (by omega) (by omega)).trans c2
   replace m2 := (ht4.frozen (i := 2) (b := w1.heap.size) (by omega) (by omega)).trans m2
   have HT4 : Hid (TchP (fun q => q = sb) W w4) := HTC.out.then ht4 (fun _ _ h => h)
   have HB4 : Hid (Bl opT 98 (w1.heap.size + 1) wv.heap.size w4 (.slice xa xn xc) A) := HB.out.sameB (fun q h1 h2 => ht4.block q h2 (by omega))
   obtain ⟨rel, hrel'⟩ : ∃ rel : Int, z - 1 = rel := ⟨_, rfl⟩
   have hrel2 : -1 ≤ rel ∧ rel < (t.2.length : Int) := by omega
   have hwr : IntKind.i64.wrap (z - 1) = rel := by rw [hrel']; exact wrap_small (by omega) (by omega)
   clear hs4 ht4 d1 HSR HTC HB hrel'
   go_wp2_with fail
   clear hwr
   generalize hW5 : World.alloc w4 _ = w5
   have hb5 : Below w4.heap.size w4 w5 := hW5 ▸ bA
   have hsw5 : w4.heap.size + 1 ≤ w5.heap.size := by rw [← hW5]; simp
   have g0 : w5.cell? ⟨w4.heap.size, 0, none⟩ = some (.int .i64 rel) := by rw [← hW5]; simp [go_sem]
   have g1 : w5.cell? ⟨w4.heap.size, 1, none⟩ = some (.slice none 0 0) := by rw [← hW5]; simp [go_sem]
   have gm : w5.frozen? ⟨w4.heap.size, 1, none⟩ = false := by rw [← hW5]; simp [go_sem]
   replace c0 := (cellB hb5 (by omega)).trans c0
   replace c1 := (cellB hb5 (by omega)).trans c1
   replace c2 := (cellB hb5 (by omega)).trans c2
   replace m2 := (frozenB hb5 (by omega)).trans m2
   have HS5 := Lib.hid (HS4.out.below hb5)
   have HT5 : Hid (TchP (fun q => q = sb) W w5) := HT4.out.then (TchP.of_below hb5 _) (fun _ _ h => h)
   have HB5 : Hid (Bl opT 98 (w1.heap.size + 1) wv.heap.size w5 (.slice xa xn xc) A) := HB4.out.below hb5 (by omega)
   have HPT5 := Lib.hid (HPT.out w5 (HTW.out.then HT5.out (fun _ _ h => h)))
   clear hW5 HS4 HT4 HB4
   refine (l03Arity_any w5 HPT5.out rel).mono ?_
   rintro e _ ⟨rfl, rfl⟩
   have hao := arOf_at HT.out hrel2
   obtain ⟨ar, har⟩ : ∃ ar : Nat, arOf t rel = (ar : Int) := ⟨(arOf t rel).toNat, by omega⟩
   rw [har]
   rw [har] at hao
   have HAR := Lib.hid har
   have hlw4 : w4.heap.size < w5.heap.size := by omega
   clear har HPT5
   go_wp2_with fail
   go_loopg [11] ar (fun g i wr => ∃ (j : Nat) (vb : Value) (L : List Int), j = g ∧ i = .int .i64 j ∧ L.length + j = ar ∧ (∀ a ∈ L, 0 ≤ a ∧ a ≤ (nv : Int) - 1) ∧ Bl Ty.int 2 w5.heap.size wr.heap.size wr vb L ∧ wr.cell? ⟨w4.heap.size, 0, none⟩ = some (.int .i64 rel) ∧ wr.cell? ⟨w4.heap.size, 1, none⟩ = some vb ∧ wr.frozen? ⟨w4.heap.size, 1, none⟩ = false ∧ SrcR sb B (K + 2 + 20 * (4 - (k : Int)) + 2 + ((ar : Int) - j)) wr ∧ TchP (fun q => q = sb ∨ q = w4.heap.size) w5 wr)
   case atStart => exact ⟨ar, _, [], rfl, rfl, by simp, by simp, Bl.nil, g0, g1, gm, HS5.out.mono (by omega), TchP.refl _ _⟩
   case round =>
    clear g0 g1 gm
    obtain ⟨j, vb, L, rfl, rfl, hLl, hLi, hBb, g0, g1, gm, hsr, htc⟩ := hrel
    have HBB := Lib.hid hBb
    have HLI := Lib.hid hLi
    have HSR := Lib.hid hsr
    have HTC := Lib.hid htc
    have hzq := htc.size
    obtain ⟨ya, yn, yc, rfl⟩ := ex_slice (hBb.fr (by unfold capMax; omega))
    obtain ⟨wq, rfl⟩ : ∃ wq : World, wq = wr := ⟨_, rfl⟩
    have e1 := (htc.cell (i := 1) (b := w1.heap.size) (by omega) (by omega)).trans c1
    clear hBb hLi hsr htc
    by_cases hjl : 0 < j
    ·go_wp2_with fail
     refine wp_region_T (fun w' => w'.cell? ⟨w4.heap.size, 1, none⟩ = some (.slice ya yn yc) ∧ w'.cell? ⟨w1.heap.size, 1, none⟩ = some (.int .i64 (nv : Int))) [7, 9] (by kernel_rfl) ⟨g1, e1⟩ (fun hHeld => ?_)
     refine wpAnyT_take (i := 0) (v := ?_) rfl (by kernel_rfl) (fun _ _ _ h => h) (Or.inl ⟨by rfl, ?_⟩) (by assumption) ?_
     rotate_left
     ·(intro w hSw; (try dsimp only at hSw); go_simp <;> with_reducible rfl)
     go_simp
     refine wpAnyT_take (i := 1) (v := ?_) rfl (by kernel_rfl) (fun _ _ _ h => h) (Or.inl ⟨by rfl, ?_⟩) (by assumption) ?_
     rotate_left
     ·(intro w hSw; (try dsimp only at hSw); go_simp <;> with_reducible rfl)
     go_simp
     refine wpAnyT_take (i := 2) (v := ?_) rfl (by kernel_rfl) (fun _ _ _ h => h) (Or.inl ⟨by rfl, ?_⟩) (by assumption) ?_
     rotate_left
     ·(intro w hSw; (try dsimp only at hSw); go_simp <;> with_reducible rfl)
     go_simp
     refine wpAnyT_take (i := 3) (v := ?_) rfl (by kernel_rfl) (fun _ _ _ h => h) (Or.inl ⟨by rfl, ?_⟩) (by assumption) ?_
     rotate_left
     ·(intro w hSw; (try dsimp only at hSw); go_simp <;> with_reducible rfl)
     go_simp
     refine wpAnyT_take (i := 4) (v := ?_) rfl (by kernel_rfl) (fun _ _ _ h => h) (Or.inl ⟨by rfl, ?_⟩) (by assumption) ?_
     rotate_left
     ·(intro w hSw; (try dsimp only at hSw); go_simp <;> with_reducible rfl)
     go_simp
     have hv0 : Below wq.heap.size wq wq.drew := bD
     have HS0 := Lib.hid (HSR.out.below hv0)
     have HB0 : Hid (Bl Ty.int 2 w5.heap.size wq.heap.size wq.drew (.slice ya yn yc) L) := HBB.out.below hv0 (Nat.le_refl _)
     have g0' := (cellB hv0 (show w4.heap.size < wq.heap.size by omega)).trans g0
     have gm' := (frozenB hv0 (show w4.heap.size < wq.heap.size by omega)).trans gm
     have HT0 : Hid (TchP (fun q => q = sb ∨ q = w4.heap.size) w5 wq.drew) := HTC.out.then (TchP.of_below hv0 _) (fun _ _ h => h)
     have hz0 := hv0.size
     clear g0 g1 gm e1 HSR HBB HTC
     obtain ⟨x0, hx0'⟩ : ∃ x0 : World, x0 = wq.drew := ⟨_, rfl⟩
     rw [← hx0'] at hHeld hv0 HS0 HB0 g0' gm' HT0 hz0 ⊢
     clear hx0'
     obtain ⟨g1, e1⟩ := hHeld
     refine wpAnyT_one (i := 5) rfl (by kernel_rfl) (fun K' hK' => ?_)
     go_simp
     go_at_call 54
     refine (pick_any x0 HS0.out (by omega) (by omega) (n := (nv : Int)) (by omega)).mono ?_
     rintro e x1 ⟨a, rfl, ha0, ha1, hs6, ht6⟩
     have hz6 := ht6.size
     have HS6 := Lib.hid hs6
     have HB6 : Hid (Bl Ty.int 2 w5.heap.size wq.heap.size x1 (.slice ya yn yc) L) := HB0.out.sameB (fun q h1 h2 => ht6.block q (by omega) (by omega))
     have HT6 : Hid (TchP (fun q => q = sb ∨ q = w4.heap.size) w5 x1) := HT0.out.then ht6 (fun _ _ h => .inl h)
     replace g0' := (ht6.cell (i := 0) (b := w4.heap.size) (by omega) (by omega)).trans g0'
     replace g1 := (ht6.cell (i := 1) (b := w4.heap.size) (by omega) (by omega)).trans g1
     replace gm' := (ht6.frozen (i := 1) (b := w4.heap.size) (by omega) (by omega)).trans gm'
     replace e1 := (ht6.cell (i := 1) (b := w1.heap.size) (by omega) hne1).trans e1
     have HI : Hid (I64 a) := I64.small (by omega) (by omega)
     clear hs6 ht6 HS0 HB0 HT0
     dsimp only
     refine hK'.out _ _ ⟨g1, e1⟩ (fun hHeld => ?_)
     clear hK' K'
     refine wpAnyT_one (i := 6) rfl (by kernel_rfl) (fun K' hK' => ?_)
     go_simp
     refine hK'.out _ _ ⟨by go_keep, by go_keep⟩ (fun hHeld => ?_)
     clear hK' K'
     refine wpAnyT_last (i := 7) rfl (by kernel_rfl) (by kernel_rfl) (fun K' hK' => ?_)
     refine step_push (E := Ty.int) _ rfl _ _ 48 2 rfl elInt rfl (HB6.out.below ((bA (w := x1)).mono (by omega)) (Nat.le_refl _)) rfl news1 (fr_int HI.out) (by omega) (by decide) (by omega) (by first | (simp; done) | (simp; omega)) ?_
     intro v7 w7 hB7 hg7 _
     obtain ⟨za, zn, zc, rfl⟩ := ex_slice (hB7.fr (by rw [List.length_append]; unfold capMax; simp only [List.length_singleton]; omega))
     have hb7 : Below w5.heap.size x1 w7 := ((bA (w := x1)).mono (by omega)).grown hg7 (by first | (simp; done) | (simp; omega)) (fun q hq => HB6.out.own hq)
     have i0 := (cellB hb7 (by omega)).trans g0'
     have i1 := (cellB hb7 (by omega)).trans g1
     have im := (frozenB hb7 (by omega)).trans gm'
     have hz7 := hb7.size
     have HB7 := Lib.hid hB7
     have HS7 := Lib.hid (srcB HS6.out (show sb < w5.heap.size by omega) hb7)
     have HT7 : Hid (TchP (fun q => q = sb ∨ q = w4.heap.size) w5 w7) := ⟨hb7.os.trans HT6.out.os, hb7.tape.trans HT6.out.tape, hb7.output.trans HT6.out.output, Nat.le_trans HT6.out.size hb7.size, fun q hq hn => (hb7.block q hq).trans (HT6.out.block q hq hn)⟩
     clear hB7 hg7 HB6 HS6 HT6
     refine hK'.out _ _ ?_
     clear hK' K'
     refine wpAnyT_any (i := 8) (v := ?_) rfl (by kernel_rfl) (fun _ _ _ h => h) (Or.inl ⟨by rfl, ?_⟩) (by first | exact fun _ => by assumption | (intro hp; exact absurd hp (by rw [show pastB _ _ = true by kernel_rfl]; simp))) ?_
     rotate_left
     ·(intro w hSw; (try dsimp only at hSw); go_simp <;> with_reducible rfl)
     try simp only [Act.put]
     refine wpAnyT_last (i := 9) rfl (by kernel_rfl) (by kernel_rfl) (fun K' hK' => ?_)
     go_simp
     refine hK'.out _ _ ?_
     clear hK' K'
     refine wpAnyT_done (by kernel_rfl) ?_ _
     go_simp
     go_wp2_with fail
     obtain ⟨j', rfl⟩ : ∃ j', j = j' + 1 := ⟨j - 1, by omega⟩
     go_roundg j'
     case measure => omega
     case rel => exact ⟨j', .slice za zn zc, L ++ [a], rfl, by go_num, by rw [List.length_append, List.length_singleton]; omega, fun b hb => by
      rcases List.mem_append.1 hb with hb | hb
      ·exact HLI.out b hb
      ·rw [List.mem_singleton.1 hb]; exact ⟨ha0, ha1⟩, by rw [size_set]; exact HB7.out.sameB (fun q h1 h2 => Below.heap_setCell _ _ _ _ (by simp; omega)), (World.cell?_setCell_other _ _ _ _ (by simp)).trans i0, World.cell?_setCell_same _ _ _ i1, (World.frozen?_setCell _ _ _ _).trans im, (HS7.out.tch (TchP.set (O := fun q => q = w4.heap.size) rfl) (by omega) (by omega)).mono (by omega), HT7.out.then (TchP.set (O := fun q => q = w4.heap.size) rfl) (fun q _ h => .inr h)⟩
    ·obtain rfl : j = 0 := by omega
     have hLar : L.length = ar := by omega
     have HF := Lib.hid (HBB.out.fr (by unfold capMax; omega))
     obtain ⟨y1, y2, hyx⟩ := fr_slice HF.out
     simp only [Value.slice.injEq] at hyx
     obtain ⟨rfl, rfl, rfl⟩ := hyx
     have HATM : Hid (atomOk t nv (rel, L)) := by
      refine ⟨?_, ?_, HLI.out⟩
      ·show arOf t rel ≠ 0
       rw [HAR.out]; omega
      ·show (L.length : Int) = arOf t rel
       rw [HAR.out, hLar]
     have HFA : Hid (opT.Fr w5.heap.size wq [.int .i64 rel, .slice ya L.length yc] (rel, L)) := fr_cons (I64.small (by omega) (by omega)) HF.out
     have HBQ : Hid (Bl opT 98 (w1.heap.size + 1) wv.heap.size wq (.slice xa xn xc) A) := HB5.out.sameB (fun q h1 h2 => HTC.out.block q (by omega) (by omega))
     have k0 := (HTC.out.cell (i := 0) (b := w1.heap.size) (by omega) (by omega)).trans c0
     have k2 := (HTC.out.cell (i := 2) (b := w1.heap.size) (by omega) (by omega)).trans c2
     have km := (HTC.out.frozen (i := 2) (b := w1.heap.size) (by omega) (by omega)).trans m2
     have HTQ : Hid (TchP (fun q => q = sb) W wq) := HT5.out.then HTC.out (fun q hq h => by rcases h with h | h <;> omega)
     clear HF HBB hLar c0 c1 c2 m2 HB5
     go_wp2_with (refine wpList_push (E := opT) _ rfl _ _ 29 98 rfl elAtomS rfl (HBQ.out.below ((bA (w := wq)).mono (by omega)) (Nat.le_refl _)) rfl news2 ((HFA.out.below bA).mono (by omega)) (by omega) (by decide) (by omega) (by first | (simp; done) | (simp; omega)) ?_; intro v7 w7 hB7 hg7 hown; obtain ⟨a7, n7, c7, rfl⟩ := ex_slice (hB7.fr (by rw [List.length_append]; unfold capMax; simp only [List.length_singleton]; omega)); have hb7 : Below (w1.heap.size + 1) wq w7 := ((bA (w := wq)).mono (by omega)).grown hg7 (by first | (simp; done) | (simp; omega)) (fun q hq => HBQ.out.own hq); have i0 := (cellB hb7 (by omega)).trans k0; have i1 := (cellB hb7 (by omega)).trans e1; have i2 := (cellB hb7 (by omega)).trans k2; have im := (frozenB hb7 (by omega)).trans km)
     have hz7 := hb7.size
     have HB7 := Lib.hid hB7
     have HS7 := Lib.hid (srcB HSR.out (show sb < w1.heap.size + 1 by omega) hb7)
     have HT7 : Hid (TchP (fun q => q = sb) W w7) := ⟨hb7.os.trans HTQ.out.os, hb7.tape.trans HTQ.out.tape, hb7.output.trans HTQ.out.output, Nat.le_trans HTQ.out.size hb7.size, fun q hq hn => (hb7.block q (by omega)).trans (HTQ.out.block q hq hn)⟩
     clear hB7 hg7 hown
     go_wp2_with fail
     obtain ⟨k', rfl⟩ : ∃ k', k = k' + 1 := ⟨k - 1, by omega⟩
     go_roundg k'
     case measure => omega
     case rel => exact ⟨k', .slice a7 n7 c7, A ++ [(rel, L)], rfl, by omega, by go_num, by rw [List.length_append, List.length_singleton]; omega, by rw [size_set]; exact HB7.out.sameB (fun q h1 h2 => Below.heap_setCell _ _ _ _ (by simp; omega)), fun b hb => by
      rcases List.mem_append.1 hb with hb | hb
      ·exact HOK.out b hb
      ·rw [List.mem_singleton.1 hb]; exact HATM.out, (World.cell?_setCell_other _ _ _ _ (by simp)).trans i0, (World.cell?_setCell_other _ _ _ _ (by simp)).trans i1, World.cell?_setCell_same _ _ _ i2, (World.frozen?_setCell _ _ _ _).trans im, (HS7.out.tch (TchP.set (O := fun q => q = w1.heap.size) rfl) (by omega) (by omega)).mono (by omega), HT7.out.then (TchP.set (O := fun q => q = w1.heap.size) rfl) (fun q hq h => by omega), by rw [size_set]; omega⟩
  ·obtain rfl : k = 0 := by omega
   have HF := Lib.hid (HB.out.fr (by unfold capMax; omega))
   obtain ⟨y1, y2, hyx⟩ := fr_slice HF.out
   simp only [Value.slice.injEq] at hyx
   obtain ⟨rfl, rfl, rfl⟩ := hyx
   obtain ⟨r0, r1, r2, q0, q1, q2⟩ := HRQ.out
   replace r0 := (HTC.out.cell (b := w.heap.size) (i := 0) (by omega) (by omega)).trans r0
   replace r1 := (HTC.out.cell (b := w.heap.size) (i := 1) (by omega) (by omega)).trans r1
   replace r2 := (HTC.out.cell (b := w.heap.size) (i := 2) (by omega) (by omega)).trans r2
   replace q0 := (HTC.out.frozen (b := w.heap.size) (i := 0) (by omega) (by omega)).trans q0
   replace q1 := (HTC.out.frozen (b := w.heap.size) (i := 1) (by omega) (by omega)).trans q1
   replace q2 := (HTC.out.frozen (b := w.heap.size) (i := 2) (by omega) (by omega)).trans q2
   have HTV : Hid (TchP (fun q => q = sb) w wv) := HTW.out.then HTC.out (fun _ _ h => h)
   have HFF : Hid (frmT.Fr (w1.heap.size + 1) wv [.int .i64 (free : Int), .int .i64 (nv : Int), .slice xa A.length xc] ((free : Int), (nv : Int), A)) := fr_cons (I64.small (by omega) (by omega)) (fr_cons (I64.small (by omega) (by omega)) HF.out)
   clear HF
   go_wp2_with fail
   obtain ⟨g0, g1, g2⟩ := set3_cells (x := .int .i64 (free : Int)) (y := .int .i64 (nv : Int)) (z := .slice xa A.length xc) r0 r1 r2
   refine bodyPost_ret (v := .agg #[.int .i64 (free : Int), .int .i64 (nv : Int), .slice xa A.length xc]) (by simp [results, Tryz.results56, go_sem, g0, g1, g2]) rfl ⟨[.int .i64 (free : Int), .int .i64 (nv : Int), .slice xa A.length xc], ((free : Int), (nv : Int), A), rfl, ?_, ⟨HT.out, ⟨⟨by show (1 : Int) ≤ (free : Int); omega, by show (free : Int) ≤ 4; omega⟩, ⟨by show (free : Int) ≤ (nv : Int); omega, by show (nv : Int) ≤ 8; omega⟩, by show A.length ≤ 16; omega⟩, HOK.out⟩, rfl, by show (nv : Int) ≤ (free : Int) + 2; omega, by show A.length ≤ 4; omega, ?_, ?_⟩
   ·exact ((((HFF.out.set (a := ⟨w.heap.size, 0, none⟩) (show w.heap.size < w1.heap.size + 1 by omega)).set (a := ⟨w.heap.size, 1, none⟩) (show w.heap.size < w1.heap.size + 1 by omega)).set (a := ⟨w.heap.size, 2, none⟩) (show w.heap.size < w1.heap.size + 1 by omega))).mono (by omega)
   ·exact (((HSR.out.tch (TchP.set (O := fun q => q = w.heap.size) rfl) (by omega) (by omega)).tch (TchP.set (O := fun q => q = w.heap.size) rfl) (by omega) (by omega)).tch (TchP.set (O := fun q => q = w.heap.size) rfl) (by omega) (by omega)).mono (by omega)
   ·exact ((HTV.out.then (TchP.set (O := fun q => q = w.heap.size) rfl) (fun q hq h => by omega)).then (TchP.set (O := fun q => q = w.heap.size) rfl) (fun q hq h => by omega)).then (TchP.set (O := fun q => q = w.heap.size) rfl) (fun q hq h => by omega)
set_option maxHeartbeats 1600000 in
set_option maxRecDepth 100000 in
theorem P6Formula_any (w : World) {v : Value} {code : List Int} (h : bytesT.Rd w [v] code) {cs : Array Value} {t : Tpl} (ht : tplT.Rd w cs.toList t) (hT : tplOk t) {free : Nat} (hfr : 1 ≤ free ∧ free ≤ 2) :
  Calls Tryz.prog 8 #[v, .agg cs, .int .i64 (free : Int)] w fun e w' => ∃ (cs : List Value) (f : Int × Int × List (Int × List Int)), e = .returned (.agg cs.toArray) ∧ frmT.Fr w.heap.size w' cs f ∧ frmOk t f ∧ f.1 = free ∧ f.2.1 ≤ free + 2 ∧ f.2.2.length ≤ 4 ∧ Below w.heap.size w w' := by
 obtain ⟨ad, cap, rfl⟩ := rd_slice h
 obtain ⟨tv, htv, htI, htx⟩ := pair_ex ht
 obtain rfl := agg_of htv
 have H := Lib.hid h
 have HT := Lib.hid ht
 have HOK := Lib.hid hT
 clear h ht hT htv htx
 go_enter Tryz.func8, Tryz.ntmps8
 go_wp2_with fail
 generalize hW : World.alloc (World.alloc w _) _ = W
 have hbW : Below w.heap.size w W := hW ▸ bAA
 have hsW : w.heap.size + 2 ≤ W.heap.size := by rw [← hW]; simp
 have t0 : W.cell? ⟨w.heap.size, 0, none⟩ = some (.int .i64 t.1) := by rw [← hW]; simp [go_sem]
 have t1 : W.cell? ⟨w.heap.size, 1, none⟩ = some tv := by rw [← hW]; simp [go_sem]
 have r0 : W.cell? ⟨w.heap.size + 1, 0, none⟩ = some (.int .i64 0) := by rw [← hW]; simp [go_sem]
 have r1 : W.cell? ⟨w.heap.size + 1, 1, none⟩ = some (.int .i64 0) := by rw [← hW]; simp [go_sem]
 have r2 : W.cell? ⟨w.heap.size + 1, 2, none⟩ = some (.slice none 0 0) := by rw [← hW]; simp [go_sem]
 have q0 : W.frozen? ⟨w.heap.size + 1, 0, none⟩ = false := by rw [← hW]; simp [go_sem]
 have q1 : W.frozen? ⟨w.heap.size + 1, 1, none⟩ = false := by rw [← hW]; simp [go_sem]
 have q2 : W.frozen? ⟨w.heap.size + 1, 2, none⟩ = false := by rw [← hW]; simp [go_sem]
 have HPT : Hid (tplT.Pt W (.pointer (some ⟨w.heap.size, 0, none⟩)) t) := ⟨w.heap.size, 0, _, rfl, by omega, HT.out.below hbW, fun j hj => by
  rcases (show j = 0 ∨ j = 1 by simp at hj; omega) with rfl | rfl
  ·exact t0
  ·exact t1⟩
 clear hW HT t0 t1
 refine (l00From_any W (H.out.below hbW)).mono ?_
 rintro e w1 ⟨rfl, hs1, hb1⟩
 have HS := Lib.hid hs1
 have hz1 := hs1.lt
 replace r0 := (cellB hb1 (by omega)).trans r0
 replace r1 := (cellB hb1 (by omega)).trans r1
 replace r2 := (cellB hb1 (by omega)).trans r2
 replace q0 := (frozenB hb1 (by omega)).trans q0
 replace q1 := (frozenB hb1 (by omega)).trans q1
 replace q2 := (frozenB hb1 (by omega)).trans q2
 have HPX : Hid (∀ X, TchP (fun q => q = W.heap.size) w1 X → tplT.Pt X (.pointer (some ⟨w.heap.size, 0, none⟩)) t) := fun X hX => by
  exact HPT.out.below (hb1.trans (hX.below hb1.size (fun k hk e => by omega)))
 clear hs1 HPT
 go_wp2_with fail
 refine (l03Drawn_any w1 HS.out (by omega) (by omega) HPX.out HOK.out hfr).mono ?_
 rintro e w2 ⟨cs, f, rfl, hf, hfo, hf1, hf2, hf3, hs2, ht2⟩
 obtain ⟨fa, fc, rfl⟩ := fr_trip hf
 have HF := Lib.hid hf
 have HFO := Lib.hid (And.intro hfo (And.intro hf1 (And.intro hf2 hf3)))
 have hb2 : Below W.heap.size w1 w2 := ht2.below (by omega) (fun k hk e => by omega)
 have hz2 := ht2.size
 replace r0 := (cellB hb2 (show w.heap.size + 1 < W.heap.size by omega)).trans r0
 replace r1 := (cellB hb2 (show w.heap.size + 1 < W.heap.size by omega)).trans r1
 replace r2 := (cellB hb2 (show w.heap.size + 1 < W.heap.size by omega)).trans r2
 replace q0 := (frozenB hb2 (show w.heap.size + 1 < W.heap.size by omega)).trans q0
 replace q1 := (frozenB hb2 (show w.heap.size + 1 < W.heap.size by omega)).trans q1
 replace q2 := (frozenB hb2 (show w.heap.size + 1 < W.heap.size by omega)).trans q2
 have hbw2 : Below w.heap.size w w2 := (bthen hbW hb1).trans (hb2.mono (by omega))
 clear hf hfo hf1 hf2 hf3 hs2 ht2
 go_wp2_with fail
 obtain ⟨g0, g1, g2⟩ := set3_cells (x := .int .i64 f.1) (y := .int .i64 f.2.1) (z := .slice fa f.2.2.length fc) r0 r1 r2
 obtain ⟨k1, k2, k3, k4⟩ := HFO.out
 refine bodyPost_ret (v := .agg #[.int .i64 f.1, .int .i64 f.2.1, .slice fa f.2.2.length fc]) (by simp [results, Tryz.results8, go_sem, g0, g1, g2]) rfl ⟨[.int .i64 f.1, .int .i64 f.2.1, .slice fa f.2.2.length fc], f, rfl, ?_, k1, k2, k3, k4, ?_⟩
 ·exact (((HF.out.set (a := ⟨w.heap.size + 1, 0, none⟩) (show w.heap.size + 1 < w1.heap.size by omega)).set (a := ⟨w.heap.size + 1, 1, none⟩) (show w.heap.size + 1 < w1.heap.size by omega)).set (a := ⟨w.heap.size + 1, 2, none⟩) (show w.heap.size + 1 < w1.heap.size by omega)).mono (by omega)
 ·exact ((hbw2.setCell (by simp) _).setCell (by simp) _).setCell (by simp) _
end Go.Proofs.YtnhdohednekhjaaGreatDoor
namespace Go.Proofs.YtnhdohednekhjaaGreatDoor
open Go.RowKit Go.Sort
theorem shF_any {x : Int × Int × List (Int × List Int)} (h1 : frameOk x) : (!anyB (fun c => !tb (shC x.2.1 (-1) c)) x.2.2) = tb (shF x) := by
 rw [Bool.eq_iff_iff, tb_iff]
 simp only [anyB, shF, h1, true_and, Bool.not_eq_true', List.any_eq_false, Bool.not_eq_false, tb_iff]
theorem Bl.str3 {w : World} {e : Nat} {a b c : List UInt8} {n : Nat} (hn : n = w.heap.size) : Bl Ty.str e w.heap.size (w.heap.size + 1) (w.alloc (.cells #[.string ⟨a.toArray⟩, .string ⟨b.toArray⟩, .string ⟨c.toArray⟩] e)) (.slice (some ⟨n, 0, none⟩) 3 3) [a, b, c] := by
 subst hn
 refine ⟨[.string ⟨a.toArray⟩, .string ⟨b.toArray⟩, .string ⟨c.toArray⟩], fun _ => [], World.ownsRow_lit w _ 3 (Nat.le_refl _) (by decide) rfl, fun i h => ?_, (List.nodup_nil : ([] : List Nat).Nodup), fun b hb => absurd (show b ∈ ([] : List Nat) from hb) (by simp), by simp [Value.ownBlock], fun b hb => absurd (show b ∈ ([] : List Nat) from hb) (by simp)⟩
 have h' : i < 3 := h
 match i, h' with
 | 0, _ => exact ⟨[.string ⟨a.toArray⟩], ⟨rfl, rfl⟩, fun j hj => by simp at hj; subst hj; rfl⟩
 | 1, _ => exact ⟨[.string ⟨b.toArray⟩], ⟨rfl, rfl⟩, fun j hj => by simp at hj; subst hj; rfl⟩
 | 2, _ => exact ⟨[.string ⟨c.toArray⟩], ⟨rfl, rfl⟩, fun j hj => by simp at hj; subst hj; rfl⟩
set_option maxHeartbeats 3200000 in
set_option maxRecDepth 100000 in
theorem isWritten_any (w : World) {cs : Array Value} {x : Int × Int × List (Int × List Int)} (h : frmT.Rd w cs.toList x) :
  Calls Tryz.prog 70 #[.agg cs] w fun e w' => e = .returned (.bool (tb (shF x))) ∧ Below w.heap.size w w' := by
 have hx := h
 obtain ⟨v, hv, hI, hI2, hy⟩ := trip_ex h
 obtain rfl := agg_of hv
 obtain ⟨ad, cap, rfl⟩ := rd_slice hy
 have HP : Hid (frmT.Pt (w.alloc (.cells #[.int .i64 x.1, .int .i64 x.2.1, .slice ad x.2.2.length cap] 31)) (.pointer (some ⟨w.heap.size, 0, none⟩)) x) := pt_box hx
 have HX := Lib.hid (hx.below (bA (o := .cells #[.int .i64 x.1, .int .i64 x.2.1, .slice ad x.2.2.length cap] 31)))
 have HY := Lib.hid (hy.below (bA (o := .cells #[.int .i64 x.1, .int .i64 x.2.1, .slice ad x.2.2.length cap] 31)))
 clear h hv hx hy
 cases hF : tb (frameOk x)
 ·have HN : Hid (false = tb (shF x)) := (tb_false fun hh => by rw [tb_true hh.1] at hF; cases hF).symm
  go_enter Tryz.func70, Tryz.ntmps70
  go_wp2_with fail
  refine (isFrame_any _ HX.out).mono ?_
  rintro e w1 ⟨rfl, hb1⟩
  rw [hF]
  go_wp2_with fail
  go_ret
  exact ⟨ret_bool HN.out, bthen bA hb1⟩
 have hF' := tb_iff.1 hF
 have HQ := Lib.hid (shF_any hF')
 have HV := Lib.hid (shF_v hF')
 clear hF'
 go_enter Tryz.func70, Tryz.ntmps70
 go_wp2_with fail
 refine (isFrame_any _ HX.out).mono ?_
 rintro e w1 ⟨rfl, hb1⟩
 rw [hF]
 have c2 : w1.cell? ⟨w.heap.size, 2, none⟩ = some (.slice ad x.2.2.length cap) := (cellB hb1 (by simp)).trans (by simp [go_sem])
 go_wp2_with fail
 refine (ContainsFuncAtom_any _ (HY.out.below hb1) (fun c => !tb (shC x.2.1 (-1) c)) 154 #[.pointer (some ⟨w.heap.size, 0, none⟩)] (enters Tryz.func154 (by kernel_rfl) rfl) (fun W hW k hk cs hcs => isWritten1_any W hcs ((HP.out.below hb1).below hW) HV.out.2.2.1 (by have := HV.out; omega))).mono ?_
 rintro e w2 ⟨rfl, hb2⟩
 go_wp2_with fail
 go_ret
 exact ⟨ret_bool HQ.out, bthen (bthen bA hb1) hb2⟩
set_option maxHeartbeats 3200000 in
set_option maxRecDepth 100000 in
theorem FormulaText_any (w : World) {cs : Array Value} {x : Int × Int × List (Int × List Int)} (h : frmT.Rd w cs.toList x) :
  Calls Tryz.prog 14 #[.agg cs] w fun e w' => e = .returned (.string ⟨(ftV x).toArray⟩) ∧ Below w.heap.size w w' := by
 have hx := h
 obtain ⟨v, hv, hI, hI2, hy⟩ := trip_ex h
 obtain rfl := agg_of hv
 obtain ⟨ad, cap, rfl⟩ := rd_slice hy
 have HX := Lib.hid (hx.below (bA (o := .cells #[.int .i64 x.1, .int .i64 x.2.1, .slice ad x.2.2.length cap] 31)))
 have HY := Lib.hid (hy.below (bA (o := .cells #[.int .i64 x.1, .int .i64 x.2.1, .slice ad x.2.2.length cap] 31)))
 clear h hv hx hy
 cases hS : tb (shF x)
 ·have HN : Hid (ftV x = []) := ft_no fun hh => by rw [tb_true hh] at hS; cases hS
  go_enter Tryz.func14, Tryz.ntmps14
  go_wp2_with fail
  refine (isWritten_any _ HX.out).mono ?_
  rintro e w1 ⟨rfl, hb1⟩
  rw [hS]
  go_wp2_with fail
  go_ret
  exact ⟨by rw [HN.out]; rfl, bthen bA hb1⟩
 have hsh := tb_iff.1 hS
 have HSH := Lib.hid hsh
 have HN := Lib.hid (ft_yes hsh)
 have HV := Lib.hid (shF_v hsh.1)
 clear hsh
 go_enter Tryz.func14, Tryz.ntmps14
 go_wp2_with fail
 refine (isWritten_any _ HX.out).mono ?_
 rintro e w1 ⟨rfl, hb1⟩
 rw [hS]
 have hB1 : Below w.heap.size w w1 := bthen bA hb1
 have c0 : w1.cell? ⟨w.heap.size, 0, none⟩ = some (.int .i64 x.1) := (cellB hb1 (by simp)).trans (by simp [go_sem])
 have c1 : w1.cell? ⟨w.heap.size, 1, none⟩ = some (.int .i64 x.2.1) := (cellB hb1 (by simp)).trans (by simp [go_sem])
 have c2 : w1.cell? ⟨w.heap.size, 2, none⟩ = some (.slice ad x.2.2.length cap) := (cellB hb1 (by simp)).trans (by simp [go_sem])
 have z1 : w.heap.size < w1.heap.size := by have := hb1.size; simp at this; omega
 have HY1 := Lib.hid (HY.out.below hb1)
 clear hb1 HX HY hS
 go_wp2_with fail
 refine wp_region_T (fun w' => w'.cell? ⟨w.heap.size, 0, none⟩ = some (.int .i64 x.1) ∧ w'.cell? ⟨w.heap.size, 1, none⟩ = some (.int .i64 x.2.1)) [6] (by kernel_rfl) ⟨c0, c1⟩ (fun hHeld => ?_)
 refine wpAnyT_take (i := 0) (v := ?_) rfl (by kernel_rfl) (fun _ _ _ h => h) (Or.inl ⟨by rfl, ?_⟩) (by assumption) ?_
 rotate_left
 ·(intro w hSw; (try dsimp only at hSw); go_simp <;> with_reducible rfl)
 try simp only [Act.put]
 refine wpAnyT_take (i := 1) (v := ?_) rfl (by kernel_rfl) (fun _ _ _ h => h) (Or.inl ⟨by rfl, ?_⟩) (by assumption) ?_
 rotate_left
 ·(intro w hSw; (try dsimp only at hSw); go_simp <;> with_reducible rfl)
 try simp only [Act.put]
 refine wpAnyT_take (i := 3) (v := ?_) rfl (by kernel_rfl) (fun _ _ _ h => h) (Or.inl ⟨by rfl, ?_⟩) (by assumption) ?_
 rotate_left
 ·(intro w hSw; (try dsimp only at hSw); go_simp <;> with_reducible rfl)
 try simp only [Act.put]
 refine wpAnyT_take (i := 4) (v := ?_) rfl (by kernel_rfl) (fun _ _ _ h => h) (Or.inl ⟨by rfl, ?_⟩) (by assumption) ?_
 rotate_left
 ·(intro w hSw; (try dsimp only at hSw); go_simp <;> with_reducible rfl)
 try simp only [Act.put]
 refine wpAnyT_one (i := 2) rfl (by kernel_rfl) (fun K hK => ?_)
 go_simp
 go_at_call 71
 refine (dec_any _ (by have := HV.out; omega) (by have := HV.out; omega)).mono ?_
 rintro e w' ⟨rfl, rfl⟩
 dsimp only
 refine hK.out _ _ ⟨c0, c1⟩ (fun hHeld => ?_)
 clear hK K
 refine wpAnyT_one (i := 5) rfl (by kernel_rfl) (fun K hK => ?_)
 go_simp
 go_at_call 71
 refine (dec_any _ (by have := HV.out; omega) (by have := HV.out; omega)).mono ?_
 rintro e w' ⟨rfl, rfl⟩
 dsimp only
 refine hK.out _ _ ⟨c0, c1⟩ (fun hHeld => ?_)
 clear hK K
 refine wpAnyT_last (i := 6) rfl (by kernel_rfl) (by kernel_rfl) (fun K hK => ?_)
 go_simp
 refine hK.out _ _ ?_
 clear hK K
 refine wpAnyT_any (i := 7) (v := ?_) rfl (by kernel_rfl) (fun _ _ _ h => h) (Or.inl ⟨by rfl, ?_⟩) (by first | exact fun _ => by assumption | (intro hp; exact absurd hp (by rw [show pastB _ _ = true by kernel_rfl]; simp))) ?_
 rotate_left
 ·(intro w hSw; (try dsimp only at hSw); go_simp <;> with_reducible rfl)
 try simp only [Act.put]
 refine wpAnyT_done (by kernel_rfl) ?_ _
 go_simp
 generalize hW : World.drew (World.alloc w1 _) = w3
 have hb3 : Below w1.heap.size w1 w3 := hW ▸ (bA.drew)
 have HB3 : Hid (Bl Ty.str 9 w1.heap.size w3.heap.size w3 (.slice (some ⟨w1.heap.size, 0, none⟩) 3 3) [[102, 111, 114, 109, 117, 108, 97], decB x.1, decB x.2.1]) := by
  rw [← hW]
  exact ((Bl.str3 (w := w1) rfl).below bD (by simp)).mono (by simp)
 replace c0 := (cellB hb3 (by omega)).trans c0
 replace c1 := (cellB hb3 (by omega)).trans c1
 replace c2 := (cellB hb3 (by omega)).trans c2
 have hz3 := hb3.size
 have hl16 : x.2.2.length ≤ 16 := HV.out.2.2.2.2
 clear hW
 go_wp2_with fail
 go_loopw [3, 20] (fun s i wr => ∃ k : Nat, k ≤ x.2.2.length ∧ i = .int .i64 k ∧ Bl Ty.str 9 w1.heap.size wr.heap.size wr s ([[102, 111, 114, 109, 117, 108, 97], decB x.1, decB x.2.1] ++ (x.2.2.take k).map wdT) ∧ Below w1.heap.size w1 wr) (fun _ i _ => x.2.2.length - (intOf i).toNat)
 case atStart => exact ⟨0, Nat.zero_le _, rfl, by simpa using HB3.out, hb3⟩
 case round =>
  obtain ⟨k, hk, rfl, hBl, hbr⟩ := hrel
  obtain ⟨wv, rfl⟩ : ∃ wv : World, wv = wr := ⟨_, rfl⟩
  have HB := Lib.hid hBl
  have hzr := hbr.size
  have hlt : (x.2.2.take k).length ≤ 16 := by rw [List.length_take]; omega
  obtain ⟨wa, nw, cw, rfl⟩ := ex_sl (hBl.fr (by simp; unfold capMax; omega))
  clear hBl
  by_cases hkl : k < x.2.2.length
  ·obtain ⟨b, o, rfl, hp⟩ := rd_elem HY1.out hkl
   have hp' : opT.Pt w1 (.pointer (some ⟨b, o + k * 2, none⟩)) x.2.2[k] := hp
   obtain ⟨_, _, a1, k1, hbo, hb1, hI1, f0, f1, hs⟩ := pt_pair hp'
   simp only [Value.pointer.injEq, Option.some.injEq, Addr.mk.injEq, and_true] at hbo
   obtain ⟨rfl, rfl⟩ := hbo
   have g0 := (cellB hbr hb1).trans f0
   have g1 := (cellB hbr hb1).trans f1
   have HS' := Lib.hid (hs.below hbr)
   have hck := HSH.out.2 _ (List.getElem_mem hkl)
   have hx8 : x.2.1 ≤ 10 := by have := HV.out; omega
   have HSN : Hid ((x.2.2.take k).map wdT ++ [wdT x.2.2[k]] = (x.2.2.take (k + 1)).map wdT) := by
    unfold Hid
    rw [← take_snoc hkl, List.map_append]
    rfl
   have HIN : Hid (∀ a ∈ (x.2.2[k]).2, 0 ≤ a ∧ a < 100) := fun a ha => by have := shC_dec hck hx8 a ha; omega
   have HRL : Hid (-1 ≤ (x.2.2[k]).1 ∧ (x.2.2[k]).1 ≤ 5) := hck.1
   have HL3 : Hid ((x.2.2[k]).2.length ≤ 1000) := by unfold Hid; have := hck.2.1; omega
   have HDL : Hid ((catL decB [] (x.2.2[k]).2).length ≤ 1000) := by
    unfold Hid
    have h1 := catL_len (f := decB) (hd := []) (xs := (x.2.2[k]).2) (B := 2) fun a ha => (@dec_len a (by have := shC_dec hck hx8 a ha; omega)).2
    have := hck.2.1
    simp at h1; omega
   clear hp hp' f0 f1 hs hck
   generalize x.2.2[k] = c at *
   cases hr : (c.1 != -1)
   ·have HWD : Hid (wdT c = cat (cat [61] [58]) (catL decB [] c.2)) := by unfold Hid wdT wdP; rw [hr]
    have ha1 : ∀ W : World, (Op.stringOp .add ⟨#[61]⟩ ⟨#[58]⟩).run Tryz.prog W = .ok (.string ⟨(cat [61] [58]).toArray⟩) W := fun W => add_cat W _ _ (by decide)
    have ha2 : ∀ W : World, (Op.stringOp .add ⟨(cat [61] [58]).toArray⟩ ⟨(catL decB [] c.2).toArray⟩).run Tryz.prog W = .ok (.string ⟨(wdT c).toArray⟩) W := fun W => by
     rw [HWD.out]; exact add_cat W _ _ (by rw [cat_len]; have := HDL.out; (simp; omega))
    go_wp2_with (first | (go_at_call 71; refine (dec_any _ (by have := HRL.out; omega) (by have := HRL.out; omega)).mono ?_; rintro e w' ⟨rfl, rfl⟩) | (go_at_call 72; refine (digits_any _ (HS'.out.below bA) HIN.out HL3.out).mono ?_; rintro e w' ⟨rfl, rfl⟩) | (at_builtin; go_loud (refine wpList_push (E := Ty.str) _ rfl _ _ 101 9 rfl elStr rfl (HB.out.below (bA.alloc (by simp) _) (Nat.le_refl _)) rfl (news1s (by simp)) fr_str (by simp; omega) (by decide) (by omega) (by first | (simp; done) | (simp; omega)) ?_; intro v1 w5 hB1 hg1 _)))
    have hb5 : RowKit.Below w1.heap.size w1 w5 := ((hbr.alloc hbr.size _).alloc (by simp; omega) _).grown hg1 (by simp; omega) (fun q hq => HB.out.own hq)
    rw [List.append_assoc, HSN.out] at hB1
    have HB1 := Lib.hid hB1
    clear hB1 hg1
    go_wp2_with fail
    go_roundw
    case rel => exact ⟨k + 1, by omega, by go_num, HB1.out, hb5⟩
    case measure => simp [intOf]; omega
   ·have hne : c.1 ≠ -1 := by simpa using hr
    have HRL : Hid (0 ≤ c.1 ∧ c.1 ≤ 5) := by have := HRL.out; unfold Hid; omega
    have HWD : Hid (wdT c = cat (cat (cat [82] (decB c.1)) [58]) (catL decB [] c.2)) := by unfold Hid wdT wdP; rw [hr]
    have hd2 := (@dec_len c.1 (by have := HRL.out; omega)).2
    have ha0 : ∀ W : World, (Op.stringOp .add ⟨#[82]⟩ ⟨(decB c.1).toArray⟩).run Tryz.prog W = .ok (.string ⟨(cat [82] (decB c.1)).toArray⟩) W := fun W => add_cat W _ _ (by simp; omega)
    clear hne
    have ha1 : ∀ W : World, (Op.stringOp .add ⟨(cat [82] (decB c.1)).toArray⟩ ⟨#[58]⟩).run Tryz.prog W = .ok (.string ⟨(cat (cat [82] (decB c.1)) [58]).toArray⟩) W := fun W => add_cat W _ _ (by (rw [cat_len]; simp; omega))
    have ha2 : ∀ W : World, (Op.stringOp .add ⟨(cat (cat [82] (decB c.1)) [58]).toArray⟩ ⟨(catL decB [] c.2).toArray⟩).run Tryz.prog W = .ok (.string ⟨(wdT c).toArray⟩) W := fun W => by
     rw [HWD.out]; exact add_cat W _ _ (by rw [cat_len]; have := HDL.out; (rw [cat_len]; simp; omega))
    go_wp2_with (first | (go_at_call 71; refine (dec_any _ (by have := HRL.out; omega) (by have := HRL.out; omega)).mono ?_; rintro e w' ⟨rfl, rfl⟩) | (go_at_call 72; refine (digits_any _ (HS'.out.below bA) HIN.out HL3.out).mono ?_; rintro e w' ⟨rfl, rfl⟩) | (at_builtin; go_loud (refine wpList_push (E := Ty.str) _ rfl _ _ 101 9 rfl elStr rfl (HB.out.below (bA.alloc (by simp) _) (Nat.le_refl _)) rfl (news1s (by simp)) fr_str (by simp; omega) (by decide) (by omega) (by first | (simp; done) | (simp; omega)) ?_; intro v1 w5 hB1 hg1 _)))
    have hb5 : RowKit.Below w1.heap.size w1 w5 := ((hbr.alloc hbr.size _).alloc (by simp; omega) _).grown hg1 (by simp; omega) (fun q hq => HB.out.own hq)
    rw [List.append_assoc, HSN.out] at hB1
    have HB1 := Lib.hid hB1
    clear hB1 hg1
    go_wp2_with fail
    go_roundw
    case rel => exact ⟨k + 1, by omega, by go_num, HB1.out, hb5⟩
    case measure => simp [intOf]; omega
  ·obtain rfl : k = x.2.2.length := by omega
   have HF := Lib.hid (HB.out.fr (by simp; unfold capMax; omega)).rd
   have HT : Hid ([[102, 111, 114, 109, 117, 108, 97], decB x.1, decB x.2.1] ++ (x.2.2.take x.2.2.length).map wdT = [102, 111, 114, 109, 117, 108, 97] :: decB x.1 :: decB x.2.1 :: x.2.2.map wdT) := by unfold Hid; rw [List.take_length]; rfl
   unfold Hid at HF
   rw [HT.out] at HF
   have HF' := Lib.hid HF
   have HTX : Hid (Lib.join ([102, 111, 114, 109, 117, 108, 97] :: decB x.1 :: decB x.2.1 :: x.2.2.map wdT) [32] = ftV x) := by rw [HN.out]; exact frm_join x
   have HTL : Hid ((Lib.join ([102, 111, 114, 109, 117, 108, 97] :: decB x.1 :: decB x.2.1 :: x.2.2.map wdT) [32]).length ≤ 1000000000) := by
    unfold Hid
    rw [HTX.out, HN.out]
    have := txF_len HSH.out x.2.2.length
    rw [List.take_length] at this
    exact Nat.le_trans this (by omega)
   clear HF HB
   go_wp2_with (go_at_call 73; refine (Join_any _ HF'.out [32] HTL.out).mono ?_; rintro e w6 ⟨rfl, hb6⟩; rw [HTX.out])
   go_ret
   exact ⟨rfl, bthen hB1 (bthen hbr hb6)⟩
end Go.Proofs.YtnhdohednekhjaaGreatDoor
namespace Go.Proofs.YtnhdohednekhjaaGreatDoor
open Go.RowKit Go.Sort
end Go.Proofs.YtnhdohednekhjaaGreatDoor
namespace Go.Proofs.YtnhdohednekhjaaGreatDoor
open Go.RowKit Go.Sort
end Go.Proofs.YtnhdohednekhjaaGreatDoor
namespace Go.Proofs.YtnhdohednekhjaaGreatDoor
open Go.RowKit Go.Sort
/-- a text as the machine holds it -/
def bs (t : List UInt8) : ByteArray := ⟨t.toArray⟩
theorem bs_size {t : List UInt8} : (bs t).size = t.length := by show t.toArray.size = _; simp
end Go.Proofs.YtnhdohednekhjaaGreatDoor
namespace Go.Proofs
open Go.Shelf
def Tryz.laysC174_ren : Go.Shelf.Ren := ⟨fun | 174 => 151 | 247 => 217 | 245 => 218 | 287 => 240 | 279 => 241 | 280 => 242 | 281 => 243 | 282 => 244 | 321 => 262 | 322 => 263 | 316 => 264 | 171 => 266 | 205 => 265 | 243 => 284 | 246 => 221 | 283 => 246 | 284 => 247 | 285 => 248 | 286 => 249 | 129 => 268 | 317 => 267 | 318 => 269 | 319 => 270 | 320 => 271 | 337 => 285 | 338 => 286 | n => n, fun | 9 => 9 | 3 => 3 | 2 => 2 | 75 => 169 | 85 => 170 | 4 => 4 | 167 => 227 | 5 => 5 | 53 => 155 | 175 => 228 | 46 => 208 | 168 => 230 | 37 => 22 | 0 => 0 | 210 => 255 | 21 => 21 | 127 => 213 | 145 => 276 | 143 => 274 | 171 => 235 | 173 => 238 | 212 => 258 | 51 => 245 | 20 => 20 | 213 => 259 | 232 => 283 | 233 => 284 | 80 => 183 | n => n, fun | 15 => 1 | 16 => 2 | 17 => 3 | 18 => 6 | 19 => 7 | n => n⟩
theorem Tryz.laysC174 : Go.Proofs.LaysC.n174 Tryz.prog Tryz.laysC174_ren := {
 mixed := by kernel_rfl
 f129 := Tryz.func268.trans (congrArg some (by kernel_rfl))
 f171 := Tryz.func266.trans (congrArg some (by kernel_rfl))
 f174 := Tryz.func151.trans (congrArg some (by kernel_rfl))
 f205 := Tryz.func265.trans (congrArg some (by kernel_rfl))
 f243 := Tryz.func284.trans (congrArg some (by kernel_rfl))
 f245 := Tryz.func218.trans (congrArg some (by kernel_rfl))
 f246 := Tryz.func221.trans (congrArg some (by kernel_rfl))
 f247 := Tryz.func217.trans (congrArg some (by kernel_rfl))
 f279 := Tryz.func241.trans (congrArg some (by kernel_rfl))
 f280 := Tryz.func242.trans (congrArg some (by kernel_rfl))
 f281 := Tryz.func243.trans (congrArg some (by kernel_rfl))
 f282 := Tryz.func244.trans (congrArg some (by kernel_rfl))
 f283 := Tryz.func246.trans (congrArg some (by kernel_rfl))
 f284 := Tryz.func247.trans (congrArg some (by kernel_rfl))
 f285 := Tryz.func248.trans (congrArg some (by kernel_rfl))
 f286 := Tryz.func249.trans (congrArg some (by kernel_rfl))
 f287 := Tryz.func240.trans (congrArg some (by kernel_rfl))
 f316 := Tryz.func264.trans (congrArg some (by kernel_rfl))
 f317 := Tryz.func267.trans (congrArg some (by kernel_rfl))
 f318 := Tryz.func269.trans (congrArg some (by kernel_rfl))
 f319 := Tryz.func270.trans (congrArg some (by kernel_rfl))
 f320 := Tryz.func271.trans (congrArg some (by kernel_rfl))
 f321 := Tryz.func262.trans (congrArg some (by kernel_rfl))
 f322 := Tryz.func263.trans (congrArg some (by kernel_rfl))
 f337 := Tryz.func285.trans (congrArg some (by kernel_rfl))
 f338 := Tryz.func286.trans (congrArg some (by kernel_rfl))
 t0 := Tryz.underlying0
 a0 := Tryz.isAgg0
 z0 := Tryz.sizeOf0
 v0 := Tryz.zeroValue0
 t2 := Tryz.underlying2
 a2 := Tryz.isAgg2
 z2 := Tryz.sizeOf2
 v2 := Tryz.zeroValue2
 t3 := Tryz.underlying3
 a3 := Tryz.isAgg3
 z3 := Tryz.sizeOf3
 v3 := Tryz.zeroValue3
 t4 := Tryz.underlying4
 a4 := Tryz.isAgg4
 z4 := Tryz.sizeOf4
 v4 := Tryz.zeroValue4
 t5 := Tryz.underlying5
 a5 := Tryz.isAgg5
 z5 := Tryz.sizeOf5
 v5 := Tryz.zeroValue5
 t9 := Tryz.underlying9
 a9 := Tryz.isAgg9
 z9 := Tryz.sizeOf9
 v9 := Tryz.zeroValue9
 t20 := Tryz.underlying20
 a20 := Tryz.isAgg20
 z20 := Tryz.sizeOf20
 v20 := Tryz.zeroValue20
 t21 := Tryz.underlying21
 a21 := Tryz.isAgg21
 z21 := Tryz.sizeOf21
 v21 := Tryz.zeroValue21
 t37 := Tryz.underlying22
 a37 := Tryz.isAgg22
 z37 := Tryz.sizeOf22
 v37 := Tryz.zeroValue22
 t46 := Tryz.underlying208
 a46 := Tryz.isAgg208
 z46 := Tryz.sizeOf208
 v46 := Tryz.zeroValue208
 t51 := Tryz.underlying245
 a51 := Tryz.isAgg245
 z51 := Tryz.sizeOf245
 v51 := Tryz.zeroValue245
 t53 := Tryz.underlying155
 a53 := Tryz.isAgg155
 z53 := Tryz.sizeOf155
 v53 := Tryz.zeroValue155
 t75 := Tryz.underlying169
 a75 := Tryz.isAgg169
 z75 := Tryz.sizeOf169
 v75 := Tryz.zeroValue169
 t85 := Tryz.underlying170
 a85 := Tryz.isAgg170
 z85 := Tryz.sizeOf170
 v85 := Tryz.zeroValue170
 t127 := Tryz.underlying213
 a127 := Tryz.isAgg213
 z127 := Tryz.sizeOf213
 v127 := Tryz.zeroValue213
 t143 := Tryz.underlying274
 a143 := Tryz.isAgg274
 z143 := Tryz.sizeOf274
 v143 := Tryz.zeroValue274
 t145 := Tryz.underlying276
 a145 := Tryz.isAgg276
 z145 := Tryz.sizeOf276
 v145 := Tryz.zeroValue276
 t167 := Tryz.underlying227
 a167 := Tryz.isAgg227
 z167 := Tryz.sizeOf227
 v167 := Tryz.zeroValue227
 t168 := Tryz.underlying230
 a168 := Tryz.isAgg230
 z168 := Tryz.sizeOf230
 v168 := Tryz.zeroValue230
 t171 := Tryz.underlying235
 a171 := Tryz.isAgg235
 z171 := Tryz.sizeOf235
 v171 := Tryz.zeroValue235
 t173 := Tryz.underlying238
 a173 := Tryz.isAgg238
 z173 := Tryz.sizeOf238
 v173 := Tryz.zeroValue238
 t175 := Tryz.underlying228
 a175 := Tryz.isAgg228
 z175 := Tryz.sizeOf228
 v175 := Tryz.zeroValue228
 t210 := Tryz.underlying255
 a210 := Tryz.isAgg255
 z210 := Tryz.sizeOf255
 v210 := Tryz.zeroValue255
 t212 := Tryz.underlying258
 a212 := Tryz.isAgg258
 z212 := Tryz.sizeOf258
 v212 := Tryz.zeroValue258
 t213 := Tryz.underlying259
 a213 := Tryz.isAgg259
 z213 := Tryz.sizeOf259
 t232 := Tryz.underlying283
 a232 := Tryz.isAgg283
 z232 := Tryz.sizeOf283
 v232 := Tryz.zeroValue283
 t233 := Tryz.underlying284
 a233 := Tryz.isAgg284
 z233 := Tryz.sizeOf284
 v233 := Tryz.zeroValue284
 g15 := by kernel_rfl
 g16 := by kernel_rfl
 g17 := by kernel_rfl
 g18 := by kernel_rfl
 g19 := by kernel_rfl
 t80 := Tryz.underlying183
 a80 := Tryz.isAgg183
 z80 := Tryz.sizeOf183
 v80 := Tryz.zeroValue183
 i0 := by kernel_rfl
 i2 := by kernel_rfl
 i3 := by kernel_rfl
 i4 := by kernel_rfl
 i5 := by kernel_rfl
 i9 := by kernel_rfl
 i20 := by kernel_rfl
 i21 := by kernel_rfl
 i37 := by kernel_rfl
 i46 := by kernel_rfl
 i51 := by kernel_rfl
 i53 := by kernel_rfl
 i75 := by kernel_rfl
 i80 := by kernel_rfl
 i85 := by kernel_rfl
 i127 := by kernel_rfl
 i143 := by kernel_rfl
 i145 := by kernel_rfl
 i167 := by kernel_rfl
 i168 := by kernel_rfl
 i171 := by kernel_rfl
 i173 := by kernel_rfl
 i175 := by kernel_rfl
 i210 := by kernel_rfl
 i212 := by kernel_rfl
 i232 := by kernel_rfl
 i233 := by kernel_rfl
 m15 := by kernel_rfl
 m16 := by kernel_rfl
 m17 := by kernel_rfl
 m18 := by kernel_rfl
 m19 := by kernel_rfl
 c0 := by kernel_rfl
 c2 := by kernel_rfl
 c3 := by kernel_rfl
 c4 := by kernel_rfl
 c5 := by kernel_rfl
 c9 := by kernel_rfl
 c20 := by kernel_rfl
 c21 := by kernel_rfl
 c37 := by kernel_rfl
 c46 := by kernel_rfl
 c51 := by kernel_rfl
 c53 := by kernel_rfl
 c75 := by kernel_rfl
 c80 := by kernel_rfl
 c85 := by kernel_rfl
 c127 := by kernel_rfl
 c143 := by kernel_rfl
 c145 := by kernel_rfl
 c167 := by kernel_rfl
 c168 := by kernel_rfl
 c171 := by kernel_rfl
 c173 := by kernel_rfl
 c175 := by kernel_rfl
 c210 := by kernel_rfl
 c212 := by kernel_rfl
 c213 := by kernel_rfl
 c232 := by kernel_rfl
 c233 := by kernel_rfl }
open Go.RowKit in
/-- strconv.ParseInt(s, 10, 64), AT EVERY STRING THAT SPELLS AN int64 ('Lib.parseIntB 64 s.data.toList = .ok v'): v, AND NO ERROR. (LAID: no walk: one application.) -/
theorem Tryz.strconv_ParseInt_10_at64_ok (s : ByteArray) (hmax : s.size ≤ 9223372036854775806) (v : Int) (h : Lib.parseIntB 64 s.data.toList = .ok v) (w : World) :
  Calls Tryz.prog 151 #[.string s, .int .i64 10, .int .i64 64] w fun e w' => e = .returned (.tuple #[.int .i64 v, .nilIface]) ∧ (w' = w ∨ ∃ t, w' = Lib.bytesWorld w 5 t) := Any.strconv_ParseInt_10_at64_ok Tryz.laysC174 s hmax v h w
open Go.RowKit in
/-- strconv.ParseInt(s, 10, 64), AT EVERY STRING THAT IS NO DECIMAL NUMERAL: 0, AND AN ERROR THAT IS NOT nil: a *NumError in a new block N: {Func: "ParseInt", Num: s's bytes, Err: what the variable ErrSyntax holds}. Of what was there nothing has turned. (LAID: no walk: one application.) -/
theorem Tryz.strconv_ParseInt_10_at64_syntax (s : ByteArray) (hlim : s.size ≤ 281474976710656) {x : Lib.NumEnd Int} (hx0 : Lib.parseIntB 64 s.data.toList = x) (hx1 : ∀ v, x ≠ .ok v) (hx2 : x ≠ .range) (ev : Value) (w : World) (hv : w.cell? ⟨1, 0, none⟩ = some ev) (hev : ev = .nilIface ∨ ∃ te pe, ev = .iface te pe) :
  Calls Tryz.prog 151 #[.string s, .int .i64 10, .int .i64 64] w fun e w' => ∃ N, e = .returned (.tuple #[.int .i64 (0), .iface 230 (.pointer (some ⟨N, 0, none⟩))]) ∧ w.heap.size ≤ N ∧ w'.heap[N]? = some (.cells #[.string ⟨#[80, 97, 114, 115, 101, 73, 110, 116]⟩, .string s, ev] 255 (0, 0)) ∧ Below w.heap.size w w' := by
 cases x
 ·exact absurd rfl (hx1 _)
 ·exact Any.strconv_ParseInt_10_at64_syntax Tryz.laysC174 s hlim hx0 ev w hv hev
 ·exact absurd rfl hx2
open Go.RowKit in
/-- strconv.ParseInt(s, 10, 64), AT EVERY NUMERAL THAT NO int64 HOLDS: THE GREATEST OR THE LEAST int64, BY THE SIGN ('Lib.intSat 64'), AND AN ERROR THAT IS NOT nil: a *NumError in a new block N: {Func: "ParseInt", Num: s's bytes, Err: what the variable ErrRange holds}. Of what was there nothing has turned. (LAID: no walk: one application.) -/
theorem Tryz.strconv_ParseInt_10_at64_range (s : ByteArray) (hlim : s.size ≤ 281474976710656) (h : Lib.parseIntB 64 s.data.toList = .range) (ev : Value) (w : World) (hv : w.cell? ⟨2, 0, none⟩ = some ev) (hev : ev = .nilIface ∨ ∃ te pe, ev = .iface te pe) :
  Calls Tryz.prog 151 #[.string s, .int .i64 10, .int .i64 64] w fun e w' => ∃ N, e = .returned (.tuple #[.int .i64 (Lib.intSat 64 s.data.toList), .iface 230 (.pointer (some ⟨N, 0, none⟩))]) ∧ w.heap.size ≤ N ∧ w'.heap[N]? = some (.cells #[.string ⟨#[80, 97, 114, 115, 101, 73, 110, 116]⟩, .string s, ev] 255 (0, 0)) ∧ Below w.heap.size w w' := Any.strconv_ParseInt_10_at64_range Tryz.laysC174 s hlim h ev w hv hev
end Go.Proofs
namespace Go.Proofs.YtnhdohednekhjaaGreatDoor
open Go.RowKit Go.Sort
/-- what the package variables hold: bytealg.MaxLen, strconv.ErrSyntax, strconv.ErrRange, the table of powers (blocks 0, 1, 2: this seat's) -/
structure RfPre (w : World) : Prop where
 lt : 2 < w.heap.size
 len : ∃ m, w.cell? ⟨0, 0, none⟩ = some (.int .i64 m)
 es : ∃ ev, w.cell? ⟨1, 0, none⟩ = some ev ∧ (ev = .nilIface ∨ ∃ te pe, ev = .iface te pe)
 er : ∃ ev, w.cell? ⟨2, 0, none⟩ = some ev ∧ (ev = .nilIface ∨ ∃ te pe, ev = .iface te pe)
 tab : Lib.TabIs Tryz.prog w "internal/strconv.uint64pow10" .u64 Lib.pow10Tab
theorem pow_named : ∃ g, Tryz.prog.globalNamed "internal/strconv.uint64pow10" = some g := Option.isSome_iff_exists.1 (by kernel_rfl)
theorem RfPre.below {w w' : World} (h : RfPre w) (hb : Below w.heap.size w w') : RfPre w' where
 lt := Nat.lt_of_lt_of_le h.lt hb.size
 len := let ⟨m, c⟩ := h.len; ⟨m, (cellB hb (by have := h.lt; omega)).trans c⟩
 es := let ⟨m, c, d⟩ := h.es; ⟨m, (cellB hb (by have := h.lt; omega)).trans c, d⟩
 er := let ⟨m, c, d⟩ := h.er; ⟨m, (cellB hb (by have := h.lt; omega)).trans c, d⟩
 tab := let ⟨_, hg⟩ := pow_named; Go.Joins.tab_stays hg h.tab hb (Nat.le_refl _)
theorem decAll_any (w : World) (hp : RfPre w) {n : Int} (h0 : 0 ≤ n) (h1 : n ≤ 9223372036854775807) : Calls Tryz.prog 71 #[.int .i64 n] w fun e w' => e = .returned (.string (bs (decB n))) ∧ Below w.heap.size w w' := by
 have HK : Hid (Lib.itoa n = decB n) := by unfold Hid Lib.itoa decB; rw [if_neg (by omega)]
 have HP := Lib.hid hp
 clear hp
 go_enter Tryz.func71, Tryz.ntmps71
 go_wp2_with fail
 refine (Tryz.strconv_FormatInt_10 n (by omega) h1 w HP.out.tab).mono ?_
 rintro e w1 ⟨rfl, k, os, rfl⟩
 rw [HK.out]
 have hb : Below w.heap.size w (grow (w.drewN k) os) := Lib.below_grow _ w (Nat.le_refl _) k os
 go_wp2_with fail
 go_ret
 exact ⟨rfl, hb⟩
theorem parse_le {t : List UInt8} {v : Int} (h : Lib.parseIntB 64 t = .ok v) : v ≤ 9223372036854775807 := by
 unfold Lib.parseIntB at h
 cases t with
 | nil => cases h
 | cons c r =>
  simp only at h
  split at h
  ·cases h
  ·cases h
  ·rename_i u _
   split at h
   ·cases h
   ·rename_i h1
    split at h
    ·cases h
    ·have := Lib.NumEnd.ok.inj h
     subst this
     by_cases hn : c.toNat = 45
     ·rw [if_pos hn]; omega
     ·rw [if_neg hn]
      have : ¬ (2 ^ (64 - 1) ≤ u) := fun hh => h1 ⟨hn, hh⟩
      omega
theorem numI_bd {t : List UInt8} : -2 ≤ numI t := by
 unfold numI
 split
 ·split
  ·omega
  ·rename_i hv
   split
   ·have := of_decide_eq_false hv; omega
   ·omega
 ·omega
set_option maxHeartbeats 1600000 in
theorem readNumber_any (w : World) (hp : RfPre w) {t : List UInt8} (hl : t.length ≤ 100000) :
  Calls Tryz.prog 68 #[.string (bs t)] w fun e w' => e = .returned (.int .i64 (numI t)) ∧ Below w.heap.size w w' := by
 have HP := Lib.hid hp
 have hd : (bs t).data.toList = t := by simp [bs]
 have hs : (bs t).size = t.length := bs_size
 have HD := Lib.hid hd
 have HS := Lib.hid hs
 clear hp hd hs
 cases hq : Lib.parseIntB 64 t
 case ok v =>
  go_enter Tryz.func68, Tryz.ntmps68
  go_wp2_with fail
  refine (Tryz.strconv_ParseInt_10_at64_ok (bs t) (by rw [HS.out]; omega) v (by rw [HD.out]; exact hq) w).mono ?_
  rintro e w1 ⟨rfl, hw⟩
  have hb1 : Below w.heap.size w w1 := by
   rcases hw with rfl | ⟨x, rfl⟩
   ·exact Below.refl _ _
   ·exact Lib.bytesWorld_below _ _ _
  clear hw
  cases hv : decide (v < 0)
  ·have hv0 : 0 ≤ v := by have := of_decide_eq_false hv; omega
   have hv63 := parse_le hq
   have HP1 := Lib.hid (HP.out.below hb1)
   have HNI : Hid (numI t = match decB v == t with | true => v | false => -2) := by
    unfold Hid numI
    rw [hq]
    simp only [hv]
    cases decB v == t <;> rfl
   clear hq
   go_wp2_with fail
   refine (decAll_any w1 HP1.out hv0 hv63).mono ?_
   rintro e w2 ⟨rfl, hb2⟩
   have hB2 := bthen hb1 hb2
   have hcm : ((bs (decB v)).toList == (bs t).toList) = (decB v == t) := by
    rw [show (bs (decB v)).toList = decB v from ByteArray.toList_mk _, show (bs t).toList = t from ByteArray.toList_mk _]
   cases hc : (decB v == t)
   ·have HN : Hid (numI t = -2) := by unfold Hid; rw [HNI.out, hc]
    rw [hc] at hcm
    go_wp2_with fail
    go_ret
    rw [HN.out]
    exact ⟨rfl, hB2⟩
   ·have HN : Hid (numI t = v) := by unfold Hid; rw [HNI.out, hc]
    rw [hc] at hcm
    go_wp2_with fail
    go_ret
    rw [HN.out]
    exact ⟨rfl, hB2⟩
  ·have HN : Hid (numI t = -2) := by unfold Hid numI; rw [hq]; simp only [hv]
   have hv0 : v < 0 := of_decide_eq_true hv
   go_wp2_with fail
   go_ret
   rw [HN.out]
   exact ⟨rfl, hb1⟩
 case range =>
  have HN : Hid (numI t = -2) := by unfold Hid numI; rw [hq]
  obtain ⟨ev, c, d⟩ := HP.out.er
  go_enter Tryz.func68, Tryz.ntmps68
  go_wp2_with fail
  refine (Tryz.strconv_ParseInt_10_at64_range (bs t) (by rw [HS.out]; omega) (by rw [HD.out]; exact hq) ev w c d).mono ?_
  rintro e w1 ⟨N, rfl, -, -, hb1⟩
  go_wp2_with fail
  go_ret
  rw [HN.out]
  exact ⟨rfl, hb1⟩
 ·have HN : Hid (numI t = -2) := by unfold Hid numI; rw [hq]
  obtain ⟨ev, c, d⟩ := HP.out.es
  go_enter Tryz.func68, Tryz.ntmps68
  go_wp2_with fail
  refine (Tryz.strconv_ParseInt_10_at64_syntax (bs t) (by rw [HS.out]; omega) ((congrArg (Lib.parseIntB 64) HD.out).trans hq) (fun v e => by cases e) (fun e => by cases e) ev w c d).mono ?_
  rintro e w1 ⟨N, rfl, -, -, hb1⟩
  go_wp2_with fail
  go_ret
  rw [HN.out]
  exact ⟨rfl, hb1⟩
end Go.Proofs.YtnhdohednekhjaaGreatDoor
namespace Go.Proofs.YtnhdohednekhjaaGreatDoor
open Go.RowKit Go.Sort
theorem digR_no {t : List UInt8} {k : Nat} (h : k < t.length) (hf : isDg t[k] = false) : digR t = [] := by
 unfold digR
 have : t.all isDg = false := by
  rw [List.all_eq_false]
  exact ⟨t[k], List.getElem_mem h, by rw [hf]; simp⟩
 rw [this]
set_option maxHeartbeats 3200000 in
set_option maxRecDepth 100000 in
theorem readDigits_any (w : World) {t : List UInt8} (hl : t.length ≤ 100000) :
  Calls Tryz.prog 133 #[.string (bs t)] w (RetS intsT w (digR t)) := by
 obtain ⟨S, hS⟩ : ∃ S, S = bs t := ⟨_, rfl⟩
 have hsz : S.size = t.length := by rw [hS, bs_size]
 have HDT : Hid (S.data.toList = t) := by unfold Hid; rw [hS]; simp [bs]
 rw [← hS]
 clear hS
 have hcv := fun W : World => Lib.run_convert_string_bytes (P := Tryz.prog) W 9 22 5 S Tryz.underlying9 Tryz.underlying22 Tryz.underlying5
 go_enter Tryz.func133, Tryz.ntmps133
 go_wp2_with fail
 clear hcv
 generalize hW0 : World.alloc w _ = X0
 have hb0 : Below w.heap.size w X0 := hW0 ▸ bA
 have hs0 : X0.heap.size = w.heap.size + 1 := by rw [← hW0]; simp
 have HB0 : Hid (Bl Ty.int 2 w.heap.size X0.heap.size X0 (.slice (some ⟨w.heap.size, 0, none⟩) 0 0) []) := by
  unfold Hid
  rw [← hW0]
  simpa using Bl.lit0 (E := Ty.int) (e := 2) (w := w) (Nat.le_refl _)
 clear hW0
 generalize hWX : Lib.bytesWorld X0 _ S = X
 have hbX : Below X0.heap.size X0 X := hWX ▸ Lib.bytesWorld_below _ _ _
 have HCE : Hid (∀ j (h : j < t.length), X.cell? ⟨w.heap.size + 1, j, none⟩ = some (.int .u8 (t[j]).toNat)) := fun j h => by
  rw [← hWX, ← hs0, Lib.bytesWorld_cell _ _ _ _ (by omega), HDT.out, List.getD_eq_getElem?_getD, List.getElem?_eq_getElem h]
  rfl
 have hsX : w.heap.size + 2 ≤ X.heap.size := by rw [← hWX, Lib.bytesWorld_size]; omega
 have HB1 : Hid (Bl Ty.int 2 w.heap.size X.heap.size X (.slice (some ⟨w.heap.size, 0, none⟩) 0 0) []) := (HB0.out.below hbX (Nat.le_refl _)).mono hbX.size
 have hbw : Below w.heap.size w X := bthen hb0 hbX
 clear hWX HB0 HDT hb0 hbX
 go_loopw [10, 3] (fun i q wr => ∃ k : Nat, k ≤ t.length ∧ i = .int .i64 k ∧ (t.take k).all isDg = true ∧ Bl Ty.int 2 w.heap.size wr.heap.size wr q ((t.take k).map dgV) ∧ Below w.heap.size w wr ∧ (q.ownBlock ≠ some (w.heap.size + 1) ∧ wr.heap[w.heap.size + 1]? = X.heap[w.heap.size + 1]? ∧ X.heap.size ≤ wr.heap.size)) (fun i _ _ => t.length - (intOf i).toNat)
 case atStart => exact ⟨0, Nat.zero_le _, rfl, by simp, by simpa using HB1.out, hbw, by simp [Value.ownBlock], rfl, Nat.le_refl _⟩
 case round =>
  obtain ⟨k, hk, rfl, hdg, hBl, hbe, hrow⟩ := hrel
  obtain ⟨wv, rfl⟩ : ∃ wv : World, wv = wr := ⟨_, rfl⟩
  have HB := Lib.hid hBl
  have HR := Lib.hid hrow
  have HDG := Lib.hid hdg
  have hzv := hbe.size
  have hzr := hrow.2.2
  have hml : ((t.take k).map dgV).length ≤ 100000 := by rw [List.length_map, List.length_take]; omega
  clear hBl hrow hdg HB1
  by_cases hkl : k < t.length
  ·have e0 := (World.cell?_of_block (a := ⟨w.heap.size + 1, k, none⟩) HR.out.2.1).trans (HCE.out k hkl)
   have HNO : Hid (isDg t[k] = false → digR t = []) := digR_no hkl
   have HSN : Hid (t.take (k + 1) = t.take k ++ [t[k]]) := List.take_succ_eq_append_getElem hkl
   generalize t[k] = c at e0 HNO HSN
   by_cases hlo : c.toNat < 48
   ·have HN : Hid (digR t = []) := HNO.out (by unfold isDg; rw [show decide (48 ≤ c.toNat) = false by simpa using hlo]; rfl)
    go_wp2_with fail
    go_ret
    exact ⟨_, rfl, by rw [HN.out]; exact fr_nil, hbe⟩
   by_cases hhi : 57 < c.toNat
   ·have HN : Hid (digR t = []) := HNO.out (by unfold isDg; rw [show decide (c.toNat ≤ 57) = false by simpa using hhi]; simp)
    go_wp2_with fail
    go_ret
    exact ⟨_, rfl, by rw [HN.out]; exact fr_nil, hbe⟩
   have HT : Hid (isDg c = true) := by unfold Hid isDg; simp; omega
   have HI : Hid (I64 ((c.toNat : Int) - 48)) := I64.small (by omega) (by omega)
   go_wp2_with (refine wpList_push (E := Ty.int) _ rfl _ _ 48 2 rfl elInt rfl (HB.out.below bA (Nat.le_refl _)) rfl news1 (fr_int HI.out) (by omega) (by decide) hzv (by simp) ?_; intro v6 w6 hB6 hg6 ho6)
   have hb6 : Below w.heap.size w w6 := (hbe.alloc hbe.size _).grown hg6 (by simp; omega) (fun q hq => HB.out.own hq)
   have HB6 := Lib.hid hB6
   have HR6 : Hid (v6.ownBlock ≠ some (w.heap.size + 1) ∧ w6.heap[w.heap.size + 1]? = X.heap[w.heap.size + 1]? ∧ X.heap.size ≤ w6.heap.size) := by
    obtain ⟨n1, n2, n3⟩ := HR.out
    have hz6 := hg6.size
    simp only [World.size_alloc] at hz6
    refine ⟨?_, ?_, by omega⟩
    ·rcases ho6 with e | e <;> rw [e]
     ·exact n1
     ·intro h; simp at h; omega
    ·rw [hg6.block (w.heap.size + 1) (by simp; omega) (fun h => n1 h.symm), ← n2]
     exact (bA (w := wv)).block (w.heap.size + 1) (by omega)
   clear hB6 ho6 hg6
   go_wp2_with fail
   go_roundw
   case rel => exact ⟨k + 1, by omega, by go_num, by rw [HSN.out, List.all_append, HDG.out]; simp [HT.out], by rw [HSN.out, List.map_append]; exact HB6.out, hb6, HR6.out⟩
   case measure => simp [intOf]; omega
  ·obtain rfl : k = t.length := by omega
   have HN : Hid (digR t = (t.take t.length).map dgV) := by
    have := HDG.out
    rw [List.take_length] at this
    unfold Hid digR
    rw [this, List.take_length]
   have HF := Lib.hid (HB.out.fr (by unfold capMax; omega))
   go_wp2_with fail
   go_ret
   exact ⟨_, rfl, by rw [HN.out]; exact HF.out, hbe⟩
end Go.Proofs.YtnhdohednekhjaaGreatDoor
namespace Go.Proofs.YtnhdohednekhjaaGreatDoor
open Go.RowKit Go.Sort
theorem rel_cases {l : List UInt8} : (Lib.hasPrefix l [82] = true ∧ relI l = numI (Lib.trimPrefix l [82]) ∧ (Lib.trimPrefix l [82]).length ≤ l.length) ∨ (Lib.hasPrefix l [82] = false ∧ relI l = -1) := by
 cases l with
 | nil => exact .inr ⟨rfl, rfl⟩
 | cons c r =>
  cases h : (c == 82)
  ·refine .inr ⟨?_, by simp only [relI, h]⟩
   have : ¬ (82 : UInt8) = c := fun e => by rw [← e] at h; exact absurd h (by decide)
   simp [Lib.hasPrefix, List.isPrefixOf, this]
  ·obtain rfl := beq_iff_eq.1 h
   refine .inl ⟨by simp [Lib.hasPrefix], ?_, ?_⟩
   ·simp [relI, Lib.trimPrefix, Lib.hasPrefix]
   ·simp [Lib.trimPrefix, Lib.hasPrefix]
theorem cut_le {l b : List UInt8} : (Lib.cut l b).1.length ≤ l.length ∧ (Lib.cut l b).2.1.length ≤ l.length := by
 unfold Lib.cut
 split
 ·exact ⟨by simp only [List.length_take]; omega, by simp only [List.length_drop]; omega⟩
 ·exact ⟨Nat.le_refl _, by simp⟩
theorem numI_I {t : List UInt8} : I64 (numI t) := by
 have h1 := numI_bd (t := t)
 have h2 : numI t ≤ 9223372036854775807 := by
  unfold numI
  split
  ·rename_i v hv
   have := parse_le hv
   split
   ·omega
   ·split <;> omega
  ·omega
 unfold I64
 omega
set_option maxHeartbeats 3200000 in
set_option maxRecDepth 100000 in
theorem readAtom_any (w : World) (hp : RfPre w) {t : List UInt8} (hl : t.length ≤ 100000) :
  Calls Tryz.prog 69 #[.string (bs t)] w (RetA opT w (atomI t)) := by
 have HP := Lib.hid hp
 have HAT : Hid (atomI t = (relI (Lib.cut t [58]).1, digR (Lib.cut t [58]).2.1)) := rfl
 have hc := cut_le (l := t) (b := [58])
 have hd : (bs t).data.toList = t := by simp [bs]
 have HD := Lib.hid hd
 clear hp hd
 go_enter Tryz.func69, Tryz.ntmps69
 go_wp2_with fail
 generalize hW : World.alloc w _ = X
 have hbX : Below w.heap.size w X := hW ▸ bA
 have hsX : w.heap.size + 1 ≤ X.heap.size := by rw [← hW]; simp
 have r0 : X.cell? ⟨w.heap.size, 0, none⟩ = some (.int .i64 0) := by rw [← hW]; simp [go_sem]
 have r1 : X.cell? ⟨w.heap.size, 1, none⟩ = some (.slice none 0 0) := by rw [← hW]; simp [go_sem]
 have q0 : X.frozen? ⟨w.heap.size, 0, none⟩ = false := by rw [← hW]; simp [go_sem]
 have q1 : X.frozen? ⟨w.heap.size, 1, none⟩ = false := by rw [← hW]; simp [go_sem]
 clear hW
 obtain ⟨m, hm⟩ := (HP.out.below hbX).len
 refine (Tryz.strings_Cut (bs t) ⟨#[58]⟩ m X (by rw [bs_size]; omega) hm).mono ?_
 rintro e w1 ⟨rfl, n, rfl⟩
 rw [HD.out, show (⟨#[58]⟩ : ByteArray).data.toList = [58] from rfl]
 have hb1 : Below X.heap.size X (X.drewN n) := (Quiet.drewN X n).below
 generalize X.drewN n = w1 at hb1 ⊢
 generalize (Lib.cut t [58]).2.2 = bb
 generalize (Lib.cut t [58]).2.1 = D at hc HAT ⊢
 generalize (Lib.cut t [58]).1 = R at hc HAT ⊢
 have hB1 := bthen hbX hb1
 have hz1 := hb1.size
 replace r0 := (cellB hb1 (by omega)).trans r0
 replace r1 := (cellB hb1 (by omega)).trans r1
 replace q0 := (frozenB hb1 (by omega)).trans q0
 replace q1 := (frozenB hb1 (by omega)).trans q1
 clear hm
 go_wp2_with fail
 refine (readDigits_any w1 (t := D) (by omega)).mono ?_
 rintro e w2 ⟨u, rfl, hf, hb2⟩
 obtain ⟨da, dc, rfl⟩ := fr_slice hf
 have HF := Lib.hid hf
 have hB2 := bthen hB1 hb2
 have hz2 := hb2.size
 replace r0 := (cellB hb2 (by omega)).trans r0
 replace r1 := (cellB hb2 (by omega)).trans r1
 replace q0 := (frozenB hb2 (by omega)).trans q0
 replace q1 := (frozenB hb2 (by omega)).trans q1
 clear hf
 go_wp2_with fail
 generalize hW : World.alloc w2 _ = w3
 have hb3 : Below w2.heap.size w2 w3 := hW ▸ bA
 have hs3 : w2.heap.size + 1 ≤ w3.heap.size := by rw [← hW]; simp
 have b0 : w3.cell? ⟨w2.heap.size, 0, none⟩ = some (.int .i64 (-1)) := by rw [← hW]; simp [go_sem]
 have b1 : w3.cell? ⟨w2.heap.size, 1, none⟩ = some (.slice da (digR D).length dc) := by rw [← hW]; simp [go_sem]
 have c0 : w3.frozen? ⟨w2.heap.size, 0, none⟩ = false := by rw [← hW]; simp [go_sem]
 clear hW
 have hB3 := bthen hB2 hb3
 have hz3 := hb3.size
 replace r0 := (cellB hb3 (by omega)).trans r0
 replace r1 := (cellB hb3 (by omega)).trans r1
 replace q0 := (frozenB hb3 (by omega)).trans q0
 replace q1 := (frozenB hb3 (by omega)).trans q1
 refine (Tryz.strings_CutPrefix ⟨R.toArray⟩ ⟨#[82]⟩ w3).mono ?_
 rintro e x3 ⟨rfl, hx3⟩
 obtain rfl : w3 = x3 := hx3.symm
 clear hx3
 rw [show (⟨R.toArray⟩ : ByteArray).data.toList = R by simp, show (⟨#[82]⟩ : ByteArray).data.toList = [82] from rfl]
 rcases rel_cases (l := R) with ⟨h1, h2, h3⟩ | ⟨h1, h2⟩
 ·rw [h1]
  have HR := Lib.hid h2
  clear h1 h2
  generalize Lib.trimPrefix R [82] = T at HR h3 ⊢
  go_wp2_with fail
  refine (readNumber_any w3 (HP.out.below hB3) (t := T) (by omega)).mono ?_
  rintro e w4 ⟨rfl, hb4⟩
  have hB4 := bthen hB3 hb4
  have hz4 := hb4.size
  replace r0 := (cellB hb4 (by omega)).trans r0
  replace r1 := (cellB hb4 (by omega)).trans r1
  replace b0 := (cellB hb4 (by omega)).trans b0
  replace b1 := (cellB hb4 (by omega)).trans b1
  replace q0 := (frozenB hb4 (by omega)).trans q0
  replace q1 := (frozenB hb4 (by omega)).trans q1
  replace c0 := (frozenB hb4 (by omega)).trans c0
  go_wp2_with fail
  have k0 : (w4.setCell ⟨w2.heap.size, 0, none⟩ (.int .i64 (numI T))).cell? ⟨w.heap.size, 0, none⟩ = some (.int .i64 0) := (World.cell?_setCell_other _ _ _ _ (by first | (simp; done) | (simp; omega))).trans r0
  have k1 : (w4.setCell ⟨w2.heap.size, 0, none⟩ (.int .i64 (numI T))).cell? ⟨w.heap.size, 1, none⟩ = some (.slice none 0 0) := (World.cell?_setCell_other _ _ _ _ (by first | (simp; done) | (simp; omega))).trans r1
  have hb5 : Below w2.heap.size w2 (w4.setCell ⟨w2.heap.size, 0, none⟩ (.int .i64 (numI T))) := (bthen hb3 hb4).setCell (Nat.le_refl _) _
  have hB5 : Below w.heap.size w (w4.setCell ⟨w2.heap.size, 0, none⟩ (.int .i64 (numI T))) := hB4.setCell (by first | (simp; done) | (simp; omega)) _
  generalize w4.setCell ⟨w2.heap.size, 0, none⟩ (.int .i64 (numI T)) = w5 at k0 k1 hb5 hB5 ⊢
  obtain ⟨g0, g1⟩ := set2_cells (x := .int .i64 (numI T)) (y := .slice da (digR D).length dc) k0 k1
  refine bodyPost_ret (v := .agg #[.int .i64 (numI T), .slice da (digR D).length dc]) (by simp [results, Tryz.results69, go_sem, g0, g1]) rfl ⟨[.int .i64 (numI T), .slice da (digR D).length dc], rfl, ?_, ?_⟩
  ·rw [HAT.out, HR.out]
   exact ((fr_set2 (fr_cons numI_I (HF.out.below hb5)) (by omega)).mono (by omega))
  ·exact (hB5.setCell (by simp) _).setCell (by simp) _
 ·rw [h1]
  have HR := Lib.hid h2
  clear h1 h2
  go_wp2_with fail
  obtain ⟨g0, g1⟩ := set2_cells (x := .int .i64 (-1)) (y := .slice da (digR D).length dc) r0 r1
  refine bodyPost_ret (v := .agg #[.int .i64 (-1), .slice da (digR D).length dc]) (by simp [results, Tryz.results69, go_sem, g0, g1]) rfl ⟨[.int .i64 (-1), .slice da (digR D).length dc], rfl, ?_, ?_⟩
  ·rw [HAT.out, HR.out]
   exact ((fr_set2 (fr_cons (I64.small (by omega) (by omega)) (HF.out.below hb3)) (by omega)).mono (by omega))
  ·exact (hB3.setCell (by simp) _).setCell (by simp) _
end Go.Proofs.YtnhdohednekhjaaGreatDoor
namespace Go.Proofs.YtnhdohednekhjaaGreatDoor
open Go.RowKit Go.Sort
end Go.Proofs.YtnhdohednekhjaaGreatDoor
