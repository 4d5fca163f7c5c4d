/-
Contracts: MakePairs, the program's.
Contracts: ReplayPairs, the program's.
Contracts: whether the atoms that are due hold.
Contracts: the search, told to a listener.
Contracts: a search's own data, made.
Contracts: a search for an instance; the first values.
Contracts: the solutions of an instance, counted, listed, the first; the program's.
Contracts: the solutions of an instance, the reference's.
Contracts: the first values for which all atoms hold, the reference's.
Contracts: whether a formula holds at a tuple, and where; both sides.
Contracts: the value of a formula, both sides.
Plain: when a tuple is in the value of a formula: when there are values at which all atoms hold.
Contracts: placing a formula: the program's.
Contracts: the formula of an instance, both sides.
Contracts: the conjunction of two formulas.
Plain mathematics: the tuples of a relation made by number are in order; where two values of formulas are apart.
Contracts: the value of a formula with its code, both sides.
Contracts: a template in new memory; a template extended by a formula: plain parts, the program's copies.
Plain: values of formulas: which tuples they have; operations that keep a template keep them.
Plain: the pair relations that steps leave lie in the first ones, and hold all solutions; steps that are replayed.
What the walk of FnPairsLeft asks beside its contracts: plain facts, rows' elements, an append of a row that lies in older memory.
Contracts: the solutions of an instance, counted, listed, the first; the reference's.
Contracts: relations and tuples compared; whether a relation has a tuple, and whether an operation keeps a relation, checked.
-/
import Derived.Test.YtmnjlhcbabhhlaaGreatQAF
import Derived.Test.YtmnjlhcbabhhlaaGreatQAC
import Derived.Test.YtmnjlhcbabhhlaaGreatQAB
import Derived.Test.YtmnjlhcbabhhlaaGreatQAE
import Derived.Test.YtmnjlhcbabhhlaaGreatQAD
import Derived.Test.YtmnjlhcbabhhlaaGreatQAA
namespace Go.Proofs.YtmnjlhcbabhhlaaGreat
open Go.RowKit Go.Sort
theorem allP_cnt {t : Int × List (Int × List (List Int))} {x : Int × List (Int × List Int)} {N : Nat} : ∀ {n : Nat}, (allP t x N n).length = n * (n - 1) / 2
 | 0 => by simp [allP]
 | n + 1 => by
  rw [← allP_succ, List.length_append, rowP_len, allP_cnt (n := n), Nat.add_sub_cancel, tri_succ]
theorem allP_mem {t : Int × List (Int × List (List Int))} {x : Int × List (Int × List Int)} {N n : Nat} {r : Int × List (List Int)} (h : r ∈ allP t x N n) : ∃ i j : Nat, i < j ∧ j < n ∧ r = ((2 : Int), relL t.1 2 (leftB t x i j) N) := by
 obtain ⟨j, hj, h⟩ := List.mem_flatMap.1 h
 obtain ⟨i, hi, rfl⟩ := List.mem_map.1 h
 exact ⟨i, j, by simpa using hi, by simpa using hj, rfl⟩
theorem allP_ok {t : Int × List (Int × List (List Int))} {x : Int × List (Int × List Int)} {N n : Nat} (hs : sizeOk t.1) (hN : t.1 ^ 2 = N) : RlOk t.1 n (allP t x N n) := by
 refine ⟨allP_cnt, fun r hr => ?_⟩
 obtain ⟨i, j, -, -, rfl⟩ := allP_mem hr
 exact ⟨relL_ok hs (ar := 2) (by omega) hN, rfl⟩
theorem tot_bd {c : Nat} : ∀ {P : Rels}, (∀ r ∈ P, r.2.length ≤ c) → totP P ≤ P.length * c
 | [], _ => by simp [totP]
 | r :: P, h => by
  have h1 := h r (by simp)
  have h2 := tot_bd (P := P) fun r hr => h r (by simp [hr])
  unfold totP at h2 ⊢
  simp only [List.map_cons, List.sum_cons, List.length_cons]
  rw [Nat.succ_mul]
  omega
theorem allP_tot {t : Int × List (Int × List (List Int))} {x : Int × List (Int × List Int)} {N n : Nat} (hN : N ≤ 16) (hn : n ≤ 10) : totP (allP t x N n) ≤ 1600 := by
 have h1 := tot_bd (c := 16) (P := allP t x N n) fun r hr => by
  obtain ⟨i, j, -, -, rfl⟩ := allP_mem hr
  exact Nat.le_trans relL_len hN
 have h2 := allP_len (t := t) (x := x) (N := N) hn
 omega
/-- what MakePairs answers at a valid instance -/
def MkRC (w : World) (P : Rels) (S : List Stp) (e : Ending) (w' : World) : Prop := ∃ ad c ov, e = .returned (.tuple #[.slice ad P.length c, ov, .int .i64 0]) ∧ relsT.Rd w' [.slice ad P.length c] P ∧ (Ty.slice pstT).Fr w.heap.size w' [ov] (S.map pstI) ∧ Below w.heap.size w w'
noncomputable def mkpV (t : Int × List (Int × List (List Int))) (x : Int × List (Int × List Int)) : Rels × List Stp := mkP t.1 x.1.toNat (allP t x (t.1 ^ 2).toNat x.1.toNat, [])
set_option maxHeartbeats 1600000 in
set_option maxRecDepth 100000 in
theorem MakePairs_any (w : World) {cs cs' : Array Value} {t : Int × List (Int × List (List Int))} {x : Int × List (Int × List Int)} (h : tplT.Rd w cs.toList t) (h' : instT.Rd w cs'.toList x) (hok : instOk t x) :
  Calls Tryz.prog 7 #[.agg cs, .agg cs'] w (MkRC w (mkpV t x).1 (mkpV t x).2) := by
 have HT := Lib.hid h
 have HX := Lib.hid h'
 have HOK := Lib.hid hok
 have HIO : Hid (tb (instOk t x) = true) := tb_true hok
 obtain ⟨v1, hv, hI, -⟩ := pair_ex h
 obtain rfl := agg_of hv
 obtain ⟨v2, hv', hI', -⟩ := pair_ex h'
 obtain rfl := agg_of hv'
 have hs := hok.1.1
 unfold sizeOk at hs
 have hx1 := hok.2.1
 have HS := Lib.hid hok.1.1
 obtain ⟨n, hn⟩ : ∃ n : Nat, x.1 = n := ⟨x.1.toNat, by omega⟩
 have hN16 : (t.1 ^ 2).toNat ≤ 16 := by
  have : t.1 * t.1 ≤ 4 * 4 := Int.mul_le_mul hs.2 hs.2 (by omega) (by omega)
  rw [Int.pow_succ, Int.pow_succ, Int.pow_zero, Int.one_mul]
  omega
 have HN : Hid (t.1 ^ 2 = ((t.1 ^ 2).toNat : Int)) := by unfold Hid; have := pow_nn (s := t.1) (by omega) 2; omega
 have HXN := Lib.hid hn
 have HV : Hid (mkpV t x = mkP t.1 n (allP t x (t.1 ^ 2).toNat n, [])) := by unfold Hid mkpV; rw [hn]; rfl
 generalize (t.1 ^ 2).toNat = N at *
 rw [hn] at hx1
 clear h hv h' hv' hok hn
 go_enter Tryz.func7, Tryz.ntmps7
 go_wp2_with fail
 generalize hW : World.alloc _ _ = W
 have hbW : Below w.heap.size w W := hW ▸ bAA
 have t0 : W.cell? ⟨w.heap.size, 0, none⟩ = some (.int .i64 t.1) := by rw [← hW]; simp [go_sem]
 have t1 : W.cell? ⟨w.heap.size, 1, none⟩ = some v1 := by rw [← hW]; simp [go_sem]
 have x0 : W.cell? ⟨w.heap.size + 1, 0, none⟩ = some (.int .i64 x.1) := by rw [← hW]; simp [go_sem]
 have x1 : W.cell? ⟨w.heap.size + 1, 1, none⟩ = some v2 := by rw [← hW]; simp [go_sem]
 clear hW
 refine (ValidInstance_any _ (HT.out.below hbW) (HX.out.below hbW)).mono ?_
 rintro e w1 ⟨rfl, hb1⟩
 have hB1 := bthen hbW hb1
 have hl0 := cell_lt t0
 have hl1 := cell_lt x0
 replace t0 := (cellB hb1 (by omega)).trans t0
 replace t1 := (cellB hb1 (by omega)).trans t1
 replace x0 := (cellB hb1 (by omega)).trans x0
 replace x1 := (cellB hb1 (by omega)).trans x1
 rw [HIO.out]
 clear hb1 hbW
 go_wp2_with fail
 refine (makePairs_any w1 (HT.out.below hB1) (HX.out.below hB1) HOK.out HN.out HXN.out (allP_ok HS.out HN.out) (allP_tot hN16 (by omega)) (T0 := 1600) (by omega)).mono ?_
 rintro e w2 ⟨ad, c, ov, rfl, g1, g2, hb2⟩
 rw [← HV.out] at g1 g2 ⊢
 have HG1 := Lib.hid g1
 have HG2 := Lib.hid g2
 clear g1 g2
 go_wp2_with fail
 go_ret3
 exact ⟨ad, c, ov, rfl, HG1.out, HG2.out.mono hB1.size, bthen hB1 hb2⟩
end Go.Proofs.YtmnjlhcbabhhlaaGreat
namespace Go.Proofs.YtmnjlhcbabhhlaaGreat
open Go.RowKit Go.Sort
/-- steps that are right up to place M -/
def GoodTo (s : Int) (n : Nat) (P : Rels) (S : List Stp) (M : Nat) : Prop := ∀ q (h : q < S.length), q < M → (S[q].1 < S[q].2.1 ∧ S[q].2.1 < n ∧ S[q].2.2 < n ∧ S[q].2.2 ≠ S[q].1 ∧ S[q].2.2 ≠ S[q].2.1) ∧ nwB s (repS s P (S.take q)) S[q].1 S[q].2.1 S[q].2.2 = true
theorem repS_next {s : Int} {P : Rels} {S : List Stp} {q : Nat} (h : q < S.length) : repS s P (S.take (q + 1)) = nwV s (repS s P (S.take q)) S[q].1 S[q].2.1 S[q].2.2 := by
 rw [← repS_snoc, List.take_append_getElem h]
/-- what ReplayPairs answers -/
def RpR (s : Int) (P : Rels) (S : List Stp) (M : Nat) (w : World) (e : Ending) (w' : World) : Prop := ∃ ad c P' r k, e = .returned (.tuple #[.slice ad P'.length c, .int .i64 r, .int .i64 k]) ∧ relsT.Rd w' [.slice ad P'.length c] P' ∧ Below w.heap.size w w' ∧ ((M = S.length ∧ P' = repS s P S ∧ r = 0 ∧ k = 0) ∨ (M < S.length ∧ P' = [] ∧ r = M ∧ k = 8))
set_option maxHeartbeats 3200000 in
set_option maxRecDepth 100000 in
theorem ReplayPairs_any (w : World) {cs cs' : Array Value} {t : Int × List (Int × List (List Int))} {x : Int × List (Int × List Int)} (h : tplT.Rd w cs.toList t) (h' : instT.Rd w cs'.toList x) (hok : instOk t x) {u : Value} {S : List Stp} (hu : (Ty.slice pstT).Rd w [u] (S.map pstI)) (hbd : ∀ e ∈ S, e.1 ≤ 100 ∧ e.2.1 ≤ 100 ∧ e.2.2 ≤ 100) (hlen : S.length ≤ 1000000) {M : Nat} (hM : M ≤ S.length)
  (hg : GoodTo t.1 x.1.toNat (allP t x (t.1 ^ 2).toNat x.1.toNat) S M) (hbad : ∀ h : M < S.length, (S[M]).2.2 = (S[M]).2.1) :
  Calls Tryz.prog 9 #[.agg cs, .agg cs', u] w (RpR t.1 (allP t x (t.1 ^ 2).toNat x.1.toNat) S M w) := by
 have HT := Lib.hid h
 have HX := Lib.hid h'
 have HOK := Lib.hid hok
 have HIO : Hid (tb (instOk t x) = true) := tb_true hok
 obtain ⟨v1, hv, hI, -⟩ := pair_ex h
 obtain rfl := agg_of hv
 obtain ⟨v2, hv', hI', -⟩ := pair_ex h'
 obtain rfl := agg_of hv'
 obtain ⟨uad, uc, huv, -, -, hue⟩ := Ty.slice_ex hu
 obtain rfl : u = _ := by simpa using huv
 have hue2 : 0 < S.length → ∃ ub uo, uad = some ⟨ub, uo, none⟩ ∧ ub < w.heap.size ∧ ∀ i (h : i < S.length), w.cell? ⟨ub, uo + i * 3, none⟩ = some (.int .i64 ((S[i]).1 : Int)) ∧ w.cell? ⟨ub, uo + i * 3 + 1, none⟩ = some (.int .i64 ((S[i]).2.1 : Int)) ∧ w.cell? ⟨ub, uo + i * 3 + 2, none⟩ = some (.int .i64 ((S[i]).2.2 : Int)) := by
  intro hp
  obtain ⟨ub, uo, he, hlt, hc⟩ := hue (by simpa using hp)
  refine ⟨ub, uo, he, hlt, fun i hi => ?_⟩
  obtain ⟨ecs, h1, h2⟩ := hc i (by simpa using hi)
  rw [List.getElem_map] at h1
  obtain ⟨rfl, -⟩ := rd_pst h1
  exact ⟨h2 0 (by simp), h2 1 (by simp), h2 2 (by simp)⟩
 clear hue
 have HUE := Lib.hid hue2
 have HBD := Lib.hid hbd
 have hs := hok.1.1
 unfold sizeOk at hs
 have hx1 := hok.2.1
 have HS := Lib.hid hok.1.1
 obtain ⟨n, hn⟩ : ∃ n : Nat, x.1 = n := ⟨x.1.toNat, by omega⟩
 have HN : Hid (t.1 ^ 2 = ((t.1 ^ 2).toNat : Int)) := by unfold Hid; have := pow_nn (s := t.1) (by omega) 2; omega
 have HXN : Hid (x.1.toNat = n) := by unfold Hid; omega
 have HG := Lib.hid hg
 have HBAD := Lib.hid hbad
 have hxn : x.1.toNat = n := by omega
 rw [hxn] at HG ⊢
 generalize (t.1 ^ 2).toNat = N at *
 have HP := Lib.hid (allP_ok (x := x) (n := n) HS.out HN.out)
 rw [hn] at hx1
 clear h hv h' hv' hok hg hbad hxn hu huv hue2 hbd
 go_enter Tryz.func9, Tryz.ntmps9
 rw [hn]
 go_wp2_with fail
 generalize hW : World.alloc (World.alloc _ _) _ = W
 have hbW : Below w.heap.size w W := hW ▸ bAA
 have hsW : w.heap.size + 2 ≤ W.heap.size := by rw [← hW]; simp
 have t0 : W.cell? ⟨w.heap.size, 0, none⟩ = some (.int .i64 t.1) := by rw [← hW]; simp [go_sem]
 have t1 : W.cell? ⟨w.heap.size, 1, none⟩ = some v1 := by rw [← hW]; simp [go_sem]
 have x0 : W.cell? ⟨w.heap.size + 1, 0, none⟩ = some (.int .i64 (n : Int)) := by rw [← hW]; simp [go_sem]
 have x1 : W.cell? ⟨w.heap.size + 1, 1, none⟩ = some v2 := by rw [← hW]; simp [go_sem]
 have HXW : Hid (instT.Rd w [.int .i64 (n : Int), v2] x) := by unfold Hid; rw [← hn]; exact HX.out
 clear hW hn HX
 refine (ValidInstance_any _ (cs := #[.int .i64 t.1, v1]) (cs' := #[.int .i64 (n : Int), v2]) (HT.out.below hbW) (HXW.out.below hbW)).mono ?_
 rintro e w1 ⟨rfl, hb1⟩
 have hz1 := hb1.size
 have hB1 := bthen hbW hb1
 replace t0 := (cellB hb1 (by omega)).trans t0
 replace t1 := (cellB hb1 (by omega)).trans t1
 replace x0 := (cellB hb1 (by omega)).trans x0
 replace x1 := (cellB hb1 (by omega)).trans x1
 rw [HIO.out]
 clear hb1 hbW
 go_wp2_with fail
 refine (firstPairs_any w1 (cs := #[.int .i64 t.1, v1]) (cs' := #[.int .i64 (n : Int), v2]) (HT.out.below hB1) (HXW.out.below hB1) HOK.out N HN.out).mono ?_
 rintro e w2 ⟨u, rfl, hf2, hb2⟩
 rw [HXN.out] at hf2
 have hz2 := hb2.size
 obtain ⟨ad, c, hu, hc1, hc2, hex⟩ := Ty.slice_ex hf2.rd
 obtain rfl : u = _ := by simpa using hu
 obtain ⟨b, o, hB0⟩ : ∃ b o, 0 < (allP t x N n).length → ad = some ⟨b, o, none⟩ ∧ w1.heap.size ≤ b ∧ b < w2.heap.size ∧ PR (fun q => w1.heap.size ≤ q) w2 b o (allP t x N n) := by
  by_cases hp : 0 < (allP t x N n).length
  ·obtain ⟨b, o, rfl, hb, -⟩ := hex hp
   exact ⟨b, o, fun _ => ⟨rfl, (pr_of_fr hf2 hp).1, hb, (pr_of_fr hf2 hp).2⟩⟩
  ·exact ⟨0, 0, fun h => absurd h hp⟩
 clear hex
 generalize hm : (allP t x N n).length = m at hB0 hc1 hc2 ⊢
 have HB := Lib.hid hB0
 have HM := Lib.hid hm
 have HC := Lib.hid (And.intro hc1 hc2)
 have hl0 := cell_lt t0
 have hl1 := cell_lt x0
 replace t0 := (cellB hb2 (by omega)).trans t0
 replace t1 := (cellB hb2 (by omega)).trans t1
 replace x0 := (cellB hb2 (by omega)).trans x0
 replace x1 := (cellB hb2 (by omega)).trans x1
 have hbw2 := bthen hB1 hb2
 have HAD : Hid (0 < m → ad = some ⟨b, o, none⟩ ∧ w.heap.size + 2 ≤ b) := fun hp => ⟨(hB0 hp).1, by have := (hB0 hp).2.1; omega⟩
 have HP0 : Hid (0 < m → PR (fun _ => True) w2 b o (repS t.1 (allP t x N n) (S.take 0))) := fun hp => (hB0 hp).2.2.2.mono fun _ _ _ => trivial
 clear hB0 hf2 hu hm hc1 hc2 hB1 hb2 HT HXW
 go_wp2_with fail
 go_loopw [21] (fun i wr => ∃ q, q ≤ M ∧ i = .int .i64 (q : Int) ∧ (0 < m → PR (fun _ => True) wr b o (repS t.1 (allP t x N n) (S.take q))) ∧ RlOk t.1 n (repS t.1 (allP t x N n) (S.take q)) ∧ Below (w.heap.size + 2) w2 wr) (fun i _ => S.length - (intOf i).toNat)
 case atStart => exact ⟨0, by omega, rfl, HP0.out, HP.out, Below.refl _ _⟩
 case round =>
  obtain ⟨q, hq, rfl, hpr, hrl, hbe⟩ := hrel
  obtain ⟨wa, rfl⟩ : ∃ wa : World, wa = wr := ⟨_, rfl⟩
  have HPR := Lib.hid hpr
  have HRL := Lib.hid hrl
  have hbwa : Below w.heap.size w wa := hbw2.trans (hbe.mono (by omega))
  have hze := hbe.size
  clear hpr hrl HP0
  by_cases hql : q < S.length
  ·have hm1 := HBD.out _ (List.getElem_mem hql)
   obtain ⟨ub, uo, rfl, hub, hcell⟩ := HUE.out (by omega)
   obtain ⟨e0, e1, e2⟩ := hcell q hql
   replace e0 := (cellB hbwa hub).trans e0
   replace e1 := (cellB hbwa hub).trans e1
   replace e2 := (cellB hbwa hub).trans e2
   have hlw : w.heap.size + 2 ≤ w2.heap.size := by omega
   have y0 := (cellB hbe (show w.heap.size < w.heap.size + 2 by omega)).trans t0
   have y1 := (cellB hbe (show w.heap.size + 1 < w.heap.size + 2 by omega)).trans x0
   have y2 := (cellB hbe (show w.heap.size + 1 < w.heap.size + 2 by omega)).trans x1
   have HN1 : Hid (repS t.1 (allP t x N n) (S.take (q + 1)) = nwV t.1 (repS t.1 (allP t x N n) (S.take q)) (S[q]).1 (S[q]).2.1 (S[q]).2.2) := repS_next hql
   have HGQ := Lib.hid (HG.out q hql)
   have HBQ : Hid (q = M → (S[q]).2.2 = (S[q]).2.1) := fun e => by subst e; exact HBAD.out hql
   generalize S[q] = st at *
   obtain ⟨i, j, k⟩ := st
   dsimp only at *
   clear hcell
   go_upto_region 7 with fail
   generalize hWe : World.alloc wa _ = we
   have hbe2 : Below wa.heap.size wa we := hWe ▸ bA
   have hze2 : wa.heap.size < we.heap.size := by rw [← hWe]; simp
   have s0 : we.cell? ⟨wa.heap.size, 0, none⟩ = some (.int .i64 (i : Int)) := by rw [← hWe]; simp
   have s1 : we.cell? ⟨wa.heap.size, 1, none⟩ = some (.int .i64 (j : Int)) := by rw [← hWe]; simp
   have s2 : we.cell? ⟨wa.heap.size, 2, none⟩ = some (.int .i64 (k : Int)) := by rw [← hWe]; simp
   have HPe : Hid (0 < m → PR (fun _ => True) we b o (repS t.1 (allP t x N n) (S.take q))) := fun hp => (HPR.out hp).below hbe2
   have hbe3 : Below (w.heap.size + 2) w2 we := hbe.trans (hbe2.mono (by omega))
   replace y0 := (cellB hbe2 (by omega)).trans y0
   replace y1 := (cellB hbe2 (by omega)).trans y1
   replace y2 := (cellB hbe2 (by omega)).trans y2
   clear hWe e0 e1 e2 HPR hbe2
   generalize wa.heap.size = bs at *
   have hbsl := cell_lt s0
   by_cases hqM : q < M
   ·obtain ⟨⟨hij, hjn, hkn, hki, hkj⟩, hnb⟩ := HGQ.out hqM
    have HNB := Lib.hid hnb
    have hlc : (repS t.1 (allP t x N n) (S.take q)).length = m := HRL.out.1.trans (HP.out.1.symm.trans HM.out)
    have hpx : pxN i j < m := by rw [← hlc]; exact HRL.out.at hij hjn
    have hb0 := (HAD.out (by omega)).2
    have HLC := Lib.hid hlc
    clear hnb hlc
    go_wp2_with fail
    refine (isPairStep_any we (n := (n : Int)) (by omega) (by omega) (by omega) (by omega)).mono ?_
    rintro e wf ⟨rfl, hbf⟩
    rw [pst_yes ⟨hij, hjn, hkn, hki, hkj⟩]
    have hzf := hbf.size
    have HPf : Hid (0 < m → PR (fun _ => True) wf b o (repS t.1 (allP t x N n) (S.take q))) := fun hp => (HPe.out hp).below hbf
    have hbe4 : Below (w.heap.size + 2) w2 wf := hbe3.trans (hbf.mono (by omega))
    have hly := cell_lt y0
    replace y0 := (cellB hbf (by omega)).trans y0
    replace s0 := (cellB hbf (by omega)).trans s0
    replace s1 := (cellB hbf (by omega)).trans s1
    replace s2 := (cellB hbf (by omega)).trans s2
    clear HPe hbe3 hbf
    go_wp2_with fail
    refine (narrow_ad wf (fun _ _ => trivial) (HAD.out (by omega)).1 (HPf.out (by omega)) HLC.out HRL.out hs (by omega) hij hjn hkn hki hkj).mono ?_
    rintro e wg ⟨rfl, hPR, htg⟩
    rw [HNB.out]
    have HPg := Lib.hid hPR
    have hbe5 : Below (w.heap.size + 2) w2 wg := hbe4.trans (htg.below (by omega) fun q hq e => by omega)
    clear hPR htg
    go_wp2_with fail
    go_roundw
    case rel => exact ⟨q + 1, by omega, by go_num, fun _ => by rw [HN1.out]; exact HPg.out, by rw [HN1.out]; exact HRL.out.nw hij hjn, hbe5⟩
    case measure => simp [intOf]; omega
   ·obtain rfl : q = M := by omega
    have hkj := HBQ.out rfl
    go_wp2_with fail
    refine (isPairStep_any we (n := (n : Int)) (by omega) (by omega) (by omega) (by omega)).mono ?_
    rintro e wf ⟨rfl, hbf⟩
    rw [pst_no rfl]
    have hbe4 : Below (w.heap.size + 2) w2 wf := hbe3.trans (hbf.mono (by omega))
    have hbw := hbw2.trans (hbe4.mono (by omega))
    clear hbf
    go_wp2_with fail
    go_ret3
    exact ⟨none, 0, [], q, 8, rfl, (fr_nil (base := 0)).rd, hbw, .inr ⟨hql, rfl, rfl, rfl⟩⟩
  ·obtain rfl : q = S.length := by omega
   obtain rfl : M = S.length := by omega
   go_wp2_with fail
   go_ret3
   have hlc : (repS t.1 (allP t x N n) S).length = m := by have := HRL.out.1; rw [List.take_length] at this; exact this.trans (HP.out.1.symm.trans HM.out)
   have hp2 := HPR.out
   rw [List.take_length] at hp2
   exact ⟨ad, c, repS t.1 (allP t x N n) S, 0, 0, by rw [hlc]; rfl, by rw [hlc]; exact pr_rd hlc HC.out.1 HC.out.2 (fun hp => (HAD.out hp).1) hp2, hbwa, .inl ⟨rfl, rfl, rfl, rfl⟩⟩
end Go.Proofs.YtmnjlhcbabhhlaaGreat
namespace Go.Proofs.YtmnjlhcbabhhlaaGreat
open Go.RowKit Go.Sort
/-- do all atoms hold that are due when so many values are there? -/
noncomputable def goesB (t : Int × List (Int × List (List Int))) (due : List (List (Int × List Int))) (vals : List Int) : Bool := !anyB (fun a => !holdsA t vals a) (due.getD (vals.length - 1) [])
theorem goesB_at {t : Int × List (Int × List (List Int))} {due : List (List (Int × List Int))} {vals : List Int} {k : Nat} (h : vals.length = k + 1) (hk : k < due.length) : goesB t due vals = !anyB (fun a => !holdsA t vals a) due[k] := by
 unfold goesB
 rw [h, Nat.add_sub_cancel, List.getD_eq_getElem?_getD, List.getElem?_eq_getElem hk]
 rfl
end Go.Proofs.YtmnjlhcbabhhlaaGreat
namespace Go.Proofs.YtmnjlhcbabhhlaaGreat
open Go.RowKit Go.Sort
end Go.Proofs.YtmnjlhcbabhhlaaGreat
namespace Go.Proofs.YtmnjlhcbabhhlaaGreat
open Go.RowKit Go.Sort
/-- the atoms that are due at a variable; for all variables -/
def dueL (ats : List (Int × List Int)) (v : Nat) : List (Int × List Int) := ats.filter fun a => topI a.2 == (v : Int)
def duesL (ats : List (Int × List Int)) (n : Nat) : List (List (Int × List Int)) := (List.range n).map (dueL ats)
theorem duesL_len {ats : List (Int × List Int)} {n : Nat} : (duesL ats n).length = n := by simp [duesL]
theorem duesL_get {ats : List (Int × List Int)} {n k : Nat} (h : k < (duesL ats n).length) : (duesL ats n)[k] = dueL ats k := by simp [duesL]
end Go.Proofs.YtmnjlhcbabhhlaaGreat
namespace Go.Proofs.YtmnjlhcbabhhlaaGreat
open Go.RowKit Go.Sort
theorem Ty.Fr.P {α : Type} {E : Ty α} {base : Nat} {w : World} {cs : List Value} {x : α} (h : E.Fr base w cs x) : E.RdP (fun k => base ≤ k) w cs x := let ⟨fp, h1, _, h3, _⟩ := h; ⟨fp, h1, h3⟩
end Go.Proofs.YtmnjlhcbabhhlaaGreat
namespace Go.Proofs.YtmnjlhcbabhhlaaGreat
open Go.RowKit Go.Sort
/-- the solutions, in order -/
noncomputable def solsX (t : Int × List (Int × List (List Int))) (x : Int × List (Int × List Int)) : List (List Int) := solsL t.1.toNat (goesB t (duesL x.2 x.1.toNat)) x.1.toNat []
theorem solsX_len {t : Int × List (Int × List (List Int))} {x : Int × List (Int × List Int)} (h : instOk t x) : (solsX t x).length ≤ 1048576 := by
 have h1 := solsL_len (s := t.1.toNat) (sure := goesB t (duesL x.2 x.1.toNat)) (m := x.1.toNat) (vals := [])
 have h2 := h.1.1
 have h3 := h.2.1
 unfold sizeOk at h2
 have hpow : t.1.toNat ^ x.1.toNat ≤ 4 ^ 10 := Nat.le_trans (Nat.pow_le_pow_left (by omega) _) (Nat.pow_le_pow_right (by omega) (by omega))
 have : (4 : Nat) ^ 10 = 1048576 := by decide
 unfold solsX
 omega
noncomputable def asV (t : Int × List (Int × List (List Int))) (x : Int × List (Int × List Int)) : List (List Int) := match tb (instOk t x), decide ((solsX t x).length ≤ 200) with
 | true, true => solsX t x
 | _, _ => []
noncomputable def asC (t : Int × List (Int × List (List Int))) (x : Int × List (Int × List Int)) : Int := match tb (instOk t x), decide ((solsX t x).length ≤ 200) with
 | true, true => 0
 | true, false => 3
 | false, _ => 1
section
variable {t : Int × List (Int × List (List Int))} {x : Int × List (Int × List Int)}
theorem as_no (h : tb (instOk t x) = false) : asV t x = [] ∧ asC t x = 1 := by simp [asV, asC, h]
theorem as_more (h : tb (instOk t x) = true) (h2 : decide ((solsX t x).length ≤ 200) = false) : asV t x = [] ∧ asC t x = 3 := by simp only [asV, asC, h, h2]; exact ⟨trivial, trivial⟩
theorem as_yes (h : tb (instOk t x) = true) (h2 : decide ((solsX t x).length ≤ 200) = true) : asV t x = solsX t x ∧ asC t x = 0 := by simp only [asV, asC, h, h2]; exact ⟨trivial, trivial⟩
end
end Go.Proofs.YtmnjlhcbabhhlaaGreat
namespace Go.Proofs.YtmnjlhcbabhhlaaGreat
open Go.RowKit Go.Sort
/-- an atom that is due at k and does not hold -/
noncomputable def badB (t : Int × List (Int × List (List Int))) (k : Nat) (vals : List Int) (a : Int × List Int) : Bool := (topI a.2 == (k : Int)) && !holdsA t vals a
theorem goes_bad {t : Int × List (Int × List (List Int))} {n k : Nat} {ats : List (Int × List Int)} {vals : List Int} (h : vals.length = k + 1) (hk : k < n) : goesB t (duesL ats n) vals = !anyB (badB t k vals) ats := by
 rw [goesB_at h (by rw [duesL_len]; exact hk), duesL_get]
 unfold anyB dueL badB
 rw [List.any_filter]
theorem bad_no {t : Int × List (Int × List (List Int))} {k : Nat} {vals : List Int} {a : Int × List Int} (h : (topI a.2 == (k : Int)) = false) : badB t k vals a = false := by simp only [badB, h, Bool.false_and]
theorem bad_hold {t : Int × List (Int × List (List Int))} {k : Nat} {vals : List Int} {a : Int × List Int} (h : (topI a.2 == (k : Int)) = true) : badB t k vals a = !holdsA t vals a := by simp only [badB, h, Bool.true_and]
theorem anyB_none {α : Type} {p : α → Bool} {xs : List α} (h : noneB p xs) : anyB p xs = false := by
 unfold anyB
 rw [List.any_eq_false]
 intro x hx
 simp [h x hx]
theorem anyB_some {α : Type} {p : α → Bool} {xs : List α} {k : Nat} (h : k < xs.length) (hp : p xs[k] = true) : anyB p xs = true := by
 unfold anyB
 rw [List.any_eq_true]
 exact ⟨_, List.getElem_mem h, hp⟩
set_option maxHeartbeats 3200000 in
set_option maxRecDepth 100000 in
theorem sure_any (w : World) {bf : Nat} {vt vx v : Value} {t : Int × List (Int × List (List Int))} {x : Int × List (Int × List Int)} {vals : List Int} (f0 : w.cell? ⟨bf, 0, none⟩ = some vt) (f1 : w.cell? ⟨bf, 1, none⟩ = some vx) (ht : tplT.Pt w vt t) (hxp : instT.Pt w vx x) (hvr : intsT.Rd w [v] vals) (hok : instOk t x) {k : Nat} (hl : vals.length = k + 1) (hk : (k : Int) < x.1) :
  Calls Tryz.prog 93 #[.pointer (some ⟨bf, 0, none⟩), v] w fun e w' => e = .returned (.bool (goesB t (duesL x.2 x.1.toNat) vals)) ∧ Below w.heap.size w w' := by
 obtain ⟨b, o, ad, cap, rfl, hb, -, c0, c1, hx⟩ := pt_pair hxp
 obtain ⟨b2, o2, _, _, rfl, hb2, -, -, -, -⟩ := pt_pair ht
 obtain ⟨av, capv, rfl⟩ := rd_slice hvr
 obtain ⟨_, _, e1, hle', hle2', hcell⟩ := pairs_ex hx
 simp only [List.cons.injEq, Value.slice.injEq, and_true, true_and] at e1
 obtain ⟨rfl, rfl⟩ := e1
 have HOK := Lib.hid hok
 have HL := Lib.hid hl
 have HTP := Lib.hid ht
 have HV := Lib.hid hvr
 have HX := Lib.hid hx
 have hbf := cell_lt f0
 have hk10 : k ≤ 10 := by have := hok.2.1; omega
 have HG := Lib.hid (goes_bad (t := t) (ats := x.2) (n := x.1.toNat) hl (by omega))
 rw [hl]
 clear hxp hok hl ht hvr hcell hx
 go_enter Tryz.func93, Tryz.ntmps93
 go_wp2_with fail
 go_loopw [6] (fun i wr => ∃ q : Nat, q ≤ x.2.length ∧ i = .int .i64 q ∧ noneB (badB t k vals) (x.2.take q) ∧ Below w.heap.size w wr) (fun i _ => x.2.length - (intOf i).toNat)
 case atStart => exact ⟨0, Nat.zero_le _, rfl, noneB_zero _ _, Below.refl _ _⟩
 case round =>
  obtain ⟨q, hq, rfl, hne, hbel⟩ := hrel
  have HN := Lib.hid hne
  have d1 := (hbel.cell hb).trans c1
  have g0 := (hbel.cell hbf).trans f0
  have g1 := (hbel.cell hbf).trans f1
  clear hne
  by_cases hql : q < x.2.length
  ·obtain ⟨a, r, rfl, hp⟩ := rd_elem HX.out hql
   have hp' : opT.Pt w (.pointer (some ⟨a, r + q * 2, none⟩)) x.2[q] := hp
   have HP2 := Lib.hid (hp'.below hbel)
   obtain ⟨_, _, sa, sc, hpe, hpb, -, p0, p1, hps⟩ := pt_pair (hp'.below hbel)
   simp only [Value.pointer.injEq, Option.some.injEq, Addr.mk.injEq, and_true] at hpe
   obtain ⟨rfl, rfl⟩ := hpe
   have hcon := HOK.out.2.2.2 _ (List.getElem_mem hql)
   have hsh := scope_short HOK.out.1 hcon
   have HC := Lib.hid hcon
   obtain ⟨_, _, he, -, -, hsce⟩ := ints_ex hps
   simp only [List.cons.injEq, Value.slice.injEq, and_true, true_and] at he
   obtain ⟨rfl, rfl⟩ := he
   have HSC := Lib.hid hsce
   have HPS := Lib.hid hps
   clear hp hp' hcon hps hsce
   go_wp2_with fail
   obtain ⟨wo, rfl⟩ : ∃ wo : World, wo = wr := ⟨_, rfl⟩
   go_loopw [9, 8] (fun i m wi => ∃ j : Nat, j ≤ (x.2[q]).2.length ∧ i = .int .i64 j ∧ m = .int .i64 (topI ((x.2[q]).2.take j)) ∧ wi = wo) (fun i _ _ => (x.2[q]).2.length - (intOf i).toNat)
   case atStart => exact ⟨0, Nat.zero_le _, rfl, by simp [topI], by first | trivial | rfl⟩
   case round =>
    obtain ⟨j, hj, rfl, rfl, rfl⟩ := hrel
    by_cases hjl : j < (x.2[q]).2.length
    ·obtain ⟨sb, so, rfl, hsb, hse⟩ := HSC.out (by omega)
     have s0 := (hse j hjl).2
     have HTK := Lib.hid (topI_take hjl)
     clear hse
     go_wp2_with fail
     refine (l00Max_any _ _ _).mono ?_
     rintro e _ ⟨rfl, rfl⟩
     go_wp2_with fail
     go_roundw
     case rel => exact ⟨j + 1, by omega, by go_num, by rw [HTK.out], by first | trivial | rfl⟩
     case measure => simp [intOf]; omega
    ·obtain rfl : j = (x.2[q]).2.length := by omega
     rw [List.take_length]
     cases htop : (topI (x.2[q]).2 == (k : Int))
     ·have HN1 := Lib.hid (noneB_succ hql HN.out (bad_no (t := t) (vals := vals) htop))
      go_wp2_with fail
      go_roundw
      case rel => exact ⟨q + 1, by omega, by go_num, HN1.out, hbel⟩
      case measure => simp [intOf]; omega
     ·have HBH := Lib.hid (bad_hold (t := t) (vals := vals) htop)
      have htk : topI (x.2[q]).2 = (k : Int) := by simpa using htop
      have HIN : Hid (∀ p ∈ (x.2[q]).2, 0 ≤ p ∧ p < (vals.length : Int)) := fun p hp => by
       have h1 := topI_ge hp
       have h2 := HC.out.2.2 p hp
       have := HL.out
       omega
      have hne1 : ((x.2[q]).1 == -1) = false := by have := HC.out.1; simp; omega
      have HHA := Lib.hid (holdsA_rel (t := t) (vals := vals) hne1)
      clear htk hne1
      go_wp2_with fail
      refine (l05Holds_any _ (HTP.out.below hbel) HP2.out (by have := HV.out.below hbel; rw [HL.out] at this; exact this) HC.out HIN.out (by omega)).mono ?_
      rintro e w1 ⟨rfl, hb1⟩
      have hbw1 := bthen hbel hb1
      rw [← HHA.out]
      cases hh : holdsA t vals x.2[q]
      ·have HE : Hid (goesB t (duesL x.2 x.1.toNat) vals = false) := by
        unfold Hid
        rw [HG.out, anyB_some hql (by rw [HBH.out, hh]; rfl)]
        rfl
       clear hh
       go_wp2_with fail
       go_ret
       exact ⟨ret_bool HE.out.symm, hbw1⟩
      ·have HN1 := Lib.hid (noneB_succ hql HN.out (by rw [HBH.out, hh]; rfl))
       clear hh
       go_wp2_with fail
       go_roundw
       case rel => exact ⟨q + 1, by omega, by go_num, HN1.out, hbw1⟩
       case measure => simp [intOf]; omega
  ·obtain rfl : q = x.2.length := by omega
   have HE : Hid (goesB t (duesL x.2 x.1.toNat) vals = true) := by
    unfold Hid
    rw [HG.out, anyB_none (by have := HN.out; rwa [List.take_length] at this)]
    rfl
   go_wp2_with fail
   go_ret
   exact ⟨ret_bool HE.out.symm, hbel⟩
/-- a pointer to a datum in blocks below B -/
def Ty.PtB {α : Type} (E : Ty α) (B : Nat) (w : World) (v : Value) (x : α) : Prop := ∃ b o cs, v = .pointer (some ⟨b, o, none⟩) ∧ b < B ∧ b < w.heap.size ∧ E.RdB B w cs x ∧ ∀ j (hj : j < cs.length), w.cell? ⟨b, o + j, none⟩ = some cs[j]
theorem Ty.PtB.pt {α : Type} {E : Ty α} {B : Nat} {w : World} {v : Value} {x : α} (h : E.PtB B w v x) : E.Pt w v x := let ⟨b, o, cs, h1, _, h3, h4, h5⟩ := h; ⟨b, o, cs, h1, h3, h4.rd, h5⟩
theorem Ty.PtB.below {α : Type} {E : Ty α} {B : Nat} {w w' : World} {v : Value} {x : α} (h : E.PtB B w v x) (hb : Below B w w') : E.PtB B w' v x :=
 let ⟨b, o, cs, h1, h2, h3, h4, h5⟩ := h
 ⟨b, o, cs, h1, h2, Nat.lt_of_lt_of_le h3 hb.size, h4.below hb (Nat.le_refl _), fun j hj => (cellB hb h2).trans (h5 j hj)⟩
theorem Ty.Pt.B {α : Type} {E : Ty α} {w : World} {v : Value} {x : α} (h : E.Pt w v x) : E.PtB w.heap.size w v x := let ⟨b, o, cs, h1, h2, h3, h4⟩ := h; ⟨b, o, cs, h1, h2, h2, h3.B, h4⟩
/-- the first ones, where there is a limit -/
def limL (most : Nat) (l : List (List Int)) : List (List Int) := match (most == 0) with
 | true => l
 | false => l.take most
theorem lim_pos {most : Nat} {l : List (List Int)} (h : 0 < most) : limL most l = l.take most := by
 have : (most == 0) = false := by simp; omega
 simp only [limL, this]
theorem lim_self {most : Nat} {l : List (List Int)} (h : most = 0 ∨ l.length ≤ most) : limL most l = l := by
 rcases Nat.eq_zero_or_pos most with h0 | h0
 ·subst h0; rfl
 ·rw [lim_pos h0, List.take_of_length_le (by omega)]
theorem lim_app {most : Nat} {a b : List (List Int)} : limL most (limL most a ++ b) = limL most (a ++ b) := by
 rcases Nat.eq_zero_or_pos most with h0 | h0
 ·subst h0; rfl
 ·rw [lim_pos h0, lim_pos h0, lim_pos h0, take_app]
theorem lim_stop {most : Nat} {a b : List (List Int)} (h0 : 0 < most) (h : most ≤ (limL most a).length) : limL most (a ++ b) = limL most a := by
 rw [lim_pos h0] at h ⊢
 rw [List.length_take] at h
 rw [lim_pos h0, List.take_append_of_le_length (by omega)]
theorem lim_len {most : Nat} {l : List (List Int)} : (limL most l).length ≤ l.length := by
 rcases Nat.eq_zero_or_pos most with h0 | h0
 ·subst h0; exact Nat.le_refl _
 ·rw [lim_pos h0, List.length_take]; omega
/-- a search in progress, at block bf: what it was told so far -/
def Fnd (e bf most : Nat) (vt vx : Value) (told : List (List Int)) (O : List Nat) (w : World) : Prop :=
 ∃ v, O = bf :: v.ownBlock.toList ∧ bf < w.heap.size ∧ w.cell? ⟨bf, 0, none⟩ = some vt ∧ w.cell? ⟨bf, 1, none⟩ = some vx ∧ w.cell? ⟨bf, 2, none⟩ = some (.int .i64 most) ∧ w.cell? ⟨bf, 3, none⟩ = some v ∧ w.cell? ⟨bf, 4, none⟩ = some (.int .i64 told.length) ∧
  w.frozen? ⟨bf, 3, none⟩ = false ∧ w.frozen? ⟨bf, 4, none⟩ = false ∧ Bl intsT e (bf + 1) w.heap.size w v (told.take most)
theorem Fnd.below {e bf most : Nat} {vt vx : Value} {told : List (List Int)} {O : List Nat} {w w' : World} (h : Fnd e bf most vt vx told O w) (hb : Below w.heap.size w w') : Fnd e bf most vt vx told O w' := by
 obtain ⟨v, h0, h1, c0, c1, c2, c3, c4, m3, m4, hB⟩ := h
 exact ⟨v, h0, Nat.lt_of_lt_of_le h1 hb.size, (cellB hb h1).trans c0, (cellB hb h1).trans c1, (cellB hb h1).trans c2, (cellB hb h1).trans c3, (cellB hb h1).trans c4, (frozenB hb h1).trans m3, (frozenB hb h1).trans m4, (hB.below hb (Nat.le_refl _)).mono hb.size⟩
theorem Fnd.ge {e bf most : Nat} {vt vx : Value} {told : List (List Int)} {O : List Nat} {w : World} (h : Fnd e bf most vt vx told O w) : ∀ k ∈ O, bf ≤ k := by
 obtain ⟨v, rfl, h1, c0, c1, c2, c3, c4, m3, m4, hB⟩ := h
 intro k hk
 rcases List.mem_cons.1 hk with rfl | hk
 ·exact Nat.le_refl _
 ·have := hB.ge (show v.ownBlock = some k by simpa using hk)
  omega
theorem Fnd.lt {e bf most : Nat} {vt vx : Value} {told : List (List Int)} {O : List Nat} {w : World} (h : Fnd e bf most vt vx told O w) : ∀ k ∈ O, k < w.heap.size := by
 obtain ⟨v, rfl, h1, c0, c1, c2, c3, c4, m3, m4, hB⟩ := h
 intro k hk
 rcases List.mem_cons.1 hk with rfl | hk
 ·exact h1
 ·exact hB.lt_top (show v.ownBlock = some k by simpa using hk)
set_option maxHeartbeats 6400000 in
set_option maxRecDepth 100000 in
theorem from_any {t : Int × List (Int × List (List Int))} {x : Int × List (Int × List Int)} (hok : instOk t x) {n s : Nat} (hn : x.1 = n) (hs : t.1 = s) (bf most : Nat) (hm : most ≤ 1000) (vt vx : Value) :
  ∀ (m : Nat) (w : World) (v : Value) (vals : List Int) (fpv : List Nat) (told : List (List Int)) (O : List Nat), vals.length + m = n → Fnd 50 bf most vt vx told O w → tplT.PtB bf w vt t → instT.PtB bf w vx x → intsT.rd w [v] vals fpv → (∀ k ∈ fpv, k ∉ O) → (most = 0 ∨ told.length < most) →
   told.length + (solsL s (goesB t (duesL x.2 n)) m vals).length ≤ 2000000 →
   Calls Tryz.prog 62 #[.pointer (some ⟨bf, 0, none⟩), v] w fun e w' => (∃ u, e = .returned u) ∧
    ∃ O', Fnd 50 bf most vt vx (limL most (told ++ solsL s (goesB t (duesL x.2 n)) m vals)) O' w' ∧ TchF O w w' ∧ ∀ k ∈ O', k ∈ O ∨ w.heap.size ≤ k := by
 have HOK := Lib.hid hok
 have hs4 := hok.1.1
 unfold sizeOk at hs4
 have hn1 := hok.2.1
 have hs41 : 1 ≤ s ∧ s ≤ 4 := by omega
 have hn10 : 1 ≤ n ∧ n ≤ 10 := by omega
 have HN := Lib.hid hn
 have HS := Lib.hid hs
 clear hok hs4 hn1 hn hs
 intro m
 induction m with
 | zero =>
  intro w v vals fpv told O hlen hF ht hx hv hfv hmt hbd
  obtain ⟨vl, rfl, h1, c0, c1, c2, c3, c4, m3, m4, hB⟩ := hF
  obtain ⟨bx, ox, _, _, rfl, hbx, -, x0, -, -⟩ := pt_pair hx.pt
  obtain ⟨va, vc, rfl⟩ := rd_slice ⟨fpv, hv⟩
  have HV : Hid (intsT.Rd w [.slice va vals.length vc] vals) := ⟨fpv, hv⟩
  have hl : vals.length = n := by omega
  rw [solsL_zero] at hbd ⊢
  have htl : told.length ≤ 2000000 := by simp at hbd; omega
  have hnw : ((vals.length : Int) == (n : Int)) = true := by simp; omega
  rw [HN.out] at x0
  obtain ⟨al, cl, rfl⟩ := rd_slice (hB.fr (by rw [List.length_take]; unfold capMax; omega)).rd
  have hll : (told.take most).length = min most told.length := List.length_take
  generalize (told.take most).length = ln at *
  have HB := Lib.hid hB
  have hrv := hv
  have hfv' := hfv
  clear hv hfv hbd hB
  rw [hl] at HV hnw ⊢
  go_enter Tryz.func62, Tryz.ntmps62
  go_wp2_with fail
  generalize hW1 : World.setCell w _ _ = w1
  have hb1 : Below bf w w1 := by rw [← hW1]; exact Below.setCell (Below.refl bf w) (show bf ≤ (⟨bf, 4, none⟩ : Addr).block from Nat.le_refl _) _
  have hsz1 : w.heap.size ≤ w1.heap.size := hb1.size
  have ht1 : TchF (bf :: (Value.slice al ln cl).ownBlock.toList) w w1 := by rw [← hW1]; exact TchF.setCell (List.mem_cons_self ..) _ _ _
  have d0 : w1.cell? ⟨bf, 0, none⟩ = some vt := by rw [← hW1]; exact (World.cell?_setCell_other _ _ _ _ (by simp)).trans c0
  have d1 : w1.cell? ⟨bf, 1, none⟩ = some (.pointer (some ⟨bx, ox, none⟩)) := by rw [← hW1]; exact (World.cell?_setCell_other _ _ _ _ (by simp)).trans c1
  have d2 : w1.cell? ⟨bf, 2, none⟩ = some (.int .i64 most) := by rw [← hW1]; exact (World.cell?_setCell_other _ _ _ _ (by simp)).trans c2
  have d3 : w1.cell? ⟨bf, 3, none⟩ = some (.slice al ln cl) := by rw [← hW1]; exact (World.cell?_setCell_other _ _ _ _ (by simp)).trans c3
  have d4 : w1.cell? ⟨bf, 4, none⟩ = some (.int .i64 ((told.length : Int) + 1)) := by rw [← hW1]; exact World.cell?_setCell_same _ _ _ c4
  have e3 : w1.frozen? ⟨bf, 3, none⟩ = false := by rw [← hW1]; exact (World.frozen?_setCell _ _ _ _).trans m3
  have e4 : w1.frozen? ⟨bf, 4, none⟩ = false := by rw [← hW1]; exact (World.frozen?_setCell _ _ _ _).trans m4
  have HB1 : Hid (Bl intsT 50 (bf + 1) w1.heap.size w1 (.slice al ln cl) (told.take most)) := by
   unfold Hid
   rw [← hW1, size_set]
   exact HB.out.sameB (fun q hq1 hq2 => Below.heap_setCell _ _ _ _ (by simp; omega))
  have HVN : Hid (intsT.rd w [.slice va n vc] vals fpv) := by unfold Hid; rw [← hl]; exact hrv
  have HV1 : Hid (intsT.rd w1 [.slice va n vc] vals fpv) := Ty.rd.tch HVN.out ht1 hfv'
  have h11 : bf < w1.heap.size := by omega
  clear hW1 c0 c1 c2 c3 c4 m3 m4 HB
  have hres : ∀ (w' : World) (v' : Value), Bl intsT 50 (bf + 1) w'.heap.size w' v' ((told ++ [vals]).take most) → w'.cell? ⟨bf, 0, none⟩ = some vt → w'.cell? ⟨bf, 1, none⟩ = some (.pointer (some ⟨bx, ox, none⟩)) → w'.cell? ⟨bf, 2, none⟩ = some (.int .i64 most) → w'.cell? ⟨bf, 3, none⟩ = some v' → w'.cell? ⟨bf, 4, none⟩ = some (.int .i64 ((told.length : Int) + 1)) → w'.frozen? ⟨bf, 3, none⟩ = false → w'.frozen? ⟨bf, 4, none⟩ = false → bf < w'.heap.size → Fnd 50 bf most vt (.pointer (some ⟨bx, ox, none⟩)) (limL most (told ++ [vals])) (bf :: v'.ownBlock.toList) w' := by
   intro w' v' g0 g1 g2 g3 g4 g5 g6 g7 g8
   rw [lim_self (by rw [List.length_append, List.length_singleton]; omega)]
   exact ⟨v', rfl, g8, g1, g2, g3, g4, by rw [g5, List.length_append, List.length_singleton]; rfl, g6, g7, g0⟩
  have HRES := Lib.hid hres
  clear hres
  rcases Nat.eq_zero_or_pos most with hm0 | hm0
  ·have HL1 : Hid (told.take most = (told ++ [vals]).take most) := by unfold Hid; rw [hm0]; simp
   have hlt : ¬ ((ln : Int) < (most : Int)) := by omega
   clear hmt hm hm0 hll
   go_wp2_with fail
   go_quiet (fail)
   rename_i nq
   generalize hWq : w1.drewN nq = wq
   have hbdq : Below w1.heap.size w1 wq := hWq ▸ bDN (Below.refl _ _)
   have hzq := hbdq.size
   replace d0 := (cellB hbdq (by omega)).trans d0
   replace d1 := (cellB hbdq (by omega)).trans d1
   replace d2 := (cellB hbdq (by omega)).trans d2
   replace d3 := (cellB hbdq (by omega)).trans d3
   replace d4 := (cellB hbdq (by omega)).trans d4
   replace e3 := (frozenB hbdq (by omega)).trans e3
   replace e4 := (frozenB hbdq (by omega)).trans e4
   have HBq := Lib.hid ((HB1.out.below hbdq (Nat.le_refl _)).mono hzq)
   rw [HL1.out] at HBq
   clear hWq HB1
   go_wp2_with fail
   refine bodyPost_ret (v := .tuple #[]) (by simp [results, Tryz.results62, go_sem]) rfl ?_
   exact ⟨⟨_, rfl⟩, _, HRES.out wq _ HBq.out d0 d1 d2 d3 d4 e3 e4 (by omega), ht1.then (Below.tchF hbdq _) (fun k hk => .inl hk), fun k hk => .inl hk⟩
  ·have HL1 : Hid (told.take most ++ [vals] = (told ++ [vals]).take most) := by
    unfold Hid
    rw [List.take_of_length_le (show told.length ≤ most by omega), List.take_of_length_le (show (told ++ [vals]).length ≤ most by rw [List.length_append, List.length_singleton]; omega)]
   have hlt : (ln : Int) < (most : Int) := by omega
   have hln : ln ≤ 1000 := by omega
   have HLN : Hid ((told.take most).length ≤ 1000) := by unfold Hid; rw [List.length_take]; omega
   clear hmt hm hm0 hll
   go_wp2_with fail
   go_quiet (fail)
   rename_i nq
   generalize hWq : w1.drewN nq = wq
   have hbdq : Below w1.heap.size w1 wq := hWq ▸ bDN (Below.refl _ _)
   have hzq := hbdq.size
   replace d0 := (cellB hbdq (by omega)).trans d0
   replace d1 := (cellB hbdq (by omega)).trans d1
   replace d2 := (cellB hbdq (by omega)).trans d2
   replace d3 := (cellB hbdq (by omega)).trans d3
   replace d4 := (cellB hbdq (by omega)).trans d4
   replace e3 := (frozenB hbdq (by omega)).trans e3
   replace e4 := (frozenB hbdq (by omega)).trans e4
   have HBq := Lib.hid ((HB1.out.below hbdq (Nat.le_refl _)).mono hzq)
   have HVq : Hid (intsT.Rd wq [.slice va n vc] vals) := ⟨fpv, HV1.out.below hbdq⟩
   have htq : TchF (bf :: (Value.slice al ln cl).ownBlock.toList) w wq := ht1.then (Below.tchF hbdq _) (fun k hk => .inl hk)
   have hbq : bf < wq.heap.size := by omega
   have HOWN : Hid (∀ q, (Value.slice al ln cl).ownBlock = some q → bf + 1 ≤ q ∧ q < wq.heap.size) := fun q hq => ⟨HBq.out.ge hq, HBq.out.lt_top hq⟩
   clear hWq HB1 HV1 ht1 hbdq
   go_wp2_with fail
   refine wp_region_T (fun w' => w'.cell? ⟨bf, 3, none⟩ = some (.slice al ln cl)) [11] (by kernel_rfl) d3 (fun hHeld => ?_)
   refine wpAnyT_take (i := 0) (v := ?_) rfl (by kernel_rfl) (fun _ _ _ h => h) (Or.inl ⟨by rfl, ?_⟩) (by assumption) ?_
   rotate_left
   ·(intro w hSw; (try dsimp only at hSw); go_simp <;> with_reducible rfl)
   try simp only [Act.put]
   refine wpAnyT_take (i := 1) (v := ?_) rfl (by kernel_rfl) (fun _ _ _ h => h) (Or.inl ⟨by rfl, ?_⟩) (by assumption) ?_
   rotate_left
   ·(intro w hSw; (try dsimp only at hSw); go_simp <;> with_reducible rfl)
   try simp only [Act.put]
   refine wpAnyT_take (i := 2) (v := ?_) rfl (by kernel_rfl) (fun _ _ _ h => h) (Or.inl ⟨by rfl, ?_⟩) (by assumption) ?_
   rotate_left
   ·(intro w hSw; (try dsimp only at hSw); go_simp <;> with_reducible rfl)
   try simp only [Act.put]
   refine wpAnyT_take (i := 3) (v := ?_) rfl (by kernel_rfl) (fun _ _ _ h => h) (Or.inl ⟨by rfl, ?_⟩) (by assumption) ?_
   rotate_left
   ·(intro w hSw; (try dsimp only at hSw); go_simp <;> with_reducible rfl)
   try simp only [Act.put]
   refine wpAnyT_take (i := 4) (v := ?_) rfl (by kernel_rfl) (fun _ _ _ h => h) (Or.inl ⟨by rfl, ?_⟩) (by assumption) ?_
   rotate_left
   ·(intro w hSw; (try dsimp only at hSw); go_simp <;> with_reducible rfl)
   try simp only [Act.put]
   refine wpAnyT_take (i := 5) (v := ?_) rfl (by kernel_rfl) (fun _ _ _ h => h) (Or.inl ⟨by rfl, ?_⟩) (by assumption) ?_
   rotate_left
   ·(intro w hSw; (try dsimp only at hSw); go_simp <;> with_reducible rfl)
   try simp only [Act.put]
   refine wpAnyT_one (i := 6) rfl (by kernel_rfl) (fun K hK => ?_)
   go_simp
   go_at_call 92
   refine (l00Own_any _ (HVq.out.below bD) (by omega)).mono ?_
   rintro e w2 ⟨u2, rfl, hB2, hb2⟩
   have hf := hB2.fr (by unfold capMax; omega)
   obtain ⟨a2, n2, c2, rfl⟩ := ex_slice hf
   have HF := Lib.hid hf
   have hb2' : Below wq.heap.size wq w2 := bthen bD hb2
   replace d0 := (cellB hb2' (by omega)).trans d0
   replace d1 := (cellB hb2' (by omega)).trans d1
   replace d2 := (cellB hb2' (by omega)).trans d2
   replace d3 := (cellB hb2' (by omega)).trans d3
   replace d4 := (cellB hb2' (by omega)).trans d4
   replace e3 := (frozenB hb2' (by omega)).trans e3
   replace e4 := (frozenB hb2' (by omega)).trans e4
   have hz2 := hb2'.size
   clear hf hB2 hb2 hHeld
   dsimp only
   refine hK.out _ _ d3 (fun hHeld => ?_)
   clear hK K
   refine wpAnyT_one (i := 7) rfl (by kernel_rfl) (fun K hK => ?_)
   go_simp
   refine hK.out _ _ (by go_keep) (fun hHeld => ?_)
   clear hK K
   refine wpAnyT_one (i := 8) rfl (by kernel_rfl) (fun K hK => ?_)
   refine step_push (E := intsT) _ rfl _ _ 41 50 rfl elInt64SS rfl (HBq.out.below (hb2'.alloc hz2 _) (Nat.le_refl _)) rfl news1 (HF.out.below bA) (by have := HLN.out; omega) (by decide) (by omega) (by simp; omega) ?_
   intro v5 w5 hB5 hg5 hown
   obtain ⟨a5, n5, c5, rfl⟩ := ex_slice (hB5.fr (by rw [List.length_append]; have := HLN.out; unfold capMax; simp only [List.length_singleton]; omega))
   have hg6 : (w2.alloc (.cells #[.slice a2 n2 c2] 50)).grownBy w5 (Value.slice al ln cl).ownBlock := hg5
   have hown6 : (Value.slice a5 n5 c5).ownBlock = (Value.slice al ln cl).ownBlock ∨ (Value.slice a5 n5 c5).ownBlock = some (w2.alloc (.cells #[.slice a2 n2 c2] 50)).heap.size := hown
   have hba : Below w2.heap.size w2 (w2.alloc (.cells #[.slice a2 n2 c2] 50)) := bA
   generalize hWX : w2.alloc (.cells #[.slice a2 n2 c2] 50) = wx at hg6 hown6 hba
   have hzx := hba.size
   have hnb : (Value.slice al ln cl).ownBlock ≠ some bf := fun e => by have := (HOWN.out bf e).1; omega
   have hC : ∀ j, w5.cell? ⟨bf, j, none⟩ = w2.cell? ⟨bf, j, none⟩ := fun j => (grown_cell' (i := j) hg6 (show bf < wx.heap.size by omega) hnb).trans (cellB hba (show bf < w2.heap.size by omega))
   have hM : ∀ j, w5.frozen? ⟨bf, j, none⟩ = w2.frozen? ⟨bf, j, none⟩ := fun j => (World.frozen?_of_block (a := ⟨bf, j, none⟩) (hg6.block bf (show bf < wx.heap.size by omega) (fun e => hnb e.symm))).trans (frozenB hba (show bf < w2.heap.size by omega))
   replace d0 := (hC 0).trans d0
   replace d1 := (hC 1).trans d1
   replace d2 := (hC 2).trans d2
   replace d3 := (hC 3).trans d3
   replace d4 := (hC 4).trans d4
   replace e3 := (hM 3).trans e3
   replace e4 := (hM 4).trans e4
   have hz5 := hg6.size
   have HT5 : Hid (TchF (bf :: (Value.slice al ln cl).ownBlock.toList) w w5) := (htq.then (Below.tchF (bthen hb2' hba) _) (fun k hk => .inl hk)).then (grown_tchF hg6) (fun k hk => .inl (List.mem_cons_of_mem _ hk))
   rw [HL1.out] at hB5
   have HB5 := Lib.hid hB5
   have hown7 : ∀ q, (Value.slice a5 n5 c5).ownBlock = some q → (Value.slice al ln cl).ownBlock = some q ∨ wx.heap.size ≤ q := fun q hq => by
    rcases hown6 with h | h
    ·exact .inl (by rw [← h]; exact hq)
    ·rw [h] at hq
     simp at hq
     exact .inr (by omega)
   have HOWN7 := Lib.hid hown7
   clear hB5 hown hown6 hg5 hg6 hown7 hC hM hWX htq hnb
   refine hK.out _ _ d3 (fun hHeld => ?_)
   clear hK K
   refine wpAnyT_take (i := 9) (v := ?_) rfl (by kernel_rfl) (fun _ _ _ h => h) (Or.inl ⟨by rfl, ?_⟩) (by assumption) ?_
   rotate_left
   ·(intro w hSw; (try dsimp only at hSw); go_simp <;> with_reducible rfl)
   try simp only [Act.put]
   refine wpAnyT_take (i := 10) (v := ?_) rfl (by kernel_rfl) (fun _ _ _ h => h) (Or.inl ⟨by rfl, ?_⟩) (by assumption) ?_
   rotate_left
   ·(intro w hSw; (try dsimp only at hSw); go_simp <;> with_reducible rfl)
   try simp only [Act.put]
   refine wpAnyT_last (i := 11) rfl (by kernel_rfl) (by kernel_rfl) (fun K hK => ?_)
   go_simp
   refine hK.out _ _ ?_
   clear hK K
   refine wpAnyT_done (by kernel_rfl) ?_ _
   go_simp
   go_wp2_with fail
   have hbx5 : bf < w5.heap.size := by omega
   have HF5 : Hid (Bl intsT 50 (bf + 1) w5.heap.size (w5.setCell ⟨bf, 3, none⟩ (.slice a5 n5 c5)) (.slice a5 n5 c5) ((told ++ [vals]).take most)) := HB5.out.sameB (fun q hq1 hq2 => Below.heap_setCell _ _ _ _ (by simp; omega))
   refine bodyPost_ret (v := .tuple #[]) (by simp [results, Tryz.results62, go_sem]) rfl ?_
   refine ⟨⟨_, rfl⟩, _, HRES.out _ _ (by rw [size_set]; exact HF5.out) ((World.cell?_setCell_other _ _ _ _ (by simp)).trans d0) ((World.cell?_setCell_other _ _ _ _ (by simp)).trans d1) ((World.cell?_setCell_other _ _ _ _ (by simp)).trans d2) (World.cell?_setCell_same _ _ _ d3) ((World.cell?_setCell_other _ _ _ _ (by simp)).trans d4) ((World.frozen?_setCell _ _ _ _).trans e3) ((World.frozen?_setCell _ _ _ _).trans e4) (by rw [size_set]; exact hbx5), HT5.out.trans (TchF.setCell (List.mem_cons_self ..) _ _ _), fun k hk => ?_⟩
   rcases List.mem_cons.1 hk with rfl | hk
   ·exact .inl (List.mem_cons_self ..)
   ·rcases HOWN7.out k (by simpa using hk) with h | h
    ·exact .inl (List.mem_cons_of_mem _ (by simpa using h))
    ·exact .inr (by omega)
 | succ m ih =>
  intro w v vals fpv told O hlen hF ht hx hv hfv hmt hbd
  have HF0 := Lib.hid hF
  have HTB := Lib.hid ht
  have HXB := Lib.hid hx
  have hOge := hF.ge
  have hbfw : bf < w.heap.size := let ⟨_, _, h, _⟩ := hF; h
  obtain ⟨vl, -, h1, c0, c1, -, -, -, -, -, -⟩ := hF
  obtain ⟨bx, ox, _, _, rfl, hbx, -, x0, -, -⟩ := pt_pair hx.pt
  obtain ⟨bt, ot, _, _, rfl, hbt, -, t0, -, -⟩ := pt_pair ht.pt
  obtain ⟨va, vc, rfl⟩ := rd_slice ⟨fpv, hv⟩
  have hvb : bt < bf ∧ bx < bf := by
   obtain ⟨b, o, cs, he, h, -⟩ := ht
   obtain ⟨b', o', cs', he', h', -⟩ := hx
   simp only [Value.pointer.injEq, Option.some.injEq, Addr.mk.injEq, and_true] at he he'
   omega
  have HV := Lib.hid hv
  have HFV := Lib.hid hfv
  have HIH := Lib.hid ih
  have hl : vals.length < n := by omega
  have hne : ((vals.length : Int) == (n : Int)) = false := by simp; omega
  have HMT : Hid (most = 0 ∨ told.length ≤ most) := by unfold Hid; omega
  rw [HN.out] at x0
  rw [HS.out] at t0
  rw [solsL_succ]
  rw [solsL_succ] at hbd
  have HBD := Lib.hid hbd
  have HOGE := Lib.hid hOge
  clear ht hx hv hfv ih hbd hmt hOge
  go_enter Tryz.func62, Tryz.ntmps62
  go_wp2_with fail
  go_loopw [4] (fun i wr => ∃ (k : Nat) (O' : List Nat), k ≤ s ∧ i = .int .i64 k ∧ Fnd 50 bf most (.pointer (some ⟨bt, ot, none⟩)) (.pointer (some ⟨bx, ox, none⟩)) (limL most (told ++ solsTo s (goesB t (duesL x.2 n)) m vals k)) O' wr ∧ TchF O w wr ∧ (∀ q ∈ O', q ∈ O ∨ w.heap.size ≤ q)) (fun i _ => s - (intOf i).toNat)
  case atStart => exact ⟨0, O, Nat.zero_le _, rfl, by rw [solsTo_zero, List.append_nil, lim_self HMT.out]; exact HF0.out, TchF.refl _ _, fun q hq => .inl hq⟩
  case round =>
   obtain ⟨k, O', hk, rfl, hFk, htc, hO'⟩ := hrel
   have HFK := Lib.hid hFk
   have HO := Lib.hid hO'
   have hbw : Below bf w wr := htc.below (Nat.le_of_lt hbfw) HOGE.out
   have htz := htc.size
   have y0 := (cellB hbw hvb.1).trans t0
   have y1 := (cellB hbw hvb.2).trans x0
   obtain ⟨vl, hOe, h1', d0, d1, d2, d3, d4, e3, e4, hB⟩ := hFk
   obtain ⟨al, cl, rfl⟩ := rd_slice (hB.fr (by have := lim_len (most := most) (l := told ++ solsTo s (goesB t (duesL x.2 n)) m vals k); rw [List.length_append] at this; have := HBD.out; obtain ⟨r, hr⟩ := solsTo_append (s := s) (m := m) (sure := goesB t (duesL x.2 n)) (vals := vals) (k := k) (j := s) hk; rw [hr, List.length_append] at this; rw [List.length_take]; unfold capMax; omega)).rd
   have hll : ((limL most (told ++ solsTo s (goesB t (duesL x.2 n)) m vals k)).take most).length = min most (limL most (told ++ solsTo s (goesB t (duesL x.2 n)) m vals k)).length := List.length_take
   generalize ((limL most (told ++ solsTo s (goesB t (duesL x.2 n)) m vals k)).take most).length = ln at *
   clear hO' hOe d4 e3 e4 hB HF0
   by_cases hkl : k < s
   ·by_cases hfull : 0 < most ∧ most ≤ (limL most (told ++ solsTo s (goesB t (duesL x.2 n)) m vals k)).length
    ·have hln : ln = most := by omega
     have hd1 : decide ((0 : Int) < (most : Int)) = true := by simp; omega
     have hd2 : ((ln : Int) == (most : Int)) = true := by simp; omega
     have HST : Hid (limL most (told ++ solsTo s (goesB t (duesL x.2 n)) m vals s) = limL most (told ++ solsTo s (goesB t (duesL x.2 n)) m vals k)) := by
      unfold Hid
      obtain ⟨r, hr⟩ := solsTo_append (s := s) (m := m) (sure := goesB t (duesL x.2 n)) (vals := vals) (k := k) (j := s) hk
      rw [hr, ← List.append_assoc]
      exact lim_stop hfull.1 hfull.2
     have hpos := hfull.1
     clear hfull hll hln
     go_wp2_with fail
     go_quiet (fail)
     go_wp2_with fail
     refine bodyPost_ret (v := .tuple #[]) (by simp [results, Tryz.results62, go_sem]) rfl ?_
     exact ⟨⟨_, rfl⟩, O', by rw [HST.out]; exact HFK.out.below (Quiet.drewN _ _).below, htc.then (Below.tchF (Quiet.drewN _ _).below O) (fun q hq => .inl hq), HO.out⟩
    ·have hmt2 : most = 0 ∨ (limL most (told ++ solsTo s (goesB t (duesL x.2 n)) m vals k)).length < most := by omega
     have HMT2 := Lib.hid hmt2
     have hg : (decide ((0 : Int) < (most : Int)) = false ∧ decide (0 < most) = false) ∨ (decide ((0 : Int) < (most : Int)) = true ∧ decide (0 < most) = true ∧ ((ln : Int) == (most : Int)) = false ∧ (ln == most) = false) := by
      rcases Nat.eq_zero_or_pos most with h0 | h0
      ·exact .inl ⟨by simp; omega, by simp; omega⟩
      ·exact .inr ⟨by simp; omega, by simp; omega, by simp; omega, by simp; omega⟩
     have HBK : Hid ((limL most (told ++ solsTo s (goesB t (duesL x.2 n)) m vals k)).length + (if goesB t (duesL x.2 n) (vals ++ [(k : Int)]) = true then (solsL s (goesB t (duesL x.2 n)) m (vals ++ [(k : Int)])).length else 0) ≤ 2000000) := by
      unfold Hid
      have h1 := HBD.out
      have h2 := lim_len (most := most) (l := told ++ solsTo s (goesB t (duesL x.2 n)) m vals k)
      rw [List.length_append] at h2
      obtain ⟨r, hr⟩ := solsTo_append (s := s) (m := m) (sure := goesB t (duesL x.2 n)) (vals := vals) (k := k + 1) (j := s) (by omega)
      by_cases hg : goesB t (duesL x.2 n) (vals ++ [(k : Int)]) = true
      ·rw [if_pos hg]
       rw [hr, solsTo_yes hg, List.length_append, List.length_append] at h1
       omega
      ·rw [if_neg hg]
       rw [hr, solsTo_no (by simpa using hg), List.length_append] at h1
       omega
     have HVR : Hid (intsT.Rd wr [.slice va vals.length vc] vals) := ⟨fpv, HV.out.tch htc HFV.out⟩
     have HLT := Lib.hid HFK.out.lt
     have hbb := hvb.1
     have hbx' := hvb.2
     clear hfull hll hmt2
     rcases hg with ⟨hd1, hd3⟩ | ⟨hd1, hd3, hd2, hd4⟩
     all_goals
      go_wp2_with fail
      go_quiet (fail)
      rename_i nq
      generalize hWq : wr.drewN nq = wq
      have hbdq : Below wr.heap.size wr wq := hWq ▸ bDN (Below.refl _ _)
      have hzq := hbdq.size
      replace y0 := (cellB hbdq (by omega)).trans y0
      replace y1 := (cellB hbdq (by omega)).trans y1
      replace d0 := (cellB hbdq (by omega)).trans d0
      replace d1 := (cellB hbdq (by omega)).trans d1
      clear hWq hd1 hd3
      go_wp2_with fail
      refine (l00Own_any _ (HVR.out.below hbdq) (by omega)).mono ?_
      rintro e w2 ⟨u2, rfl, hB2, hb2⟩
      obtain ⟨a2, n2, c2, rfl⟩ := ex_slice (hB2.fr (by unfold capMax; omega))
      have HB2 := Lib.hid hB2
      have hz2 := hb2.size
      replace y0 := (cellB hb2 (by omega)).trans y0
      replace y1 := (cellB hb2 (by omega)).trans y1
      replace d0 := (cellB hb2 (by omega)).trans d0
      replace d1 := (cellB hb2 (by omega)).trans d1
      clear hB2
      go_wp2_with (refine wpList_push (E := Ty.int) _ rfl _ _ 50 2 rfl elInt rfl (HB2.out.below bA (Nat.le_refl _)) rfl news1 (fr_int (I64.small (by omega) (by omega))) (by omega) (by decide) hz2 (by simp) ?_; intro v5 w5 hB5 hg5 _; have hb5 : Below wq.heap.size w2 w5 := ((bA (w := w2)).mono hz2).grown hg5 (by simp; omega) (fun q hq => HB2.out.own hq); obtain ⟨a5, n5, c5, rfl⟩ := ex_slice (hB5.fr (by rw [List.length_append]; unfold capMax; simp only [List.length_singleton]; omega)))
      have hz5 := hb5.size
      obtain ⟨fp5, hr5, -, hfb5, -⟩ := hB5.fr (by rw [List.length_append]; unfold capMax; simp only [List.length_singleton]; omega)
      have HR5 := Lib.hid hr5
      have HFB5 := Lib.hid hfb5
      have hbq5 : Below wq.heap.size wq w5 := hb2.trans hb5
      have hbr5 : Below wr.heap.size wr w5 := hbdq.trans (hbq5.mono hzq)
      replace y0 := (cellB hb5 (by omega)).trans y0
      replace y1 := (cellB hb5 (by omega)).trans y1
      replace d0 := (cellB hb5 (by omega)).trans d0
      replace d1 := (cellB hb5 (by omega)).trans d1
      have hbw5 : Below bf w w5 := hbw.trans (hbr5.mono (by omega))
      have HT5 := Lib.hid (HTB.out.below hbw5)
      have HX5 := Lib.hid (HXB.out.below hbw5)
      have HF5 := Lib.hid (HFK.out.below hbr5)
      have ht5 : TchF O w w5 := htc.then (Below.tchF hbr5 O) (fun q hq => .inl hq)
      clear hB5 hg5 hr5 hfb5
      have hNN := HN.out
      refine (sure_any w5 d0 d1 HT5.out.pt HX5.out.pt ⟨fp5, HR5.out⟩ HOK.out (k := vals.length) (by simp) (by omega)).mono ?_
      rintro e w6 ⟨rfl, hb6⟩
      rw [show x.1.toNat = n by omega]
      have hz6 := hb6.size
      replace y0 := (cellB hb6 (by omega)).trans y0
      replace y1 := (cellB hb6 (by omega)).trans y1
      replace d0 := (cellB hb6 (by omega)).trans d0
      replace d1 := (cellB hb6 (by omega)).trans d1
      have hbr6 := bthen hbr5 hb6
      have ht6 : TchF O w w6 := ht5.then (Below.tchF hb6 O) (fun q hq => .inl hq)
      clear hNN
      cases hg : goesB t (duesL x.2 n) (vals ++ [(k : Int)])
      ·have HNO := Lib.hid (solsTo_no (s := s) (m := m) hg)
       clear hg
       go_wp2_with fail
       go_roundw
       case rel => exact ⟨k + 1, O', by omega, by go_num, by rw [HNO.out]; exact HF5.out.below hb6, ht6, HO.out⟩
       case measure => simp [intOf]; omega
      ·have HYES := Lib.hid (solsTo_yes (s := s) (m := m) hg)
       rw [hg, if_pos rfl] at HBK
       clear hg
       go_wp2_with fail
       refine (HIH.out w6 (.slice a5 n5 c5) (vals ++ [(k : Int)]) fp5 _ O' (by rw [List.length_append, List.length_singleton]; omega) (HF5.out.below hb6) (HT5.out.below (hb6.mono (by omega))) (HX5.out.below (hb6.mono (by omega))) (HR5.out.below hb6) (fun q hq hm => by have := HFB5.out q hq; have := HLT.out q hm; omega) HMT2.out HBK.out).mono ?_
       rintro e w7 ⟨⟨u7, rfl⟩, O2, hF7, ht7, hO2⟩
       rw [lim_app, List.append_assoc, ← HYES.out] at hF7
       have HF7 := Lib.hid hF7
       have ht8 : TchF O w w7 := ht6.then ht7 HO.out
       have HO2 : Hid (∀ q ∈ O2, q ∈ O ∨ w.heap.size ≤ q) := fun q hq => by
        rcases hO2 q hq with h | h
        ·exact HO.out q h
        ·exact .inr (by omega)
       clear hF7 ht7 hO2 y0 y1 d0 d1
       go_wp2_with fail
       go_roundw
       case rel => exact ⟨k + 1, O2, by omega, by go_num, HF7.out, ht8, HO2.out⟩
       case measure => simp [intOf]; omega
   ·obtain rfl : k = s := by omega
    clear d0 d1 d2 d3
    have d0 : wr.cell? ⟨bf, 0, none⟩ = some (.pointer (some ⟨bt, ot, none⟩)) := let ⟨_, _, _, h, _⟩ := HFK.out; h
    go_wp2_with fail
    refine bodyPost_end (v := .tuple #[]) (by simp [results, Tryz.results62, go_sem]) rfl ?_
    exact ⟨⟨_, rfl⟩, O', HFK.out, htc, HO.out⟩
end Go.Proofs.YtmnjlhcbabhhlaaGreat
namespace Go.Proofs.YtmnjlhcbabhhlaaGreat
open Go.RowKit Go.Sort
end Go.Proofs.YtmnjlhcbabhhlaaGreat
namespace Go.Proofs.YtmnjlhcbabhhlaaGreat
open Go.RowKit Go.Sort
section
variable {t : Int × List (Int × List (List Int))} {f : Int × Int × List (Int × List Int)} {tu : List Int}
end
end Go.Proofs.YtmnjlhcbabhhlaaGreat
namespace Go.Proofs.YtmnjlhcbabhhlaaGreat
open Go.RowKit Go.Sort
end Go.Proofs.YtmnjlhcbabhhlaaGreat
namespace Go.Proofs.YtmnjlhcbabhhlaaGreat
open Go.RowKit Go.Sort
theorem solsL_mem {s : Nat} {sure : List Int → Bool} : ∀ {m : Nat} {vals x : List Int}, x ∈ solsL s sure m vals ↔ ∃ y : List Int, x = vals ++ y ∧ y.length = m ∧ (∀ a ∈ y, 0 ≤ a ∧ a < s) ∧ ∀ k, k < m → sure (vals ++ y.take (k + 1)) = true
 | 0, vals, x => by
  simp only [solsL, List.mem_singleton]
  constructor
  ·rintro rfl
   exact ⟨[], by simp, rfl, fun a ha => (by cases ha), fun k hk => (by omega)⟩
  ·rintro ⟨y, rfl, hy, -, -⟩
   rw [List.length_eq_zero_iff.1 hy, List.append_nil]
 | m + 1, vals, x => by
  simp only [solsL, List.mem_flatMap, List.mem_range]
  constructor
  ·rintro ⟨a, ha, hx⟩
   cases h : sure (vals ++ [(a : Int)])
   ·rw [h] at hx; simp at hx
   ·rw [h] at hx
    obtain ⟨y, rfl, hy, hr, hk⟩ := solsL_mem.1 (by simpa using hx)
    refine ⟨(a : Int) :: y, by simp, by simp [hy], ?_, ?_⟩
    ·intro b hb
     rcases List.mem_cons.1 hb with rfl | hb
     ·omega
     ·exact hr b hb
    ·intro k hkm
     cases k with
     | zero => simpa using h
     | succ k =>
      have := hk k (by omega)
      simpa using this
  ·rintro ⟨y, rfl, hy, hr, hk⟩
   cases y with
   | nil => simp at hy
   | cons a y =>
    have h1 := hr a (List.mem_cons_self ..)
    have e : ((a.toNat : Nat) : Int) = a := by omega
    refine ⟨a.toNat, by omega, ?_⟩
    have h0 := hk 0 (by omega)
    rw [e]
    rw [List.take_succ_cons, List.take_zero] at h0
    rw [h0, if_pos rfl]
    refine solsL_mem.2 ⟨y, by simp, by simpa using hy, fun b hb => hr b (List.mem_cons_of_mem _ hb), fun k hkm => ?_⟩
    have := hk (k + 1) (by omega)
    simpa using this
theorem goes_iff {t : Int × List (Int × List (List Int))} {ats : List (Int × List Int)} {n : Nat} (h0 : 0 < n) (hats : ∀ a ∈ ats, ∀ p ∈ a.2, 0 ≤ p ∧ p ≤ (n : Int) - 1) {x : List Int} (hx : x.length = n) :
  (∀ k, k < n → goesB t (duesL ats n) (x.take (k + 1)) = true) ↔ ∀ a ∈ ats, holdsA t x a = true := by
 have hpre : ∀ a ∈ ats, ∀ v : Nat, topI a.2 = v → holdsA t (x.take (v + 1)) a = holdsA t x a := fun a ha v hv => by
  have e : atL (x.take (v + 1)) a.2 = atL x a.2 := atL_pre (k := v + 1) (fun p hp' => by have h1 : p ≤ topI a.2 := topI_ge hp'; have h2 := hats a ha p hp'; omega)
  unfold holdsA holdsC
  rw [e]
 constructor
 ·intro h a ha
  have ht0 := topI_nn (xs := a.2)
  have ht1 : topI a.2 ≤ (n : Int) - 1 := topI_le (by omega) fun p hp' => (hats a ha p hp').2
  obtain ⟨v, hv⟩ : ∃ v : Nat, topI a.2 = v := ⟨(topI a.2).toNat, by omega⟩
  have hvN : v < n := by omega
  have hg := h v hvN
  rw [goesB_at (k := v) (by rw [List.length_take]; omega) (by rw [duesL_len]; exact hvN), duesL_get] at hg
  have hd : a ∈ dueL ats v := List.mem_filter.2 ⟨ha, by simpa using hv⟩
  have hn := (List.any_eq_false.1 (by simpa [anyB] using hg : (dueL ats v).any (fun a => !holdsA t (x.take (v + 1)) a) = false)) _ hd
  rw [← hpre a ha v hv]
  simpa using hn
 ·intro h k hk
  rw [goesB_at (k := k) (by rw [List.length_take]; omega) (by rw [duesL_len]; exact hk), duesL_get]
  have hnone : anyB (fun a => !holdsA t (x.take (k + 1)) a) (dueL ats k) = false := by
   refine List.any_eq_false.2 fun a ha => ?_
   obtain ⟨ha, htop⟩ := List.mem_filter.1 ha
   rw [hpre a ha k (by simpa using htop), h a ha]
   decide
  rw [hnone]
  rfl
end Go.Proofs.YtmnjlhcbabhhlaaGreat
namespace Go.Proofs.YtmnjlhcbabhhlaaGreat
open Go.RowKit Go.Sort
section
variable (t : Int × List (Int × List (List Int))) (f : Int × Int × List (Int × List Int)) (free : Int) (places : List Int)
end
section
variable {t : Int × List (Int × List (List Int))} {f : Int × Int × List (Int × List Int)} {free : Int} {places : List Int}
end
end Go.Proofs.YtmnjlhcbabhhlaaGreat
namespace Go.Proofs.YtmnjlhcbabhhlaaGreat
open Go.RowKit Go.Sort
section
variable {t : Int × List (Int × List (List Int))} {x : Int × List (Int × List Int)} {n : Int}
end
end Go.Proofs.YtmnjlhcbabhhlaaGreat
namespace Go.Proofs.YtmnjlhcbabhhlaaGreat
open Go.RowKit Go.Sort
section
variable {t : Int × List (Int × List (List Int))} {f g : Int × Int × List (Int × List Int)}
end
section
variable (t : Int × List (Int × List (List Int))) (f g : Int × Int × List (Int × List Int))
end
section
variable {t : Int × List (Int × List (List Int))} {f g : Int × Int × List (Int × List Int)}
end
end Go.Proofs.YtmnjlhcbabhhlaaGreat
namespace Go.Proofs.YtmnjlhcbabhhlaaGreat
open Go.RowKit Go.Sort
section
variable (t : Int × List (Int × List (List Int))) (f g : Int × Int × List (Int × List Int))
end
section
variable {t : Int × List (Int × List (List Int))} {f g : Int × Int × List (Int × List Int)}
end
end Go.Proofs.YtmnjlhcbabhhlaaGreat
namespace Go.Proofs.YtmnjlhcbabhhlaaGreat
open Go.RowKit Go.Sort
section
variable (t : Int × List (Int × List (List Int))) (f : Int × Int × List (Int × List Int))
end
section
variable {t : Int × List (Int × List (List Int))} {f : Int × Int × List (Int × List Int)}
end
end Go.Proofs.YtmnjlhcbabhhlaaGreat
namespace Go.Proofs.YtmnjlhcbabhhlaaGreat
open Go.RowKit Go.Sort
section
variable (t : Int × List (Int × List (List Int))) (f : Int × Int × List (Int × List Int))
end
section
variable {t : Int × List (Int × List (List Int))} {f : Int × Int × List (Int × List Int)}
end
end Go.Proofs.YtmnjlhcbabhhlaaGreat
namespace Go.Proofs.YtmnjlhcbabhhlaaGreat
open Go.RowKit Go.Sort
theorem getD_map0 {x args : List Int} {p : Nat} (hp : p < args.length) : (atL x args).getD p 0 = x.getD (args[p]).toNat 0 := by
 unfold atL
 rw [List.getD_eq_getElem?_getD, List.getElem?_map, List.getElem?_eq_getElem hp]
 rfl
end Go.Proofs.YtmnjlhcbabhhlaaGreat
namespace Go.Proofs.YtmnjlhcbabhhlaaGreat
open Go.RowKit Go.Sort
theorem sol_mem {t : Tpl} {x : Int × List (Int × List Int)} (hok : instOk t x) {y : List Int} (h : y ∈ solsX t x) : (y.length : Int) = x.1 ∧ (∀ a ∈ y, 0 ≤ a ∧ a ≤ t.1 - 1) ∧ ∀ c ∈ x.2, holdsC t y c := by
 have hs := hok.1.1
 have hs1 : 1 ≤ t.1 := hs.1
 obtain ⟨z, rfl, hz, hin, hall⟩ := solsL_mem.1 h
 simp only [List.nil_append] at hall ⊢
 have hn := hok.2.1
 have h1 := (goes_iff (t := t) (ats := x.2) (n := x.1.toNat) (by omega) (fun c hc p hp => by
  have := (hok.2.2.2 c hc).2.2 p hp
  omega) hz).1 hall
 refine ⟨by omega, fun a ha => by have := hin a ha; omega, fun c hc => ?_⟩
 have h2 := h1 c hc
 have h3 := (hok.2.2.2 c hc).1
 rw [holdsA_rel (beq_eq_false_iff_ne.2 (by omega))] at h2
 exact tb_iff.1 h2
theorem allP_at {t : Tpl} {x : Int × List (Int × List Int)} {N : Nat} {i j : Nat} (hi : i < j) : ∀ {n : Nat}, j < n → prR (allP t x N n) i j = relL t.1 2 (leftB t x i j) N
 | 0, h => absurd h (Nat.not_lt_zero _)
 | n + 1, h => by
  unfold prR
  rw [← allP_succ]
  have hl := allP_cnt (t := t) (x := x) (N := N) (n := n)
  by_cases e : j = n
  ·subst e
   have h1 : pxN i j = (allP t x N j).length + i := by rw [hl]; rfl
   rw [h1, List.getD_eq_getElem?_getD, List.getElem?_append_right (by omega), Nat.add_sub_cancel_left]
   have h2 : i < (rowP t x N j j).length := by rw [rowP_len]; exact hi
   rw [List.getElem?_eq_getElem h2]
   simp [rowP]
  ·have h1 : pxN i j < (allP t x N n).length := by rw [hl]; exact pxN_lt hi (by omega)
   rw [List.getD_eq_getElem?_getD, List.getElem?_append_left h1, ← List.getD_eq_getElem?_getD]
   exact allP_at hi (by omega)
theorem tup2 {s a b : Int} (ha : 0 ≤ a ∧ a ≤ s - 1) (hb : 0 ≤ b ∧ b ≤ s - 1) : tupP s 2 [a, b] := ⟨rfl, fun c hc => by
 simp only [List.mem_cons, List.not_mem_nil, or_false] at hc
 rcases hc with rfl | rfl
 ·exact ha
 ·exact hb⟩
theorem anyB_mem {α : Type} {p : α → Bool} {xs : List α} {y : α} (h : y ∈ xs) (hp : p y = true) : anyB p xs = true := by
 obtain ⟨k, hk, rfl⟩ := List.mem_iff_getElem.1 h
 exact anyB_yes hk hp
theorem getD_in {y : List Int} {s : Int} (h : ∀ a ∈ y, 0 ≤ a ∧ a ≤ s - 1) {i : Nat} (hi : i < y.length) : 0 ≤ y.getD i 0 ∧ y.getD i 0 ≤ s - 1 := by
 rw [getD_at hi]
 exact h _ (List.getElem_mem hi)
/-- all pairs of values of a list are left -/
def HoldP (P : Rels) (n : Nat) (y : List Int) : Prop := ∀ i j, i < j → j < n → [y.getD i 0, y.getD j 0] ∈ prR P i j
theorem hold_first {t : Tpl} {x : Int × List (Int × List Int)} (hok : instOk t x) {N : Nat} (hN : t.1 ^ 2 = N) {y : List Int} (h : y ∈ solsX t x) : HoldP (allP t x N x.1.toNat) x.1.toNat y := fun i j hi hj => by
 obtain ⟨hl, hin, hc⟩ := sol_mem hok h
 rw [allP_at hi hj]
 refine (relL_iff hok.1.1.1 hN (tup2 (getD_in hin (by omega)) (getD_in hin (by omega)))).2 ?_
 show (!anyB _ x.2) = true
 rw [anyB_no (fun c hcm => ?_)]
 ·rfl
 show (!tellsB t c i j (y.getD i 0) (y.getD j 0)) = false
 have hmem := hc c hcm
 have hsc := (hok.2.2.2 c hcm).2
 have hT : okT c.2 (atL y c.2) i j (y.getD i 0) (y.getD j 0) := by
  refine ⟨fun q hq => ⟨fun e => ?_, fun e => ?_⟩, fun a ha k hk e => ?_⟩
  ·rw [getD_at hq] at e
   rw [getD_map0 hq, e]; rfl
  ·rw [getD_at hq] at e
   rw [getD_map0 hq, e]; rfl
  ·rw [getD_at (by omega), getD_at ha] at e
   rw [getD_map0 (show k < c.2.length by omega), getD_map0 ha, e]
 have hany : anyB (fun tu => tb (okT c.2 tu i j (y.getD i 0) (y.getD j 0))) (relAt t c.1).2 = true := anyB_mem hmem (tb_true hT)
 cases h1 : hasI c.2 (i : Int)
 ·cases h2 : hasI c.2 (j : Int)
  ·rw [tells_no h1 h2]; rfl
  ·rw [tells_j h1 h2, hany]; rfl
 ·rw [tells_i h1, hany]; rfl
theorem hold_prL {P : Rels} {n : Nat} {y : List Int} (h : HoldP P n y) {i j : Nat} (hij : i ≠ j) (hi : i < n) (hj : j < n) : prL P i j (y.getD i 0) (y.getD j 0) = true := by
 by_cases hlt : j < i
 ·rw [prL_gt hlt]; exact tb_true (h j i hlt hi)
 ·rw [prL_le hlt]; exact tb_true (h i j (by omega) hj)
theorem hold_nw {s : Int} {P : Rels} {n : Nat} {y : List Int} (hy : y.length = n) (hin : ∀ a ∈ y, 0 ≤ a ∧ a ≤ s - 1) (h : HoldP P n y) (hl : P.length = n * (n - 1) / 2) {i j k : Nat} (hij : i < j) (hj : j < n) (hk : k < n) (hki : k ≠ i) (hkj : k ≠ j) : HoldP (nwV s P i j k) n y := fun i' j' hi' hj' => by
 have hq : pxN i j < P.length := by rw [hl]; exact pxN_lt hij hj
 by_cases e : pxN i' j' = pxN i j
 ·obtain ⟨rfl, rfl⟩ := pxN_inj hi' hij e
  unfold prR nwV
  rw [List.getD_eq_getElem?_getD, List.getElem?_set_self hq]
  refine List.mem_filter.2 ⟨h _ _ hi' hj', ?_⟩
  unfold prT
  refine List.any_eq_true.2 ⟨(y.getD k 0).toNat, ?_, ?_⟩
  ·have := getD_in hin (show k < y.length by omega)
   exact List.mem_range.2 (by omega)
  ·have h1 := hold_prL h (fun e => hki e.symm) (by omega) hk
   have h2 := hold_prL h hkj hk hj'
   have h3 := getD_in hin (show k < y.length by omega)
   rw [show (((y.getD k 0).toNat : Nat) : Int) = y.getD k 0 by omega]
   simp only [List.getD_cons_zero, List.getD_cons_succ, h1, h2, Bool.and_self]
 ·unfold prR nwV
  rw [List.getD_eq_getElem?_getD, List.getElem?_set_ne (fun e' => e e'.symm), ← List.getD_eq_getElem?_getD]
  exact h _ _ hi' hj'
theorem nw_length {s : Int} {P : Rels} {i j k : Nat} : (nwV s P i j k).length = P.length := by simp [nwV]
/-- steps keep what they must -/
theorem step_cases {s : Int} {st : Rels × List Stp} {i j k : Nat} : stepS s st (i, j, k) = st ∨ (k ≠ i ∧ k ≠ j ∧ stepS s st (i, j, k) = (nwV s st.1 i j k, st.2 ++ [(i, j, k)])) := by
 by_cases h : k ≠ i ∧ k ≠ j
 ·cases h2 : nwB s st.1 i j k
  ·exact .inl (prs_same (e := (i, j, k)) h2)
  ·exact .inr ⟨h.1, h.2, prs_yes (e := (i, j, k)) h h2⟩
 ·exact .inl (prs_no (e := (i, j, k)) h)
theorem hold_mk {s : Int} {P : Rels} {n : Nat} {y : List Int} (hy : y.length = n) (hin : ∀ a ∈ y, 0 ≤ a ∧ a ≤ s - 1) (h : HoldP P n y) (hl : P.length = n * (n - 1) / 2) : HoldP (mkP s n (P, [])).1 n y := by
 unfold mkP
 refine (mkP_ind (Q := fun st => st.1.length = n * (n - 1) / 2 ∧ HoldP st.1 n y) (fun st i j k hi hj hk hQ => ?_) ⟨hl, h⟩).2
 rcases step_cases (s := s) (st := st) (i := i) (j := j) (k := k) with e | ⟨h1, h2, e⟩
 ·rw [e]; exact hQ
 ·rw [e]; exact ⟨nw_length.trans hQ.1, hold_nw hy hin hQ.2 hQ.1 hi hj hk h1 h2⟩
theorem part_mk {s : Int} {P : Rels} {n : Nat} (hl : P.length = n * (n - 1) / 2) : (mkP s n (P, [])).1.length = P.length ∧ ∀ q, ∀ l ∈ ((mkP s n (P, [])).1.getD q (0, [])).2, l ∈ (P.getD q (0, [])).2 := by
 unfold mkP
 refine mkP_ind (Q := fun st => st.1.length = P.length ∧ ∀ q, ∀ l ∈ (st.1.getD q (0, [])).2, l ∈ (P.getD q (0, [])).2) (fun st i j k hi hj hk hQ => ?_) ⟨rfl, fun _ _ h => h⟩
 rcases step_cases (s := s) (st := st) (i := i) (j := j) (k := k) with e | ⟨h1, h2, e⟩
 ·rw [e]; exact hQ
 ·rw [e]
  refine ⟨nw_length.trans hQ.1, fun q l hm => ?_⟩
  by_cases eq : pxN i j = q
  ·subst eq
   have hq : pxN i j < st.1.length := by rw [hQ.1, hl]; exact pxN_lt hi hj
   refine hQ.2 _ l ?_
   simp only [nwV, List.getD_eq_getElem?_getD, List.getElem?_set_self hq, Option.getD_some] at hm
   exact (List.mem_filter.1 hm).1
  ·refine hQ.2 q l ?_
   simp only [nwV, List.getD_eq_getElem?_getD, List.getElem?_set_ne eq] at hm
   simpa [List.getD_eq_getElem?_getD] using hm
theorem rl_mk {s : Int} {P : Rels} {n : Nat} (h : RlOk s n P) (hs : 1 ≤ s) (hs4 : s ≤ 4) : RlOk s n (mkP s n (P, [])).1 := by
 obtain ⟨N, hN⟩ : ∃ N : Nat, s ^ 2 = (N : Int) := ⟨(s ^ 2).toNat, by have := pow_nn (s := s) (by omega) 2; omega⟩
 unfold mkP
 refine mkP_ind (Q := fun st => RlOk s n st.1) (fun st i j k hi hj hk hQ => ?_) h
 rcases step_cases (s := s) (st := st) (i := i) (j := j) (k := k) with e | ⟨h1, h2, e⟩
 ·rw [e]; exact hQ
 ·rw [e]
  refine ⟨nw_length.trans hQ.1, fun r hr => ?_⟩
  rcases List.mem_or_eq_of_mem_set hr with hr | rfl
  ·exact hQ.2 r hr
  ·rw [nw_rel hQ hi hj hN]
   exact ⟨relL_ok (ar := 2) ⟨hs, hs4⟩ ⟨by decide, by decide⟩ hN, rfl⟩
/-- the steps of the model go through, a wrong one behind them does not -/
theorem good_app {s : Int} {n : Nat} {P : Rels} {S : List Stp} (h : GoodS s n P S) (E : List Stp) : GoodTo s n P (S ++ E) S.length := fun q hq hlt => by
 have h1 := h q hlt
 rw [List.getElem_append_left hlt, List.take_append_of_le_length (by omega)]
 exact h1
theorem good_bd {s : Int} {n : Nat} {P : Rels} {S : List Stp} (h : GoodS s n P S) (hn : n ≤ 100) : ∀ e ∈ S, e.1 ≤ 100 ∧ e.2.1 ≤ 100 ∧ e.2.2 ≤ 100 := fun e he => by
 obtain ⟨q, hq, rfl⟩ := List.mem_iff_getElem.1 he
 have := (h q hq).1
 omega
end Go.Proofs.YtmnjlhcbabhhlaaGreat
namespace Go.Proofs.YtmnjlhcbabhhlaaGreat
open Go.RowKit Go.Sort
theorem rd_pair2 {α : Type} {E : Ty α} {w : World} {cs : List Value} {x : Int × List α} (h : (Ty.cons (Ty.slice E)).Rd w cs x) : ∃ a c, cs = [.int .i64 x.1, .slice a x.2.length c] := by
 obtain ⟨v, hv, hI, hx⟩ := pair_ex h
 obtain ⟨a, c, rfl⟩ := rd_slice hx
 exact ⟨a, c, hv⟩
theorem getD_ltY {α : Type} {L : List α} {k : Nat} {z : α} (h : k < L.length) : L.getD k z = L[k] := by rw [List.getD_eq_getElem?_getD, List.getElem?_eq_getElem h]; rfl
theorem anyB_exY {α : Type} {p : α → Bool} {xs : List α} (h : anyB p xs = true) : ∃ y ∈ xs, p y = true := by
 unfold anyB at h
 simpa using h
theorem mk_len {s : Int} {P : Rels} {n : Nat} (h : RlOk s n P) : (mkP s n (P, [])).2.length ≤ totP P := by
 have h1 : RlOk s n (mkP s n (P, [])).1 ∧ totP (mkP s n (P, [])).1 + (mkP s n (P, [])).2.length ≤ totP P := by
  unfold mkP
  refine mkP_ind (Q := fun st => RlOk s n st.1 ∧ totP st.1 + st.2.length ≤ totP P) (fun st i j k hi hj hk hQ => ?_) ⟨h, by simp⟩
  by_cases h1 : k ≠ i ∧ k ≠ j
  ·cases h2 : nwB s st.1 i j k
   ·rw [prs_same (e := (i, j, k)) h2]; exact hQ
   ·rw [prs_yes (e := (i, j, k)) h1 h2]
    have hq := hQ.1.at hi hj
    have h3 := tot_set (r := ((2 : Int), nwR s st.1 i j k)) hq
    have h5 : (nwR s st.1 i j k).length < (prR st.1 i j).length := by simpa [nwB] using h2
    have h6 := prR_at hq
    rw [h6] at h5
    refine ⟨hQ.1.nw hi hj, ?_⟩
    have h4 := hQ.2
    dsimp only at h3 h5 ⊢
    simp only [List.length_append, List.length_cons, List.length_nil]
    unfold nwV
    omega
  ·rw [prs_no (e := (i, j, k)) h1]; exact hQ
 omega
/-- all that the walk asks of what pairs leave -/
def PlF (t : Tpl) (x : Int × List (Int × List Int)) (P D : Rels) (S : List Stp) : Prop :=
 P.length = D.length ∧ RlOk t.1 x.1.toNat P ∧ RlOk t.1 x.1.toNat D ∧ (∀ q, ∀ l ∈ (D.getD q (0, [])).2, l ∈ (P.getD q (0, [])).2) ∧ (∀ y ∈ solsX t x, (y.length : Int) = x.1 ∧ HoldP D x.1.toNat y) ∧
 GoodS t.1 x.1.toNat P S ∧ repS t.1 P S = D ∧ (∀ e ∈ S, e.1 ≤ 100 ∧ e.2.1 ≤ 100 ∧ e.2.2 ≤ 100) ∧ (1 ≤ x.1 ∧ x.1 ≤ 10) ∧ S.length ≤ 1600
theorem plF_of {t : Tpl} {x : Int × List (Int × List Int)} (h : instOk t x) : PlF t x (allP t x (t.1 ^ 2).toNat x.1.toNat) (mkpV t x).1 (mkpV t x).2 := by
 have hs := h.1.1
 have hs' : 1 ≤ t.1 ∧ t.1 ≤ 4 := by unfold sizeOk at hs; omega
 have hx := h.2.1
 have hN : t.1 ^ 2 = ((t.1 ^ 2).toNat : Int) := by have := pow_nn (s := t.1) (by omega) 2; omega
 have hN16 : (t.1 ^ 2).toNat ≤ 16 := by
  have : t.1 * t.1 ≤ 4 * 4 := Int.mul_le_mul hs'.2 hs'.2 (by omega) (by omega)
  rw [Int.pow_succ, Int.pow_succ, Int.pow_zero, Int.one_mul]
  omega
 have hP : RlOk t.1 x.1.toNat (allP t x (t.1 ^ 2).toNat x.1.toNat) := allP_ok hs hN
 have hg := good_mk (s := t.1) (n := x.1.toNat) (P := allP t x (t.1 ^ 2).toNat x.1.toNat)
 have hp := part_mk (s := t.1) (n := x.1.toNat) hP.1
 refine ⟨hp.1.symm, hP, rl_mk hP hs'.1 hs'.2, hp.2, fun y hy => ?_, hg.1, hg.2, good_bd hg.1 (by omega), by omega, Nat.le_trans (mk_len hP) (allP_tot hN16 (by omega))⟩
 have hy1 := sol_mem h hy
 exact ⟨hy1.1, hold_mk (by omega) hy1.2.1 (hold_first h hN hy) hP.1⟩
section
variable {t : Tpl} {x : Int × List (Int × List Int)} {P D : Rels} {S : List Stp}
theorem PlF.part (h : PlF t x P D S) {k : Nat} (hk : k < D.length) (hk' : k < P.length) : anyB (fun l => !tb (l ∈ P[k].2)) D[k].2 = false := by
 cases ha : anyB (fun l => !tb (l ∈ P[k].2)) D[k].2
 ·rfl
 ·obtain ⟨l, hl, hp⟩ := anyB_exY ha
  have := h.2.2.2.1 k l (by rw [getD_ltY hk]; exact hl)
  rw [getD_ltY hk'] at this
  rw [tb_true this] at hp
  cases hp
theorem PlF.has (h : PlF t x P D S) {y : List Int} (hy : y ∈ solsX t x) {i j : Nat} (hi : i < j) (hj : j < x.1.toNat) : ∃ (h1 : i < y.length) (h2 : j < y.length) (hk : pxN i j < D.length), tb ([y[i], y[j]] ∈ D[pxN i j].2) = true := by
 have h1 := h.2.2.2.2.1 y hy
 have hk := h.2.2.1.at hi hj
 have h2 : i < y.length := by omega
 have h3 : j < y.length := by omega
 refine ⟨h2, h3, hk, tb_true ?_⟩
 have h4 := h1.2 i j hi hj
 unfold prR at h4
 rwa [getD_ltY hk, getD_ltY h2, getD_ltY h3] at h4
end
theorem rel_at {w : World} {a : Option Addr} {m c : Nat} {P : Rels} (hm : P.length = m) (h : relsT.Rd w [.slice a m c] P) {k : Nat} (hk : k < P.length) : ∃ b o ea ec, a = some ⟨b, o, none⟩ ∧ b < w.heap.size ∧ relT.Rd w [.int .i64 P[k].1, .slice ea P[k].2.length ec] P[k] ∧ w.cell? ⟨b, o + k * 2, none⟩ = some (.int .i64 P[k].1) ∧ w.cell? ⟨b, o + k * 2 + 1, none⟩ = some (.slice ea P[k].2.length ec) := by
 subst hm
 obtain ⟨a', c', hr, -, -, hc⟩ := pairs_ex h
 simp only [List.cons.injEq, Value.slice.injEq, and_true, true_and] at hr
 obtain ⟨rfl, rfl⟩ := hr
 obtain ⟨b, o, rfl, hb, hc⟩ := hc (by omega)
 obtain ⟨v, h1, h2, h4, h5⟩ := hc k hk
 obtain ⟨ea, ec, rfl⟩ := rd_slice h1
 exact ⟨b, o, ea, ec, rfl, hb, pair_mk h2 h1, h4, h5⟩
theorem rels_le {w : World} {a : Option Addr} {m c : Nat} {P : Rels} (h : relsT.Rd w [.slice a m c] P) : P.length ≤ 140737488351232 :=
 let ⟨_, _, _, _, h, _⟩ := pairs_ex h; h
theorem rows_le {w : World} {a : Option Addr} {m c : Nat} {L : List (List Int)} (h : rowsT.Rd w [.slice a m c] L) : L.length ≤ 140737488351232 :=
 let ⟨_, _, _, _, h, _⟩ := slices_ex h; h
theorem row_at {w : World} {a : Option Addr} {m c : Nat} {L : List (List Int)} (hm : L.length = m) (h : rowsT.Rd w [.slice a m c] L) {k : Nat} (hk : k < L.length) : ∃ b o ea ec, a = some ⟨b, o, none⟩ ∧ b < w.heap.size ∧ intsT.Rd w [.slice ea L[k].length ec] L[k] ∧ w.cell? ⟨b, o + k, none⟩ = some (.slice ea L[k].length ec) := by
 subst hm
 obtain ⟨a', c', hr, -, -, hc⟩ := slices_ex h
 simp only [List.cons.injEq, Value.slice.injEq, and_true, true_and] at hr
 obtain ⟨rfl, rfl⟩ := hr
 obtain ⟨b, o, rfl, hb, hc⟩ := hc (by omega)
 obtain ⟨v, h1, h2⟩ := hc k hk
 obtain ⟨ea, ec, rfl⟩ := rd_slice h1
 exact ⟨b, o, ea, ec, rfl, hb, h1, h2⟩
theorem int_at {w : World} {a : Option Addr} {m c : Nat} {L : List Int} (hm : L.length = m) (h : intsT.Rd w [.slice a m c] L) (hk : 0 < L.length) : ∃ b o, a = some ⟨b, o, none⟩ ∧ b < w.heap.size ∧ ∀ i (hi : i < L.length), I64 L[i] ∧ w.cell? ⟨b, o + i, none⟩ = some (.int .i64 L[i]) := by
 subst hm
 obtain ⟨a', c', hr, -, -, hc⟩ := ints_ex h
 simp only [List.cons.injEq, Value.slice.injEq, and_true, true_and] at hr
 obtain ⟨rfl, rfl⟩ := hr
 exact hc hk
theorem pairIndexY_any (n : Int) (i j : Nat) (w : World) (hn : 1 ≤ n ∧ n ≤ 10) (hi : i < j) (hj : j < n.toNat) : Calls Tryz.prog 13 #[.int .i64 n, .int .i64 (j : Int), .int .i64 (i : Int)] w fun e w' => e = .returned (.tuple #[.int .i64 (pxN i j : Int), .int .i64 0]) ∧ w = w' := by
 have hn0 : inB n 1 10 = true := inB_true.2 (by omega)
 have hn' := inB_true.1 hn0
 have hj0 : inB (j : Int) 0 (n - 1) = true := inB_true.2 (by omega)
 have hj' := inB_true.1 hj0
 have hi0 : inB (i : Int) 0 (n - 1) = true := inB_true.2 (by omega)
 have hi' := inB_true.1 hi0
 have he : ((j : Int) == (i : Int)) = false := by rw [beq_eq_false_iff_ne]; omega
 have hp := (pix_lt hi).2
 go_enter Tryz.func13, Tryz.ntmps13
 go_wp2_with (first | (go_at_call 33; refine (within_any _ _ _ _).mono ?_; rintro e w' ⟨rfl, rfl⟩) | (go_at_call 32; refine (isVars_any _ _).mono ?_; rintro e w' ⟨rfl, rfl⟩) | (go_at_call 34; refine (pairIndex_any _ _ _ (by omega) (by omega) (by omega) (by omega)).mono ?_; rintro e w' ⟨rfl, rfl⟩))
 go_ret2
 exact ⟨rfl, rfl⟩
end Go.Proofs.YtmnjlhcbabhhlaaGreat
namespace Go.Proofs.YtmnjlhcbabhhlaaGreat
open Go.RowKit Go.Sort
theorem solsX_nat {t : Int × List (Int × List (List Int))} {x : Int × List (Int × List Int)} {n s : Nat} (hn : x.1 = n) (hs : t.1 = s) : solsL s (goesB t (duesL x.2 n)) n [] = solsX t x := by
 unfold solsX
 rw [show x.1.toNat = n by omega, show t.1.toNat = s by omega]
set_option maxHeartbeats 3200000 in
set_option maxRecDepth 100000 in
theorem l05Solutions_any (w : World) {vt vx : Value} {t : Int × List (Int × List (List Int))} {x : Int × List (Int × List Int)} (ht : tplT.Pt w vt t) (hx : instT.Pt w vx x) (hok : instOk t x) {most : Nat} (hm : most ≤ 1000) (hm0 : 0 < most) :
  Calls Tryz.prog 31 #[vt, vx, .int .i64 most] w (RetS rowsT w ((solsX t x).take most)) := by
 have HT := Lib.hid ht
 have HX := Lib.hid hx
 have HOK := Lib.hid hok
 have HSL := Lib.hid (solsX_len hok)
 have hn1 := hok.2.1
 have hs1 := hok.1.1
 unfold sizeOk at hs1
 obtain ⟨n, hn⟩ : ∃ n : Nat, x.1 = n := ⟨x.1.toNat, by omega⟩
 obtain ⟨s, hs⟩ : ∃ s : Nat, t.1 = s := ⟨t.1.toNat, by omega⟩
 have HN := Lib.hid hn
 have HS := Lib.hid hs
 have HSX := Lib.hid (solsX_nat (t := t) (x := x) hn hs)
 obtain ⟨bt, ot, _, _, rfl, -, -, -, -, -⟩ := pt_pair ht
 obtain ⟨bx, ox, _, _, rfl, -, -, -, -, -⟩ := pt_pair hx
 clear ht hx hok hn1 hs1 hn hs
 go_enter Tryz.func31, Tryz.ntmps31
 go_wp2_with fail
 generalize hW : World.alloc (World.alloc w _) _ = W
 have hbW : Below w.heap.size w W := hW ▸ bAA
 have hsW : w.heap.size + 2 ≤ W.heap.size := by rw [← hW]; simp
 have c0 : W.cell? ⟨w.heap.size, 0, none⟩ = some (.pointer (some ⟨bt, ot, none⟩)) := by rw [← hW]; simp [go_sem]
 have c1 : W.cell? ⟨w.heap.size, 1, none⟩ = some (.pointer (some ⟨bx, ox, none⟩)) := by rw [← hW]; simp [go_sem]
 have c2 : W.cell? ⟨w.heap.size, 2, none⟩ = some (.int .i64 most) := by rw [← hW]; simp [go_sem]
 have c3 : W.cell? ⟨w.heap.size, 3, none⟩ = some (.slice none 0 0) := by rw [← hW]; simp [go_sem]
 have c4 : W.cell? ⟨w.heap.size, 4, none⟩ = some (.int .i64 0) := by rw [← hW]; simp [go_sem]
 have m3 : W.frozen? ⟨w.heap.size, 3, none⟩ = false := by rw [← hW]; simp [go_sem]
 have m4 : W.frozen? ⟨w.heap.size, 4, none⟩ = false := by rw [← hW]; simp [go_sem]
 have HF : Hid (Fnd 50 w.heap.size most (.pointer (some ⟨bt, ot, none⟩)) (.pointer (some ⟨bx, ox, none⟩)) [] [w.heap.size] W) := ⟨.slice none 0 0, rfl, by omega, c0, c1, c2, c3, c4, m3, m4, by simpa using Bl.nil⟩
 have HTB := Lib.hid (HT.out.B.below hbW)
 have HXB := Lib.hid (HX.out.B.below hbW)
 clear c0 c1 c2 c3 c4 m3 m4 hW
 refine (from_any HOK.out HN.out HS.out w.heap.size most hm _ _ n W _ [] [] [] [w.heap.size] (by simp) HF.out HTB.out HXB.out ⟨_, 0, rfl, Nat.le_refl _, Nat.zero_le _, .inl ⟨rfl, rfl⟩⟩ (fun k hk => by cases hk) (.inr (by simpa using hm0)) (by have := HSL.out; rw [HSX.out]; simp only [List.length_nil]; omega)).mono ?_
 rintro e w2 ⟨⟨u, rfl⟩, O', hF2, ht2, hO2⟩
 rw [List.nil_append, lim_pos hm0, HSX.out] at hF2
 have hb2 : Below w.heap.size w w2 := hbW.trans (ht2.below (by omega) (fun q hq => by simp at hq; omega))
 obtain ⟨v2, -, h1, -, -, -, d3, -, -, -, hB⟩ := hF2
 rw [List.take_take, Nat.min_self] at hB
 have hf := hB.fr (by rw [List.length_take]; unfold capMax; omega)
 obtain ⟨a2, n2, cc2, rfl⟩ := ex_slice hf
 have HFR := Lib.hid hf
 clear hB hf ht2 hO2 HF
 go_wp2_with fail
 go_ret
 exact ⟨_, rfl, HFR.out.mono (by omega), hb2⟩
set_option maxHeartbeats 3200000 in
set_option maxRecDepth 100000 in
theorem specAllSolutions_any (w : World) {cs cs' : Array Value} {t : Int × List (Int × List (List Int))} {x : Int × List (Int × List Int)} (h : tplT.Rd w cs.toList t) (h' : instT.Rd w cs'.toList x) :
  Calls Tryz.prog 12 #[.agg cs, .agg cs'] w (RetSC rowsT w (asV t x) (asC t x)) := by
 have p0 : tplT.Pt ((w.alloc (.cells cs 26)).alloc (.cells cs' 29)) (.pointer (some ⟨w.heap.size, 0, none⟩)) t := (pt_box h).below bA
 have p1 : instT.Pt ((w.alloc (.cells cs 26)).alloc (.cells cs' 29)) (.pointer (some ⟨w.heap.size + 1, 0, none⟩)) x := by
  simpa using pt_box (T := 29) (h'.below (bA (o := .cells cs 26)))
 obtain ⟨v1, hv, hI, -⟩ := pair_ex h
 obtain rfl := agg_of hv
 obtain ⟨v2, hv', hI', -⟩ := pair_ex h'
 obtain rfl := agg_of hv'
 clear h hv h' hv'
 go_enter Tryz.func12, Tryz.ntmps12
 go_wp2_with fail
 generalize hW : World.alloc _ _ = W at p0 p1 ⊢
 have hbW : Below w.heap.size w W := hW ▸ bAA
 clear hW
 refine (l05Ok_quiet _ p0 p1).mono ?_
 rintro e w1 ⟨rfl, hq1⟩
 have hb1 := hq1.below
 have hB1 := bthen hbW hb1
 clear hq1
 cases hok : tb (instOk t x)
 ·have HR := Lib.hid (as_no hok)
  clear hok
  go_wp2_with fail
  go_ret2
  exact ⟨.slice (some ⟨w1.heap.size, 0, none⟩) 0 0, by rw [HR.out.2]; rfl, by rw [HR.out.1]; exact fr_nil, hB1.alloc hB1.size _⟩
 ·have HRM := Lib.hid (fun h => as_more hok h)
  have HRY := Lib.hid (fun h => as_yes hok h)
  have HOK := Lib.hid (tb_iff.1 hok)
  clear hok
  go_wp2_with fail
  refine (l05Solutions_any (most := 201) _ (p0.below hb1) (p1.below hb1) HOK.out (by omega) (by omega)).mono ?_
  rintro e w2 ⟨u, rfl, hf, hb2⟩
  obtain ⟨a2, c2, rfl⟩ := fr_slice hf
  have hll : ((solsX t x).take 201).length = min 201 (solsX t x).length := List.length_take
  generalize ((solsX t x).take 201).length = ln at *
  have HF := Lib.hid hf
  have hz1 := hB1.size
  clear hf
  cases hle : decide ((solsX t x).length ≤ 200)
  ·have HR := Lib.hid (HRM.out hle)
   have hgt : (200 : Int) < (ln : Int) := by have := of_decide_eq_false hle; omega
   clear hle hll
   go_wp2_with fail
   go_ret2
   exact ⟨.slice (some ⟨w2.heap.size, 0, none⟩) 0 0, by rw [HR.out.2]; rfl, by rw [HR.out.1]; exact fr_nil, (bthen hB1 hb2).alloc (bthen hB1 hb2).size _⟩
  ·have HR := Lib.hid (HRY.out hle)
   have HTK : Hid ((solsX t x).take 201 = solsX t x) := List.take_of_length_le (by have := of_decide_eq_true hle; omega)
   have hgt : ¬ ((200 : Int) < (ln : Int)) := by have := of_decide_eq_true hle; omega
   clear hle hll
   go_wp2_with fail
   go_ret2
   exact ⟨.slice a2 ln c2, by rw [HR.out.2]; rfl, by rw [HR.out.1, ← HTK.out]; exact HF.out.mono hz1, bthen hB1 hb2⟩
end Go.Proofs.YtmnjlhcbabhhlaaGreat
namespace Go.Proofs.YtmnjlhcbabhhlaaGreat
open Go.RowKit Go.Sort
theorem specSameRel_any (w : World) {cs cs' : Array Value} {x y : Int × List (List Int)} (h : relT.Rd w cs.toList x) (h' : relT.Rd w cs'.toList y) :
  Calls Tryz.prog 11 #[.agg cs, .agg cs'] w fun e w' => e = .returned (.bool (eqB x y)) ∧ Below w.heap.size w w' := by
 have p1 := (pt_box (T := 43) h)
 have p2 := (pt_box (T := 43) (h'.below (bA (o := .cells cs.toList.toArray 43))))
 obtain ⟨u, hv, _⟩ := pair_ex h
 obtain rfl := agg_of hv
 obtain ⟨u', hv', _⟩ := pair_ex h'
 obtain rfl := agg_of hv'
 have p1' := p1.below (bA (o := .cells [.int .i64 y.1, u'].toArray 43))
 clear hv hv' h h' p1
 go_enter Tryz.func11, Tryz.ntmps11
 go_wp2_with fail
 rw [World.size_alloc] at p2
 refine (l01Same_quiet _ p1' p2).mono ?_
 rintro e w1 ⟨rfl, n, rfl⟩
 go_wp2_with fail
 go_ret
 exact ⟨rfl, (by repeat (first | exact Below.refl _ _ | exact bA | assumption | refine Below.setCell ?_ (by first | omega | (simp; try omega)) _ | refine Below.alloc ?_ (by first | omega | (simp; try omega)) _ | refine Below.drew ?_ | refine bDN ?_ | refine bthen ?_ (by assumption)))⟩
end Go.Proofs.YtmnjlhcbabhhlaaGreat
