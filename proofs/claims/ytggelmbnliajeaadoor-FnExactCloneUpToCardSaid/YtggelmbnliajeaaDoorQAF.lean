/-
Contracts: a round of compositions, the reference's.
Contracts: the operations up to so many arguments that operations make, the reference's.
A map of the call's own from texts to truth values: a set of texts. No program is named here.
Plain: the program's closure: what is combined of lists of which one at least is the last; when all is closed.
The library's contracts, laid at this seat's program. Written by the kit's lay-shelf and lay-plain: its numbers hold for that seat alone (shelf2.py).
Texts: bytes joined; decimal numbers; rows of texts; the library's Join. Contracts of dec, digits, spaced, Decimal.
Memory: what an append keeps of the row that grows; the state of the closure's list: a set of texts, a row of lists, each told apart. No program is named here.
Contracts: a list put into the closure's list, if it is new.
-/
import Derived.Test.YtggelmbnliajeaaDoorQAE
import Derived.Test.YtggelmbnliajeaaDoorQAC
import Derived.Test.YtggelmbnliajeaaDoorQAB
import Derived.Test.YtggelmbnliajeaaDoorQAD
import Derived.Test.YtggelmbnliajeaaDoorQAA
import Derived.Maps.OwnOps
import Derived.Maps.OwnSet
import Derived.Maps.Views
import Derived.StringKeys
import Derived.Shelf.Strconv.Itoa4
import Derived.Test.YtggelmbnliajeaaDoorProg
namespace Go.Proofs.YtggelmbnliajeaaDoor
open Go.RowKit Go.Sort
/-- the list while compositions come in -/
structure RndS (base : Nat) (ar s : Int) (ops : List (Int × List Int)) (N : Nat) (T : List (List Int)) (L : List PV) (wr : World) (b : Bool) (v1 : Value) (L1 : List PV) : Prop where
 op : OpL base ar wr v1 L1
 pw : (L1.map (·.2)).Pairwise ltL
 cl : ∀ p ∈ L1, Clo s ops N T p.2
 sub : ∀ l ∈ L.map (·.2), l ∈ L1.map (·.2)
 no : b = false → L1.map (·.2) = L.map (·.2)
 yes : b = true → L.length < L1.length
 le : L.length ≤ L1.length
section
variable {base : Nat} {ar s : Int} {ops : List (Int × List Int)} {N : Nat} {T : List (List Int)} {L L1 : List PV} {wr wr' : World} {b : Bool} {v1 v2 : Value}
theorem RndS.below (h : RndS base ar s ops N T L wr b v1 L1) (hb : Below wr.heap.size wr wr') : RndS base ar s ops N T L wr' b v1 L1 := { h with op := h.op.below hb }
theorem RndS.put {x : PV} {k : Nat} (h : RndS base ar s ops N T L wr b v1 L1) (ho : OpL base ar wr' v2 (putL L1 k x)) (hp : ((putL L1 k x).map (·.2)).Pairwise ltL) (hc : Clo s ops N T x.2) : RndS base ar s ops N T L wr' true v2 (putL L1 k x) where
 op := ho
 pw := hp
 cl := fun p hp => (List.mem_cons.1 (putL_perm.mem_iff.1 hp)).elim (fun e => by rw [e]; exact hc) (h.cl p)
 sub := fun l hl => by
  obtain ⟨p, hp, rfl⟩ := List.mem_map.1 (h.sub l hl)
  exact List.mem_map.2 ⟨p, putL_perm.mem_iff.2 (List.mem_cons_of_mem _ hp), rfl⟩
 no := fun h => by cases h
 yes := fun _ => by rw [putL_len]; have := h.le; omega
 le := by rw [putL_len]; have := h.le; omega
end
/-- what a round answers -/
def RndR (base : Nat) (ar s : Int) (ops : List (Int × List Int)) (N : Nat) (T : List (List Int)) (L : List PV) (w : World) (e : Ending) (w' : World) : Prop :=
 Below w.heap.size w w' ∧ ∃ (v' : Value) (b : Bool), (e = .returned (.tuple #[v', .bool b, .int .i64 3]) ∧ cloBig s ops N T) ∨
  (e = .returned (.tuple #[v', .bool b, .int .i64 0]) ∧ ∃ L1, RndS base ar s ops N T L w' b v' L1 ∧ L1.length ≤ 64 ∧ ∀ f ∈ ops, ∀ k : Nat, (k : Int) < ((L.map (·.2)).length : Int) ^ f.1.toNat → makes s f ((N : Int), L.map (·.2)) k ∈ L1.map (·.2))
/-- a list that a call hands back, as one more of the list's -/
theorem srf_cons {base : Nat} {w : World} {L : List PV} {tv : Value} {t : List Int} {B : Nat} (h : SRf base w L) (hB : ∀ p ∈ L, ∀ k ∈ bkV p.1, k < B) (hf : intsT.Fr B w [tv] t) (hb : base ≤ B) : SRf base w ((tv, t) :: L) := by
 obtain ⟨fp, h1, h2, h3, h4⟩ := hf
 rw [bkV_ints h1] at h2 h3 h4
 have hlt : ∀ k ∈ bkV tv, k < w.heap.size := fun k hk => intsT.lt h1 k (by rw [bkV_ints h1]; exact hk)
 refine ⟨?_, fun p hp k hk => ?_⟩
 ·rw [List.flatMap_cons]
  refine List.nodup_append.2 ⟨h2, h.1, fun a ha c hc e => ?_⟩
  subst e
  obtain ⟨p, hp, hk⟩ := List.mem_flatMap.1 hc
  have := hB p hp a hk
  have := h3 a ha
  omega
 ·rcases List.mem_cons.1 hp with rfl | hp
  ·exact ⟨Nat.le_trans hb (h3 k hk), hlt k hk, fun o => h4 k hk o⟩
  ·exact h.2 p hp k hk
set_option maxHeartbeats 6400000 in
set_option maxRecDepth 100000 in
theorem l02Round_any (w : World) {base : Nat} {ar s : Int} {v : Value} {L : List PV} (h : OpL base ar w v L) (hP : (L.map (·.2)).Pairwise ltL) (hL : 1 ≤ L.length ∧ L.length ≤ 64) {ops : List (Int × List Int)} {vo : Value} (hops : opsT.Rd w [vo] ops) (ho : ∀ f ∈ ops, opOk s f) (hs : sizeOk s) (hI : I64 ar) {N : Nat} (hN : N ≤ 64) {T : List (List Int)} (hT : ∀ l ∈ T, tupP s N l) (hcl : ∀ p ∈ L, Clo s ops N T p.2) (hB : base ≤ w.heap.size) :
  Calls Tryd.prog 16 #[.int .i64 s, vo, v] w (RndR base ar s ops N T L w) := by
 obtain ⟨oad, ocap, hov, -, hol, hoc⟩ := pairs_ex hops
 obtain rfl : vo = _ := by simpa using hov
 obtain ⟨lb, lcap, rfl, hlc, hlb, hlw, -, -, hcell⟩ := h.row
 have H := Lib.hid h
 have HP := Lib.hid hP
 have HO := Lib.hid ho
 have HOC := Lib.hid hoc
 have HOPS := Lib.hid hops
 have HT := Lib.hid hT
 have HCL := Lib.hid hcl
 have HC := Lib.hid hcell
 have HI := Lib.hid hI
 have HRL : Hid ((L.map (·.2)).length = L.length) := List.length_map ..
 have HST : Hid (RndS base ar s ops N T L w false (.slice (some ⟨lb, 0, none⟩) L.length lcap) L) := ⟨h, hP, hcl, fun l hl => hl, fun _ => rfl, fun h => (by cases h), Nat.le_refl _⟩
 have hs4 : 1 ≤ s ∧ s ≤ 4 := hs
 clear h hP hops hov ho hoc hT hcl hcell hI hs
 go_enter Tryd.func16, Tryd.ntmps16
 go_wp2_with fail
 go_loopw [11, 10, 9] (fun i q v1 wr => ∃ (ii : Nat) (b : Bool) (L1 : List PV), ii ≤ ops.length ∧ i = .int .i64 ii ∧ q = .bool b ∧ RndS base ar s ops N T L wr b v1 L1 ∧ L1.length ≤ 64 ∧ (∀ j (hj : j < ops.length), j < ii → ∀ k : Nat, (k : Int) < ((L.map (·.2)).length : Int) ^ (ops[j]).1.toNat → makes s ops[j] ((N : Int), L.map (·.2)) k ∈ L1.map (·.2)) ∧ Below w.heap.size w wr) (fun i _ _ _ => ops.length - (intOf i).toNat)
 case atStart => exact ⟨0, false, L, Nat.zero_le _, rfl, rfl, HST.out, hL.2, fun j hj h => absurd h (Nat.not_lt_zero _), Below.refl _ _⟩
 case round =>
  obtain ⟨ii, b1, L1, hii, rfl, rfl, hS1, hL1, hd1, hb1⟩ := hrel
  obtain ⟨wv, rfl⟩ : ∃ wv : World, wv = wr := ⟨_, rfl⟩
  have HS1 := Lib.hid hS1
  have HD1 := Lib.hid hd1
  clear hS1 hd1 HST
  by_cases hil : ii < ops.length
  ·obtain ⟨ob, oo, rfl, hob, hoce⟩ := HOC.out (by omega)
   obtain ⟨tv, htv, hIf, hc0, hc1⟩ := hoce ii hil
   have e0 := (cellB hb1 hob).trans hc0
   have hfo : opOk s ops[ii] := HO.out _ (List.getElem_mem hil)
   have haf := hfo.2.1
   obtain ⟨af, haf2⟩ : ∃ af : Nat, (ops[ii]).1 = (af : Int) := ⟨(ops[ii]).1.toNat, by omega⟩
   have hafn : (ops[ii]).1.toNat = af := by omega
   have haf3 : 1 ≤ af ∧ af ≤ 3 := by omega
   rw [haf2] at e0 hc0
   have HMEM := Lib.hid (List.getElem_mem hil)
   have HPT : Hid (∀ X, Below w.heap.size w X → opT.Pt X (.pointer (some ⟨ob, oo + ii * 2, none⟩)) ops[ii]) := fun X hX => pt_elem (E := opT) (HOPS.out.below hX) hil
   have HDN : Hid (∀ L2 : List PV, (∀ l ∈ L1.map (·.2), l ∈ L2.map (·.2)) → (∀ k : Nat, (k : Int) < ((L.map (·.2)).length : Int) ^ af → makes s ops[ii] ((N : Int), L.map (·.2)) k ∈ L2.map (·.2)) → ∀ j (hj : j < ops.length), j < ii + 1 → ∀ k : Nat, (k : Int) < ((L.map (·.2)).length : Int) ^ (ops[j]).1.toNat → makes s ops[j] ((N : Int), L.map (·.2)) k ∈ L2.map (·.2)) := fun L2 h1 h2 j hj hlt k hk => by
    by_cases e : j = ii
    ·subst e; rw [hafn] at hk; exact h2 k hk
    ·exact h1 _ (HD1.out j hj (by omega) k hk)
   have HFO := Lib.hid hfo
   have HAF := Lib.hid haf2
   have HAFN := Lib.hid hafn
   have HC0 := Lib.hid hc0
   generalize ops[ii] = f at HFO HAF HAFN HMEM HPT HDN
   obtain ⟨Mf, hMf⟩ : ∃ Mf : Nat, (L.length : Int) ^ af = (Mf : Int) := ⟨((L.length : Int) ^ af).toNat, by have := pow_nn (s := (L.length : Int)) (by omega) af; omega⟩
   have HMF := Lib.hid hMf
   have hMle : (Mf : Int) ≤ 1000000000000000 := by rw [← hMf]; exact pow_le (by omega) (by omega) (by omega)
   clear hfo haf haf2 hafn hMf HD1 hoce htv hIf hc0 hc1
   go_wp2_with fail
   refine (l01Power_any _ (L.length : Int) (af : Int) (by omega) (by omega) (by omega)).mono ?_
   rintro e _ ⟨rfl, rfl⟩
   rw [Int.toNat_natCast, HMF.out]
   clear e0
   go_wp2_with fail
   go_loopw [14, 10, 9] (fun i q v2 wr => ∃ (k : Nat) (b : Bool) (L2 : List PV), k ≤ Mf ∧ i = .int .i64 k ∧ q = .bool b ∧ RndS base ar s ops N T L wr b v2 L2 ∧ L2.length ≤ 64 ∧ (∀ l ∈ L1.map (·.2), l ∈ L2.map (·.2)) ∧ (∀ k' : Nat, k' < k → makes s f ((N : Int), L.map (·.2)) k' ∈ L2.map (·.2)) ∧ Below w.heap.size w wr) (fun i _ _ _ => Mf - (intOf i).toNat)
   case atStart => exact ⟨0, b1, L1, Nat.zero_le _, by first | rfl | go_num, rfl, HS1.out, hL1, fun _ h => h, fun _ h => absurd h (Nat.not_lt_zero _), hb1⟩
   case round =>
    obtain ⟨k, b2, L2, hk, rfl, rfl, hS2, hL2, hsub2, hd2, hb2⟩ := hrel
    obtain ⟨wp, rfl⟩ : ∃ wp : World, wp = wr := ⟨_, rfl⟩
    obtain ⟨g2, q2, rfl, -⟩ := hS2.op.row
    have HS2 := Lib.hid hS2
    have HSUB2 := Lib.hid hsub2
    have HD2 := Lib.hid hd2
    clear hS2 hsub2 hd2 HS1
    by_cases hkl : k < Mf
    ·have e0 := (cellB hb2 hob).trans HC0.out
     go_wp2_with fail
     refine (l01Digits_any wp (L.length : Int) (k : Int) af (by omega) (by omega) (by omega) (by omega) (by omega)).mono ?_
     rintro e w3 ⟨u, rfl, hfr, hb3⟩
     obtain ⟨dad, dcap, hdv, -, -, hdc⟩ := ints_ex hfr.rd
     obtain rfl : u = _ := by simpa using hdv
     obtain ⟨db, dof, rfl, hdb, hdce⟩ := hdc (by rw [digL_len]; omega)
     rw [digL_len]
     have HDC := Lib.hid hdce
     have hB3 := bthen hb2 hb3
     have hz3 := hb3.size
     have HS3 := Lib.hid (HS2.out.below hb3)
     clear hdv hdc hdce hfr e0 HS2
     go_wp2_with fail
     go_loopw [17, 16] (fun i q wr => ∃ (j : Nat) (VS : List (Int × Value)), j ≤ af ∧ i = .int .i64 j ∧ VS.length = j ∧ (∀ i (h : i < VS.length) (h' : i < (picks (L.map (·.2)) af k).length), (VS[i]).1 = ar ∧ intsT.Rd w3 [(VS[i]).2] (picks (L.map (·.2)) af k)[i]) ∧ Bl pvT 39 w3.heap.size wr.heap.size wr q VS ∧ Below w3.heap.size w3 wr) (fun i _ _ => af - (intOf i).toNat)
     case atStart => exact ⟨0, [], Nat.zero_le _, by first | rfl | go_num, rfl, fun i h => absurd h (Nat.not_lt_zero _), by simpa using Bl.lit0 (E := pvT) (e := 39) (w := w3) (Nat.le_refl _), bA⟩
     case round =>
      obtain ⟨j, VS, hj, rfl, hvl, hpk, hBl, hb4⟩ := hrel
      obtain ⟨wz, rfl⟩ : ∃ wz : World, wz = wr := ⟨_, rfl⟩
      have HB := Lib.hid hBl
      have HVL := Lib.hid hvl
      have HPK := Lib.hid hpk
      have hz4 := hb4.size
      clear hBl hvl hpk
      by_cases hjl : j < af
      ·have hjd : j < (digL (L.length : Int) k af).length := by rw [digL_len]; exact hjl
       have hdm := dig_mem (n := (L.length : Int)) (i := (k : Int)) (ar := af) (by omega) (List.getElem_mem hjd)
       obtain ⟨dn, hdn⟩ : ∃ dn : Nat, (digL (L.length : Int) k af)[j] = (dn : Int) := ⟨((digL (L.length : Int) k af)[j]).toNat, by omega⟩
       have hdl : dn < L.length := by omega
       have hDC0 := (HDC.out j hjd).2
       rw [hdn] at hDC0
       have e0 := (cellB hb4 hdb).trans hDC0
       obtain ⟨hc0, hc1⟩ := HC.out dn hdl
       have hlw4 : lb < w3.heap.size := by have := hB3.size; omega
       have e1 := (cellB (bthen hB3 hb4) hlw).trans hc0
       have e2 := (cellB (bthen hB3 hb4) hlw).trans hc1
       have hrd := (H.out.rd _ (List.getElem_mem hdl)).below hB3
       obtain ⟨ua, uc, hu⟩ := rd_slice hrd
       have HPN : Hid (∀ i (h : i < (VS ++ [(ar, (L[dn]).1)]).length) (h' : i < (picks (L.map (·.2)) af k).length), ((VS ++ [(ar, (L[dn]).1)])[i]).1 = ar ∧ intsT.Rd w3 [((VS ++ [(ar, (L[dn]).1)])[i]).2] (picks (L.map (·.2)) af k)[i]) := fun i hi hi' => by
        by_cases e : i < VS.length
        ·rw [List.getElem_append_left e]
         exact HPK.out i e hi'
        ·have hij : i = j := by have := HVL.out; simp at hi; omega
         subst hij
         have hjm : i < (digL ((L.map (·.2)).length : Int) k af).length := by rw [digL_len]; exact hjl
         have hdl' : dn < (L.map (·.2)).length := by rw [HRL.out]; exact hdl
         have hg := picks_get (ts := L.map (·.2)) (ar := af) (i := (k : Int)) (j := i) (dn := dn) hjm (by rw [← hdn]; simp only [HRL.out]) hdl' hi'
         rw [hg, List.getElem_map]
         have hv := HVL.out
         have e3 : (VS ++ [(ar, (L[dn]).1)])[i]'hi = (ar, (L[dn]).1) := by
          rw [List.getElem_append_right (by omega)]
          simp
         rw [e3]
         exact ⟨rfl, hrd⟩
       have hvj : VS.length ≤ 1000000000 := by rw [HVL.out]; omega
       rw [hu] at e2 HPN
       clear hdm hdn hDC0 hc0 hc1 hrd hu
       go_wp2_with (refine wpList_push (E := pvT) _ rfl _ _ 24 39 rfl elOpS rfl (HB.out.below bA (Nat.le_refl _)) rfl news2 (fr_pv HI.out rfl) hvj (by decide) hz4 (by simp) ?_; intro v5 w5 hB5 hg5 hown5)
       have hb5 : Below w3.heap.size w3 w5 := (hb4.alloc hb4.size _).grown hg5 (by simp; omega) (fun q hq => HB.out.own hq)
       have HB5 := Lib.hid hB5
       clear hB5 hg5 hown5
       refine ⟨⟨j + 1, _, by omega, by go_num, by rw [List.length_append, HVL.out]; rfl, HPN.out, HB5.out, hb5⟩, by simp [intOf]; omega⟩
      ·obtain rfl : j = af := by omega
       have hfv := HB.out.fr (by rw [HVL.out]; unfold capMax; omega)
       have HLR : Hid (opsT.Rd wz [_] ((picks (L.map (·.2)) j k).map fun t => (ar, t))) := ops_of_vals hfv.rd (by rw [HVL.out, List.length_map, picks_len]) (fun i h h' => by
        have h2 : i < (picks (L.map (·.2)) j k).length := by rw [List.length_map] at h'; exact h'
        obtain ⟨g1, g2⟩ := HPK.out i h h2
        rw [List.getElem_map]
        exact ⟨g1, by rw [g1]; exact HI.out, g2.below hb4⟩)
       obtain ⟨la, lnn, lc, hq⟩ := ex_slice hfv
       subst hq
       have hB4 := bthen hB3 hb4
       have HS4 := Lib.hid (HS3.out.below hb4)
       have hpm : ∀ l ∈ picks (L.map (·.2)) j k, tupP s N l ∧ Clo s ops N T l := fun l hl => by
        obtain ⟨z, hz, rfl⟩ := List.mem_map.1 hl
        have hz2 := dig_mem (by rw [HRL.out]; omega) hz
        have hzl : z.toNat < (L.map (·.2)).length := by omega
        rw [List.getD_eq_getElem?_getD, List.getElem?_eq_getElem hzl]
        have hm : (L.map (·.2))[z.toNat] ∈ L.map (·.2) := List.getElem_mem hzl
        obtain ⟨p, hp, e⟩ := List.mem_map.1 hm
        have hc := HCL.out p hp
        rw [e] at hc
        exact ⟨clo_in HO.out HT.out hc, hc⟩
       have HTO : Hid (tupsOk s f.1 N (picks (L.map (·.2)) j k)) := ⟨by rw [picks_len, HAF.out], fun l hl => (hpm l hl).1⟩
       have HCN : Hid (Clo s ops N T (madeL s f.2 (picks (L.map (·.2)) j k) N)) := .step HMEM.out (by rw [picks_len, HAF.out]) (fun l hl => (hpm l hl).2)
       have HMK : Hid (makes s f ((N : Int), L.map (·.2)) k = madeL s f.2 (picks (L.map (·.2)) j k) N) := by
        unfold Hid makes
        rw [HAFN.out]
        simp only [Int.toNat_natCast]
       clear hfv hpm HB HPK HVL HDC HS3
       go_wp2_with fail
       refine (l02Compose_any wz (HPT.out wz hB4) HLR.out HFO.out HTO.out (by omega)).mono ?_
       rintro e w6 ⟨cs6, rfl, hf6, hb6⟩
       obtain ⟨a6, c6, rfl⟩ := fr_pair hf6
       generalize madeL s f.2 (picks (L.map (·.2)) j k) N = mt at hf6 HCN HMK ⊢
       have HF6 : Hid (intsT.Fr wz.heap.size w6 [.slice a6 mt.length c6] mt) := by
        obtain ⟨fp, ⟨cs', he, -, h3⟩, q1, q2, q3⟩ := hf6
        simp only [List.cons.injEq, true_and] at he
        rw [← he] at h3
        exact ⟨fp, h3, q1, q2, q3⟩
       have hB6 := bthen hB4 hb6
       have HS6 := Lib.hid (HS4.out.below hb6)
       have hmtl : mt.length = N := (clo_in HO.out HT.out HCN.out).1
       have HMT := Lib.hid hmtl
       have HPUT : Hid (Calls Tryd.prog 14 #[_, .agg #[.int .i64 ar, .slice a6 mt.length c6]] w6 (PutR base ar w6 _ L2 (.slice a6 mt.length c6, mt))) := l02Put_any w6 HS6.out.op HS6.out.pw (by omega) (x := (.slice a6 mt.length c6, mt)) (n := N) (fun p hp => (clo_in HO.out HT.out (HS6.out.cl p hp)).1) hmtl (srf_cons (B := wz.heap.size) HS6.out.op.tab (fun p hp q hq => (HS4.out.op.tab.2 p hp q hq).2.1) HF6.out (by have := hB4.size; omega)) HF6.out.rd (by have := hB6.size; omega)
       clear hf6 HS4 HLR hmtl
       dsimp only
       go_wp2_with fail
       refine HPUT.out.mono ?_
       rintro e w7 ⟨hb7, hres⟩
       have hB7 := bthen hB6 hb7
       rcases hres with ⟨hin, rfl⟩ | ⟨hnin, v7, kk, rfl, hop7, hpw7⟩
       ·have HS7 := Lib.hid (HS6.out.below hb7)
        have HD7 : Hid (∀ k' : Nat, k' < k + 1 → makes s f ((N : Int), L.map (·.2)) k' ∈ L2.map (·.2)) := fun k' hk' => by
         by_cases e : k' = k
         ·subst e; rw [HMK.out]; exact hin
         ·exact HD2.out k' (by omega)
        have hd : decide ((64 : Int) < (L2.length : Int)) = false := by simp; omega
        have hd' : decide (64 < L2.length) = false := by simp; omega
        clear HS6 HPUT hin
        dsimp only
        cases b2
        ·go_wp2_with fail
         go_roundw
         case rel => exact ⟨k + 1, false, L2, by omega, by go_num, rfl, HS7.out, hL2, HSUB2.out, HD7.out, hB7⟩
         case measure => simp [intOf]; omega
        ·go_wp2_with fail
         go_roundw
         case rel => exact ⟨k + 1, true, L2, by omega, by go_num, rfl, HS7.out, hL2, HSUB2.out, HD7.out, hB7⟩
         case measure => simp [intOf]; omega
       ·obtain ⟨g7, q7, rfl, -⟩ := hop7.row
        have HS7 := Lib.hid (HS6.out.put hop7 hpw7 HCN.out)
        have HSU : Hid (∀ l ∈ L2.map (·.2), l ∈ (putL L2 kk (.slice a6 mt.length c6, mt)).map (·.2)) := fun l hl => by
         obtain ⟨p, hp, rfl⟩ := List.mem_map.1 hl
         exact List.mem_map.2 ⟨p, putL_perm.mem_iff.2 (List.mem_cons_of_mem _ hp), rfl⟩
        have HD7 : Hid (∀ k' : Nat, k' < k + 1 → makes s f ((N : Int), L.map (·.2)) k' ∈ (putL L2 kk (.slice a6 mt.length c6, mt)).map (·.2)) := fun k' hk' => by
         by_cases e : k' = k
         ·subst e; rw [HMK.out]; exact List.mem_map.2 ⟨_, putL_perm.mem_iff.2 (List.mem_cons_self ..), rfl⟩
         ·exact HSU.out _ (HD2.out k' (by omega))
        have HSU1 : Hid (∀ l ∈ L1.map (·.2), l ∈ (putL L2 kk (.slice a6 mt.length c6, mt)).map (·.2)) := fun l hl => HSU.out l (HSUB2.out l hl)
        generalize putL L2 kk (.slice a6 mt.length c6, mt) = L3 at HS7 HSU HD7 HSU1 ⊢
        clear HS6 HPUT hnin hop7 hpw7
        dsimp only
        by_cases h64 : L3.length ≤ 64
        ·have hd : decide ((64 : Int) < (L3.length : Int)) = false := by simp; omega
         have hd' : decide (64 < L3.length) = false := by simp; omega
         cases b2
         ·go_wp2_with fail
          go_roundw
          case rel => exact ⟨k + 1, true, L3, by omega, by go_num, rfl, HS7.out, h64, HSU1.out, HD7.out, hB7⟩
          case measure => simp [intOf]; omega
         ·go_wp2_with fail
          go_roundw
          case rel => exact ⟨k + 1, true, L3, by omega, by go_num, rfl, HS7.out, h64, HSU1.out, HD7.out, hB7⟩
          case measure => simp [intOf]; omega
        ·have hd : decide ((64 : Int) < (L3.length : Int)) = true := by simp; omega
         have hd' : decide (64 < L3.length) = true := by simp; omega
         have HBIG : Hid (cloBig s ops N T) := ⟨L3.map (·.2), pw_nodup HS7.out.pw, fun l hl => by
          obtain ⟨p, hp, rfl⟩ := List.mem_map.1 hl
          exact HS7.out.cl p hp, by rw [List.length_map]; omega⟩
         cases b2
         all_goals
          go_wp2_with fail
          refine bodyPost_ret (v := .tuple #[.slice (some ⟨w7.heap.size, 0, none⟩) 0 0, .bool false, .int .i64 3]) (by simp [results, Tryd.results16, go_sem]) rfl ⟨hB7.alloc hB7.size _, _, false, .inl ⟨rfl, HBIG.out⟩⟩
    ·obtain rfl : k = Mf := by omega
     go_wp2_with fail
     go_roundw
     case rel => exact ⟨ii + 1, b2, L2, by omega, by go_num, rfl, HS2.out, hL2, HDN.out L2 HSUB2.out (fun k' hk' => HD2.out k' (by rw [HRL.out, HMF.out] at hk'; omega)), hb2⟩
     case measure => simp [intOf]; omega
  ·obtain rfl : ii = ops.length := by omega
   go_wp2_with fail
   refine bodyPost_ret (v := .tuple #[_, .bool b1, .int .i64 0]) (by simp [results, Tryd.results16, go_sem]) rfl ⟨hb1, _, b1, .inr ⟨rfl, L1, HS1.out, hL1, fun f hf k hk => ?_⟩⟩
   obtain ⟨j, hj, rfl⟩ := List.mem_iff_getElem.1 hf
   exact HD1.out j hj hj k hk
end Go.Proofs.YtggelmbnliajeaaDoor
namespace Go.Proofs.YtggelmbnliajeaaDoor
open Go.RowKit Go.Sort
theorem opl_nil {base : Nat} {ar : Int} {w : World} {e : TypeId} (hb : base ≤ w.heap.size) : OpL base ar (w.alloc (.cells #[] e)) (.slice (some ⟨w.heap.size, 0, none⟩) 0 0) [] where
 row := ⟨w.heap.size, 0, rfl, Nat.le_refl _, hb, (by simp), fun i => World.ownsRow.frozenAt (World.ownsRow_lit (base := w.heap.size) (e := e) (size := 2) w #[] 0 (Nat.le_refl _) (by decide) (by rfl)) i, fun p hp => (by cases hp), fun i hi => absurd hi (Nat.not_lt_zero _)⟩
 tab := ⟨List.nodup_nil, fun p hp => by cases hp⟩
 rd := fun p hp => by cases hp
/-- all is closed when a round adds nothing -/
theorem rnd_end {s : Int} {ops : List (Int × List Int)} {N : Nat} {T : List (List Int)} {L : List PV} (ho : ∀ f ∈ ops, opOk s f) (h1 : ∀ l ∈ T, l ∈ L.map (·.2)) (h2 : ∀ p ∈ L, Clo s ops N T p.2) (hP : (L.map (·.2)).Pairwise ltL)
  (h3 : ∀ f ∈ ops, ∀ k : Nat, (k : Int) < ((L.map (·.2)).length : Int) ^ f.1.toNat → makes s f ((N : Int), L.map (·.2)) k ∈ L.map (·.2)) : cloIs s ops N T (L.map (·.2)) :=
 ⟨hP, fun l => clo_closed (R := L.map (·.2)) ho h1 (fun l hl => by
  obtain ⟨p, hp, rfl⟩ := List.mem_map.1 hl
  exact h2 p hp) (fun f hf k hk => h3 f hf k hk)⟩
set_option maxHeartbeats 6400000 in
set_option maxRecDepth 100000 in
theorem specCloneUpTo_any (w : World) {vo : Value} {ops : List (Int × List Int)} (hops : opsT.Rd w [vo] ops) {s ar : Int} :
  Calls Tryd.prog 5 #[.int .i64 s, .int .i64 ar, vo] w (RetSC opsT w (cuV s ar ops) (cuC s ar ops)) := by
 have H := Lib.hid hops
 obtain ⟨oa, oc, rfl⟩ := rd_slice hops
 clear hops
 go_enter Tryd.func5, Tryd.ntmps5
 go_wp2_with fail
 refine (l02All_any w H.out s).mono ?_
 rintro e w1 ⟨rfl, hq1⟩
 have hb1 : Below w.heap.size w w1 := hq1.below
 clear hq1
 cases h1 : opsB s ops
 ·have HC := Lib.hid (cuC_1 (ar := ar) h1)
  have HV : Hid (cuV s ar ops = []) := cuV_no (by rw [HC.out]; decide)
  go_wp2_with fail
  go_ret2
  exact ⟨_, by rw [HC.out]; rfl, by rw [HV.out]; exact fr_nil, hb1.alloc hb1.size _⟩
 have HOK := Lib.hid (opsB_yes h1)
 by_cases h2 : 64 < ops.length
 ·have hd : decide ((64 : Int) < (ops.length : Int)) = true := by simp; omega
  have hd' : decide (64 < ops.length) = true := by simp; omega
  have HC := Lib.hid (cuC_2 (ar := ar) h1 hd')
  have HV : Hid (cuV s ar ops = []) := cuV_no (by rw [HC.out]; decide)
  clear h2
  go_wp2_with fail
  go_ret2
  exact ⟨_, by rw [HC.out]; rfl, by rw [HV.out]; exact fr_nil, hb1.alloc hb1.size _⟩
 have hd : decide ((64 : Int) < (ops.length : Int)) = false := by simp; omega
 have hd' : decide (64 < ops.length) = false := by simp; omega
 have HD := Lib.hid hd'
 have H1 := Lib.hid h1
 have hs4 : 1 ≤ s ∧ s ≤ 4 := HOK.out.1
 clear h2 h1
 go_wp2_with fail
 refine (l02Arity_any ar w1).mono ?_
 rintro e _ ⟨rfl, rfl⟩
 cases ha : inB ar 1 3
 ·have HC := Lib.hid (cuC_3 (ar := ar) H1.out HD.out ha)
  have HV : Hid (cuV s ar ops = []) := cuV_no (by rw [HC.out]; decide)
  go_wp2_with fail
  go_ret2
  exact ⟨_, by rw [HC.out]; rfl, by rw [HV.out]; exact fr_nil, hb1.alloc hb1.size _⟩
 have HA := Lib.hid ha
 obtain ⟨an, han⟩ : ∃ an : Nat, ar = (an : Int) := ⟨ar.toNat, by have := inB_true.1 ha; omega⟩
 subst han
 have han4 : 1 ≤ an ∧ an ≤ 3 := by have := inB_true.1 ha; omega
 obtain ⟨N, hN⟩ : ∃ N : Nat, s ^ an = (N : Int) := ⟨(s ^ an).toNat, by have := pow_nn (s := s) (by omega) an; omega⟩
 have hN64 : N ≤ 64 := by
  have h1 := pow_mono' (s := s) (c := 4) (by omega) (by omega) an
  rcases (show an = 1 ∨ an = 2 ∨ an = 3 by omega) with e | e | e <;> subst e <;> simp at h1 <;> omega
 have HN := Lib.hid hN
 have HNT : Hid (cuT s an = projs s an N ∧ (s ^ an).toNat = N) := by
  unfold Hid cuT
  rw [hN, Int.toNat_natCast]
  exact ⟨rfl, rfl⟩
 clear hN ha
 go_wp2_with fail
 generalize hW : World.alloc w1 _ = W
 have hbW : Below w1.heap.size w1 W := hW ▸ bA
 have HL0 : Hid (OpL w1.heap.size (an : Int) W (.slice (some ⟨w1.heap.size, 0, none⟩) 0 0) []) := by
  unfold Hid
  rw [← hW]
  exact opl_nil (Nat.le_refl _)
 clear hW
 go_loopw [9, 8] (fun i q wr => ∃ (p : Nat) (L : List PV), p ≤ an ∧ i = .int .i64 p ∧ OpL w1.heap.size (an : Int) wr q L ∧ (L.map (·.2)).Pairwise ltL ∧ L.length ≤ p ∧ (∀ l, l ∈ L.map (·.2) ↔ l ∈ (projs s an N).take p) ∧ Below w1.heap.size w1 wr) (fun i _ _ => an - (intOf i).toNat)
 case atStart => exact ⟨0, [], Nat.zero_le _, rfl, HL0.out, List.Pairwise.nil, Nat.le_refl _, fun l => by simp, hbW⟩
 case round =>
  obtain ⟨p, L, hp, rfl, hO, hPw, hLl, hme, hbel⟩ := hrel
  obtain ⟨wv, rfl⟩ : ∃ wv : World, wv = wr := ⟨_, rfl⟩
  obtain ⟨g1, q1, rfl, -⟩ := hO.row
  have HO1 := Lib.hid hO
  have HPW := Lib.hid hPw
  have HME := Lib.hid hme
  have hze := hbel.size
  clear hO hPw hme HL0
  by_cases hpl : p < an
  ·have HTK : Hid ((projs s an N).take p ++ [projT s an N p] = (projs s an N).take (p + 1)) := by
    have h1 : p < (projs s an N).length := by rw [projs_len]; exact hpl
    have := take_snoc h1
    rw [show (projs s an N)[p] = projT s an N p by simp [projs]] at this
    exact this
   have HIN : Hid (∀ l ∈ L, l.2.length = N) := fun l hl => by
    have h1 := (HME.out l.2).1 (List.mem_map.2 ⟨l, hl, rfl⟩)
    exact (projs_in (ar := an) (N := N) (by omega) _ (List.mem_of_mem_take h1)).1
   have hptl : (projT s an N p).length = N := tabOf_len
   go_wp2_with fail
   refine (l02Projection_any wv hs4 han4 HN.out hpl).mono ?_
   rintro e w3 ⟨cs3, rfl, hf3, hb3⟩
   obtain ⟨a3, c3, rfl⟩ := fr_pair hf3
   have HF3 : Hid (intsT.Fr wv.heap.size w3 [.slice a3 (projT s an N p).length c3] (projT s an N p)) := by
    obtain ⟨fp, ⟨cs', he, -, h3⟩, q1, q2, q3⟩ := hf3
    simp only [List.cons.injEq, true_and] at he
    rw [← he] at h3
    exact ⟨fp, h3, q1, q2, q3⟩
   have hz3 := hb3.size
   have hB3 := bthen hbel hb3
   clear hf3
   generalize projT s an N p = tp at HF3 HTK hptl ⊢
   have HO3 := Lib.hid (HO1.out.below hb3)
   have HPUT : Hid (Calls Tryd.prog 14 #[_, .agg #[.int .i64 (an : Int), .slice a3 tp.length c3]] w3 (PutR w1.heap.size (an : Int) w3 _ L (.slice a3 tp.length c3, tp))) := l02Put_any w3 HO3.out HPW.out (by omega) (x := (.slice a3 tp.length c3, tp)) (n := N) HIN.out hptl (srf_cons (B := wv.heap.size) HO3.out.tab (fun p hp q hq => (HO1.out.tab.2 p hp q hq).2.1) HF3.out hze) HF3.out.rd (by omega)
   clear hptl
   dsimp only
   go_wp2_with fail
   refine HPUT.out.mono ?_
   rintro e w7 ⟨hb7, hres⟩
   have hB7 := bthen hB3 hb7
   rcases hres with ⟨hin, rfl⟩ | ⟨hnin, v7, kk, rfl, hop7, hpw7⟩
   ·have HS7 := Lib.hid (HO3.out.below hb7)
    have HM7 : Hid (∀ l, l ∈ L.map (·.2) ↔ l ∈ (projs s an N).take (p + 1)) := fun l => by
     rw [← HTK.out, List.mem_append, List.mem_singleton, ← HME.out l]
     exact ⟨.inl, fun h => h.elim id (fun e => by rw [e]; exact hin)⟩
    dsimp only
    go_wp2_with fail
    go_roundw
    case rel => exact ⟨p + 1, L, by omega, by go_num, HS7.out, HPW.out, by omega, HM7.out, hB7⟩
    case measure => simp [intOf]; omega
   ·have HS7 := Lib.hid hop7
    have HP7 := Lib.hid hpw7
    have HM7 : Hid (∀ l, l ∈ (putL L kk (.slice a3 tp.length c3, tp)).map (·.2) ↔ l ∈ (projs s an N).take (p + 1)) := fun l => by
     rw [← HTK.out, List.mem_append, List.mem_singleton, ← HME.out l, (putL_perm.map (·.2)).mem_iff, List.map_cons, List.mem_cons]
     exact Or.comm
    have hl7 : (putL L kk (.slice a3 tp.length c3, tp)).length ≤ p + 1 := by rw [putL_len]; omega
    dsimp only
    go_wp2_with fail
    go_roundw
    case rel => exact ⟨p + 1, _, by omega, by go_num, HS7.out, HP7.out, hl7, HM7.out, hB7⟩
    case measure => simp [intOf]; omega
  ·obtain rfl : p = an := by omega
   have hTK : (projs s p N).take p = projs s p N := List.take_of_length_le (by rw [projs_len]; exact Nat.le_refl _)
   have HME2 : Hid (∀ l, l ∈ L.map (·.2) ↔ l ∈ projs s p N) := by unfold Hid; intro l; rw [HME.out l, hTK]
   have hLne : 1 ≤ L.length := by
    have h1 : projT s p N 0 ∈ L.map (·.2) := (HME2.out _).2 (List.mem_map.2 ⟨0, by simp; omega, rfl⟩)
    have h2 := List.length_pos_of_mem h1
    rw [List.length_map] at h2
    omega
   have HCL : Hid (∀ x ∈ L, Clo s ops N (projs s p N) x.2) := fun x hx => .base ((HME2.out _).1 (List.mem_map.2 ⟨x, hx, rfl⟩))
   have HSB : Hid (∀ l ∈ projs s p N, l ∈ L.map (·.2)) := fun l hl => (HME2.out l).2 hl
   have HIU : Hid (I64 (p : Int)) := I64.small (by omega) (by omega)
   clear hTK
   go_wp2_with fail
   go_loopg [8] (64 - L.length) (fun g q wr => ∃ L2 : List PV, L2.length + g = 64 ∧ OpL w1.heap.size (p : Int) wr q L2 ∧ (L2.map (·.2)).Pairwise ltL ∧ 1 ≤ L2.length ∧ (∀ x ∈ L2, Clo s ops N (projs s p N) x.2) ∧ (∀ l ∈ projs s p N, l ∈ L2.map (·.2)) ∧ Below w1.heap.size w1 wr)
   case atStart => exact ⟨L, by omega, HO1.out, HPW.out, hLne, HCL.out, HSB.out, hbel⟩
   case round =>
    obtain ⟨L2, hg2, hO2, hPw2, hne2, hcl2, hsb2, hbe2⟩ := hrel
    obtain ⟨wp, rfl⟩ : ∃ wp : World, wp = wr := ⟨_, rfl⟩
    have hze2 := hbe2.size
    obtain ⟨g2, q2, rfl, -⟩ := hO2.row
    have HRD : Hid (Calls Tryd.prog 16 #[.int .i64 s, _, _] wp (RndR w1.heap.size (p : Int) s ops N (projs s p N) L2 wp)) := l02Round_any wp hO2 hPw2 ⟨hne2, by omega⟩ (H.out.below (bthen hb1 hbe2)) HOK.out.2 HOK.out.1 HIU.out hN64 (projs_in (by omega)) hcl2 hze2
    have HSB2 := Lib.hid hsb2
    clear hO2 hPw2 hcl2 hsb2
    go_wp2_with fail
    refine HRD.out.mono ?_
    rintro e w5 ⟨hb5, v5, b5, hres⟩
    have hB5 := bthen hbe2 hb5
    have hz5 := hB5.size
    rcases hres with ⟨rfl, hbig⟩ | ⟨rfl, L3, hS3, h64, hall⟩
    ·have HC : Hid (cuC s (p : Int) ops = 3) := cuC_4 H1.out HD.out HA.out (by rw [Int.toNat_natCast, HNT.out.1, HNT.out.2]; exact hbig)
     have HV : Hid (cuV s (p : Int) ops = []) := cuV_no (by rw [HC.out]; decide)
     clear hbig HRD
     dsimp only
     go_wp2_with fail
     go_ret2
     exact ⟨_, by rw [HC.out]; rfl, by rw [HV.out]; exact fr_nil, (bthen hb1 hB5).alloc (bthen hb1 hB5).size _⟩
    ·have HS3 := Lib.hid hS3
     have HALL := Lib.hid hall
     obtain ⟨g5, q5, rfl, -⟩ := hS3.op.row
     clear hS3 hall HRD
     dsimp only
     cases b5
     ·have HNO : Hid (L3.map (·.2) = L2.map (·.2)) := HS3.out.no rfl
      have HIS : Hid (cloIs s ops N (projs s p N) (L3.map (·.2))) := rnd_end HOK.out.2 (fun l hl => by rw [HNO.out]; exact HSB2.out l hl) HS3.out.cl HS3.out.pw (fun f hf k hk => by
       have := HALL.out f hf k (by rw [← HNO.out]; exact hk)
       rw [← HNO.out] at this
       exact this)
      have HNB : Hid (¬ cloBig s ops (s ^ (p : Int).toNat).toNat (cuT s (p : Int).toNat)) := by
       unfold Hid
       rw [Int.toNat_natCast, HNT.out.1, HNT.out.2]
       exact big_no HIS.out.2 (by rw [List.length_map]; exact h64)
      have HC : Hid (cuC s (p : Int) ops = 0) := cuC_5 H1.out HD.out HA.out HNB.out
      have HV : Hid (cuV s (p : Int) ops = (L3.map (·.2)).map fun t => ((p : Int), t)) := cuV_ok HC.out (by rw [Int.toNat_natCast, HNT.out.1, HNT.out.2]; exact HIS.out)
      have hfq := (HS3.out.op.fr HIU.out (by unfold capMax; omega)).mono (show w.heap.size ≤ w1.heap.size from hb1.size)
      rw [show (L3.map fun x : PV => ((p : Int), x.2)) = cuV s (p : Int) ops by rw [HV.out, List.map_map]; rfl] at hfq
      have HFQ := Lib.hid hfq
      clear hfq
      go_wp2_with fail
      go_ret2
      exact ⟨_, by rw [HC.out]; rfl, HFQ.out, bthen hb1 hB5⟩
     ·have hgr : L2.length < L3.length := HS3.out.yes rfl
      have HSB3 : Hid (∀ l ∈ projs s p N, l ∈ L3.map (·.2)) := fun l hl => HS3.out.sub l (HSB2.out l hl)
      go_wp2_with fail
      go_roundg (64 - L3.length)
      case rel => exact ⟨L3, by omega, HS3.out.op, HS3.out.pw, by omega, HS3.out.cl, HSB3.out, hB5⟩
      case measure => omega
end Go.Proofs.YtggelmbnliajeaaDoor
namespace Go.Proofs.YtggelmbnliajeaaDoor
open Go.RowKit Go.Maps Go.ChangeMaps Go.MapKept
theorem plainElem_bool_inv {H : Type} {P : Program} {e : TypeId} (he : P.underlying e = some .bool) {v : Value} {z : DataW H × List MemPlace} (h : plainElem P e v = some z) : ∃ a, v = .bool a ∧ z = (.lit (.bool a), []) := by
 unfold plainElem at h
 rw [he] at h
 cases v <;> simp at h
 exact ⟨_, rfl, h.symm⟩
/-- block b is a set of texts -/
def SeenM (P : Program) (k e : TypeId) (w : World) (b n : Nat) (Ks : List (List UInt8)) : Prop := ∃ D : DataW Unit, w.ownsMap P k (plainElem P e) b n D ∧ ∀ s : List UInt8, D.atKey (.string s) (.lit (.bool false)) = .lit (.bool (decide (s ∈ Ks)))
section
variable {P : Program} {k e : TypeId} {w w' : World} {b n : Nat} {Ks : List (List UInt8)}
theorem SeenM.made (w : World) : SeenM P k e (w.alloc (.map #[] 0)) w.heap.size 0 [] := ⟨_, World.ownsMap_made w P k _, fun s => by simp [DataW.atKey]⟩
theorem SeenM.lt (h : SeenM P k e w b n Ks) : b < w.heap.size := let ⟨_, h, _⟩ := h; h.lt
theorem SeenM.block (h : SeenM P k e w b n Ks) (hb : w'.heap[b]? = w.heap[b]?) : SeenM P k e w' b n Ks := by
 obtain ⟨D, ⟨es, clock, h1, h2, h3, h4⟩, h5⟩ := h
 exact ⟨D, ⟨es, clock, hb.trans h1, h2, h3, h4⟩, h5⟩
theorem SeenM.mono (h : SeenM P k e w b n Ks) {n' : Nat} (hn : n ≤ n') : SeenM P k e w b n' Ks := let ⟨D, h1, h2⟩ := h; ⟨D, h1.mono hn, h2⟩
theorem SeenM.look (h : SeenM P k e w b n Ks) (hk : P.underlying k = some .string) {t : TypeId} (ht : P.underlying t = some (.map k e)) (he : P.underlying e = some .bool) (hz : (zeroValue e).run P w = .ok (.bool false) w) {s : List UInt8} (hs : s.length ≤ 1000000) :
  (Instr.lookup t (.map (some b)) (.string ⟨s.toArray⟩) false).run P w = .ok (.bool (decide (s ∈ Ks))) w := by
 obtain ⟨D, h1, h2⟩ := h
 have hkey := WideMaps.keyOf_string_mk (P := P) (k := k) hk (s := ⟨s.toArray⟩) (by show s.toArray.size ≤ _; unfold maxLen; simp; omega)
 obtain ⟨v, ps, hrun, hv⟩ := h1.lookup (string_keyed hk) ht hz (plainElem_bool he false) hkey
 obtain ⟨c, rfl, hc⟩ := plainElem_bool_inv he hv
 simp only [Prod.mk.injEq] at hc
 have h3 := h2 s
 rw [show (.string s : Lit) = .string (⟨s.toArray⟩ : ByteArray).data.toList from rfl, hc.1] at h3
 simp only [DataW.lit.injEq, Lit.bool.injEq] at h3
 rw [hrun, h3]
theorem SeenM.put (h : SeenM P k e w b n Ks) (hk : P.underlying k = some .string) {t : TypeId} (ht : P.underlying t = some (.map k e)) (he : P.underlying e = some .bool) {s : List UInt8} (hs : s.length ≤ 1000000) (hn : n ≤ 1000000000) :
  ∃ w', (Instr.mapUpdate t (.map (some b)) (.string ⟨s.toArray⟩) (.bool true)).run P w = .ok () w' ∧ SeenM P k e w' b (n + 1) (s :: Ks) ∧ w.grownBy w' (some b) ∧ w'.heap.size = w.heap.size := by
 obtain ⟨D, h1, h2⟩ := h
 have hkey := WideMaps.keyOf_string_mk (P := P) (k := k) hk (s := ⟨s.toArray⟩) (by show s.toArray.size ≤ _; unfold maxLen; simp; omega)
 obtain ⟨w', hrun, h3, h4⟩ := h1.store (string_keyed hk) ht (by unfold maxLen; omega) hkey (plainElem_bool he true)
 refine ⟨w', hrun, ⟨_, h3, fun u => ?_⟩, h4.grown, ?_⟩
 ·by_cases e1 : u = s
  ·subst e1
   rw [show (.string u : Lit) = .string (⟨u.toArray⟩ : ByteArray).data.toList from rfl, atKey_put_same h1.isMap ((string_keyed hk).key hkey)]
   simp
  ·rw [atKey_put_other (fun e2 => e1 (by simpa using e2)), h2 u]
   simp [e1]
 ·obtain ⟨_, _, _, _, _, rfl⟩ := h4
  simp [setBlock]
end
end Go.Proofs.YtggelmbnliajeaaDoor
namespace Go.Proofs.YtggelmbnliajeaaDoor
open Go.RowKit Go.Sort
/-- the indices with one more, at a place -/
def insAt (rest : List Int) (p : Nat) (x : Int) : List Int := rest.take p ++ x :: rest.drop p
theorem insAt_len {rest : List Int} {p : Nat} {x : Int} : (insAt rest p x).length = rest.length + 1 := by
 unfold insAt
 simp only [List.length_append, List.length_cons, List.length_take, List.length_drop]
 omega
theorem insAt_mem {rest : List Int} {p : Nat} {x a : Int} (h : a ∈ insAt rest p x) : a = x ∨ a ∈ rest := by
 unfold insAt at h
 rcases List.mem_append.1 h with h | h
 ·exact .inr (List.mem_of_mem_take h)
 ·rcases List.mem_cons.1 h with h | h
  ·exact .inl h
  ·exact .inr (List.mem_of_mem_drop h)
/-- the lists at indices -/
def pickL (L : List (List Int)) (ks : List Int) : List (List Int) := ks.map fun k => L.getD k.toNat []
theorem pickL_len {L : List (List Int)} {ks : List Int} : (pickL L ks).length = ks.length := by simp [pickL]
theorem pickL_in {L : List (List Int)} {ks : List Int} (h : ∀ k ∈ ks, 0 ≤ k ∧ k < (L.length : Int)) : ∀ l ∈ pickL L ks, l ∈ L := fun l hl => by
 obtain ⟨k, hk, rfl⟩ := List.mem_map.1 hl
 have := h k hk
 have hkl : k.toNat < L.length := by omega
 rw [List.getD_eq_getElem?_getD, List.getElem?_eq_getElem hkl]
 exact List.getElem_mem hkl
/-- a list of lists of which one is the last: what indices it has, parted at the first place of the last one -/
theorem pick_ex {L : List (List Int)} (h0 : 0 < L.length) : ∀ {ts : List (List Int)}, (∀ l ∈ ts, l ∈ L) → L[L.length - 1]'(by omega) ∈ ts →
  ∃ (rest : List Int) (p : Nat), p ≤ rest.length ∧ rest.length + 1 = ts.length ∧ (∀ k ∈ rest, 0 ≤ k ∧ k ≤ (L.length : Int) - 1) ∧ ((L.length : Int) - 1) ∉ rest.take p ∧ pickL L (insAt rest p ((L.length : Int) - 1)) = ts
 | [], _, hm => by cases hm
 | t :: ts, hall, hm => by
  have hone : ∀ {us : List (List Int)}, (∀ l ∈ us, l ∈ L) → ∃ ks : List Int, ks.length = us.length ∧ (∀ k ∈ ks, 0 ≤ k ∧ k ≤ (L.length : Int) - 1) ∧ pickL L ks = us := fun {us} hus => by
   induction us with
   | nil => exact ⟨[], rfl, fun k hk => (by cases hk), rfl⟩
   | cons u us ih =>
    obtain ⟨ks, h1, h2, h3⟩ := ih (fun l hl => hus l (List.mem_cons_of_mem _ hl))
    obtain ⟨i, hi, e⟩ := List.mem_iff_getElem.1 (hus u (List.mem_cons_self ..))
    refine ⟨(i : Int) :: ks, by simp [h1], fun k hk => ?_, ?_⟩
    ·rcases List.mem_cons.1 hk with rfl | hk
     ·omega
     ·exact h2 k hk
    ·show L.getD ((i : Int)).toNat [] :: pickL L ks = u :: us
     rw [h3, Int.toNat_natCast, List.getD_eq_getElem?_getD, List.getElem?_eq_getElem hi, ← e]
     rfl
  by_cases e : t = L[L.length - 1]'(by omega)
  ·obtain ⟨ks, h1, h2, h3⟩ := hone (us := ts) (fun l hl => hall l (List.mem_cons_of_mem _ hl))
   refine ⟨ks, 0, Nat.zero_le _, by simp [h1], h2, by simp, ?_⟩
   show L.getD (((L.length : Int) - 1)).toNat [] :: pickL L (ks.drop 0) = t :: ts
   rw [List.drop_zero, h3, e, show (((L.length : Int) - 1)).toNat = L.length - 1 by omega, List.getD_eq_getElem?_getD, List.getElem?_eq_getElem (by omega)]
   rfl
  ·have hm' : L[L.length - 1]'(by omega) ∈ ts := by
    rcases List.mem_cons.1 hm with h | h
    ·exact absurd h.symm e
    ·exact h
   obtain ⟨rest, p, g1, g2, g3, g4, g5⟩ := pick_ex h0 (fun l hl => hall l (List.mem_cons_of_mem _ hl)) hm'
   obtain ⟨i, hi, ei⟩ := List.mem_iff_getElem.1 (hall t (List.mem_cons_self ..))
   have hne : (i : Int) ≠ (L.length : Int) - 1 := fun h => e (by
    have : i = L.length - 1 := by omega
    subst this
    exact ei.symm)
   refine ⟨(i : Int) :: rest, p + 1, by simp; omega, by simp; omega, fun k hk => ?_, fun hk => ?_, ?_⟩
   ·rcases List.mem_cons.1 hk with rfl | hk
    ·omega
    ·exact g3 k hk
   ·rw [List.take_succ_cons] at hk
    rcases List.mem_cons.1 hk with h | h
    ·exact hne h.symm
    ·exact g4 h
   ·show pickL L ((i : Int) :: insAt rest p ((L.length : Int) - 1)) = t :: ts
    show L.getD ((i : Int)).toNat [] :: pickL L (insAt rest p ((L.length : Int) - 1)) = t :: ts
    rw [g5, Int.toNat_natCast, List.getD_eq_getElem?_getD, List.getElem?_eq_getElem hi, ← ei]
    rfl
/-- what the operation has put in, as far as place p and index i -/
def CmbTo (s : Int) (f : Int × List Int) (ar : Nat) (L A : List (List Int)) (p i : Nat) : Prop :=
 ∀ (q j : Nat), q < f.1.toNat → (j : Int) < (L.length : Int) ^ (f.1.toNat - 1) → (q < p ∨ (q = p ∧ j < i)) → ((L.length : Int) - 1) ∉ (digL L.length j (f.1.toNat - 1)).take q → madeL s f.2 (pickL L (insAt (digL L.length j (f.1.toNat - 1)) q ((L.length : Int) - 1))) ar ∈ A
theorem cmb_zero {s : Int} {f : Int × List Int} {ar : Nat} {L A : List (List Int)} : CmbTo s f ar L A 0 0 := fun q j _ _ h _ => by omega
theorem cmb_skip {s : Int} {f : Int × List Int} {ar : Nat} {L A : List (List Int)} {p i : Nat} (h : CmbTo s f ar L A p i) (hs : ((L.length : Int) - 1) ∈ (digL L.length i (f.1.toNat - 1)).take p) : CmbTo s f ar L A p (i + 1) := fun q j h1 h2 h3 h4 => by
 rcases h3 with h3 | ⟨rfl, h3⟩
 ·exact h q j h1 h2 (.inl h3) h4
 ·by_cases e : j = i
  ·subst e; exact absurd hs h4
  ·exact h q j h1 h2 (.inr ⟨rfl, by omega⟩) h4
theorem cmb_put {s : Int} {f : Int × List Int} {ar : Nat} {L A A' : List (List Int)} {p i : Nat} (h : CmbTo s f ar L A p i) (hs : ∀ l ∈ A, l ∈ A') (hm : madeL s f.2 (pickL L (insAt (digL L.length i (f.1.toNat - 1)) p ((L.length : Int) - 1))) ar ∈ A') : CmbTo s f ar L A' p (i + 1) := fun q j h1 h2 h3 h4 => by
 rcases h3 with h3 | ⟨rfl, h3⟩
 ·exact hs _ (h q j h1 h2 (.inl h3) h4)
 ·by_cases e : j = i
  ·subst e; exact hm
  ·exact hs _ (h q j h1 h2 (.inr ⟨rfl, by omega⟩) h4)
theorem cmb_next {s : Int} {f : Int × List Int} {ar : Nat} {L A : List (List Int)} {p M : Nat} (h : CmbTo s f ar L A p M) (hM : (L.length : Int) ^ (f.1.toNat - 1) = M) : CmbTo s f ar L A (p + 1) 0 := fun q j h1 h2 h3 h4 => by
 rcases h3 with h3 | ⟨_, h3⟩
 ·refine h q j h1 h2 ?_ h4
  by_cases e : q = p
  ·exact .inr ⟨e, by omega⟩
  ·exact .inl (by omega)
 ·exact absurd h3 (Nat.not_lt_zero _)
/-- all that an operation makes of lists of which one at least is the last is there -/
def CmbP (s : Int) (f : Int × List Int) (ar : Nat) (L A : List (List Int)) : Prop := ∀ h0 : 0 < L.length, ∀ ts : List (List Int), (ts.length : Int) = f.1 → (∀ l ∈ ts, l ∈ L) → L[L.length - 1]'(by omega) ∈ ts → madeL s f.2 ts ar ∈ A
theorem cmb_end {s : Int} {f : Int × List Int} {ar : Nat} {L A : List (List Int)} (hf : 1 ≤ f.1) (h : CmbTo s f ar L A f.1.toNat 0) : CmbP s f ar L A := fun h0 ts hl hall hm => by
 obtain ⟨rest, p, g1, g2, g3, g4, rfl⟩ := pick_ex h0 hall hm
 have hrl : rest.length = f.1.toNat - 1 := by omega
 have hb := idx_lt (s := L.length) (by omega) hrl g3
 have e := dig_of (s := L.length) (by omega) hrl g3
 have h1 := h p (idxL L.length 0 rest).toNat (by omega) (by omega) (.inl (by omega))
 rw [show (((idxL L.length 0 rest).toNat : Nat) : Int) = idxL L.length 0 rest by omega, e] at h1
 exact h1 g4
theorem cmbP_more {s : Int} {f : Int × List Int} {ar : Nat} {L A A' : List (List Int)} (h : CmbP s f ar L A) (hs : ∀ l ∈ A, l ∈ A') : CmbP s f ar L A' := fun h0 ts h1 h2 h3 => hs _ (h h0 ts h1 h2 h3)
/-- what the loop knows: the lists are told apart, are of the closure, hold what was there, and what the first ones make -/
structure ClI (s : Int) (ops : List (Int × List Int)) (ar : Nat) (T A : List (List Int)) : Prop where
 nd : A.Nodup
 clo : ∀ l ∈ A, Clo s ops ar T l
 sub : ∀ l ∈ T, l ∈ A
def DoneTo (s : Int) (ops : List (Int × List Int)) (ar : Nat) (A : List (List Int)) (d : Nat) : Prop := ∀ e, e < d → ∀ f ∈ ops, CmbP s f ar (A.take (e + 1)) A
theorem done_zero {s : Int} {ops : List (Int × List Int)} {ar : Nat} {A : List (List Int)} : DoneTo s ops ar A 0 := fun _ h => absurd h (Nat.not_lt_zero _)
theorem take_pre {A A' : List (List Int)} (h : A <+: A') {k : Nat} (hk : k ≤ A.length) : A'.take k = A.take k := by
 obtain ⟨B, rfl⟩ := h
 exact List.take_append_of_le_length hk
theorem done_more {s : Int} {ops : List (Int × List Int)} {ar : Nat} {A A' : List (List Int)} {d : Nat} (h : DoneTo s ops ar A d) (hp : A <+: A') (hd : d ≤ A.length) : DoneTo s ops ar A' d := fun e he f hf => by
 rw [take_pre hp (by omega)]
 exact cmbP_more (h e he f hf) (fun l hl => hp.subset hl)
theorem done_succ {s : Int} {ops : List (Int × List Int)} {ar : Nat} {A : List (List Int)} {d : Nat} (h : DoneTo s ops ar A d) (h' : ∀ f ∈ ops, CmbP s f ar (A.take (d + 1)) A) : DoneTo s ops ar A (d + 1) := fun e he => by
 by_cases ee : e = d
 ·subst ee; exact h'
 ·exact h e (by omega)
/-- a list of lists of A lies in a first part of it, and holds that part's last -/
theorem last_ex {A : List (List Int)} : ∀ {ts : List (List Int)}, ts ≠ [] → (∀ l ∈ ts, l ∈ A) → ∃ (d : Nat) (h : d < A.length), (∀ l ∈ ts, l ∈ A.take (d + 1)) ∧ A[d] ∈ ts
 | [], h, _ => absurd rfl h
 | [t], _, hall => by
  obtain ⟨i, hi, e⟩ := List.mem_iff_getElem.1 (hall t (List.mem_cons_self ..))
  refine ⟨i, hi, fun l hl => ?_, by rw [e]; exact List.mem_cons_self ..⟩
  rw [List.mem_singleton.1 hl, ← e]
  exact List.mem_take_iff_getElem.2 ⟨i, by omega, rfl⟩
 | t :: u :: ts, _, hall => by
  obtain ⟨d, hd, h1, h2⟩ := last_ex (A := A) (ts := u :: ts) (by simp) (fun l hl => hall l (List.mem_cons_of_mem _ hl))
  obtain ⟨i, hi, e⟩ := List.mem_iff_getElem.1 (hall t (List.mem_cons_self ..))
  rcases Nat.lt_or_ge d i with hlt | hge
  ·refine ⟨i, hi, fun l hl => ?_, by rw [e]; exact List.mem_cons_self ..⟩
   rcases List.mem_cons.1 hl with rfl | hl
   ·rw [← e]
    exact List.mem_take_iff_getElem.2 ⟨i, by omega, rfl⟩
   ·obtain ⟨j, hj, ej⟩ := List.mem_take_iff_getElem.1 (h1 l hl)
    exact List.mem_take_iff_getElem.2 ⟨j, by omega, ej⟩
  ·refine ⟨d, hd, fun l hl => ?_, List.mem_cons_of_mem _ h2⟩
   rcases List.mem_cons.1 hl with rfl | hl
   ·rw [← e]
    exact List.mem_take_iff_getElem.2 ⟨i, by omega, rfl⟩
   ·exact h1 l hl
/-- at the end all is closed -/
theorem done_end {s : Int} {ops : List (Int × List Int)} {ar : Nat} {T A : List (List Int)} (ho : ∀ f ∈ ops, opOk s f) (hI : ClI s ops ar T A) (h : DoneTo s ops ar A A.length) {l : List Int} : l ∈ A ↔ Clo s ops ar T l := by
 refine clo_closed ho hI.sub hI.clo fun f hf => (keeps_iff (ho f hf).2.1.1).2 fun ts hl hts => ?_
 have h1 := (ho f hf).2.1.1
 have hne : ts ≠ [] := fun e => by subst e; simp at hl; omega
 obtain ⟨d, hd, g1, g2⟩ := last_ex hne hts
 have hlen : (A.take (d + 1)).length = d + 1 := by rw [List.length_take]; omega
 refine h d hd f hf (by rw [hlen]; omega) ts hl g1 ?_
 have : (A.take (d + 1))[(A.take (d + 1)).length - 1]'(by rw [hlen]; omega) = A[d] := by
  rw [List.getElem_take]
  congr 1
  rw [hlen]
  omega
 rw [this]
 exact g2
theorem cli_add {s : Int} {ops : List (Int × List Int)} {ar : Nat} {T A : List (List Int)} (h : ClI s ops ar T A) {l : List Int} (hl : l ∉ A) (hc : Clo s ops ar T l) : ClI s ops ar T (A ++ [l]) where
 nd := List.nodup_append.2 ⟨h.nd, by simp, fun a ha b hb e => by rw [List.mem_singleton.1 hb] at e; subst e; exact hl ha⟩
 clo := fun x hx => by
  rcases List.mem_append.1 hx with hx | hx
  ·exact h.clo x hx
  ·rw [List.mem_singleton.1 hx]; exact hc
 sub := fun x hx => List.mem_append_left _ (h.sub x hx)
end Go.Proofs.YtggelmbnliajeaaDoor
namespace Go.Proofs
open Go.Shelf
def Tryd.lays173_ren : Go.Shelf.Ren := ⟨fun | 173 => 77 | 246 => 87 | 283 => 90 | 284 => 91 | 285 => 92 | 286 => 93 | 129 => 71 | 317 => 95 | 318 => 96 | 319 => 97 | 320 => 98 | 337 => 99 | 338 => 100 | n => n, fun | 2 => 2 | 3 => 3 | 9 => 9 | 4 => 4 | 171 => 108 | 0 => 0 | 53 => 90 | 37 => 110 | 5 => 5 | 173 => 111 | 212 => 115 | 51 => 88 | 20 => 20 | 213 => 116 | 46 => 70 | 232 => 118 | 233 => 119 | n => n, fun | 17 => 0 | 18 => 1 | 19 => 2 | n => n⟩
theorem Tryd.lays173 : Go.Proofs.Lays.n173 Tryd.prog Tryd.lays173_ren := {
 mixed := by kernel_rfl
 f129 := Tryd.func71.trans (congrArg some (by kernel_rfl))
 f173 := Tryd.func77.trans (congrArg some (by kernel_rfl))
 f246 := Tryd.func87.trans (congrArg some (by kernel_rfl))
 f283 := Tryd.func90.trans (congrArg some (by kernel_rfl))
 f284 := Tryd.func91.trans (congrArg some (by kernel_rfl))
 f285 := Tryd.func92.trans (congrArg some (by kernel_rfl))
 f286 := Tryd.func93.trans (congrArg some (by kernel_rfl))
 f317 := Tryd.func95.trans (congrArg some (by kernel_rfl))
 f318 := Tryd.func96.trans (congrArg some (by kernel_rfl))
 f319 := Tryd.func97.trans (congrArg some (by kernel_rfl))
 f320 := Tryd.func98.trans (congrArg some (by kernel_rfl))
 f337 := Tryd.func99.trans (congrArg some (by kernel_rfl))
 f338 := Tryd.func100.trans (congrArg some (by kernel_rfl))
 t0 := Tryd.underlying0
 a0 := Tryd.isAgg0
 z0 := Tryd.sizeOf0
 v0 := Tryd.zeroValue0
 t2 := Tryd.underlying2
 a2 := Tryd.isAgg2
 z2 := Tryd.sizeOf2
 v2 := Tryd.zeroValue2
 t3 := Tryd.underlying3
 a3 := Tryd.isAgg3
 z3 := Tryd.sizeOf3
 v3 := Tryd.zeroValue3
 t4 := Tryd.underlying4
 a4 := Tryd.isAgg4
 z4 := Tryd.sizeOf4
 v4 := Tryd.zeroValue4
 t5 := Tryd.underlying5
 a5 := Tryd.isAgg5
 z5 := Tryd.sizeOf5
 v5 := Tryd.zeroValue5
 t9 := Tryd.underlying9
 a9 := Tryd.isAgg9
 z9 := Tryd.sizeOf9
 v9 := Tryd.zeroValue9
 t20 := Tryd.underlying20
 a20 := Tryd.isAgg20
 z20 := Tryd.sizeOf20
 v20 := Tryd.zeroValue20
 t37 := Tryd.underlying110
 a37 := Tryd.isAgg110
 z37 := Tryd.sizeOf110
 v37 := Tryd.zeroValue110
 t46 := Tryd.underlying70
 a46 := Tryd.isAgg70
 z46 := Tryd.sizeOf70
 v46 := Tryd.zeroValue70
 t51 := Tryd.underlying88
 a51 := Tryd.isAgg88
 z51 := Tryd.sizeOf88
 v51 := Tryd.zeroValue88
 t53 := Tryd.underlying90
 a53 := Tryd.isAgg90
 z53 := Tryd.sizeOf90
 v53 := Tryd.zeroValue90
 t171 := Tryd.underlying108
 a171 := Tryd.isAgg108
 z171 := Tryd.sizeOf108
 v171 := Tryd.zeroValue108
 t173 := Tryd.underlying111
 a173 := Tryd.isAgg111
 z173 := Tryd.sizeOf111
 v173 := Tryd.zeroValue111
 t212 := Tryd.underlying115
 a212 := Tryd.isAgg115
 z212 := Tryd.sizeOf115
 v212 := Tryd.zeroValue115
 t213 := Tryd.underlying116
 a213 := Tryd.isAgg116
 z213 := Tryd.sizeOf116
 t232 := Tryd.underlying118
 a232 := Tryd.isAgg118
 z232 := Tryd.sizeOf118
 v232 := Tryd.zeroValue118
 t233 := Tryd.underlying119
 a233 := Tryd.isAgg119
 z233 := Tryd.sizeOf119
 v233 := Tryd.zeroValue119
 g17 := by kernel_rfl
 g18 := by kernel_rfl
 g19 := by kernel_rfl }
open Go.RowKit Go.Sort Go.Lib in
/-- THE ROAD WITHOUT THE TABLE: 0 <= i < 100. (LAID: no walk: one application.) -/
theorem Tryd.strconv_FormatInt_10_small (i : Nat) (hi : i < 100) (w : World) :
  Calls Tryd.prog 77 #[.int .i64 i, .int .i64 10] w fun e w' => e = .returned (.string ⟨(Lib.decDigits i).toArray⟩) ∧ w' = w := Any.strconv_FormatInt_10_small Tryd.lays173 i hi w
end Go.Proofs
namespace Go.Proofs.YtggelmbnliajeaaDoor
open Go.RowKit Go.Sort
/-- bytes joined, behind a name -/
def cat (a b : List UInt8) : List UInt8 := a ++ b
theorem cat_len {a b : List UInt8} : (cat a b).length = a.length + b.length := List.length_append
theorem add_cat {P : Program} (w : World) (a b : List UInt8) (h : a.length + b.length ≤ 1000000000) : (Op.stringOp .add ⟨a.toArray⟩ ⟨b.toArray⟩).run P w = .ok (.string ⟨(cat a b).toArray⟩) w := by
 have h1 : (ByteArray.mk a.toArray).size = a.length := by show a.toArray.size = _; simp
 have h2 : (ByteArray.mk b.toArray).size = b.length := by show b.toArray.size = _; simp
 rw [run_string_add_sum w _ _ (by rw [h1, h2]; omega), ByteArray.mk_append_mk]
 simp [cat]
/-- a number's digits -/
def decB (n : Int) : List UInt8 := Lib.decDigits n.toNat
theorem dec_one {n : Int} (h0 : 0 ≤ n) (h1 : n < 10) : decB n = [UInt8.ofNat (48 + n.toNat)] := Lib.decDigits_one (by omega)
theorem dec_two {n : Int} (h0 : 10 ≤ n) (h1 : n < 100) : decB n = cat (decB (n / 10)) [UInt8.ofNat (48 + (n % 10).toNat)] := by
 unfold decB cat
 rw [Lib.decDigits, dif_neg (by omega), show (n / 10).toNat = n.toNat / 10 by omega, show (n % 10).toNat = n.toNat % 10 by omega]
theorem dec_len {n : Int} (h1 : n < 100) : 1 ≤ (decB n).length ∧ (decB n).length ≤ 2 := by
 by_cases h : n < 10
 ·unfold decB; rw [Lib.decDigits_one (by omega)]; simp
 ·rw [dec_two (by omega) h1, cat_len, dec_one (by omega) (by omega)]; simp
/-- a text, and behind it each one's part -/
def catL {α : Type} (f : α → List UInt8) (hd : List UInt8) (xs : List α) : List UInt8 := hd ++ (xs.map f).flatten
section
variable {α : Type} {f : α → List UInt8} {hd : List UInt8} {xs : List α}
theorem catL_succ {k : Nat} (h : k < xs.length) : catL f hd (xs.take (k + 1)) = cat (catL f hd (xs.take k)) (f xs[k]) := by
 unfold catL cat
 rw [List.take_succ_eq_append_getElem h, List.map_append, List.flatten_append]
 simp only [List.map_cons, List.map_nil, List.flatten_cons, List.flatten_nil, List.append_nil, List.append_assoc]
theorem flatB_len {B : Nat} : ∀ {ys : List α}, (∀ x ∈ ys, (f x).length ≤ B) → ((ys.map f).flatten).length ≤ ys.length * B
 | [], _ => by simp
 | y :: ys, hB => by
  have h1 := hB y (List.mem_cons_self ..)
  have h2 := flatB_len fun z hz => hB z (List.mem_cons_of_mem _ hz)
  simp only [List.map_cons, List.flatten_cons, List.length_append, List.length_cons, Nat.succ_mul]
  omega
theorem catL_len {B : Nat} (hB : ∀ x ∈ xs, (f x).length ≤ B) : (catL f hd xs).length ≤ hd.length + xs.length * B := by
 unfold catL
 rw [List.length_append]
 have := flatB_len hB
 omega
end
theorem dec_any (w : World) {n : Int} (h0 : 0 ≤ n) (h1 : n < 100) : Calls Tryd.prog 58 #[.int .i64 n] w fun e w' => e = .returned (.string ⟨(decB n).toArray⟩) ∧ w = w' := by
 obtain ⟨k, rfl⟩ : ∃ k : Nat, n = k := ⟨n.toNat, by omega⟩
 have HK : Hid (Lib.decDigits k = decB k) := rfl
 go_enter Tryd.func58, Tryd.ntmps58
 go_wp2_with (go_at_call 77; refine (Tryd.strconv_FormatInt_10_small k (by omega) _).mono ?_; rintro e w' ⟨rfl, rfl⟩)
 go_ret
 exact ⟨by rw [HK.out]; rfl, rfl⟩
theorem digits_any (w : World) {v : Value} {xs : List Int} (h : intsT.Rd w [v] xs) (hx : ∀ a ∈ xs, 0 ≤ a ∧ a < 100) (hl : xs.length ≤ 1000) :
  Calls Tryd.prog 47 #[v] w fun e w' => e = .returned (.string ⟨(catL decB [] xs).toArray⟩) ∧ w = w' := by
 obtain ⟨ad, cap, hv, -, -, hc⟩ := ints_ex h
 obtain rfl : v = _ := by simpa using hv
 clear h hv
 go_enter Tryd.func47, Tryd.ntmps47
 go_wp2_with fail
 go_loopw [3, 8] (fun c i wr => ∃ k : Nat, k ≤ xs.length ∧ i = .int .i64 k ∧ c = .string ⟨(catL decB [] (xs.take k)).toArray⟩ ∧ wr = w) (fun _ i _ => xs.length - (intOf i).toNat)
 case atStart => exact ⟨0, Nat.zero_le _, rfl, by simp [catL], rfl⟩
 case round =>
  obtain ⟨k, hk, rfl, rfl, rfl⟩ := hrel
  by_cases hkl : k < xs.length
  ·obtain ⟨b, o, rfl, hb, hce⟩ := hc (by omega)
   obtain ⟨hI, hck⟩ := hce k hkl
   have hin := hx _ (List.getElem_mem hkl)
   have HS := Lib.hid (catL_succ (f := decB) (hd := []) hkl)
   have hlen := catL_len (f := decB) (hd := []) (xs := xs.take k) (B := 2) fun y hy => (dec_len (hx y (List.mem_of_mem_take hy)).2).2
   have hl1 := dec_len hin.2
   rw [List.length_take] at hlen
   generalize hz : xs[k] = z at *
   have hlen' : (catL decB [] (xs.take k)).length ≤ 10000 := by simp at hlen; omega
   generalize catL decB [] (xs.take k) = C at *
   have hadd : ∀ W : World, (Op.stringOp .add ⟨C.toArray⟩ ⟨(decB z).toArray⟩).run Tryd.prog W = .ok (.string ⟨(cat C (decB z)).toArray⟩) W := fun W => add_cat W _ _ (by omega)
   clear hz hlen hlen' hl1 hce
   go_wp2_with (go_at_call 58; refine (dec_any _ hin.1 hin.2).mono ?_; rintro e w' ⟨rfl, rfl⟩)
   go_roundw
   case rel => exact ⟨k + 1, by omega, by go_num, by rw [HS.out], trivial⟩
   case measure => simp [intOf]; omega
  ·obtain rfl : k = xs.length := by omega
   have HF : Hid (xs.take xs.length = xs) := List.take_length
   go_wp2_with fail
   go_ret
   exact ⟨by rw [HF.out]; rfl, rfl⟩
end Go.Proofs.YtggelmbnliajeaaDoor
namespace Go.Proofs.YtggelmbnliajeaaDoor
open Go.RowKit
theorem run_push_new {P : Program} (w : World) (base t ty e : Nat) {sz bytes : Nat} (hT : ElT P t e sz bytes) (v : Value) (n : Nat) (xs : List Value) (hown : w.ownsRow base e sz v n xs)
  (a : Addr) (m c : Nat) (news : List Value) (hl : news.length = m * sz) (hnews : ∀ j u, news[j]? = some u → w.cell? (a.add j) = some u) (h1 : ∀ u ∈ news, u.oneCell' = true)
  (h63 : n + m ≤ maxLen) (hbytes : (n + m) * bytes ≤ 140737488355328) (hm : 0 < m) (v' : Value) (w' : World)
  (hr : (Builtin.append_ #[t, t] ty #[v, .slice (some a) m c]).run P w = .ok v' w') : v'.ownBlock = v.ownBlock ∨ (v'.ownBlock = some w.heap.size ∧ Below w.heap.size w w') := by
 obtain ⟨i, z, ht, hi, hz, rfl, rfl, hzs, hp⟩ := hT
 have hsmall : n + m ≤ 9223372036854775807 := by simp only [maxLen] at h63; omega
 rcases hown.2 with ⟨rfl, rfl⟩ | ⟨g, cap, cur, rfl, hbg, hg, hnc, hcm, hcs, htake⟩
 ·rw [run_append_nil (P := P) w t ty e i z ht hi hz a m c news hl hnews hm (by omega) (by have hb := hbytes; simp only [Nat.zero_add] at hb; omega)] at hr
  simp only [Result.ok.injEq] at hr
  rw [← hr.1, ← hr.2]
  exact .inr ⟨rfl, bD.alloc (by simp) _⟩
 ·by_cases hroom : n + m ≤ cap
  ·have hfit : n * i.size + news.length ≤ cur.size := by rw [hl, hcs, ← Nat.add_mul]; exact Nat.mul_le_mul_right _ hroom
   rw [run_append_room (P := P) w t ty e i ht hi g n cap cur hg a m c news hl hnews h1 hroom hfit] at hr
   simp only [Result.ok.injEq] at hr
   rw [← hr.1]
   exact .inl rfl
  ·have holds : ∀ j u, xs[j]? = some u → w.cell? ((⟨g, 0, none⟩ : Addr).add j) = some u := hown.cells (g := g) rfl
   rw [run_append_grow (P := P) w t ty e i z ht hi hz ⟨g, 0, none⟩ n cap xs hown.1 holds a m c news hl hnews (by omega) (by omega) (growslice_fits (by omega) hbytes)] at hr
   simp only [Result.ok.injEq] at hr
   rw [← hr.1, ← hr.2]
   exact .inr ⟨rfl, bD.alloc (by simp) _⟩
/-- cells stay: those of other blocks, and those of the row's first elements -/
def KeepC (v : Value) (n : Nat) (w w' : World) : Prop := ∀ g j, g < w.heap.size → (v.ownBlock = some g → j < n) → w'.cell? ⟨g, j, none⟩ = w.cell? ⟨g, j, none⟩
theorem keep_push {w w' : World} {base e n m : Nat} {v v' : Value} {xs ys : List Value} (h : w.ownsRow base e 1 v n xs) (h' : w'.ownsRow base e 1 v' m (xs ++ ys)) (hg : w.grownBy w' v.ownBlock) (hb : v'.ownBlock = v.ownBlock ∨ (v'.ownBlock = some w.heap.size ∧ Below w.heap.size w w')) : KeepC v n w w' := by
 intro g j hgl hj
 rcases hb with hb | ⟨_, hb⟩
 ·by_cases ho : v.ownBlock = some g
  ·have hjn := hj ho
   have hxl : xs.length = n := by have := h.1; omega
   have e1 : w.cell? ⟨g, j, none⟩ = xs[j]? := by
    rcases h.2 with ⟨rfl, _⟩ | ⟨g', cap, cur, rfl, _⟩
    ·cases ho
    ·obtain rfl : g' = g := by simpa [Value.ownBlock] using ho
     exact World.ownsRow.cellAt h j (by omega)
   have e2 : w'.cell? ⟨g, j, none⟩ = (xs ++ ys)[j]? := by
    have ho' := hb.trans ho
    have hml : (xs ++ ys).length = m * 1 := h'.1
    rcases h'.2 with ⟨rfl, _⟩ | ⟨g', cap, cur, rfl, _⟩
    ·cases ho'
    ·obtain rfl : g' = g := by simpa [Value.ownBlock] using ho'
     exact World.ownsRow.cellAt h' j (by rw [List.length_append] at hml; omega)
   rw [e1, e2, List.getElem?_append_left (by omega)]
  ·exact World.cell?_of_block (a := ⟨g, j, none⟩) (hg.block g hgl fun he => ho he.symm)
 ·exact hb.cell (p := ⟨g, j, none⟩) hgl
theorem KeepC.refl (v : Value) (n : Nat) (w : World) : KeepC v n w w := fun _ _ _ _ => rfl
theorem bl_val_own {e base top : Nat} {w : World} {v : Value} {ys : List Value} (h : Bl Ty.val e base top w v ys) : w.ownsRow base e 1 v ys.length ys ∧ (∀ u ∈ ys, u.oneCell' = true) ∧ ∀ g, v.ownBlock = some g → g < top := by
 obtain ⟨L, fps, h1, h2, -, -, h5, -⟩ := h
 have hl : L.length = ys.length := by have := h1.1; simpa [Ty.val] using this
 have he : ∀ i (hi : i < ys.length), L[i]? = some ys[i] ∧ (ys[i]).oneCell' = true := fun i hi => by
  obtain ⟨cs, ⟨rfl, h7, _⟩, h8⟩ := h2 i hi
  have := h8 0 (by simp)
  exact ⟨by simpa [Ty.val] using this, h7⟩
 obtain rfl : L = ys := List.ext_getElem hl fun i h h' => by
  have := (he i h').1
  rw [List.getElem?_eq_getElem h] at this
  simpa using this
 refine ⟨h1, fun u hu => ?_, h5⟩
 obtain ⟨i, hi, rfl⟩ := List.mem_iff_getElem.1 hu
 exact (he i hi).2
theorem bl_own_val {e base top : Nat} {w : World} {v : Value} {ys : List Value} (h : w.ownsRow base e 1 v ys.length ys) (h1 : ∀ u ∈ ys, u.oneCell' = true) (ht : ∀ g, v.ownBlock = some g → g < top) : Bl Ty.val e base top w v ys := by
 have hfl : flat (fun _ => []) ys.length = [] := List.eq_nil_iff_forall_not_mem.2 fun x hx => by obtain ⟨_, _, h⟩ := List.mem_flatMap.1 hx; cases h
 refine ⟨ys, fun _ => [], h, fun i hi => ⟨[ys[i]], ⟨rfl, h1 _ (List.getElem_mem hi), rfl⟩, fun j hj => ?_⟩, by rw [hfl]; exact List.nodup_nil, by rw [hfl]; simp, ht, by rw [hfl]; intro b hb; cases hb⟩
 obtain rfl : j = 0 := by simpa using hj
 simp [Ty.val, hi]
theorem run_pushV {P : Program} (w : World) (t ty e : TypeId) {bytes : Nat} (hT : ElT P t e 1 bytes)
  {base top : Nat} {v : Value} {ys : List Value} (hB : Bl Ty.val e base top w v ys)
  {ad : Addr} {c : Nat} {y : Value} (hnews : ∀ j u, [y][j]? = some u → w.cell? (ad.add j) = some u) (hy : y.oneCell' = true)
  (hlen : ys.length ≤ 1000000000) (hby : bytes ≤ 100000) (hbt : base ≤ top) (htop : top ≤ w.heap.size) :
  ∃ v' w', (Builtin.append_ #[t, t] ty #[v, .slice (some ad) 1 c]).run P w = .ok v' w' ∧ Bl Ty.val e base w'.heap.size w' v' (ys ++ [y]) ∧ w.grownBy w' v.ownBlock ∧ (v'.ownBlock = v.ownBlock ∨ v'.ownBlock = some w.heap.size) ∧ KeepC v ys.length w w' := by
 obtain ⟨g1, g2, g3⟩ := bl_val_own hB
 obtain ⟨i, z, ht, hi, hz, hsz, hbt', hzs, hp⟩ := id hT
 have hlen' : (ys.length + 1) * bytes ≤ 140737488355328 := Nat.le_trans (Nat.mul_le_mul (show ys.length + 1 ≤ 1000000001 by omega) hby) (by decide)
 have hbase : base ≤ w.heap.size := Nat.le_trans hbt htop
 have hone : ∀ u ∈ [y], u.oneCell' = true := fun u hu => by rw [List.mem_singleton.1 hu]; exact hy
 obtain ⟨v', w', hr, h2, h3, h4⟩ := run_append_own (P := P) w base t ty e i z 1 bytes ht hi hz hsz hbt' hzs hp v ys.length ys g1 ad 1 c [y] (by simp) hnews hone (by unfold maxLen; omega) hlen' hbase
 have hblk := run_push_new w base t ty e hT v ys.length ys g1 ad 1 c [y] (by simp) hnews hone (by unfold maxLen; omega) hlen' (by omega) v' w' hr
 have h2' : w'.ownsRow base e 1 v' (ys ++ [y]).length (ys ++ [y]) := by simpa using h2
 refine ⟨v', w', hr, bl_own_val h2' (fun u hu => ?_) (fun g hg => (h2.lt g hg).2), h3, hblk.imp id And.left, keep_push g1 h2 h3 hblk⟩
 rcases List.mem_append.1 hu with hu | hu
 ·exact g2 u hu
 ·exact hone u hu
theorem wpList_pushK {P : Program} (w : World) {ops : Array Oper} {rest : List Oper} {o : Oper} {a : Act} {Q : Exit → Act → World → Prop} (hgd : o.guard = none) (s x : Operand) (t e : TypeId) {bytes : Nat}
  (ho : o.op = .call { callee := .builtin .append, args := #[s, x], argTypes := #[t, t] }) (hT : ElT P t e 1 bytes)
  {base top : Nat} {v : Value} {ys : List Value} (hs : a.eval s = v) (hB : Bl Ty.val e base top w v ys)
  {ad : Addr} {c : Nat} {y : Value} (hx : a.eval x = .slice (some ad) 1 c) (hnews : ∀ j u, [y][j]? = some u → w.cell? (ad.add j) = some u) (hy : y.oneCell' = true)
  (hlen : ys.length ≤ 1000000000) (hby : bytes ≤ 100000) (hbt : base ≤ top) (htop : top ≤ w.heap.size)
  (h : ∀ v' w', Bl Ty.val e base w'.heap.size w' v' (ys ++ [y]) → w.grownBy w' v.ownBlock → (v'.ownBlock = v.ownBlock ∨ v'.ownBlock = some w.heap.size) → KeepC v ys.length w w' → wpList P ops Q rest (a.put o.dst v') w') : wpList P ops Q (o :: rest) a w := by
 refine wpList_plain hgd fun K hK => ?_
 obtain ⟨v', w', hr, g1, g2, g3, g4⟩ := run_pushV (P := P) w t o.type e hT hB (ad := ad) (c := c) hnews hy hlen hby hbt htop
 unfold Oper.wp execOp
 simp only [ho, resolve, invoke, builtin, Sem.run_bind, Sem.run_pure, Result.andThen_ok, List.map_toArray, List.map_cons, List.map_nil, hs, hx, hr]
 exact hK _ _ (h v' w' g1 g2 g3 g4)
/-- the blocks that hold the state, and none of its lists -/
def avd (bs ba mb : Nat) (v : Value) (k : Nat) : Prop := k ≠ bs ∧ k ≠ ba ∧ k ≠ mb ∧ v.ownBlock ≠ some k
/-- a list's text -/
def keyL (l : List Int) : List UInt8 := catL decB [] l
/-- digits alone -/
def dgs (l : List Int) : Prop := ∀ a ∈ l, 0 ≤ a ∧ a < 10
theorem keyL_map {l : List Int} (h : dgs l) : keyL l = l.map fun a => UInt8.ofNat (48 + a.toNat) := by
 unfold keyL catL
 rw [List.nil_append]
 induction l with
 | nil => rfl
 | cons a l ih =>
  obtain ⟨h0, h1⟩ := h a (List.mem_cons_self ..)
  rw [List.map_cons, List.flatten_cons, List.map_cons, ih (fun b hb => h b (List.mem_cons_of_mem _ hb)), dec_one h0 h1]
  rfl
theorem keyL_inj : ∀ {l l' : List Int}, dgs l → dgs l' → keyL l = keyL l' → l = l' := fun {l l'} h h' he => by
 rw [keyL_map h, keyL_map h'] at he
 induction l generalizing l' with
 | nil => cases l' with
  | nil => rfl
  | cons b l' => cases he
 | cons a l ih => cases l' with
  | nil => cases he
  | cons b l' =>
   simp only [List.map_cons, List.cons.injEq] at he
   obtain ⟨h0, h1⟩ := h a (List.mem_cons_self ..)
   obtain ⟨h2, h3⟩ := h' b (List.mem_cons_self ..)
   have e1 := congrArg UInt8.toNat he.1
   rw [UInt8.toNat_ofNat_of_lt' (by show 48 + a.toNat < 256; omega), UInt8.toNat_ofNat_of_lt' (by show 48 + b.toNat < 256; omega)] at e1
   rw [ih (fun c hc => h c (List.mem_cons_of_mem _ hc)) (fun c hc => h' c (List.mem_cons_of_mem _ hc)) he.2, show a = b by omega]
/-- the list with one more, if it is new -/
def adL (A : List (List Int)) (l : List Int) : List (List Int) := if l ∈ A then A else A ++ [l]
theorem adL_yes {A : List (List Int)} {l : List Int} (h : l ∈ A) : adL A l = A := if_pos h
theorem adL_no {A : List (List Int)} {l : List Int} (h : l ∉ A) : adL A l = A ++ [l] := if_neg h
theorem adL_pre {A : List (List Int)} {l : List Int} : A <+: adL A l := by
 by_cases h : l ∈ A
 ·rw [adL_yes h]; exact List.prefix_refl _
 ·rw [adL_no h]; exact List.prefix_append _ _
theorem adL_mem {A : List (List Int)} {l : List Int} : l ∈ adL A l := by
 by_cases h : l ∈ A
 ·rw [adL_yes h]; exact h
 ·rw [adL_no h]; simp
theorem adL_len {A : List (List Int)} {l : List Int} : (adL A l).length ≤ A.length + 1 := by
 by_cases h : l ∈ A
 ·rw [adL_yes h]; omega
 ·rw [adL_no h]; simp
theorem adL_in {A : List (List Int)} {l x : List Int} (h : x ∈ adL A l) : x ∈ A ∨ x = l := by
 by_cases hl : l ∈ A
 ·rw [adL_yes hl] at h; exact .inl h
 ·rw [adL_no hl] at h
  exact (List.mem_append.1 h).imp id List.mem_singleton.1
/-- the state of the closure's list -/
structure AddI (P : Program) (km em te B bs ba mb : Nat) (w : World) (v : Value) (vs : List Value) (A : List (List Int)) : Prop where
 cs : w.cell? ⟨bs, 0, none⟩ = some (.map (some mb))
 ca : w.cell? ⟨ba, 0, none⟩ = some v
 fa : w.frozen? ⟨ba, 0, none⟩ = false
 sn : ∃ Ks n, SeenM P km em w mb n Ks ∧ n ≤ A.length ∧ ∀ s, s ∈ Ks ↔ ∃ l ∈ A, s = keyL l
 row : Bl Ty.val te B w.heap.size w v vs
 len : vs.length = A.length
 rd : ∀ i (h : i < vs.length) (h' : i < A.length), intsT.RdP (avd bs ba mb v) w [vs[i]] A[i]
 ds : bs ≠ ba ∧ bs ≠ mb ∧ ba ≠ mb ∧ v.ownBlock ≠ some bs ∧ v.ownBlock ≠ some ba ∧ v.ownBlock ≠ some mb
 ge : B ≤ bs ∧ B ≤ ba ∧ B ≤ mb
 dg : ∀ l ∈ A, dgs l
section
variable {P : Program} {km em te B bs ba mb : Nat} {w w' : World} {v : Value} {vs : List Value} {A : List (List Int)}
theorem AddI.lt (h : AddI P km em te B bs ba mb w v vs A) : bs < w.heap.size ∧ ba < w.heap.size ∧ mb < w.heap.size := by
 obtain ⟨Ks, n, h1, _⟩ := h.sn
 exact ⟨cell_lt h.cs, cell_lt h.ca, h1.lt⟩
theorem AddI.below {B' : Nat} (h : AddI P km em te B bs ba mb w v vs A) (hb : Below B' w w') (hB : w.heap.size ≤ B') : AddI P km em te B bs ba mb w' v vs A where
 cs := (hb.cell (p := ⟨bs, 0, none⟩) (Nat.lt_of_lt_of_le h.lt.1 hB)).trans h.cs
 ca := (hb.cell (p := ⟨ba, 0, none⟩) (Nat.lt_of_lt_of_le h.lt.2.1 hB)).trans h.ca
 fa := (World.frozen?_of_block (a := ⟨ba, 0, none⟩) (hb.block ba (Nat.lt_of_lt_of_le h.lt.2.1 hB))).trans h.fa
 sn := let ⟨Ks, n, h1, h2⟩ := h.sn; ⟨Ks, n, h1.block (hb.block mb (Nat.lt_of_lt_of_le h1.lt hB)), h2⟩
 row := (h.row.below hb hB).mono hb.size
 len := h.len
 rd := fun i h1 h2 => let ⟨fp, h3, h4⟩ := h.rd i h1 h2; ⟨fp, intsT.same h3 (fun k hk => hb.block k (Nat.lt_of_lt_of_le (intsT.lt h3 k hk) hB)), h4⟩
 ds := h.ds
 ge := h.ge
 dg := h.dg
end
/-- what an addition keeps -/
def AddF (ba mb : Nat) (v : Value) (n : Nat) (w w' : World) : Prop := TchP (fun q => q = ba ∨ q = mb ∨ v.ownBlock = some q) w w' ∧ ∀ g j, g < w.heap.size → g ≠ ba → g ≠ mb → (v.ownBlock = some g → j < n) → w'.cell? ⟨g, j, none⟩ = w.cell? ⟨g, j, none⟩
theorem AddF.refl (ba mb : Nat) (v : Value) (n : Nat) (w : World) : AddF ba mb v n w w := ⟨TchP.refl _ _, fun _ _ _ _ _ _ => rfl⟩
theorem rdp_lt {ok ok' : Nat → Prop} {w : World} {cs : List Value} {x : List Int} (h : intsT.RdP ok w cs x) (hO : ∀ k, k < w.heap.size → ok k → ok' k) : intsT.RdP ok' w cs x :=
 let ⟨fp, h1, h2⟩ := h; ⟨fp, h1, fun k hk => hO k (intsT.lt h1 k hk) (h2 k hk)⟩
/-- one more list -/
theorem AddI.add {P : Program} {km em te B bs ba mb : Nat} {w w4 : World} {v v' : Value} {vs : List Value} {A : List (List Int)} (h : AddI P km em te B bs ba mb w v vs A) {u : Value} {l : List Int} (hu : intsT.RdP (avd bs ba mb v) w [u] l) (hl : dgs l)
  (hT : TchP (fun q => q = ba ∨ q = mb ∨ v.ownBlock = some q) w w4) (hc : w4.cell? ⟨ba, 0, none⟩ = some v') (hf : w4.frozen? ⟨ba, 0, none⟩ = false)
  (hsn : ∃ Ks n, SeenM P km em w4 mb n Ks ∧ n ≤ A.length + 1 ∧ ∀ s, s ∈ Ks ↔ ∃ l' ∈ A ++ [l], s = keyL l') (hrow : Bl Ty.val te B w4.heap.size w4 v' (vs ++ [u]))
  (hown : v'.ownBlock = v.ownBlock ∨ ∃ q, v'.ownBlock = some q ∧ w.heap.size ≤ q) : AddI P km em te B bs ba mb w4 v' (vs ++ [u]) (A ++ [l]) := by
 obtain ⟨b1, b2, b3⟩ := h.lt
 obtain ⟨d1, d2, d3, d4, d5, d6⟩ := h.ds
 have hav : ∀ k, k < w.heap.size → avd bs ba mb v k → avd bs ba mb v' k := fun k hk ⟨q1, q2, q3, q4⟩ => ⟨q1, q2, q3, fun e => by
  rcases hown with e1 | ⟨q, e1, e2⟩
  ·exact q4 (e1.symm.trans e)
  ·rw [e1] at e; cases e; omega⟩
 have hno : ∀ k, k < w.heap.size → avd bs ba mb v k → ¬ (k = ba ∨ k = mb ∨ v.ownBlock = some k) := fun k _ ⟨q1, q2, q3, q4⟩ hh => by
  rcases hh with hh | hh | hh
  ·exact q2 hh
  ·exact q3 hh
  ·exact q4 hh
 have hne : ∀ k, k < w.heap.size → v.ownBlock ≠ some k → v'.ownBlock ≠ some k := fun k hk hn e => by
  rcases hown with e1 | ⟨q, e1, e2⟩
  ·exact hn (e1.symm.trans e)
  ·rw [e1] at e; cases e; omega
 have hall : ∀ (y : Value) (x : List Int), intsT.RdP (avd bs ba mb v) w [y] x → intsT.RdP (avd bs ba mb v') w4 [y] x := fun y x hy => (rdp_lt hy fun k hk hh => (⟨hav k hk hh, hno k hk hh⟩ : avd bs ba mb v' k ∧ ¬ (k = ba ∨ k = mb ∨ v.ownBlock = some k))).tchP hT (fun k _ hh => hh.2) |>.mono (fun k _ hh => hh.1)
 refine ⟨(hT.cell b1 (fun hh => ?_)).trans h.cs, hc, hf, ?_, hrow, by simp [h.len], fun i h1 h2 => ?_, ⟨d1, d2, d3, hne _ b1 d4, hne _ b2 d5, hne _ b3 d6⟩, h.ge, fun x hx => ?_⟩
 ·rcases hh with hh | hh | hh
  ·exact d1 hh
  ·exact d2 hh
  ·exact d4 hh
 ·obtain ⟨Ks, n, g1, g2, g3⟩ := hsn
  exact ⟨Ks, n, g1, by simpa using g2, g3⟩
 ·by_cases e : i < vs.length
  ·have e2 : i < A.length := by rw [← h.len]; exact e
   rw [List.getElem_append_left e, List.getElem_append_left e2]
   exact hall _ _ (h.rd i e e2)
  ·have hi : i = vs.length := by simp at h1; omega
   subst hi
   have e2 : vs.length = A.length := h.len
   simp only [List.getElem_concat_length]
   have : (A ++ [l])[vs.length]'h2 = l := by
    simp [e2]
   rw [this]
   exact hall _ _ hu
 ·rcases List.mem_append.1 hx with hx | hx
  ·exact h.dg x hx
  ·rw [List.mem_singleton.1 hx]; exact hl
end Go.Proofs.YtggelmbnliajeaaDoor
namespace Go.Proofs.YtggelmbnliajeaaDoor
open Go.RowKit Go.Sort
theorem zero_bool (w : World) : (zeroValue 4).run Tryd.prog w = .ok (.bool false) w := by
 first | exact Tryd.zeroValue4 w | (unfold zeroValue; simp [go_sem]; done)
theorem AddI.look {w : World} {B bs ba mb : Nat} {v : Value} {vs : List Value} {A : List (List Int)} (h : AddI Tryd.prog 9 4 32 B bs ba mb w v vs A) {l : List Int} (hl : dgs l) (hln : l.length ≤ 1000) :
  (Instr.lookup 64 (.map (some mb)) (.string ⟨(keyL l).toArray⟩) false).run Tryd.prog w = .ok (.bool (decide (l ∈ A))) w := by
 obtain ⟨Ks, n, h1, h2, h3⟩ := h.sn
 have hk : (keyL l).length ≤ 1000000 := by rw [keyL_map hl, List.length_map]; omega
 rw [h1.look Tryd.underlying9 Tryd.underlying64 Tryd.underlying4 (zero_bool w) hk]
 congr 2
 rw [decide_eq_decide, h3]
 constructor
 ·rintro ⟨l', hl', e⟩
  rw [keyL_inj hl (h.dg l' hl') e]; exact hl'
 ·intro hm
  exact ⟨l, hm, rfl⟩
set_option maxHeartbeats 1600000 in
set_option maxRecDepth 100000 in
theorem add_any (w : World) {B bs ba mb : Nat} {v : Value} {vs : List Value} {A : List (List Int)} (h : AddI Tryd.prog 9 4 32 B bs ba mb w v vs A) {u : Value} {l : List Int} (hu : intsT.RdP (avd bs ba mb v) w [u] l) (hl : dgs l) (hln : l.length ≤ 1000) (hA : A.length ≤ 100000000) (hB : B ≤ w.heap.size) :
  Calls Tryd.prog 46 #[u, .pointer (some ⟨bs, 0, none⟩), .pointer (some ⟨ba, 0, none⟩)] w fun e w' => e = .returned (.tuple #[]) ∧ ∃ v' vs', AddI Tryd.prog 9 4 32 B bs ba mb w' v' vs' (adL A l) ∧ vs <+: vs' ∧ AddF ba mb v vs.length w w' ∧ (v'.ownBlock = v.ownBlock ∨ ∃ q, v'.ownBlock = some q ∧ w.heap.size ≤ q) := by
 have HLK := Lib.hid (h.look hl hln)
 obtain ⟨ua, uc, rfl⟩ := rd_slice hu.rd
 have H := Lib.hid h
 have HU := Lib.hid hu
 have HL := Lib.hid hl
 have hl100 : ∀ a ∈ l, 0 ≤ a ∧ a < 100 := fun a ha => by have := hl a ha; omega
 have c0 := h.cs
 have c1 := h.ca
 clear h hu hl
 by_cases hm : l ∈ A
 ·have hlk := HLK.out
  rw [decide_eq_true hm] at hlk
  have HM := Lib.hid hm
  clear hm HLK
  go_enter Tryd.func46, Tryd.ntmps46
  go_wp2_with fail
  refine (digits_any w HU.out.rd hl100 hln).mono ?_
  rintro e w' ⟨rfl, rfl⟩
  rw [show catL decB [] l = keyL l from rfl]
  generalize keyL l = K at *
  go_wp2_with fail
  go_end0
  exact ⟨rfl, v, vs, by rw [adL_yes HM.out]; exact H.out, List.prefix_refl _, AddF.refl _ _ _ _ _, .inl rfl⟩
 ·have hlk := HLK.out
  rw [decide_eq_false hm] at hlk
  have HM := Lib.hid hm
  obtain ⟨Ks, n, hs1, hs2, hs3⟩ := H.out.sn
  obtain ⟨w1, hput, hs4, hg1, hz1⟩ := hs1.put Tryd.underlying9 Tryd.underlying64 Tryd.underlying4 (s := keyL l) (by rw [keyL_map HL.out, List.length_map]; omega) (by omega)
  have HKS : Hid (∀ s, s ∈ keyL l :: Ks ↔ ∃ l' ∈ A ++ [l], s = keyL l') := fun s => by
   rw [List.mem_cons, hs3]
   constructor
   ·rintro (rfl | ⟨l', h1, rfl⟩)
    ·exact ⟨l, by simp, rfl⟩
    ·exact ⟨l', List.mem_append_left _ h1, rfl⟩
   ·rintro ⟨l', h1, rfl⟩
    rcases List.mem_append.1 h1 with h1 | h1
    ·exact .inr ⟨l', h1, rfl⟩
    ·rw [List.mem_singleton.1 h1]; exact .inl rfl
  have HS4 := Lib.hid hs4
  have HG1 := Lib.hid hg1
  have HS2 := Lib.hid hs2
  obtain ⟨b1, b2, b3⟩ := H.out.lt
  obtain ⟨d1, d2, d3, d4, d5, d6⟩ := H.out.ds
  have D4 := Lib.hid d4
  have D5 := Lib.hid d5
  have D6 := Lib.hid d6
  have k0 : w1.cell? ⟨ba, 0, none⟩ = some v := (World.cell?_of_block (a := ⟨ba, 0, none⟩) (hg1.block ba b2 (fun e => d3 (by simpa using e)))).trans c1
  have k1 : w1.frozen? ⟨ba, 0, none⟩ = false := (World.frozen?_of_block (a := ⟨ba, 0, none⟩) (hg1.block ba b2 (fun e => d3 (by simpa using e)))).trans H.out.fa
  have HB1 : Hid (Bl Ty.val 32 B w1.heap.size w1 v vs) := by
   refine bl_val_same H.out.row (fun b hb => hg1.block b (H.out.row.own_lt hb) (fun e => ?_)) (by omega)
   rw [hb] at d6
   exact d6 e
  have hvl : vs.length ≤ 1000000000 := by rw [H.out.len]; omega
  obtain ⟨av, nv, cv, rfl⟩ := ex_slice (HB1.out.fr (by unfold capMax; omega))
  have HZ1 := Lib.hid hz1
  have b2' : ba < w1.heap.size := by omega
  have b1' : bs < w1.heap.size := by omega
  have b3' : mb < w1.heap.size := by omega
  have hBw : B ≤ w1.heap.size := by omega
  clear hm HLK hs1 hs3 hs4 hg1 hs2 d4 d5 d6 hz1
  go_enter Tryd.func46, Tryd.ntmps46
  go_wp2_with fail
  refine (digits_any w HU.out.rd hl100 hln).mono ?_
  rintro e w' ⟨rfl, rfl⟩
  rw [show catL decB [] l = keyL l from rfl]
  generalize keyL l = K at *
  go_wp2_with (at_builtin; go_loud (refine wpList_pushK _ rfl _ _ 44 32 rfl elInt64SS rfl (HB1.out.below bA (Nat.le_refl _)) rfl news1 rfl hvl (by decide) (by omega) (by simp) ?_; intro v1 w3 hB3 hg3 hown3 hkp3; have hT3 : TchP (fun q => (Value.slice av nv cv).ownBlock = some q) w1 w3 := (TchP.of_below (bA (w := w1)) _).then (TchP.grown hg3 (fun k hk => hk)) (fun _ _ h => h); have HB3 := Lib.hid hB3; have HKP3 : Hid (KeepC (Value.slice av nv cv) vs.length (w1.alloc (.cells #[.slice ua l.length uc] 32)) w3) := hkp3; have HO3 : Hid (v1.ownBlock = (Value.slice av nv cv).ownBlock ∨ v1.ownBlock = some (w1.alloc (.cells #[.slice ua l.length uc] 32)).heap.size) := hown3; have k2 := (hT3.cell (i := 0) (b := ba) (by omega) D5.out).trans k0; have k3 := (hT3.frozen (i := 0) (b := ba) (by omega) D5.out).trans k1; obtain ⟨a1, n1, q1, rfl⟩ := ex_slice (hB3.fr (by simp; unfold capMax; omega)); clear hB3 hg3 hown3 hkp3 c1 k0 k1))
  go_end0
  have hT1 : TchP (fun q => q = ba ∨ q = mb ∨ (Value.slice av nv cv).ownBlock = some q) w w1 := TchP.grown HG1.out (fun k hk => .inr (.inl (by cases hk; rfl)))
  have hT4 : TchP (fun q => q = ba ∨ q = mb ∨ (Value.slice av nv cv).ownBlock = some q) w (w3.setCell ⟨ba, 0, none⟩ (.slice a1 n1 q1)) := (hT1.then hT3 (fun _ _ h => .inr (.inr h))).then (TchP.set (O := fun q => q = ba) rfl) (fun _ _ h => .inl h)
  have hz : (w1.alloc (.cells #[.slice ua l.length uc] 32)).heap.size = w1.heap.size + 1 := by simp
  have hO := HO3.out
  rw [hz] at hO
  have hown : (Value.slice a1 n1 q1).ownBlock = (Value.slice av nv cv).ownBlock ∨ ∃ q, (Value.slice a1 n1 q1).ownBlock = some q ∧ w.heap.size ≤ q := by
   rcases hO with h | h
   ·exact .inl h
   ·exact .inr ⟨_, h, by have := HZ1.out; omega⟩
  refine ⟨rfl, .slice a1 n1 q1, vs ++ [.slice ua l.length uc], ?_, List.prefix_append _ _, ⟨hT4, fun g j hg h1 h2 hj => ?_⟩, hown⟩
  ·rw [adL_no HM.out]
   refine H.out.add HU.out HL.out hT4 (World.cell?_setCell_same _ _ _ k2) ((World.frozen?_setCell _ _ _ _).trans k3) ⟨K :: Ks, n + 1, HS4.out.block ((Below.heap_setCell _ _ _ _ (by simpa using d3.symm)).trans (hT3.block mb b3' D6.out)), by have := HS2.out; omega, HKS.out⟩ ?_ hown
   ·refine bl_val_same HB3.out (fun b hb => Below.heap_setCell _ _ _ _ (fun e => ?_)) (by rw [size_set]; exact Nat.le_refl _)
    have e' : b = ba := by simpa using e
    subst e'
    rcases hO with h | h
    ·exact D5.out (h.symm.trans hb)
    ·rw [h] at hb; cases hb; omega
  ·have hg1 : g < w1.heap.size := by have := HZ1.out; omega
   refine (World.cell?_setCell_other _ _ _ _ (by intro e; simp only [Addr.mk.injEq] at e; exact h1 e.1.symm)).trans ((HKP3.out g j (by rw [hz]; omega) hj).trans ((cellB (bA (w := w1)) hg1).trans ?_))
   exact World.cell?_of_block (a := ⟨g, j, none⟩) (HG1.out.block g hg (fun e => h2 (by simpa using e)))
end Go.Proofs.YtggelmbnliajeaaDoor
