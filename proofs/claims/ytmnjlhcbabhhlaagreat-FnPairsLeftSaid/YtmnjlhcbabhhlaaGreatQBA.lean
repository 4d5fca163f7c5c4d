/-
Contracts: whether a pair is left, the reference's.
Contracts: a pair relation narrowed in place, the reference's.
-/
import Derived.Test.YtmnjlhcbabhhlaaGreatQAG
import Derived.Test.YtmnjlhcbabhhlaaGreatQAJ
import Derived.Test.YtmnjlhcbabhhlaaGreatQAD
namespace Go.Proofs.YtmnjlhcbabhhlaaGreat
open Go.RowKit Go.Sort
theorem idx_px {i j : Nat} : (j : Int) * ((j : Int) - 1) / 2 + (i : Int) = ((pxN i j : Nat) : Int) := by
 have h1 : ((j : Int)) * ((j : Int) - 1) / 2 = ((j * (j - 1) / 2 : Nat) : Int) := by
  cases j with
  | zero => omega
  | succ j =>
   simp only [Nat.add_sub_cancel]
   rw [show ((j + 1 : Nat) : Int) - 1 = (j : Int) by omega]
   omega
 unfold pxN
 rw [h1]
 omega
theorem PR.pt {ok : Nat → Prop} {w : World} {b o q : Nat} {P : Rels} (h : PR ok w b o P) (hq : q < P.length) : relT.Pt w (.pointer (some ⟨b, o + q * 2, none⟩)) P[q] := by
 obtain ⟨v, h1, h2, h3, h4⟩ := h.2.2 q hq
 refine ⟨b, o + q * 2, [.int .i64 (P[q]).1, v], rfl, h.1, pair_mk h2 h1.rd, fun j hj => ?_⟩
 match j, hj with
 | 0, _ => exact h3
 | 1, _ => exact h4
set_option maxHeartbeats 1600000 in
set_option maxRecDepth 100000 in
theorem l05Left_any {ok : Nat → Prop} (w : World) {b o m c n : Nat} {P : Rels} {s : Int} (h : PR ok w b o P) (hm : P.length = m) (hok : RlOk s n P) (hn : n ≤ 100) (i j : Nat) (hij : i ≠ j) (hi : i < n) (hj : j < n) {a e0 : Int} (ha : I64 a) (hb : I64 e0) :
  Calls Tryz.prog 89 #[.slice (some ⟨b, o, none⟩) m c, .int .i64 (i : Int), .int .i64 (j : Int), .int .i64 a, .int .i64 e0] w fun e w' => e = .returned (.bool (prL P i j a e0)) ∧ Below w.heap.size w w' := by
 have H := Lib.hid h
 rcases Nat.lt_or_ge j i with hlt | hge
 ·have hq := hok.at hlt hi
  have HE : Hid (prL P i j a e0 = tb ([e0, a] ∈ (P[pxN j i]).2)) := by unfold Hid; rw [prL_gt hlt, prR_at hq]
  have HQ := Lib.hid hq
  rw [hm] at hq
  have hpx := idx_px (i := j) (j := i)
  have hd : decide ((j : Int) < (i : Int)) = true := by simp; omega
  clear h hok hm
  go_enter Tryz.func89, Tryz.ntmps89
  go_wp2_with fail
  refine (l05Index_any (j : Int) (i : Int) w (by omega) (by omega) (by omega) (by omega)).mono ?_
  rintro e _ ⟨rfl, rfl⟩
  rw [hpx]
  clear hpx
  go_wp2_with fail
  generalize hW : World.alloc w _ = W
  have hbW : Below w.heap.size w W := hW ▸ bA
  have HV : Hid (intsT.Rd W [.slice (some ⟨w.heap.size, 0, none⟩) 2 2] [e0, a]) := by unfold Hid; rw [← hW]; exact (fr_ints2 hb ha rfl (Nat.le_refl _)).rd
  clear hW
  refine (l01Has_quiet W ((H.out.below hbW).pt HQ.out) HV.out).mono ?_
  rintro e w2 ⟨rfl, hq2⟩
  go_wp2_with fail
  go_ret
  exact ⟨ret_bool HE.out.symm, bthen hbW hq2.below⟩
 ·have hlt : i < j := by omega
  have hq := hok.at hlt hj
  have HE : Hid (prL P i j a e0 = tb ([a, e0] ∈ (P[pxN i j]).2)) := by unfold Hid; rw [prL_le (by omega), prR_at hq]
  have HQ := Lib.hid hq
  rw [hm] at hq
  have hpx := idx_px (i := i) (j := j)
  have hd : decide ((j : Int) < (i : Int)) = false := by simp; omega
  clear h hok hm
  go_enter Tryz.func89, Tryz.ntmps89
  go_wp2_with fail
  refine (l05Index_any (i : Int) (j : Int) w (by omega) (by omega) (by omega) (by omega)).mono ?_
  rintro e _ ⟨rfl, rfl⟩
  rw [hpx]
  clear hpx
  go_wp2_with fail
  generalize hW : World.alloc w _ = W
  have hbW : Below w.heap.size w W := hW ▸ bA
  have HV : Hid (intsT.Rd W [.slice (some ⟨w.heap.size, 0, none⟩) 2 2] [a, e0]) := by unfold Hid; rw [← hW]; exact (fr_ints2 ha hb rfl (Nat.le_refl _)).rd
  clear hW
  refine (l01Has_quiet W ((H.out.below hbW).pt HQ.out) HV.out).mono ?_
  rintro e w2 ⟨rfl, hq2⟩
  go_wp2_with fail
  go_ret
  exact ⟨ret_bool HE.out.symm, bthen hbW hq2.below⟩
end Go.Proofs.YtmnjlhcbabhhlaaGreat
namespace Go.Proofs.YtmnjlhcbabhhlaaGreat
open Go.RowKit Go.Sort
theorem ftake_no {α : Type} {L : List α} {p : α → Bool} {q : Nat} (hq : q < L.length) (h : p L[q] = false) : (L.take (q + 1)).filter p = (L.take q).filter p := by
 rw [← List.take_append_getElem hq, List.filter_append]
 simp [h]
theorem ftake_yes {α : Type} {L : List α} {p : α → Bool} {q : Nat} (hq : q < L.length) (h : p L[q] = true) : (L.take (q + 1)).filter p = (L.take q).filter p ++ [L[q]] := by
 rw [← List.take_append_getElem hq, List.filter_append]
 simp [h]
theorem rows_snoc {ok : Nat → Prop} {w : World} {vs : List Value} {u : Value} {L L' : List (List Int)} {l : List Int} (hl : vs.length = L.length) (hr : ∀ p (h : p < vs.length) (h' : p < L.length), intsT.RdP ok w [vs[p]] L[p]) (hu : intsT.RdP ok w [u] l) (e : L' = L ++ [l]) : (vs ++ [u]).length = L'.length ∧ ∀ p (h : p < (vs ++ [u]).length) (h' : p < L'.length), intsT.RdP ok w [(vs ++ [u])[p]] L'[p] := by
 subst e
 refine ⟨by simp [hl], fun p h h' => ?_⟩
 rcases Nat.lt_or_ge p vs.length with hlt | hge
 ·rw [List.getElem_append_left hlt, List.getElem_append_left (by omega)]
  exact hr p hlt (by omega)
 ·obtain rfl : p = vs.length := by simp at h; omega
  simp only [List.getElem_concat_length, hl]
  exact hu
set_option maxHeartbeats 3200000 in
set_option maxRecDepth 100000 in
theorem l05Through_any {ok : Nat → Prop} (w : World) (hnew : ∀ q, w.heap.size ≤ q → ok q) {b o m c n : Nat} {P : Rels} {s : Int} (h : PR ok w b o P) (hm : P.length = m) (hok : RlOk s n P) (hs : 1 ≤ s ∧ s ≤ 4) (hn : n ≤ 100) {i j k : Nat} (hij : i < j) (hj : j < n) (hk : k < n) (hki : k ≠ i) (hkj : k ≠ j) :
  Calls Tryz.prog 53 #[.int .i64 s, .slice (some ⟨b, o, none⟩) m c, .int .i64 (i : Int), .int .i64 (j : Int), .int .i64 (k : Int)] w fun e w' => e = .returned (.bool (nwB s P i j k)) ∧ PR ok w' b o (nwV s P i j k) ∧ TchP (fun q => q = b) w w' := by
 have H := Lib.hid h
 have HM := Lib.hid hm
 have HOK := Lib.hid hok
 have hblt := h.1
 have hqP := hok.at hij hj
 have hqm := hqP
 rw [hm] at hqm
 have hpx := idx_px (i := i) (j := j)
 obtain ⟨v, h1, -, h3, h4⟩ := h.2.2 _ hqP
 have HR2 : Hid ((P[pxN i j]).2 = prR P i j) := (prR_at hqP).symm
 rw [HR2.out] at h1
 obtain ⟨ra, rc, rfl⟩ := rdp_val h1
 have HROW := Lib.hid h1
 have hrk := hok.2 _ (List.getElem_mem hqP)
 have HLEN : Hid (∀ l ∈ prR P i j, l.length = 2) := fun l hl => by
  rw [← HR2.out] at hl
  obtain ⟨p, hp, rfl⟩ := List.mem_iff_getElem.1 hl
  have := (hrk.1.2.2 p hp).1.1
  rw [hrk.2] at this
  omega
 clear hrk
 have HQ := Lib.hid hqP
 have hl16 : (prR P i j).length ≤ 1000000 := by
  have := (rel_bd (hok.2 _ (List.getElem_mem hqP)).1).1
  rw [prR_at hqP]
  omega
 clear HR2
 clear h hok hm h1 h3 hqP
 go_enter Tryz.func53, Tryz.ntmps53
 go_wp2_with fail
 refine (l05Index_any (i : Int) (j : Int) w (by omega) (by omega) (by omega) (by omega)).mono ?_
 rintro e _ ⟨rfl, rfl⟩
 rw [hpx]
 go_wp2_with fail
 generalize hW : World.alloc w _ = W
 have hbW : Below w.heap.size w W := hW ▸ bA
 have r0 : W.cell? ⟨w.heap.size, 0, none⟩ = some (.int .i64 2) := by rw [← hW]; simp
 have r1 : W.cell? ⟨w.heap.size, 1, none⟩ = some (.slice none 0 0) := by rw [← hW]; simp
 have m1 : W.frozen? ⟨w.heap.size, 1, none⟩ = false := by rw [← hW]; simp
 have hsW : w.heap.size + 1 ≤ W.heap.size := by rw [← hW]; simp
 clear hW
 go_loopw [13] (fun i' wr => ∃ (q : Nat) (v : Value) (vs : List Value), q ≤ (prR P i j).length ∧ i' = .int .i64 q ∧ Bl Ty.val 50 (w.heap.size + 1) wr.heap.size wr v vs ∧ vs.length = (((prR P i j).take q).filter (prT s P i j k)).length ∧ (∀ p (h : p < vs.length) (h' : p < (((prR P i j).take q).filter (prT s P i j k)).length), intsT.RdP (fun z => z ≠ b ∧ ok z) w [vs[p]] (((prR P i j).take q).filter (prT s P i j k))[p]) ∧ wr.cell? ⟨w.heap.size, 1, none⟩ = some v ∧ wr.cell? ⟨w.heap.size, 0, none⟩ = some (.int .i64 2) ∧ wr.frozen? ⟨w.heap.size, 1, none⟩ = false ∧ Below w.heap.size w wr ∧ w.heap.size + 1 ≤ wr.heap.size) (fun i' _ => (prR P i j).length - (intOf i').toNat)
 case atStart => exact ⟨0, _, [], Nat.zero_le _, rfl, Bl.nil, by simp, fun p hp => by simp at hp, r1, r0, m1, hbW, hsW⟩
 case round =>
  obtain ⟨q, v, vs, hq, rfl, hBv, hvl, hvr, z1, z0, zn, hbe, hse⟩ := hrel
  obtain ⟨wa, rfl⟩ : ∃ wa : World, wa = wr := ⟨_, rfl⟩
  have HBV := Lib.hid hBv
  have HVL := Lib.hid hvl
  have HVR := Lib.hid hvr
  have HPa := Lib.hid (H.out.below hbe)
  have d4 := (cellB hbe hblt).trans h4
  clear hBv hvl hvr r0 r1 m1
  by_cases hql : q < (prR P i j).length
  ·obtain ⟨ra', rc', hrv, -, -, hre⟩ := slice_exP HROW.out
   simp only [List.cons.injEq, Value.slice.injEq, and_true] at hrv
   obtain ⟨rfl, -, rfl⟩ := hrv
   obtain ⟨rb, ro, rfl, hrb, -, hre⟩ := hre (by omega)
   obtain ⟨us, hu1, hu2⟩ := hre q hql
   obtain ⟨ua, uc, rfl, -, -, -⟩ := Ty.slice_ex hu1.rd
   obtain ⟨ua', uc', huv, -, -, hue⟩ := ints_ex hu1.rd
   simp only [List.cons.injEq, Value.slice.injEq, and_true] at huv
   obtain ⟨rfl, -, rfl⟩ := huv
   have hl2 := HLEN.out _ (List.getElem_mem hql)
   have d5 : wa.cell? ⟨rb, ro + q, none⟩ = some (.slice ua ((prR P i j)[q]).length uc) := (cellB hbe hrb).trans (by simpa [Ty.slice, Ty.int] using hu2 0 (by simp))
   have HU := Lib.hid hu1
   obtain ⟨la, lo, rfl, hla, hce⟩ := hue (by omega)
   obtain ⟨l, hl⟩ : ∃ l, (prR P i j)[q] = l := ⟨_, rfl⟩
   have HLQ := Lib.hid hl
   simp only [hl] at hce hl2 d5 HU
   obtain ⟨l0, l1, rfl⟩ : ∃ l0 l1, l = [l0, l1] := by
    match l, hl2 with
    | [l0, l1], _ => exact ⟨l0, l1, rfl⟩
   obtain ⟨hI0, e0⟩ := hce 0 (by simp)
   obtain ⟨hI1, e1⟩ := hce 1 (by simp)
   simp only [List.getElem_cons_zero, List.getElem_cons_succ, Nat.add_zero, List.length_cons, List.length_nil] at e0 e1 hI0 hI1 d5
   replace e0 := (cellB hbe hla).trans e0
   replace e1 := (cellB hbe hla).trans e1
   have HI0 := Lib.hid hI0
   have HI1 := Lib.hid hI1
   clear hre hu1 hu2 hue hl hce hl2 hI0 hI1
   obtain ⟨S, hS⟩ : ∃ S : Nat, s = (S : Int) := ⟨s.toNat, by omega⟩
   subst hS
   go_wp2_with fail
   go_loopw [15, 14] (fun cv fv wi => ∃ (cc : Nat) (f : Bool), cc ≤ S ∧ cv = .int .i64 cc ∧ fv = .bool f ∧ (f = true → prT (S : Int) P i j k [l0, l1] = true) ∧ (f = false → ∀ c' : Nat, c' < cc → (prL P i k l0 (c' : Int) && prL P k j (c' : Int) l1) = false) ∧ Below wa.heap.size wa wi) (fun x _ _ => S - (intOf x).toNat)
   case atStart => exact ⟨0, false, Nat.zero_le _, rfl, rfl, (fun h => by cases h), fun _ _ h => absurd h (Nat.not_lt_zero _), Below.refl _ _⟩
   case round =>
    obtain ⟨cc, f, hcc, rfl, rfl, hyes, hno, hbr⟩ := hrel
    obtain ⟨wv, rfl⟩ : ∃ wv : World, wv = wr := ⟨_, rfl⟩
    have hzv := hbr.size
    have HYES := Lib.hid hyes
    have HNO := Lib.hid hno
    clear hyes hno
    have hbv : Below w.heap.size w wv := hbe.trans (hbr.mono (by omega))
    have HVb := Lib.hid ((HBV.out.below hbr (Nat.le_refl _)).mono hzv)
    have HPv := Lib.hid (H.out.below hbv)
    have hla2 : la < wa.heap.size := by omega
    have hlb2 : b < wa.heap.size := by omega
    have hlr2 : rb < wa.heap.size := by omega
    have hl00 : w.heap.size < wa.heap.size := by omega
    replace e0 := (cellB hbr hla2).trans e0
    replace e1 := (cellB hbr hla2).trans e1
    replace d4 := (cellB hbr hlb2).trans d4
    replace d5 := (cellB hbr hlr2).trans d5
    replace z0 := (cellB hbr hl00).trans z0
    replace z1 := (cellB hbr hl00).trans z1
    replace zn := (frozenB hbr hl00).trans zn
    clear HBV HPa
    cases f
    ·by_cases hcl : cc < S
     ·have hIc : I64 (cc : Int) := I64.small (by omega) (by omega)
      have HC := Lib.hid hIc
      clear hIc
      have hlv1 : la < wv.heap.size := by omega
      have hlv2 : b < wv.heap.size := by omega
      have hlv3 : rb < wv.heap.size := by omega
      go_wp2_with fail
      refine (l05Left_any wv HPv.out HM.out HOK.out hn i k (by omega) (by omega) hk HI0.out HC.out).mono ?_
      rintro e x1 ⟨rfl, hb1⟩
      have hz1 := hb1.size
      have HP1 := Lib.hid (HPv.out.below hb1)
      have hbr1 := bthen hbr hb1
      replace d4 := (cellB hb1 (by omega)).trans d4
      replace d5 := (cellB hb1 (by omega)).trans d5
      replace e0 := (cellB hb1 (by omega)).trans e0
      replace e1 := (cellB hb1 (by omega)).trans e1
      clear HPv hb1
      cases hp1 : prL P i k l0 (cc : Int)
      ·have HN1 : Hid (∀ c' : Nat, c' < cc + 1 → (prL P i k l0 (c' : Int) && prL P k j (c' : Int) l1) = false) := fun c' hc' => by
        by_cases e : c' = cc
        ·subst e; rw [hp1]; rfl
        ·exact HNO.out (by first | rfl | trivial) c' (by omega)
       go_wp2_with fail
       go_roundw
       case rel => exact ⟨cc + 1, false, by omega, by go_num, rfl, (fun h => by cases h), fun _ => HN1.out, hbr1⟩
       case measure => simp [intOf]; omega
      ·go_wp2_with fail
       refine (l05Left_any x1 HP1.out HM.out HOK.out hn k j hkj hk hj HC.out HI1.out).mono ?_
       rintro e x2 ⟨rfl, hb2⟩
       have hbr2 := bthen hbr1 hb2
       clear hb2
       cases hp2 : prL P k j (cc : Int) l1
       ·have HN1 : Hid (∀ c' : Nat, c' < cc + 1 → (prL P i k l0 (c' : Int) && prL P k j (c' : Int) l1) = false) := fun c' hc' => by
         by_cases e : c' = cc
         ·subst e; rw [hp2, Bool.and_false]
         ·exact HNO.out (by first | rfl | trivial) c' (by omega)
        go_wp2_with fail
        go_roundw
        case rel => exact ⟨cc + 1, false, by omega, by go_num, rfl, (fun h => by cases h), fun _ => HN1.out, hbr2⟩
        case measure => simp [intOf]; omega
       ·have HY1 : Hid (prT (S : Int) P i j k [l0, l1] = true) := prT_yes (c := cc) (by omega) (by
         show (prL P i k l0 (cc : Int) && prL P k j (cc : Int) l1) = true
         rw [hp1, hp2]; rfl)
        go_wp2_with fail
        go_roundw
        case rel => exact ⟨cc + 1, true, by omega, by go_num, rfl, fun _ => HY1.out, (fun h => by cases h), hbr2⟩
        case measure => simp [intOf]; omega
     ·obtain rfl : cc = S := by omega
      have HF : Hid (((prR P i j).take (q + 1)).filter (prT (cc : Int) P i j k) = ((prR P i j).take q).filter (prT (cc : Int) P i j k)) := ftake_no hql (by rw [HLQ.out]; exact prT_no (fun c' hc' => HNO.out rfl c' (by omega)))
      go_wp2_with fail
      go_roundw
      case rel => exact ⟨q + 1, _, vs, by omega, by go_num, HVb.out, by rw [HF.out]; exact HVL.out, by rw [HF.out]; exact HVR.out, z1, z0, zn, hbv, by omega⟩
      case measure => simp [intOf]; omega
    ·have HF : Hid (((prR P i j).take (q + 1)).filter (prT (S : Int) P i j k) = ((prR P i j).take q).filter (prT (S : Int) P i j k) ++ [[l0, l1]]) := by unfold Hid; rw [ftake_yes hql (by rw [HLQ.out]; exact HYES.out rfl), HLQ.out]
     have hvn : vs.length ≤ 1000000 := by rw [HVL.out]; exact Nat.le_trans (List.length_filter_le _ _) (by rw [List.length_take]; omega)
     obtain ⟨va, vn, vc, rfl⟩ := ex_slice (HVb.out.fr (by unfold capMax; omega))
     have hlw1 : w.heap.size < wv.heap.size := by omega
     rcases Nat.lt_or_ge cc S with hcl | hcl
     all_goals
      go_wp2_with fail
      refine wp_region_T (fun w' => w'.cell? ⟨w.heap.size, 1, none⟩ = some (.slice va vn vc) ∧ w'.cell? ⟨b, o + pxN i j * 2 + 1, none⟩ = some (.slice (some ⟨rb, ro, none⟩) (prR P i j).length rc) ∧ w'.cell? ⟨rb, ro + q, none⟩ = some (.slice (some ⟨la, lo, none⟩) 2 uc)) [10] (by kernel_rfl) ⟨z1, d4, d5⟩ (fun hHeld => ?_)
      refine wpAnyT_take (i := 0) (v := ?_) rfl (by as_aux_lemma => kernel_rfl) (fun _ _ _ h => h) (Or.inl ⟨by rfl, ?_⟩) (by assumption) ?_
      rotate_left
      ·(intro w hSw; (try dsimp only at hSw); go_simp <;> with_reducible rfl)
      go_simp
      refine wpAnyT_take (i := 1) (v := ?_) rfl (by as_aux_lemma => kernel_rfl) (fun _ _ _ h => h) (Or.inl ⟨by rfl, ?_⟩) (by assumption) ?_
      rotate_left
      ·(intro w hSw; (try dsimp only at hSw); go_simp <;> with_reducible rfl)
      go_simp
      refine wpAnyT_take (i := 2) (v := ?_) rfl (by as_aux_lemma => kernel_rfl) (fun _ _ _ h => h) (Or.inl ⟨by rfl, ?_⟩) (by assumption) ?_
      rotate_left
      ·(intro w hSw; (try dsimp only at hSw); go_simp <;> with_reducible rfl)
      go_simp
      refine wpAnyT_take (i := 3) (v := ?_) rfl (by as_aux_lemma => kernel_rfl) (fun _ _ _ h => h) (Or.inl ⟨by rfl, ?_⟩) (by assumption) ?_
      rotate_left
      ·(intro w hSw; (try dsimp only at hSw); go_simp <;> with_reducible rfl)
      go_simp
      refine wpAnyT_take (i := 4) (v := ?_) rfl (by as_aux_lemma => kernel_rfl) (fun _ _ _ h => h) (Or.inl ⟨by rfl, ?_⟩) (by assumption) ?_
      rotate_left
      ·(intro w hSw; (try dsimp only at hSw); go_simp <;> with_reducible rfl)
      go_simp
      refine wpAnyT_take (i := 5) (v := ?_) rfl (by as_aux_lemma => kernel_rfl) (fun _ _ _ h => h) (Or.inl ⟨by rfl, ?_⟩) (by assumption) ?_
      rotate_left
      ·(intro w hSw; (try dsimp only at hSw); go_simp <;> with_reducible rfl)
      go_simp
      refine wpAnyT_take (i := 6) (v := ?_) rfl (by as_aux_lemma => kernel_rfl) (fun _ _ _ h => h) (Or.inl ⟨by rfl, ?_⟩) (by assumption) ?_
      rotate_left
      ·(intro w hSw; (try dsimp only at hSw); go_simp <;> with_reducible rfl)
      go_simp
      refine wpAnyT_take (i := 7) (v := ?_) rfl (by as_aux_lemma => kernel_rfl) (fun _ _ _ h => h) (Or.inl ⟨by rfl, ?_⟩) (by assumption) ?_
      rotate_left
      ·(intro w hSw; (try dsimp only at hSw); go_simp <;> with_reducible rfl)
      go_simp
      refine wpAnyT_take (i := 8) (v := ?_) rfl (by as_aux_lemma => kernel_rfl) (fun _ _ _ h => h) (Or.inl ⟨by rfl, ?_⟩) (by assumption) ?_
      rotate_left
      ·(intro w hSw; (try dsimp only at hSw); go_simp <;> with_reducible rfl)
      go_simp
      refine wpAnyT_one (i := 9) rfl (by kernel_rfl) (fun K hK => ?_)
      go_simp
      refine hK.out _ _ ⟨by go_keep, by go_keep, by go_keep⟩ (fun hHeld => ?_)
      clear hK K
      refine wpAnyT_last (i := 10) rfl (by kernel_rfl) (by kernel_rfl) (fun K hK => ?_)
      have hbX : ∀ ob : Obj, Below wv.heap.size wv (wv.drew.alloc ob) := fun ob => (bD (w := wv)).alloc (by simp) ob
      refine step_push (E := Ty.val) _ rfl _ _ 41 50 rfl elInt64SS rfl (HVb.out.below (hbX _) (Nat.le_refl _)) rfl news1 (fr_val rfl) (by omega) (by decide) (by omega) (by first | (simp; done) | (simp; omega)) ?_
      intro v5 w5 hB5 hg5 hown5
      obtain ⟨va5, vn5, vc5, rfl⟩ := ex_slice (hB5.fr (by rw [List.length_append]; unfold capMax; simp; omega))
      have hb5 : Below (w.heap.size + 1) wv w5 := ((hbX _).mono (by omega)).grown hg5 (by first | (simp; done) | (simp; omega)) (fun q hq => HVb.out.own hq)
      have hz5 := hb5.size
      have HB5 := Lib.hid hB5
      have HRW := Lib.hid (rows_snoc HVL.out HVR.out HU.out HF.out)
      replace z0 := (cellB hb5 (by omega)).trans z0
      replace z1 := (cellB hb5 (by omega)).trans z1
      replace zn := (frozenB hb5 (by omega)).trans zn
      have hbw5 : Below w.heap.size w w5 := hbv.trans (hb5.mono (by omega))
      clear hB5 hg5 hown5
      refine hK.out _ _ ?_
      clear hK K
      refine wpAnyT_any (i := 11) (v := ?_) rfl (by kernel_rfl) (fun _ _ _ h => h) (Or.inl ⟨by rfl, ?_⟩) (by first | exact fun _ => by assumption | (intro hp; exact absurd hp (by rw [show pastB _ _ = true by kernel_rfl]; simp))) ?_
      rotate_left
      ·(intro w hSw; (try dsimp only at hSw); go_simp <;> with_reducible rfl)
      try simp only [Act.put]
      refine wpAnyT_last (i := 12) rfl (by kernel_rfl) (by kernel_rfl) (fun K hK => ?_)
      go_simp
      refine hK.out _ _ ?_
      clear hK K
      refine wpAnyT_done (by kernel_rfl) ?_ _
      go_simp
      go_wp2_with fail
      go_roundw
      case rel => exact ⟨q + 1, _, vs ++ [.slice (some ⟨la, lo, none⟩) 2 uc], by omega, by go_num, by rw [size_set]; exact HB5.out.sameB (fun q h1 h2 => Below.heap_setCell _ _ _ _ (by simp; omega)), HRW.out.1, HRW.out.2, World.cell?_setCell_same _ _ _ z1, (World.cell?_setCell_other _ _ _ _ (by simp)).trans z0, (World.frozen?_setCell _ _ _ _).trans zn, hbw5.trans ((TchP.set (O := fun q => q = w.heap.size) rfl).below (by omega) (fun k hk e => by omega)), by rw [size_set]; omega⟩
      case measure => simp [intOf]; omega
  ·obtain rfl : q = (prR P i j).length := by omega
   have hvl2 : vs.length = (nwR s P i j k).length := by have := HVL.out; rw [List.take_length] at this; exact this
   have HVR2 : Hid (∀ p (h : p < vs.length) (h' : p < (nwR s P i j k).length), intsT.RdP (fun z => z ≠ b ∧ ok z) w [vs[p]] (nwR s P i j k)[p]) := fun p h h' => by
    have := HVR.out p h (by rw [List.take_length]; exact h')
    simp only [List.take_length] at this
    exact this
   have hnl : (nwR s P i j k).length ≤ (prR P i j).length := nw_len
   obtain ⟨va, vc, rfl⟩ := fr_slice (HBV.out.fr (by unfold capMax; omega))
   have HVL2 := Lib.hid hvl2
   rw [hvl2] at z1
   have hlb : b < wa.heap.size := by omega
   have hl0 : w.heap.size < wa.heap.size := by omega
   clear hvl2 HVL HVR
   go_wp2_with fail
   refine wp_region_T (fun w' => w'.cell? ⟨w.heap.size, 1, none⟩ = some (.slice va (nwR s P i j k).length vc) ∧ w'.cell? ⟨b, o + pxN i j * 2 + 1, none⟩ = some (.slice ra (prR P i j).length rc)) [] (by kernel_rfl) ⟨z1, d4⟩ (fun hHeld => ?_)
   refine wpAnyT_take (i := 0) (v := ?_) rfl (by as_aux_lemma => kernel_rfl) (fun _ _ _ h => h) (Or.inl ⟨by rfl, ?_⟩) (by assumption) ?_
   rotate_left
   ·(intro w hSw; (try dsimp only at hSw); go_simp <;> with_reducible rfl)
   go_simp
   refine wpAnyT_take (i := 1) (v := ?_) rfl (by as_aux_lemma => kernel_rfl) (fun _ _ _ h => h) (Or.inl ⟨by rfl, ?_⟩) (by assumption) ?_
   rotate_left
   ·(intro w hSw; (try dsimp only at hSw); go_simp <;> with_reducible rfl)
   go_simp
   refine wpAnyT_take (i := 2) (v := ?_) rfl (by as_aux_lemma => kernel_rfl) (fun _ _ _ h => h) (Or.inl ⟨by rfl, ?_⟩) (by assumption) ?_
   rotate_left
   ·(intro w hSw; (try dsimp only at hSw); go_simp <;> with_reducible rfl)
   go_simp
   refine wpAnyT_take (i := 3) (v := ?_) rfl (by as_aux_lemma => kernel_rfl) (fun _ _ _ h => h) (Or.inl ⟨by rfl, ?_⟩) (by assumption) ?_
   rotate_left
   ·(intro w hSw; (try dsimp only at hSw); go_simp <;> with_reducible rfl)
   go_simp
   refine wpAnyT_take (i := 4) (v := ?_) rfl (by as_aux_lemma => kernel_rfl) (fun _ _ _ h => h) (Or.inl ⟨by rfl, ?_⟩) (by assumption) ?_
   rotate_left
   ·(intro w hSw; (try dsimp only at hSw); go_simp <;> with_reducible rfl)
   go_simp
   refine wpAnyT_take (i := 5) (v := ?_) rfl (by as_aux_lemma => kernel_rfl) (fun _ _ _ h => h) (Or.inl ⟨by rfl, ?_⟩) (by assumption) ?_
   rotate_left
   ·(intro w hSw; (try dsimp only at hSw); go_simp <;> with_reducible rfl)
   go_simp
   refine wpAnyT_take (i := 6) (v := ?_) rfl (by as_aux_lemma => kernel_rfl) (fun _ _ _ h => h) (Or.inl ⟨by rfl, ?_⟩) (by assumption) ?_
   rotate_left
   ·(intro w hSw; (try dsimp only at hSw); go_simp <;> with_reducible rfl)
   go_simp
   refine wpAnyT_take (i := 7) (v := ?_) rfl (by as_aux_lemma => kernel_rfl) (fun _ _ _ h => h) (Or.inl ⟨by rfl, ?_⟩) (by assumption) ?_
   rotate_left
   ·(intro w hSw; (try dsimp only at hSw); go_simp <;> with_reducible rfl)
   go_simp
   refine wpAnyT_take (i := 8) (v := ?_) rfl (by as_aux_lemma => kernel_rfl) (fun _ _ _ h => h) (Or.inl ⟨by rfl, ?_⟩) (by assumption) ?_
   rotate_left
   ·(intro w hSw; (try dsimp only at hSw); go_simp <;> with_reducible rfl)
   go_simp
   refine wpAnyT_take (i := 9) (v := ?_) rfl (by as_aux_lemma => kernel_rfl) (fun _ _ _ h => h) (Or.inl ⟨by rfl, ?_⟩) (by assumption) ?_
   rotate_left
   ·(intro w hSw; (try dsimp only at hSw); go_simp <;> with_reducible rfl)
   go_simp
   refine wpAnyT_done (by kernel_rfl) ?_ _
   go_simp
   have hv0 : Below wa.heap.size wa wa.drew := bD
   have H5 := Lib.hid (HPa.out.below hv0)
   have HB5 := Lib.hid ((HBV.out.below hv0 (Nat.le_refl _)).mono hv0.size)
   have hbw5 : Below w.heap.size w wa.drew := bthen hbe hv0
   replace z0 := (cellB hv0 (by omega)).trans z0
   replace z1 := (cellB hv0 (by omega)).trans z1
   replace d4 := (cellB hv0 (by omega)).trans d4
   clear HBV HPa hHeld
   generalize wa.drew = w5 at *
   go_wp2_with fail
   refine wp_region_T (fun w' => w'.cell? ⟨w.heap.size, 0, none⟩ = some (.int .i64 2) ∧ w'.cell? ⟨w.heap.size, 1, none⟩ = some (.slice va (nwR s P i j k).length vc)) [6] (by kernel_rfl) ⟨z0, z1⟩ (fun hHeld => ?_)
   refine wpAnyT_take (i := 0) (v := ?_) rfl (by as_aux_lemma => kernel_rfl) (fun _ _ _ h => h) (Or.inl ⟨by rfl, ?_⟩) (by assumption) ?_
   rotate_left
   ·(intro w hSw; (try dsimp only at hSw); go_simp <;> with_reducible rfl)
   go_simp
   refine wpAnyT_take (i := 1) (v := ?_) rfl (by as_aux_lemma => kernel_rfl) (fun _ _ _ h => h) (Or.inl ⟨by rfl, ?_⟩) (by assumption) ?_
   rotate_left
   ·(intro w hSw; (try dsimp only at hSw); go_simp <;> with_reducible rfl)
   go_simp
   refine wpAnyT_take (i := 2) (v := ?_) rfl (by as_aux_lemma => kernel_rfl) (fun _ _ _ h => h) (Or.inl ⟨by rfl, ?_⟩) (by assumption) ?_
   rotate_left
   ·(intro w hSw; (try dsimp only at hSw); go_simp <;> with_reducible rfl)
   go_simp
   refine wpAnyT_take (i := 4) (v := ?_) rfl (by as_aux_lemma => kernel_rfl) (fun _ _ _ h => h) (Or.inl ⟨by rfl, ?_⟩) (by assumption) ?_
   rotate_left
   ·(intro w hSw; (try dsimp only at hSw); go_simp <;> with_reducible rfl)
   go_simp
   refine wpAnyT_one (i := 3) rfl (by kernel_rfl) (fun K hK => ?_)
   go_simp
   go_at_call 88
   refine (l05Index_any (i : Int) (j : Int) _ (by omega) (by omega) (by omega) (by omega)).mono ?_
   rintro e _ ⟨rfl, rfl⟩
   rw [hpx]
   dsimp only
   refine hK.out _ _ hHeld (fun hHeld => ?_)
   clear hK K
   refine wpAnyT_take (i := 5) (v := ?_) rfl (by as_aux_lemma => kernel_rfl) (fun _ _ _ h => h) (Or.inl ⟨by rfl, ?_⟩) (by assumption) ?_
   rotate_left
   ·(intro w hSw; (try dsimp only at hSw); go_simp <;> with_reducible rfl)
   go_simp
   refine wpAnyT_last (i := 6) rfl (by kernel_rfl) (by kernel_rfl) (fun K hK => ?_)
   have hfz := H5.out.2.1
   obtain ⟨_, -, -, h3, -⟩ := H5.out.2.2 _ HQ.out
   go_simp
   refine hK.out _ _ ?_
   clear hK K
   refine wpAnyT_done (by kernel_rfl) ?_ _
   go_simp
   go_wp2_with fail
   have HVV := Lib.hid (rows_ofP (E := intsT) (ok := fun z => z ≠ b ∧ ok z) rfl (bl_val_rdP HB5.out (by have := HVL2.out; unfold capMax; omega) (fun q hq => ⟨by have := HB5.out.own hq; omega, hnew q (by have := HB5.out.own hq; omega)⟩)) HVL2.out (fun p h1 h2 => (HVR2.out p h1 h2).below hbw5))
   have HV2 : Hid (rowsT.RdP (fun z => z ≠ b ∧ ok z) w5 [.slice va (nwR s P i j k).length vc] (nwR s P i j k)) := by
    have := HVV.out
    rw [HVL2.out] at this
    exact this
   go_ret
   refine ⟨rfl, ?_, ?_⟩
   ·exact (H5.out.set HQ.out HV2.out (I64.small (by omega) (by omega))).below bD
   ·exact (TchP.of_below hbw5 _).then ((tchP_cell2.then tchP_cell2 fun _ _ h => h).then (TchP.of_below bD _) fun _ _ h => h) fun _ _ h => h
theorem thrC : ThrC := fun ok w hnew _ b o m c n P s had h hm hok hs hn i j k hij hj hk hki hkj => by
 subst had
 exact l05Through_any w hnew h hm hok hs hn hij hj hk hki hkj
end Go.Proofs.YtmnjlhcbabhhlaaGreat
