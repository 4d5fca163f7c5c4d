/-
  Contracts: whether an operation breaks a relation, the reference's.
-/
import Derived.Test.YtigclobkmocfkaaK28
import Derived.Test.YtigclobkmocfkaaK17
namespace Go.Proofs.Ytigclobkmocfkaa
open Go.RowKit Go.Sort
theorem rel_len_le {s : Int} {r : Int × List (List Int)} (hr : relOk s r) : (r.2.length : Int) ≤ s ^ r.1.toNat ∧ s ^ r.1.toNat ≤ 256 := by
  have hs := hr.1
  have hm := hr.2.1
  unfold sizeOk at hs hm
  have hp : 0 ≤ s ^ r.1.toNat := pow_nn (by omega) _
  constructor
  · have hN : ((r.2.map fun x => (idxL s 0 x).toNat)).Nodup := by
      rw [List.Nodup, List.pairwise_map]
      refine List.Pairwise.imp_of_mem ?_ (sortedL_nodup (relOk_sorted hr))
      intro a b ha hb hab e
      obtain ⟨i, hi, rfl⟩ := List.mem_iff_getElem.1 ha
      obtain ⟨j, hj, rfl⟩ := List.mem_iff_getElem.1 hb
      obtain ⟨a1, a2⟩ := (hr.2.2 i hi).1
      obtain ⟨b1, b2⟩ := (hr.2.2 j hj).1
      have ha3 := idx_lt (m := r.1.toNat) hs.1 (by omega) a2
      have hb3 := idx_lt (m := r.1.toNat) hs.1 (by omega) b2
      exact hab (idxL_inj hs.1 r.1.toNat (by omega) (by omega) a2 b2 (by omega))
    have := nodup_lt_len (s ^ r.1.toNat).toNat _ hN fun x hx => by
      obtain ⟨y, hy, rfl⟩ := List.mem_map.1 hx
      obtain ⟨i, hi, rfl⟩ := List.mem_iff_getElem.1 hy
      obtain ⟨a1, a2⟩ := (hr.2.2 i hi).1
      have ha3 := idx_lt (m := r.1.toNat) hs.1 (by omega) a2
      omega
    rw [List.length_map] at this
    omega
  · refine Int.le_trans (pow_mono' (by omega) (show s ≤ 4 by omega) r.1.toNat) ?_
    rcases (show r.1.toNat = 1 ∨ r.1.toNat = 2 ∨ r.1.toNat = 3 ∨ r.1.toNat = 4 by omega) with e | e | e | e <;> rw [e] <;> decide
theorem rd_sl {α : Type} {E : Ty α} {w : World} {u : Value} {x : List α} (h : (Ty.slice E).Rd w [u] x) : ∃ ad n cap, u = .slice ad n cap := let ⟨a, c, h⟩ := rd_slice h; ⟨a, _, c, h⟩
/-- as far as k all are kept -/
def keptTo (s : Int) (f : Int × List Int) (r : Int × List (List Int)) (k : Nat) : Prop := ∀ i : Nat, i < k → makes s f r i ∈ r.2
theorem keptTo_zero {s : Int} {f : Int × List Int} {r : Int × List (List Int)} : keptTo s f r 0 := fun _ h => absurd h (Nat.not_lt_zero _)
theorem keptTo_succ {s : Int} {f : Int × List Int} {r : Int × List (List Int)} {k : Nat} (h : keptTo s f r k) (h' : makes s f r k ∈ r.2) : keptTo s f r (k + 1) := fun i hi => by
  by_cases e : i = k
  · subst e; exact h'
  · exact h i (by omega)
theorem keepsP_of {s : Int} {f : Int × List Int} {r : Int × List (List Int)} {M : Nat} (hM : (r.2.length : Int) ^ f.1.toNat = M) (h : keptTo s f r M) : keepsP s f r := fun i hi => h i (by rw [hM] at hi; omega)
theorem keepsP_not {s : Int} {f : Int × List Int} {r : Int × List (List Int)} {M k : Nat} (hM : (r.2.length : Int) ^ f.1.toNat = M) (hk : k < M) (h : ¬ makes s f r k ∈ r.2) : ¬ keepsP s f r := fun hh => h (hh k (by rw [hM]; omega))
/-- the slices that stand in a row read as the first tuples -/
def picked (w : World) (vs : List Value) (ts : List (List Int)) : Prop := vs.length ≤ ts.length ∧ ∀ i (h : i < vs.length) (h' : i < ts.length), intsT.Rd w [vs[i]] ts[i]
theorem picked_nil {w : World} {ts : List (List Int)} : picked w [] ts := ⟨Nat.zero_le _, fun i h => by simp at h⟩
theorem picked.below {w w' : World} {vs : List Value} {ts : List (List Int)} (h : picked w vs ts) (hb : Below w.heap.size w w') : picked w' vs ts := ⟨h.1, fun i h1 h2 => (h.2 i h1 h2).below hb⟩
theorem picked_snoc {w : World} {vs : List Value} {ts : List (List Int)} {u : Value} (h : picked w vs ts) (hl : vs.length < ts.length) (hu : intsT.Rd w [u] ts[vs.length]) : picked w (vs ++ [u]) ts := by
  refine ⟨by simp; omega, fun i h1 h2 => ?_⟩
  by_cases e : i = vs.length
  · subst e; simpa using hu
  · have hi : i < vs.length := by simp at h1; omega
    rw [List.getElem_append_left hi]
    exact h.2 i hi h2
theorem picks_get {ts : List (List Int)} {ar : Nat} {i : Int} {j dn : Nat} (hj : j < (digL ts.length i ar).length) (hd : (digL ts.length i ar)[j] = (dn : Int)) (hdn : dn < ts.length) (h : j < (picks ts ar i).length) : (picks ts ar i)[j] = ts[dn] := by
  simp only [picks, List.getElem_map, hd, Int.toNat_natCast, List.getD_eq_getElem?_getD, List.getElem?_eq_getElem hdn, Option.getD_some]
theorem mem_len_pos {α : Type} {xs : List α} {k : Nat} (h : k < xs.length) : 0 < xs.length := by omega
set_option maxHeartbeats 3200000 in
set_option maxRecDepth 100000 in
theorem l02Breaks_any (w : World) {fv rv : Value} {f : Int × List Int} {r : Int × List (List Int)} (hf : opT.Pt w fv f) (hr : relT.Pt w rv r) {s : Int} (h1 : relOk s r) (h2 : opOk s f) :
    Calls Try.prog 208 #[.int .i64 s, fv, rv] w fun e w' => ∃ a b, e = .returned (.tuple #[a, b, .bool (!tb (keepsP s f r))]) ∧ Below w.heap.size w w' := by
  have hf0 := hf
  have hr0 := hr
  obtain ⟨fb, fo, fad, fcap, rfl, hfb, -, fc0, -, -⟩ := pt_pair hf
  obtain ⟨rb, ro, rad, rcap, rfl, hrb, -, -, rc1, hx⟩ := pt_pair hr
  obtain ⟨_, _, e1, -, -, hcell⟩ := slices_ex hx
  simp only [List.cons.injEq, Value.slice.injEq, and_true, true_and] at e1
  obtain ⟨rfl, rfl⟩ := e1
  have hs := h1.1
  have ha := h2.2.1
  have hm := h1.2.1
  unfold sizeOk at hs hm
  obtain ⟨hln, hN256⟩ := rel_len_le h1
  obtain ⟨ar, har⟩ : ∃ ar : Nat, f.1 = ar := ⟨f.1.toNat, by omega⟩
  obtain ⟨N, hN⟩ : ∃ N : Nat, s ^ r.1.toNat = N := ⟨(s ^ r.1.toNat).toNat, by have := pow_nn (s := s) (by omega) r.1.toNat; omega⟩
  obtain ⟨M, hM⟩ : ∃ M : Nat, (r.2.length : Int) ^ f.1.toNat = M := ⟨((r.2.length : Int) ^ f.1.toNat).toNat, by have := pow_nn (s := (r.2.length : Int)) (by omega) f.1.toNat; omega⟩
  have hMle : (M : Int) ≤ 1000000000000000 := by rw [← hM]; exact pow_le (by omega) (by omega) (by omega)
  have har3 : 1 ≤ ar ∧ ar ≤ 3 := by omega
  have hln2 : r.2.length ≤ 256 := by omega
  have hl0 : M ≠ 0 → 0 < r.2.length := fun h => by
    rcases Nat.eq_zero_or_pos r.2.length with h0 | h0
    · rw [h0, show f.1.toNat = (f.1.toNat - 1) + 1 by omega, Int.pow_succ] at hM
      simp at hM
      omega
    · exact h0
  rw [har] at fc0
  have HM : Hid ((r.2.length : Int) ^ ((ar : Int)).toNat = M) := by unfold Hid; rw [← har]; exact hM
  have HM2 := Lib.hid hM
  have HN := Lib.hid hN
  have HR := Lib.hid h1
  have HF := Lib.hid h2
  have HAR := Lib.hid har
  have HC := Lib.hid hcell
  have HF0 := Lib.hid hf0
  have HR0 := Lib.hid hr0
  have q0 : 1 ≤ s ∧ s ≤ 4 := hs
  have q1 : r.1.toNat ≤ 4 := by omega
  clear hf hr hf0 hr0 hx hcell h1 h2 hln hN256 hN hM har hs ha hm
  go_enter Try.func208, Try.ntmps208
  go_wp2_with fail
  refine (l01SetOf_any _ HR0.out HR.out N HN.out).mono ?_
  rintro e w1 ⟨bx, g, rfl, hset, hgl, hb1⟩
  have HS := Lib.hid hset
  have gc0 := (hb1.cell hfb).trans fc0
  clear hset
  go_wp2_with fail
  refine (l01Power_any _ (r.2.length : Int) (ar : Int) (by omega) (by omega) (by omega)).mono ?_
  rintro e _ ⟨rfl, rfl⟩
  rw [HM.out]
  clear gc0
  go_wp2_with fail
  go_loopw [12] (fun i wr => ∃ k : Nat, k ≤ M ∧ i = .int .i64 k ∧ keptTo s f r k ∧ SetAt 4 w.heap.size wr bx g N (seenL s N r.2) ∧ Below w.heap.size w wr) (fun i _ => M - (intOf i).toNat)
  case atStart => exact ⟨0, Nat.zero_le _, rfl, keptTo_zero, HS.out, hb1⟩
  case round =>
    obtain ⟨k, hk, rfl, hkt, hset, hbel⟩ := hrel
    have HKT := Lib.hid hkt
    have HSK := Lib.hid hset
    clear hkt hset HS
    by_cases hkl : k < M
    · have h0 : 0 < r.2.length := hl0 (by omega)
      have d0 := (hbel.cell hfb).trans fc0
      go_wp2_with fail
      refine (l01Digits_any _ (r.2.length : Int) (k : Int) ar (by omega) (by omega) (by omega) (by omega) (by omega)).mono ?_
      rintro e w2 ⟨u, rfl, hfr, hb2⟩
      obtain ⟨dad, dcap, hdv, -, -, hdc⟩ := ints_ex hfr.rd
      obtain rfl : u = _ := by simpa using hdv
      obtain ⟨db, dof, rfl, hdb, hdce⟩ := hdc (by rw [digL_len]; omega)
      rw [digL_len]
      have HDC := Lib.hid hdce
      have hbw2 : Below w.heap.size w w2 := bthen hbel hb2
      have hz2 := hb2.size
      have hz0 := hbel.size
      clear hdv hdc hdce hfr d0
      go_wp2_with fail
      obtain ⟨wo, rfl⟩ : ∃ wo : World, wo = wr := ⟨_, rfl⟩
      go_loopw [15, 14] (fun i q wr => ∃ (j : Nat) (vs : List Value), j ≤ ar ∧ i = .int .i64 j ∧ vs.length = j ∧ picked w vs (picks r.2 ar k) ∧ Bl Ty.val 25 w2.heap.size wr.heap.size wr q vs ∧ Below w2.heap.size w2 wr) (fun i _ _ => ar - (intOf i).toNat)
      case atStart => exact ⟨0, [], Nat.zero_le _, rfl, rfl, picked_nil, by simpa using Bl.lit0 (E := Ty.val) (e := 25) (w := w2) (Nat.le_refl _), bA⟩
      case round =>
        obtain ⟨j, vs, hj, rfl, hvl, hpk, hBl, hb3⟩ := hrel
        have HB := Lib.hid hBl
        have HVL := Lib.hid hvl
        have HPK := Lib.hid hpk
        have hbw3 : Below w.heap.size w wr := bthen hbw2 hb3
        have hz3 := hb3.size
        clear hBl hvl hpk
        by_cases hjl : j < ar
        · have hjd : j < (digL (r.2.length : Int) k ar).length := by rw [digL_len]; exact hjl
          have hdm := dig_mem (n := (r.2.length : Int)) (i := (k : Int)) (ar := ar) (by omega) (List.getElem_mem hjd)
          obtain ⟨dn, hdn⟩ : ∃ dn : Nat, (digL (r.2.length : Int) k ar)[j] = (dn : Int) := ⟨((digL (r.2.length : Int) k ar)[j]).toNat, by omega⟩
          have hdl : dn < r.2.length := by omega
          have hDC0 := (HDC.out j hjd).2
          rw [hdn] at hDC0
          have e0 := (hb3.cell hdb).trans hDC0
          obtain ⟨tb0, to0, rfl, htb, hte⟩ := HC.out h0
          obtain ⟨u, hu, hcu⟩ := hte dn hdl
          obtain ⟨ua, un, uc, rfl⟩ := rd_sl hu
          have e1 := (hbw3.cell hrb).trans rc1
          have e2 := (hbw3.cell htb).trans hcu
          have HPN : Hid (picked w (vs ++ [.slice ua un uc]) (picks r.2 ar k)) := by
            have hl : j < (picks r.2 ar k).length := by rw [picks_len]; exact hjl
            have hg := picks_get hjd hdn hdl hl
            have hv := HVL.out
            subst hv
            exact picked_snoc HPK.out hl (by rw [hg]; exact hu)
          have hvj : vs.length ≤ 1000000000 := by rw [HVL.out]; omega
          have HE0 := Lib.hid ((hDC0 : w2.cell? ⟨db, dof + j, none⟩ = some (.int .i64 (dn : Int))))
          have HE1 := Lib.hid ((hbw2.cell hrb).trans rc1)
          have HE2 := Lib.hid ((hbw2.cell htb).trans hcu)
          have l1 : rb < w2.heap.size := Nat.lt_of_lt_of_le hrb (by omega)
          have l2 : tb0 < w2.heap.size := Nat.lt_of_lt_of_le htb (by omega)
          clear hdm hdn hte hu hcu rc1 hDC0
          go_wp2_with fail
          go_region_held_law (fun w' => w'.cell? ⟨rb, ro + 1, none⟩ = some (.slice (some ⟨tb0, to0, none⟩) r.2.length rcap) ∧ w'.cell? ⟨db, dof + j, none⟩ = some (.int .i64 (dn : Int)) ∧ w'.cell? ⟨tb0, to0 + dn, none⟩ = some (.slice ua un uc)) (first | exact ⟨e1, e0, e2⟩ | exact ⟨m1, m0, m2⟩ | go_keep)
            (first
              | (refine step_push (E := Ty.val) _ rfl _ _ 83 25 rfl elInt64SS rfl (HB.out.below (bD.alloc (by simp) _) (Nat.le_refl _)) rfl news1 (fr_val rfl) hvj (by decide) hz3 (by simp) ?_; intro v1 wz hB1 hg1 _; have hbz : Below w2.heap.size w2 wz := (hb3.trans (((bD (w := wr)).alloc (by simp) _).mono hz3)).grown hg1 (by simp; omega) (fun q hq => HB.out.own hq); have m0 := (hbz.cell hdb).trans HE0.out; have m1 := (hbz.cell l1).trans HE1.out; have m2 := (hbz.cell l2).trans HE2.out; have HB1 := Lib.hid hB1; clear hB1))
          all_goals
            go_simp
            go_wp2_with fail
            go_roundw
            case rel => exact ⟨j + 1, _, by omega, by go_num, by rw [List.length_append, HVL.out]; rfl, HPN.out, HB1.out, hbz⟩
            case measure => simp [intOf]; omega
        · obtain rfl : j = ar := by omega
          obtain ⟨wl, rfl⟩ : ∃ wl : World, wl = wr := ⟨_, rfl⟩
          have hfv := HB.out.fr (by rw [HVL.out]; unfold capMax; omega)
          obtain ⟨lad, lcap, hqv, -, -, hlc⟩ := Ty.slice_ex hfv.rd
          simp only [List.cons.injEq, and_true] at hqv
          subst hqv
          obtain ⟨lb, lo, rfl, hlb, hlce⟩ := hlc (by rw [HVL.out]; omega)
          have HLR := Lib.hid (rows_of_vals hfv.rd (by rw [HVL.out, picks_len]) (fun i h h' => (HPK.out.2 i h h').below hbw3))
          have HLC := Lib.hid hlce
          rw [HVL.out] at HLR
          rw [HVL.out]
          clear hfv hlc hlce
          have HTO := Lib.hid (picks_ok HR.out HF.out h0 (k : Int))
          rw [show f.1.toNat = j by rw [HAR.out]; omega] at HTO
          go_wp2_with fail
          refine (l02Make_any _ (HF0.out.below hbw3) HLR.out HF.out HTO.out (by omega)).mono ?_
          rintro e w4 ⟨t, rfl, hft, hb4⟩
          obtain ⟨ta, tn, tc, rfl⟩ := rd_sl hft.rd
          have hbw4 : Below w.heap.size w w4 := bthen hbw3 hb4
          have HTR := Lib.hid hft.rd
          have HMK : Hid (madeL s f.2 (picks r.2 j k) r.1.toNat = makes s f r k) := by unfold Hid; rw [makes, show f.1.toNat = j by rw [HAR.out]; omega]
          rw [HMK.out] at HTR
          obtain ⟨g1, g2⟩ := makes_in HR.out HF.out h0 (k : Int)
          obtain ⟨i0, i1⟩ := idx_lt (s := s) q0.1 g1 g2
          rw [HN.out] at i1
          obtain ⟨jj, hjj⟩ : ∃ jj : Nat, idxL s 0 (makes s f r k) = jj := ⟨(idxL s 0 (makes s f r k)).toNat, by omega⟩
          have hjN : jj < N := by omega
          have hset4 := HSK.out.below (hb2.trans ((hb3.mono hz2).trans (hb4.mono (by omega)))) (Nat.le_refl _)
          obtain ⟨-, -, -, s4, s5⟩ := hset4
          have t0 := s5.cell (j := jj) (by rw [seenL_len]; exact hjN)
          have HG := Lib.hid (seenL_get (s := s) (N := N) (ts := r.2) q0.1 (m := r.1.toNat) (fun t ht => by obtain ⟨i, hi, rfl⟩ := List.mem_iff_getElem.1 ht; obtain ⟨a1, a2⟩ := (HR.out.2.2 i hi).1; exact ⟨by omega, a2⟩) g1 g2 hjj (by rw [seenL_len]; exact hjN))
          rw [HG.out] at t0
          have cC : ∀ n, Calls Try.prog 124 #[.int .i64 s, .slice ta tn tc] (w4.drewN n) fun e w'' => e = .returned (.int .i64 jj) ∧ ∃ m, w'' = w4.drewN m := fun n => by
            have := pure_drawn (l01Code_any (w4.drewN n) s (HTR.out.below (Quiet.drewN w4 n).below) q0.1 (by omega) (by rw [g1]; omega) g2)
            rw [hjj] at this
            exact this
          clear s5 HG hft i0 i1 g1 g2 hjj
          cases hin : tb (makes s f r k ∈ r.2)
          · have HE : Hid (true = !tb (keepsP s f r)) := by unfold Hid; rw [tb_false (keepsP_not HM2.out hkl (fun hh => by rw [tb_true hh] at hin; cases hin))]; rfl
            rw [hin] at t0
            go_wp2_with fail
            go_quiet (exact cC _)
            clear cC
            generalize hW5 : w4.drewN _ = w5
            have hb5 : Below w4.heap.size w4 w5 := hW5 ▸ (Quiet.drewN w4 _).below
            have hbw5 : Below w.heap.size w w5 := bthen hbw4 hb5
            have hz5 := hbw5.size
            clear hW5
            go_wp2_with fail
            go_loopw [18, 17] (fun i q wr => ∃ (i' : Nat) (ys : List (List Int)), i' ≤ j ∧ i = .int .i64 i' ∧ ys.length = i' ∧ Bl intsT 25 w5.heap.size wr.heap.size wr q ys ∧ Below w5.heap.size w5 wr) (fun i _ _ => j - (intOf i).toNat)
            case atStart => exact ⟨0, [], Nat.zero_le _, rfl, rfl, by simpa using Bl.lit0 (E := intsT) (e := 25) (w := w5) (Nat.le_refl _), bA⟩
            case round =>
              obtain ⟨i', ys, hi', rfl, hyl, hBl, hb6⟩ := hrel
              have HBy := Lib.hid hBl
              have HYL := Lib.hid hyl
              clear hBl hyl
              have hbw6 : Below wl.heap.size wl wr := bthen (bthen hb4 hb5) hb6
              have hz6 := hb6.size
              by_cases hil : i' < j
              · have hv1 : i' < vs.length := by rw [HVL.out]; exact hil
                have hp1 : i' < (picks r.2 j k).length := by rw [picks_len]; exact hil
                have hrd := HPK.out.2 i' hv1 hp1
                obtain ⟨cs1, ⟨fp1, rfl, -, -⟩, hc1⟩ := HLC.out i' hv1
                have hc1' : wl.cell? ⟨lb, lo + i', none⟩ = some vs[i'] := by simpa [Ty.val] using hc1 0 (by simp)
                obtain ⟨xa, xn, xc, hxv⟩ := rd_sl hrd
                rw [hxv] at hrd hc1'
                have HRD := Lib.hid hrd
                have e0 := (hbw6.cell hlb).trans hc1'
                have hlen1 : ((picks r.2 j k)[i']).length ≤ 1000000 := by
                  have := (HTO.out.2 _ (List.getElem_mem hp1)).1
                  omega
                have hyj : ys.length ≤ 1000000000 := by rw [HYL.out]; omega
                have hbo : Below w.heap.size w wr := bthen hbw5 hb6
                clear hc1 hc1' hxv hrd
                go_wp2_with fail
                refine (l00Own_any _ (HRD.out.below hbo) hlen1).mono ?_
                rintro e w7 ⟨u7, rfl, hB7, hb7⟩
                have hf7 := hB7.fr (by unfold capMax; omega)
                obtain ⟨ya, yn, yc, rfl⟩ := ex_slice hf7
                have HF7 := Lib.hid hf7
                have hz7 := hb7.size
                clear hB7 hf7
                go_wp2_with (refine wpList_push (E := intsT) _ rfl _ _ 83 25 rfl elInt64SS rfl (HBy.out.below (hb7.alloc hb7.size _) (Nat.le_refl _)) rfl news1 (HF7.out.below bA) hyj (by decide) hb6.size (by simp; omega) ?_; intro v8 w8 hB8 hg8 _)
                have hbel8 : Below w5.heap.size w5 w8 := ((hb6.trans (hb7.mono hb6.size)).alloc (by omega) _).grown hg8 (by simp; omega) (fun k hk => HBy.out.own hk)
                have HB8 := Lib.hid hB8
                clear hB8
                go_wp2_with fail
                go_roundw
                case rel => exact ⟨i' + 1, _, by omega, by go_num, by rw [List.length_append, HYL.out]; rfl, HB8.out, hbel8⟩
                case measure => simp [intOf]; omega
              · have hbo : Below w.heap.size w wr := bthen hbw5 hb6
                go_wp2_with fail
                go_ret3
                exact ⟨_, _, congrArg (fun z => Ending.returned (.tuple #[_, _, .bool z])) HE.out, hbo⟩
          · have HKN := Lib.hid (keptTo_succ HKT.out (tb_iff.1 hin))
            rw [hin] at t0
            go_wp2_with fail
            go_quiet (exact cC _)
            clear cC
            go_wp2_with fail
            go_roundw
            case rel => exact ⟨k + 1, by omega, by go_num, HKN.out, HSK.out.below (hb2.trans ((hb3.mono hz2).trans ((hb4.mono (by omega)).trans ((Quiet.drewN w4 _).below.mono (by have := hb4.size; omega))))) (Nat.le_refl _), bthen hbw4 (Quiet.drewN w4 _).below⟩
            case measure => simp [intOf]; omega
    · obtain rfl : k = M := by omega
      have hz0 := hbel.size
      have HE : Hid (false = !tb (keepsP s f r)) := by unfold Hid; rw [tb_true (keepsP_of HM2.out HKT.out)]; rfl
      go_wp2_with fail
      go_ret3
      exact ⟨_, _, congrArg (fun z => Ending.returned (.tuple #[_, _, .bool z])) HE.out, (by repeat (first | exact Below.refl _ _ | exact bA | assumption | refine Below.setCell ?_ (by first | omega | (simp; try omega)) _ | refine Below.alloc ?_ (by first | omega | (simp; try omega)) _ | refine Below.drew ?_ | refine bDN ?_ | refine bthen ?_ (by assumption)))⟩
set_option maxHeartbeats 800000 in
theorem l02Keeps_any (w : World) {fv rv : Value} {f : Int × List Int} {r : Int × List (List Int)} (hf : opT.Pt w fv f) (hr : relT.Pt w rv r) {s : Int} (h1 : relOk s r) (h2 : opOk s f) :
    Calls Try.prog 153 #[.int .i64 s, fv, rv] w fun e w' => e = .returned (.bool (tb (keepsP s f r))) ∧ Below w.heap.size w w' := by
  have HF0 := Lib.hid hf
  have HR0 := Lib.hid hr
  have HR := Lib.hid h1
  have HF := Lib.hid h2
  obtain ⟨fb, fo, fad, fcap, rfl, -⟩ := pt_pair hf
  obtain ⟨rb, ro, rad, rcap, rfl, -⟩ := pt_pair hr
  clear hf hr h1 h2
  go_enter Try.func153, Try.ntmps153
  go_wp2_with fail
  refine (l02Breaks_any _ HF0.out HR0.out HR.out HF.out).mono ?_
  rintro e w1 ⟨a, b, rfl, hb1⟩
  cases hk : tb (keepsP s f r)
  all_goals
    go_wp2_with fail
    go_ret
    exact ⟨ret_bool hk.symm, hb1⟩
/-- the first relation that is broken, or -1 -/
noncomputable def brokenI (t : Int × List (Int × List (List Int))) (f : Int × List Int) : Int := firstI (fun r => !tb (keepsP t.1 f r)) t.2
set_option maxHeartbeats 1600000 in
set_option maxRecDepth 100000 in
theorem l02First_any (w : World) {vt fv : Value} {t : Int × List (Int × List (List Int))} {f : Int × List Int} (ht : tplT.Pt w vt t) (hf : opT.Pt w fv f) (hT : tplOk t) (hF : opOk t.1 f) :
    Calls Try.prog 72 #[vt, fv] w fun e w' => e = .returned (.int .i64 (brokenI t f)) ∧ Below w.heap.size w w' := by
  obtain ⟨b, o, ad, cap, rfl, hb, -, c0, c1, hx⟩ := pt_pair ht
  have HF0 := Lib.hid hf
  obtain ⟨fb, fo, fad, fcap, rfl, -⟩ := pt_pair hf
  obtain ⟨_, _, e1, hle', hle2', hcell⟩ := pairs_ex hx
  simp only [List.cons.injEq, Value.slice.injEq, and_true, true_and] at e1
  obtain ⟨rfl, rfl⟩ := e1
  have HT := Lib.hid hT
  have HF := Lib.hid hF
  clear ht hf hT hF hcell
  go_enter Try.func72, Try.ntmps72
  go_wp2_with fail
  go_loopw [5] (fun i wr => ∃ k : Nat, k ≤ t.2.length ∧ i = .int .i64 k ∧ noneB (fun r => !tb (keepsP t.1 f r)) (t.2.take k) ∧ Below w.heap.size w wr) (fun i _ => t.2.length - (intOf i).toNat)
  case atStart => exact ⟨0, Nat.zero_le _, rfl, noneB_zero _ _, Below.refl _ _⟩
  case round =>
    obtain ⟨k, hk, rfl, hne, hbel⟩ := hrel
    have HNE := Lib.hid hne
    have d0 := (hbel.cell hb).trans c0
    have d1 := (hbel.cell hb).trans c1
    clear hne
    by_cases hkl : k < t.2.length
    · obtain ⟨a, q, rfl, hp⟩ := rd_elem hx hkl
      have hp' : relT.Pt w (.pointer (some ⟨a, q + k * 2, none⟩)) t.2[k] := hp
      have HP := Lib.hid hp'
      have k0 := cell_regrown d0
      have k1 := cell_regrown d1
      have cK : ∀ d os, Calls Try.prog 153 #[.int .i64 t.1, .pointer (some ⟨fb, fo, none⟩), .pointer (some ⟨a, q + k * 2, none⟩)] (grow (redrawn wr d) os) fun e w'' => e = .returned (.bool (tb (keepsP t.1 f t.2[k]))) ∧ ∃ p : Regrown, w'' = grow (redrawn wr p.d) p.os := fun d os =>
        Calls.regrown_of (l02Keeps_any _ (HF0.out.below (bthen hbel (below_regrown wr d os))) (HP.out.below (bthen hbel (below_regrown wr d os))) (HT.out.2.2 _ (List.getElem_mem hkl)) HF.out)
      clear hp hp' hx
      cases hq : tb (keepsP t.1 f t.2[k])
      · rw [hq] at cK
        have HE : Hid (brokenI t f = k) := firstI_at hkl HNE.out (by rw [hq]; rfl)
        clear hq
        go_wp2_with fail
        refine wp_region_quiet_below (by kernel_rfl) (by kernel_rfl) ?_
        repeat (go_big_quiet_step (exact cK _ _))
        refine wpQuiet_nil ?_
        rintro w2 ⟨p, rfl⟩
        have hb2 := below_regrown wr p.d p.os
        go_wp2_with fail
        go_ret
        exact ⟨ret_int HE.out.symm, bthen hbel hb2⟩
      · rw [hq] at cK
        have HE := Lib.hid (noneB_succ (p := fun r => !tb (keepsP t.1 f r)) hkl HNE.out (by rw [hq]; rfl))
        clear hq
        go_wp2_with fail
        refine wp_region_quiet_below (by kernel_rfl) (by kernel_rfl) ?_
        repeat (go_big_quiet_step (exact cK _ _))
        refine wpQuiet_nil ?_
        rintro w2 ⟨p, rfl⟩
        have hb2 := below_regrown wr p.d p.os
        go_wp2_with fail
        go_roundw
        case rel => exact ⟨k + 1, by omega, by go_num, HE.out, bthen hbel hb2⟩
        case measure => simp [intOf]; omega
    · obtain rfl : k = t.2.length := by omega
      have HE : Hid (brokenI t f = -1) := firstI_none (by have := HNE.out; rwa [List.take_length] at this)
      go_wp2_with fail
      go_ret
      exact ⟨ret_int HE.out.symm, hbel⟩
end Go.Proofs.Ytigclobkmocfkaa
