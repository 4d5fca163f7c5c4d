/-
  Contracts: the reference's search for operations, begun. (The orders of its region are printed by gen_bg.py.)
-/
import Derived.Test.YtepebfpgmnidnaaG3
import Derived.Test.YtepebfpgmnidnaaF9
namespace Go.Proofs.Ytepebfpgmnidnaa
open Go.RowKit Go.Sort
theorem infoCondS : (Try.prog.info? 201).map (fun i => (i.zero, i.size, i.bytes)) = some (some (.slice none 0 0), 1, 24) := by kernel_rfl
theorem elSetS : ElT Try.prog 167 170 1 8 := .mk (z := .pointer none) Try.underlying167 (by kernel_rfl) rfl (by decide)
/-- a make of n numbers, in a region -/
theorem step_mkI {P : Program} {K : Act → World → Prop} {Ee : Prop} (w : World) {ops : Array Oper} {o : Oper} {a : Act} {Q : Exit → Act → World → Prop} (hg : o.guard = none) (l c : Operand) (t e : TypeId) {bytes : Nat}
    (hop : o.op = Op.makeSlice t l c) (ht : P.underlying t = some (.slice e)) (hinfo : (P.info? e).map (fun i => (i.zero, i.size, i.bytes)) = some (some (.int .i64 0), 1, bytes)) (base : Nat) (n : Nat) (hl : a.eval l = .int .i64 (n : Int)) (hc : a.eval c = .int .i64 (n : Int)) (hn : n ≤ 1000000000) (hby : bytes ≤ 100000) (hb : base ≤ w.heap.size)
    (hK : ∀ w', IR e base w' w.heap.size n n (List.replicate n 0) → Below w.heap.size w w' → w'.heap.size = w.heap.size + 1 → K (a.put o.dst (.slice (some ⟨w.heap.size, 0, none⟩) n n)) w') :
    if Region.wanted o (yielded ops a.tmps) = true then Oper.wp P o a w K Q else Ee := by
  rw [if_pos (by simp [Region.wanted, hg])]
  obtain ⟨i, hi, hz, hsz, hbt'⟩ := info_parts hinfo
  have hlen' : bytes * n ≤ 281474976710656 := Nat.le_trans (Nat.mul_le_mul hby hn) (by decide)
  have hb48 : (i.bytes : Int) * (n : Int) ≤ 281474976710656 := by
    have h : ((bytes * n : Nat) : Int) ≤ 281474976710656 := by omega
    rw [hbt']
    rwa [Int.natCast_mul] at h
  have hr := run_make (P := P) w t e i (.int .i64 0) ht hi hz .i64 .i64 (n : Int) (n : Int) (by omega) (Int.le_refl _) hb48 (by omega)
  simp only [Int.toNat_natCast] at hr
  unfold Oper.wp
  simp only [execOp, hop, hl, hc, hr, Result.andThen_ok, Sem.run_bind, Sem.run_pure]
  have hown := World.ownsRow_lit (base := base) (e := e) (size := 1) w (madeCells (Value.int .i64 0).cells (n * i.size)) n hb (by unfold maxLen; omega) (by rw [size_madeCells, hsz])
  refine hK _ ⟨by simp, fun a ha => ?_, hb, ?_⟩ ((Below.refl _ w).alloc (Nat.le_refl _) _) (by simp)
  · rw [List.eq_of_mem_replicate ha]; exact I64.small (by omega) (by omega)
  · have e1 : (madeCells (Value.int .i64 0).cells (n * i.size)).toList = (List.replicate n (0 : Int)).map (Value.int .i64) := by
      rw [hsz, Nat.mul_one, List.map_replicate]
      have hc0 : (Value.int .i64 0).cells = #[.int .i64 0] := by simp [Value.cells]
      rw [hc0]
      exact toList_madeCells_one (.int .i64 0) n
    rw [← e1]
    exact hown
/-- what a search that has begun is -/
def BgR (w : World) (t : Tpl) (ar : Int) (e : Ending) (w' : World) : Prop :=
  Below w.heap.size w w' ∧ ((limF t ar.toNat = true ∧ e = .returned (.tuple #[.pointer none, .int .i64 3])) ∨
    (limF t ar.toNat = false ∧ ∃ br gt, e = .returned (.tuple #[.pointer (some ⟨br, 0, none⟩), .int .i64 0]) ∧ w.heap.size ≤ br ∧ w.heap.size ≤ gt ∧ gt ≠ br ∧ w'.frozen? ⟨br, 4, none⟩ = false ∧
      Ru (fun k => k ≠ br ∧ k ≠ gt) w' br t ar (duesF (looksA t ar.toNat) (tabL t ar)) (fxN t ar) ∧ Mc 2 w.heap.size w' br gt (tabL t ar) (List.replicate (tabL t ar) (-1)) 0 false))
def minus (n N : Nat) : List Int := List.replicate n (-1) ++ List.replicate (N - n) 0
theorem minus_set {n N : Nat} (h : n < N) : (minus n N).set n (-1) = minus (n + 1) N := by
  unfold minus
  rw [List.set_append, if_neg (by simp), List.length_replicate, Nat.sub_self, show N - n = N - (n + 1) + 1 by omega, List.replicate_succ, List.set_cons_zero, List.replicate_succ', List.append_assoc]
  rfl
theorem minus_zero {N : Nat} : minus 0 N = List.replicate N 0 := by simp [minus]
theorem minus_full {N : Nat} : minus N N = List.replicate N (-1) := by simp [minus]
def BfR (W : World) (tq tf : Nat) (ar : Int) (N : Nat) (v9 : Value) (wx : World) : Prop :=
  ∃ br gd gf gt, v9 = .pointer (some ⟨br, 0, none⟩) ∧ BxR wx br (.pointer (some ⟨tq, tf, none⟩)) ar gd gf gt N (.slice none 0 0) ∧ IR 2 W.heap.size wx gf N N (List.replicate N 0) ∧ IR 2 W.heap.size wx gt N N (List.replicate N 0) ∧
    (∀ eA top, DU eA 201 wx.heap.size top wx gd N (fun _ => .slice none 0 0) (fun _ => [])) ∧ Below W.heap.size W wx ∧ W.heap.size ≤ br ∧ W.heap.size ≤ gd ∧ br ≠ gd ∧ gf ≠ gd ∧ gt ≠ gd ∧ gf ≠ br ∧ gt ≠ br ∧ gf ≠ gt
set_option maxHeartbeats 12800000 in
set_option maxRecDepth 100000 in
theorem l04Begin_any (w : World) {vt : Value} {t : Tpl} (hPt : tplT.Pt w vt t) (hT : tplOk t) {ar : Int} (har : 1 ≤ ar ∧ ar ≤ 3) :
    Calls Try.prog 90 #[vt, .int .i64 ar] w (BgR w t ar) := by
  have HPT := Lib.hid hPt
  obtain ⟨tq, tf, ra, rc, rfl, htq, -, p0, p1, hrls⟩ := pt_pair hPt
  obtain ⟨_, _, he, -, -, hrce⟩ := pairs_ex hrls
  simp only [List.cons.injEq, Value.slice.injEq, and_true, true_and] at he
  obtain ⟨rfl, rfl⟩ := he
  have HRC := Lib.hid hrce
  have HT := Lib.hid hT
  have hs := hT.1
  unfold sizeOk at hs
  have hl6 := hT.2.1
  have hN := tabL_of (ar := ar) hT
  have HNN := Lib.hid hN
  have hNb := tabN_bd (tabN_of hs (ar := ar.toNat) (by omega) hN)
  have HTB : Hid (tabL t ar = tabL t ar) := rfl
  clear hPt hrls hrce hT hN
  go_enter Try.func90, Try.ntmps90
  go_wp2_with fail
  go_loop [7, 6] (fun i s => ∃ k : Nat, k ≤ t.2.length ∧ i = .int .i64 k ∧ s = .int .i64 (sumL (fun r : Int × List (List Int) => (r.2.length : Int) ^ ar.toNat) (t.2.take k))) (fun i _ => t.2.length - (intOf i).toNat)
  case atStart => exact ⟨0, Nat.zero_le _, rfl, by simp [sumL]⟩
  case round =>
    obtain ⟨k, hk, rfl, rfl⟩ := hrel
    by_cases hkl : k < t.2.length
    · obtain ⟨b, o, rfl, hb, hce⟩ := HRC.out (by omega)
      obtain ⟨u, hu, -, g0, g1⟩ := hce k hkl
      obtain ⟨ua, uc, rfl⟩ := rd_slice hu
      have hr := HT.out.2.2 _ (List.getElem_mem hkl)
      have hrl := rel_len_le hr
      have HS := Lib.hid (sumL_succ (fun r : Int × List (List Int) => (r.2.length : Int) ^ ar.toNat) hkl)
      have hp0 := pow_le (s := ((t.2[k]).2.length : Int)) (by omega) (by omega) (k := ar.toNat) (by omega)
      have hp1 := pow0 (n := (t.2[k]).2.length) (ar := ar.toNat)
      have hsb : sumL (fun r : Int × List (List Int) => (r.2.length : Int) ^ ar.toNat) (t.2.take k) ≤ ((t.2.take k).length : Int) * 1000000000000000 := sumL_bd (fun r hr => by
        have h1 := rel_len_le (HT.out.2.2 r (List.mem_of_mem_take hr))
        exact pow_le (by omega) (by omega) (by omega))
      have hs0 : 0 ≤ sumL (fun r : Int × List (List Int) => (r.2.length : Int) ^ ar.toNat) (t.2.take k) := sumL_nonneg (fun r => pow0) _
      rw [List.length_take] at hsb
      have hn1 : (t.2[k]).2.length ≤ 1000 := by omega
      have hsb2 : sumL (fun r : Int × List (List Int) => (r.2.length : Int) ^ ar.toNat) (t.2.take k) ≤ 6000000000000000 := by omega
      clear hce hu g0 hr hrl hsb
      go_wp2_with fail
      refine (l01Power_any _ ((t.2[k]).2.length : Int) ar (by omega) (by omega) (by omega)).mono ?_
      rintro e _ ⟨rfl, rfl⟩
      generalize hx : ((t.2[k]).2.length : Int) ^ ar.toNat = x at *
      have HX : Hid (sumL (fun r : Int × List (List Int) => (r.2.length : Int) ^ ar.toNat) (t.2.take (k + 1)) = sumL (fun r : Int × List (List Int) => (r.2.length : Int) ^ ar.toNat) (t.2.take k) + x) := HS.out
      clear hx HS
      generalize sumL (fun r : Int × List (List Int) => (r.2.length : Int) ^ ar.toNat) (t.2.take k) = S at *
      have hwr : IntKind.i64.wrap (S + x) = S + x := wrap_small (by omega) (by omega)
      go_wp2_with fail
      clear hwr
      go_round
      case rel => exact ⟨k + 1, by omega, by go_num, by rw [HX.out]⟩
      case measure => simp [intOf]; omega
    · obtain rfl : k = t.2.length := by omega
      have HLM : Hid (decide (4000 < sumL (fun r : Int × List (List Int) => (r.2.length : Int) ^ ar.toNat) t.2) = limF t ar.toNat) := rfl
      rw [List.take_length]
      generalize sumL (fun r : Int × List (List Int) => (r.2.length : Int) ^ ar.toNat) t.2 = S at *
      cases hl : decide (4000 < S)
      · have HLF : Hid (limF t ar.toNat = false) := by unfold Hid; rw [← HLM.out]; exact hl
        go_wp2_with fail
        refine (l01Power_any _ t.1 ar (by omega) (by omega) (by omega)).mono ?_
        rintro e _ ⟨rfl, rfl⟩
        rw [HNN.out]
        obtain ⟨N, hNe⟩ : ∃ N, tabL t ar = N := ⟨_, rfl⟩
        have HNE := Lib.hid hNe
        rw [hNe]
        have hN64 : 1 ≤ N ∧ N ≤ 64 := by rw [← hNe]; exact hNb
        clear hNe hl HTB
        obtain ⟨W, rfl⟩ : ∃ W : World, W = w := ⟨_, rfl⟩
        go_wp2_with fail
        go_cut [9] from 42 to 51 (fun v9 wx => BfR W tq tf ar N v9 wx)
        case rest =>
          obtain ⟨br, gd, gf, gt, rfl, hbx, hif, hit, hdu, hbc, hbrl, hgdl, n1, n2, n3, n4, n5, n6⟩ := hcut
          have HBX := Lib.hid hbx
          have hbr0 := hbx.1
          have hgd0 := (hdu 0 0).lt
          have hgf0 := hif.lt
          have hgt0 := hit.lt
          have hgfl : W.heap.size ≤ gf := hif.2.2.1
          have hgtl : W.heap.size ≤ gt := hit.2.2.1
          have HF := Lib.hid (minus_zero (N := N) ▸ hif)
          have HTT := Lib.hid (minus_zero (N := N) ▸ hit)
          have HDU := Lib.hid hdu
          have hzc := hbc.size
          have c0 := (cellB hbc htq).trans p0
          have c1 := (cellB hbc htq).trans p1
          clear hbx hif hit hdu
          go_wp2_with fail
          go_loopw [10] (fun i wr => ∃ j : Nat, j ≤ N ∧ i = .int .i64 j ∧ IR 2 W.heap.size wr gf N N (minus j N) ∧ IR 2 W.heap.size wr gt N N (minus j N) ∧ TchP (fun k => k = gf ∨ k = gt) wc wr ∧ wr.heap.size = wc.heap.size) (fun i _ => N - (intOf i).toNat)
          case atStart => exact ⟨0, Nat.zero_le _, rfl, HF.out, HTT.out, TchP.refl _ _, rfl⟩
          case round =>
            obtain ⟨j, hj, rfl, hif, hit, htc, hzz⟩ := hrel
            have HIF := Lib.hid hif
            have HIT := Lib.hid hit
            have hzr := htc.size
            have HZZ := Lib.hid hzz
            have hB4 := HBX.out.same (htc.block br hbr0 (fun h => by omega)) hzr
            have HB4 := Lib.hid hB4
            obtain ⟨k0, x0, x1, x2, x3, x4, x5, x6, x7, y2, y4, y6, y7⟩ := hB4
            clear hzz
            by_cases hjl : j < N
            · obtain ⟨fu, f0⟩ := hif.cell hjl
              have f1 := hif.free j
              obtain ⟨tu, t0⟩ := hit.cell hjl
              have t1 := hit.free j
              have hne1 : ¬ (gf = gt) := n6
              have hne2 : ¬ (gt = gf) := fun h => n6 h.symm
              have hne3 : ¬ (gf = br) := n4
              have hne4 : ¬ (gt = br) := n5
              have hne5 : ¬ (br = gf) := fun h => n4 h.symm
              have hne6 : ¬ (br = gt) := fun h => n5 h.symm
              have HSF := Lib.hid ((hif.set j (a := -1) (I64.small (by omega) (by omega))).same (w' := (wr.setCell ⟨gf, j, none⟩ (.int .i64 (-1))).setCell ⟨gt, j, none⟩ (.int .i64 (-1))) (Below.heap_setCell _ _ _ _ (by simpa using hne1)))
              have HST := Lib.hid ((IR.same (w' := wr.setCell ⟨gf, j, none⟩ (.int .i64 (-1))) hit (Below.heap_setCell _ _ _ _ (by simpa using hne2))).set j (a := -1) (I64.small (by omega) (by omega)))
              have HMS := Lib.hid (minus_set hjl)
              have htc2 : TchP (fun k => k = gf ∨ k = gt) wc ((wr.setCell ⟨gf, j, none⟩ (.int .i64 (-1))).setCell ⟨gt, j, none⟩ (.int .i64 (-1))) := (htc.then (TchP.set (O := fun k => k = gf) rfl) (fun q _ h => .inl h)).then (TchP.set (O := fun k => k = gt) rfl) (fun q _ h => .inr h)
              clear hif hit
              go_wp2_with fail
              go_roundw
              case rel => exact ⟨j + 1, by omega, by go_num, by rw [← HMS.out]; exact HSF.out, by rw [← HMS.out]; exact HST.out, htc2, by simp only [World.setCell]; simpa [World.setCell] using HZZ.out⟩
              case measure => simp [intOf]; omega
            · obtain rfl : j = N := by omega
              obtain ⟨wd, rfl⟩ : ∃ wd : World, wd = wr := ⟨_, rfl⟩
              have hRN : RnI wc.heap.size W (.pointer (some ⟨tq, tf, none⟩)) ar j br gd gf gt (wd.heap[gf]?) (wd.heap[gt]?) (looksT t ar.toNat 0) ((insF t).take 0) (fun _ => .slice none 0 0) (.slice none 0 0) [] [] wd := by
                refine ⟨FinS.start (fun eA top => (HDU.out eA wc.heap.size).nils (by omega) (htc.block gd hgd0 (fun h => by omega))), rfl, HBX.out.same (htc.block br hbr0 (fun h => by omega)) hzr, ⟨by omega, by omega, rfl, rfl⟩, hbc.trans (htc.below (B := W.heap.size) (by omega) (fun q hq h => by omega)), by omega⟩
              rw [minus_full] at hif hit
              have HIF := Lib.hid hif
              have HIT := Lib.hid hit
              have HRN := Lib.hid hRN
              clear hif hit hRN htc
              go_wp2_with fail
              go_loopw [11] (fun i wr => ∃ (k : Nat) (us : Nat → Value) (vin : Value) (Z : List ZP) (vs : List Value), k ≤ t.2.length ∧ i = .int .i64 k ∧ RnI wc.heap.size W (.pointer (some ⟨tq, tf, none⟩)) ar j br gd gf gt (wd.heap[gf]?) (wd.heap[gt]?) (looksT t ar.toNat k) ((insF t).take k) us vin Z vs wr) (fun i _ => t.2.length - (intOf i).toNat)
              case atStart => exact ⟨0, _, _, [], [], Nat.zero_le _, rfl, HRN.out⟩
              case round =>
                obtain ⟨k, us, vin, Z, vs, hk, rfl, hRn⟩ := hrel
                have HRN2 := Lib.hid hRn
                obtain ⟨k0, x0, x1, x2, x3, x4, x5, x6, x7, y2, y4, y6, y7⟩ := hRn.2.2.1
                have hbW := hRn.2.2.2.2.1
                have hz6 := hRn.2.2.2.2.2
                have c0 := (cellB hbW htq).trans p0
                have c1 := (cellB hbW htq).trans p1
                have hzw := hbW.size
                have htqr : tq < wr.heap.size := by omega
                clear hRn HRN
                by_cases hkl : k < t.2.length
                · obtain ⟨b, o, rfl, hb, hce⟩ := HRC.out (by omega)
                  have hr := HT.out.2.2 _ (List.getElem_mem hkl)
                  have hrl3 := (rel_len_le hr).2
                  obtain ⟨Nr, hNr⟩ : ∃ Nr : Nat, t.1 ^ (t.2[k]).1.toNat = (Nr : Int) := ⟨(t.1 ^ (t.2[k]).1.toNat).toNat, by have := pow_nn (s := t.1) (by omega) (t.2[k]).1.toNat; omega⟩
                  have hNr256 : Nr ≤ 256 := by omega
                  have HR := Lib.hid hr
                  have HNr := Lib.hid hNr
                  have HITK : Hid ((insF t).take k ++ [seenL t.1 Nr (t.2[k]).2] = (insF t).take (k + 1)) := by have h := ins_take hkl; rw [hNr, Int.toNat_natCast] at h; exact h
                  have hPW := HPT.out.below hbW
                  obtain ⟨tq2, tf2, ra2, rc2, he2, -, -, -, e1, hrels⟩ := pt_pair hPW
                  simp only [Value.pointer.injEq, Option.some.injEq, Addr.mk.injEq, and_true] at he2
                  obtain ⟨rfl, rfl⟩ := he2
                  rw [e1] at c1
                  simp only [Option.some.injEq, Value.slice.injEq, true_and] at c1
                  obtain ⟨rfl, rfl⟩ := c1
                  have HPE := Lib.hid (pt_tpl_elem hrels hkl)
                  obtain ⟨va4, vn4, vc4, rfl⟩ := ex_slice (HRN2.out.1.vi.fr (by rw [HRN2.out.1.bl, List.length_take, insF_len]; unfold capMax; omega))
                  have HVI := Lib.hid HRN2.out.1.vi
                  have hvsl : vs.length ≤ 6 := by rw [HRN2.out.1.bl, List.length_take, insF_len]; omega
                  have hown4 : Hid ((Value.slice va4 vn4 vc4).ownBlock ≠ some br) := fun e => by have := HVI.out.ge e; omega
                  obtain ⟨wv, rfl⟩ : ∃ wv : World, wv = wr := ⟨_, rfl⟩
                  clear hce hr hrl3 hNr hPW hrels
                  go_wp2_with fail
                  refine wp_region_T (fun w' => w'.cell? ⟨br, 2, none⟩ = some (.slice va4 vn4 vc4) ∧ w'.cell? ⟨tq, tf, none⟩ = some (.int .i64 t.1) ∧ w'.cell? ⟨tq, tf + 1, none⟩ = some (.slice (some ⟨b, o, none⟩) t.2.length rc2)) [20] (by kernel_rfl) ⟨x2, c0, e1⟩ (fun hHeld => ?_)
                  refine wpAnyT_take (i := 0) (v := ?_) rfl (by kernel_rfl) (fun _ _ _ h => h) (Or.inl ⟨by rfl, ?_⟩) (by assumption) ?_
                  rotate_left
                  · (intro w hSw; (try dsimp only at hSw); go_simp <;> with_reducible rfl)
                  go_simp
                  refine wpAnyT_take (i := 1) (v := ?_) rfl (by kernel_rfl) (fun _ _ _ h => h) (Or.inl ⟨by rfl, ?_⟩) (by assumption) ?_
                  rotate_left
                  · (intro w hSw; (try dsimp only at hSw); go_simp <;> with_reducible rfl)
                  go_simp
                  refine wpAnyT_take (i := 2) (v := ?_) rfl (by kernel_rfl) (fun _ _ _ h => h) (Or.inl ⟨by rfl, ?_⟩) (by assumption) ?_
                  rotate_left
                  · (intro w hSw; (try dsimp only at hSw); go_simp <;> with_reducible rfl)
                  go_simp
                  refine wpAnyT_take (i := 3) (v := ?_) rfl (by kernel_rfl) (fun _ _ _ h => h) (Or.inl ⟨by rfl, ?_⟩) (by assumption) ?_
                  rotate_left
                  · (intro w hSw; (try dsimp only at hSw); go_simp <;> with_reducible rfl)
                  go_simp
                  refine wpAnyT_take (i := 4) (v := ?_) rfl (by kernel_rfl) (fun _ _ _ h => h) (Or.inl ⟨by rfl, ?_⟩) (by assumption) ?_
                  rotate_left
                  · (intro w hSw; (try dsimp only at hSw); go_simp <;> with_reducible rfl)
                  go_simp
                  refine wpAnyT_take (i := 5) (v := ?_) rfl (by kernel_rfl) (fun _ _ _ h => h) (Or.inl ⟨by rfl, ?_⟩) (by assumption) ?_
                  rotate_left
                  · (intro w hSw; (try dsimp only at hSw); go_simp <;> with_reducible rfl)
                  go_simp
                  refine wpAnyT_take (i := 6) (v := ?_) rfl (by kernel_rfl) (fun _ _ _ h => h) (Or.inl ⟨by rfl, ?_⟩) (by assumption) ?_
                  rotate_left
                  · (intro w hSw; (try dsimp only at hSw); go_simp <;> with_reducible rfl)
                  go_simp
                  refine wpAnyT_take (i := 7) (v := ?_) rfl (by kernel_rfl) (fun _ _ _ h => h) (Or.inl ⟨by rfl, ?_⟩) (by assumption) ?_
                  rotate_left
                  · (intro w hSw; (try dsimp only at hSw); go_simp <;> with_reducible rfl)
                  go_simp
                  refine wpAnyT_take (i := 8) (v := ?_) rfl (by kernel_rfl) (fun _ _ _ h => h) (Or.inl ⟨by rfl, ?_⟩) (by assumption) ?_
                  rotate_left
                  · (intro w hSw; (try dsimp only at hSw); go_simp <;> with_reducible rfl)
                  go_simp
                  refine wpAnyT_take (i := 9) (v := ?_) rfl (by kernel_rfl) (fun _ _ _ h => h) (Or.inl ⟨by rfl, ?_⟩) (by assumption) ?_
                  rotate_left
                  · (intro w hSw; (try dsimp only at hSw); go_simp <;> with_reducible rfl)
                  go_simp
                  refine wpAnyT_take (i := 10) (v := ?_) rfl (by kernel_rfl) (fun _ _ _ h => h) (Or.inl ⟨by rfl, ?_⟩) (by assumption) ?_
                  rotate_left
                  · (intro w hSw; (try dsimp only at hSw); go_simp <;> with_reducible rfl)
                  go_simp
                  refine wpAnyT_take (i := 11) (v := ?_) rfl (by kernel_rfl) (fun _ _ _ h => h) (Or.inl ⟨by rfl, ?_⟩) (by assumption) ?_
                  rotate_left
                  · (intro w hSw; (try dsimp only at hSw); go_simp <;> with_reducible rfl)
                  go_simp
                  refine wpAnyT_take (i := 12) (v := ?_) rfl (by kernel_rfl) (fun _ _ _ h => h) (Or.inl ⟨by rfl, ?_⟩) (by assumption) ?_
                  rotate_left
                  · (intro w hSw; (try dsimp only at hSw); go_simp <;> with_reducible rfl)
                  go_simp
                  refine wpAnyT_take (i := 13) (v := ?_) rfl (by kernel_rfl) (fun _ _ _ h => h) (Or.inl ⟨by rfl, ?_⟩) (by assumption) ?_
                  rotate_left
                  · (intro w hSw; (try dsimp only at hSw); go_simp <;> with_reducible rfl)
                  go_simp
                  refine wpAnyT_take (i := 14) (v := ?_) rfl (by kernel_rfl) (fun _ _ _ h => h) (Or.inl ⟨by rfl, ?_⟩) (by assumption) ?_
                  rotate_left
                  · (intro w hSw; (try dsimp only at hSw); go_simp <;> with_reducible rfl)
                  go_simp
                  refine wpAnyT_one (i := 15) rfl (by kernel_rfl) (fun K hK => ?_)
                  go_simp
                  go_at_call 160
                  refine (l01SetOf_any _ (HPE.out.below bD) HR.out Nr HNr.out).mono ?_
                  rintro e w2 ⟨bx, gx, rfl, hset, hgx, hb2⟩
                  have hb2' : Below wv.heap.size wv w2 := bthen bD hb2
                  have hgx' : wv.heap.size ≤ gx := hgx
                  have hbx' : wv.heap.size ≤ bx := hset.1
                  have hz2 := hb2'.size
                  have HSET := Lib.hid hset
                  have HRN3 := Lib.hid (HRN2.out.below hb2')
                  replace x2 := (cellB hb2' (by omega)).trans x2
                  replace c0 := (cellB hb2' (by omega)).trans c0
                  replace e1 := (cellB hb2' (by omega)).trans e1
                  replace y2 := (frozenB hb2' (by omega)).trans y2
                  have hbr2 : br < w2.heap.size := by omega
                  clear hset hgx hb2
                  dsimp only
                  refine hK.out _ _ ⟨x2, c0, e1⟩ (fun hHeld => ?_)
                  clear hK K
                  refine wpAnyT_one (i := 16) rfl (by kernel_rfl) (fun K hK => ?_)
                  go_simp
                  have hbA : ∀ ob : Obj, Below w2.heap.size w2 (w2.alloc ob) := fun _ => bA
                  refine hK.out _ _ ⟨(cellB (hbA _) hbr2).trans x2, (cellB (hbA _) (by omega)).trans c0, (cellB (hbA _) (by omega)).trans e1⟩ (fun hHeld => ?_)
                  clear hK K
                  refine wpAnyT_one (i := 17) rfl (by kernel_rfl) (fun K hK => ?_)
                  have HV2 := Lib.hid HRN3.out.1.vi
                  have HX : Hid (Ty.setp.RdP (okN wc.heap.size j us (.slice va4 vn4 vc4)) w2 [.pointer (some ⟨bx, 0, none⟩)] (seenL t.1 Nr (t.2[k]).2)) := setp_of HSET.out (by unfold capMax; omega) ⟨by omega, fun v hv e => by have := (HRN2.out.1.du.2.2.1 v hv).lt_top e; omega, fun e => by have := HVI.out.lt_top e; omega⟩ ⟨by omega, fun v hv e => by have := (HRN2.out.1.du.2.2.1 v hv).lt_top e; omega, fun e => by have := HVI.out.lt_top e; omega⟩
                  refine step_push (E := Ty.val) _ rfl _ _ 167 170 rfl elSetS rfl (HV2.out.below (hbA _) (Nat.le_refl _)) rfl news1 (fr_val rfl) (show vs.length ≤ 1000000000 by omega) (by decide) (show wc.heap.size ≤ w2.heap.size by omega) (by first | (simp; done) | (simp; omega)) ?_
                  intro v5 w5 hB5 hg5 hown
                  obtain ⟨aa5, nn5, cc5, rfl⟩ := ex_slice (hB5.fr (by rw [List.length_append]; unfold capMax; simp only [List.length_singleton]; omega))
                  have hg6 : (w2.alloc (.cells #[.pointer (some ⟨bx, 0, none⟩)] 170)).grownBy w5 (Value.slice va4 vn4 vc4).ownBlock := hg5
                  have hown6 : (Value.slice aa5 nn5 cc5).ownBlock = (Value.slice va4 vn4 vc4).ownBlock ∨ (Value.slice aa5 nn5 cc5).ownBlock = some (w2.alloc (.cells #[.pointer (some ⟨bx, 0, none⟩)] 170)).heap.size := hown
                  have HX5 := Lib.hid (HX.out.below (hbA (.cells #[.pointer (some ⟨bx, 0, none⟩)] 170)))
                  have HF6 := Lib.hid (((HRN3.out.1.below (by omega) (hbA (.cells #[.pointer (some ⟨bx, 0, none⟩)] 170))).pushIn (by simp; omega) hB5 hg6 hown6 HX5.out).set (i := 2) (u := .slice aa5 nn5 cc5) (show br < wc.heap.size by omega) n1)
                  have ht5 : TchP (fun q => (Value.slice va4 vn4 vc4).ownBlock = some q) w2 w5 := (TchP.of_below (hbA _) _).then (TchP.grown hg6 (fun q h => h)) (fun q _ h => h)
                  have ht6 : TchP (fun q => q = br ∨ (Value.slice va4 vn4 vc4).ownBlock = some q) w2 (w5.setCell ⟨br, 2, none⟩ (.slice aa5 nn5 cc5)) := (ht5.mono (fun q _ h => .inr h)).then (TchP.set (O := fun q => q = br) rfl) (fun q _ h => .inl h)
                  have hnO : ∀ q, q < wc.heap.size → (Value.slice va4 vn4 vc4).ownBlock ≠ some q := fun q hq e => by have := HVI.out.ge e; omega
                  have i2 := (ht5.cell (i := 2) hbr2 hown4.out).trans x2
                  have i3 := (ht5.cell (i := tf) (show tq < w2.heap.size by omega) (hnO tq (by omega))).trans c0
                  have i4 := (ht5.cell (i := tf + 1) (show tq < w2.heap.size by omega) (hnO tq (by omega))).trans e1
                  have i5 := (ht5.frozen (i := 2) hbr2 hown4.out).trans y2
                  have HN6 : Hid (RnI wc.heap.size W (.pointer (some ⟨tq, tf, none⟩)) ar j br gd gf gt (wd.heap[gf]?) (wd.heap[gt]?) (looksT t ar.toNat k) ((insF t).take (k + 1)) us (.slice aa5 nn5 cc5) Z (vs ++ [.pointer (some ⟨bx, 0, none⟩)]) (w5.setCell ⟨br, 2, none⟩ (.slice aa5 nn5 cc5))) := by
                    obtain ⟨z1, z2, z3, z4⟩ := HRN3.out.2.2.2.1
                    have hzz := ht6.size
                    refine ⟨?_, HRN3.out.2.1, (HRN3.out.2.2.1.same (ht5.block br hbr2 hown4.out) ht5.size).set, ⟨by omega, by omega, (ht6.block gf z1 (fun h => by rcases h with h | h; exact n4 h; exact hnO gf (by omega) h)).trans z3, (ht6.block gt z2 (fun h => by rcases h with h | h; exact n5 h; exact hnO gt (by omega) h)).trans z4⟩, HRN3.out.2.2.2.2.1.trans (ht6.below (by have := HRN3.out.2.2.2.2.1.size; omega) (fun q hq h => by
                      rcases h with h | h
                      · omega
                      · have := HVI.out.ge h; omega)), by omega⟩
                    rw [← HITK.out]
                    exact HF6.out
                  have hz7 := ht6.size
                  clear hB5 hg5 hown hg6 hown6 HX HX5 HF6 ht5 ht6 hnO
                  refine hK.out _ _ ⟨i2, i3, i4⟩ (fun hHeld => ?_)
                  clear hK K
                  refine wpAnyT_take (i := 18) (v := ?_) rfl (by kernel_rfl) (fun _ _ _ h => h) (Or.inl ⟨by rfl, ?_⟩) (by assumption) ?_
                  rotate_left
                  · (intro w hSw; (try dsimp only at hSw); go_simp <;> with_reducible rfl)
                  go_simp
                  refine wpAnyT_take (i := 19) (v := ?_) rfl (by kernel_rfl) (fun _ _ _ h => h) (Or.inl ⟨by rfl, ?_⟩) (by assumption) ?_
                  rotate_left
                  · (intro w hSw; (try dsimp only at hSw); go_simp <;> with_reducible rfl)
                  go_simp
                  refine wpAnyT_last (i := 20) rfl (by kernel_rfl) (by kernel_rfl) (fun K hK => ?_)
                  go_simp
                  refine hK.out _ _ ?_
                  clear hK K
                  refine wpAnyT_done (by kernel_rfl) ?_ _
                  go_simp
                  clear i2 i3 i4 i5 hHeld
                  generalize w5.setCell ⟨br, 2, none⟩ (.slice aa5 nn5 cc5) = w6 at *
                  go_wp2_with fail
                  refine (add_any w6 HPT.out HT.out har HLF.out (by rw [HNN.out, HNE.out]) (by omega) hkl (by omega) ⟨n1, by omega, hgdl⟩ ⟨n2, by omega⟩ ⟨n3, by omega⟩ HN6.out).mono ?_
                  rintro e w7 ⟨rfl, us7, Z7, hR7⟩
                  have HR7 := Lib.hid hR7
                  clear hR7
                  go_wp2_with fail
                  go_roundw
                  case rel => exact ⟨k + 1, us7, .slice aa5 nn5 cc5, Z7, _, by omega, by go_num, HR7.out⟩
                  case measure => simp [intOf]; omega
                · obtain rfl : k = t.2.length := by omega
                  have HRES : Hid (BgR W t ar (.returned (.tuple #[.pointer (some ⟨br, 0, none⟩), .int .i64 0])) wr) := by
                    obtain ⟨h1, h2, -, ⟨z1, z2, z3, z4⟩, -, -⟩ := HRN2.out
                    rw [List.take_of_length_le (by rw [insF_len]; exact Nat.le_refl _)] at h1
                    have hZl : Z.length ≤ 4000 := by
                      have := congrArg List.length h2
                      rw [List.length_map] at this
                      rw [this]
                      exact looksT_le HLF.out (Nat.le_refl _)
                    have hvl : vs.length ≤ 6 := by rw [h1.bl, insF_len]; exact hl6
                    have hok : ∀ q, (q = gd ∨ wc.heap.size ≤ q) → q ≠ br ∧ q ≠ gt := fun q hq => by
                      rcases hq with rfl | hq
                      · exact ⟨Ne.symm n1, Ne.symm n3⟩
                      · exact ⟨by omega, by omega⟩
                    have hd := h1.dues (by omega) (by omega)
                    rw [h2] at hd
                    have hif := HIF.out.same z3
                    obtain ⟨fp, g1, -, -, -⟩ := hif.fr (by unfold capMax; omega)
                    refine ⟨hbW, .inr ⟨HLF.out, br, gt, rfl, hbrl, hgtl, n5, y4, ?_, ?_⟩⟩
                    · rw [HNE.out, show fxN t ar = List.replicate j (-1) by rw [fxN, HNE.out]]
                      exact ⟨k0, tq, tf, vin, _, _, x0, htqr, ⟨by omega, by omega⟩, c0, x1, x2, x3, x4, (h1.sets rfl (by omega)).mono (fun q _ hq => hok q hq), hd.mono (fun q _ hq => hok q hq), fp, g1, fun q hq => by rw [IR.fp hif g1 q hq]; exact ⟨n4, n6⟩⟩
                    · rw [HNE.out]
                      exact ⟨k0, x5, HIT.out.same z4, x6, x7, y6, y7⟩
                  go_wp2_with fail
                  go_ret2
                  exact HRES.out
        refine wp_region_T (fun _ => True) [] (by kernel_rfl) trivial (fun hHeld => ?_)
        refine wpAnyT_take (i := 0) (v := ?_) rfl (by kernel_rfl) (fun _ _ _ h => h) (Or.inl ⟨by rfl, ?_⟩) (by assumption) ?_
        rotate_left
        · (intro w hSw; (try dsimp only at hSw); go_simp <;> with_reducible rfl)
        go_simp
        refine wpAnyT_take (i := 1) (v := ?_) rfl (by kernel_rfl) (fun _ _ _ h => h) (Or.inl ⟨by rfl, ?_⟩) (by assumption) ?_
        rotate_left
        · (intro w hSw; (try dsimp only at hSw); go_simp <;> with_reducible rfl)
        go_simp
        refine wpAnyT_take (i := 2) (v := ?_) rfl (by kernel_rfl) (fun _ _ _ h => h) (Or.inl ⟨by rfl, ?_⟩) (by assumption) ?_
        rotate_left
        · (intro w hSw; (try dsimp only at hSw); go_simp <;> with_reducible rfl)
        go_simp
        refine wpAnyT_take (i := 4) (v := ?_) rfl (by kernel_rfl) (fun _ _ _ h => h) (Or.inl ⟨by rfl, ?_⟩) (by assumption) ?_
        rotate_left
        · (intro w hSw; (try dsimp only at hSw); go_simp <;> with_reducible rfl)
        go_simp
        refine wpAnyT_take (i := 6) (v := ?_) rfl (by kernel_rfl) (fun _ _ _ h => h) (Or.inl ⟨by rfl, ?_⟩) (by assumption) ?_
        rotate_left
        · (intro w hSw; (try dsimp only at hSw); go_simp <;> with_reducible rfl)
        go_simp
        have hv0 : Below W.heap.size W W.drew := bD
        clear hHeld
        generalize W.drew = x0 at hv0 ⊢
        have hz0 := hv0.size
        refine wpAnyT_three (i := 3) (j := 5) (k := 7) rfl rfl rfl (by kernel_rfl) (fun K hK => ?_) (fun K hK => ?_) (fun K hK => ?_)
        · refine step_mkN _ rfl _ _ 166 201 rfl Try.underlying166 infoCondS N rfl rfl (by omega) (by decide) ?_
          intro x1 hDU hb1 hs1
          have hld : x0.heap.size < x1.heap.size := by omega
          clear hs1
          have hv1 : Below W.heap.size W x1 := bthen hv0 hb1
          have hz1 := hb1.size
          refine hK.out _ _ trivial (fun hHeld => ?_)
          clear hK K hHeld
          refine wpAnyT_two (i := 5) (j := 7) rfl rfl (by kernel_rfl) (fun K hK => ?_) (fun K hK => ?_)
          · refine step_mkI _ rfl _ _ 62 2 rfl Try.underlying62 infoInt W.heap.size N rfl rfl (by omega) (by decide) (by omega) ?_
            intro x2 hIf hb2 hs2
            have hlf : x1.heap.size < x2.heap.size := by omega
            clear hs2
            have hv2 : Below W.heap.size W x2 := bthen hv1 hb2
            have hz2 := hb2.size
            refine hK.out _ _ trivial (fun hHeld => ?_)
            clear hK K hHeld
            refine wpAnyT_one (i := 7) rfl (by kernel_rfl) (fun K hK => ?_)
            refine step_mkI _ rfl _ _ 62 2 rfl Try.underlying62 infoInt W.heap.size N rfl rfl (by omega) (by decide) (by omega) ?_
            intro x3 hIt hb3 hs3
            have hlt : x2.heap.size < x3.heap.size := by omega
            clear hs3
            have hv3 : Below W.heap.size W x3 := bthen hv2 hb3
            have hz3 := hb3.size
            refine hK.out _ _ trivial (fun hHeld => ?_)
            clear hK K hHeld
            refine wpAnyT_take (i := 8) (v := ?_) rfl (by kernel_rfl) (fun _ _ _ h => h) (Or.inl ⟨by rfl, ?_⟩) (by assumption) ?_
            rotate_left
            · (intro w hSw; (try dsimp only at hSw); go_simp <;> with_reducible rfl)
            go_simp
            refine wpAnyT_one (i := 9) rfl (by kernel_rfl) (fun K hK => ?_)
            go_simp
            generalize hWb : World.alloc x3 _ = wb
            have hbb : Below x3.heap.size x3 wb := by rw [← hWb]; exact bA
            have hsb : x3.heap.size + 1 ≤ wb.heap.size := by rw [← hWb]; simp
            have c0 : wb.cell? ⟨x3.heap.size, 0, none⟩ = some (.pointer (some ⟨tq, tf, none⟩)) := by rw [← hWb]; simp [go_sem]
            have c1 : wb.cell? ⟨x3.heap.size, 1, none⟩ = some (.int .i64 ar) := by rw [← hWb]; simp [go_sem]
            have c2 : wb.cell? ⟨x3.heap.size, 2, none⟩ = some (.slice none 0 0) := by rw [← hWb]; simp [go_sem]
            have c3 : wb.cell? ⟨x3.heap.size, 3, none⟩ = some (.slice (some ⟨x0.heap.size, 0, none⟩) N N) := by rw [← hWb]; simp [go_sem]
            have c4 : wb.cell? ⟨x3.heap.size, 4, none⟩ = some (.slice (some ⟨x1.heap.size, 0, none⟩) N N) := by rw [← hWb]; simp [go_sem]
            have c5 : wb.cell? ⟨x3.heap.size, 5, none⟩ = some (.slice (some ⟨x2.heap.size, 0, none⟩) N N) := by rw [← hWb]; simp [go_sem]
            have c6 : wb.cell? ⟨x3.heap.size, 6, none⟩ = some (.int .i64 0) := by rw [← hWb]; simp [go_sem]
            have c7 : wb.cell? ⟨x3.heap.size, 7, none⟩ = some (.bool false) := by rw [← hWb]; simp [go_sem]
            have m2 : wb.frozen? ⟨x3.heap.size, 2, none⟩ = false := by rw [← hWb]; simp [go_sem]
            have m4 : wb.frozen? ⟨x3.heap.size, 4, none⟩ = false := by rw [← hWb]; simp [go_sem]
            have m6 : wb.frozen? ⟨x3.heap.size, 6, none⟩ = false := by rw [← hWb]; simp [go_sem]
            have m7 : wb.frozen? ⟨x3.heap.size, 7, none⟩ = false := by rw [← hWb]; simp [go_sem]
            have hJf := IR.same (IR.same hIf (hb3.block _ (by omega))) (hbb.block _ (by omega))
            have hJt := IR.same hIt (hbb.block _ (by omega))
            have hD : ∀ eA top, DU eA 201 wb.heap.size top wb x0.heap.size N (fun _ => .slice none 0 0) (fun _ => []) := fun eA top => (hDU eA wb.heap.size top (by omega)).nils (by omega) (by rw [hbb.block _ (by omega)]; rw [hb3.block _ (by omega)]; rw [hb2.block _ (by omega)])
            have hbw := bthen hv3 hbb
            clear hWb
            refine hK.out _ _ trivial (fun hHeld => ?_)
            clear hK K hHeld
            refine wpAnyT_take (i := 10) (v := ?_) rfl (by kernel_rfl) (fun _ _ _ h => h) (Or.inl ⟨by rfl, ?_⟩) (by assumption) ?_
            rotate_left
            · (intro w hSw; (try dsimp only at hSw); go_simp <;> with_reducible rfl)
            go_simp
            refine wpAnyT_done (by kernel_rfl) ?_ _
            go_simp
            go_wp2_with fail
            go_meet
            case rel => exact ⟨x3.heap.size, x0.heap.size, x1.heap.size, x2.heap.size, rfl, ⟨by omega, c0, c1, c2, c3, c4, c5, c6, c7, m2, m4, m6, m7⟩, hJf, hJt, hD, hbw, by omega, by omega, by omega, by omega, by omega, by omega, by omega, by omega⟩
          · refine step_mkI _ rfl _ _ 62 2 rfl Try.underlying62 infoInt W.heap.size N rfl rfl (by omega) (by decide) (by omega) ?_
            intro x2 hIt hb2 hs2
            have hlt : x1.heap.size < x2.heap.size := by omega
            clear hs2
            have hv2 : Below W.heap.size W x2 := bthen hv1 hb2
            have hz2 := hb2.size
            refine hK.out _ _ trivial (fun hHeld => ?_)
            clear hK K hHeld
            refine wpAnyT_one (i := 5) rfl (by kernel_rfl) (fun K hK => ?_)
            refine step_mkI _ rfl _ _ 62 2 rfl Try.underlying62 infoInt W.heap.size N rfl rfl (by omega) (by decide) (by omega) ?_
            intro x3 hIf hb3 hs3
            have hlf : x2.heap.size < x3.heap.size := by omega
            clear hs3
            have hv3 : Below W.heap.size W x3 := bthen hv2 hb3
            have hz3 := hb3.size
            refine hK.out _ _ trivial (fun hHeld => ?_)
            clear hK K hHeld
            refine wpAnyT_take (i := 8) (v := ?_) rfl (by kernel_rfl) (fun _ _ _ h => h) (Or.inl ⟨by rfl, ?_⟩) (by assumption) ?_
            rotate_left
            · (intro w hSw; (try dsimp only at hSw); go_simp <;> with_reducible rfl)
            go_simp
            refine wpAnyT_one (i := 9) rfl (by kernel_rfl) (fun K hK => ?_)
            go_simp
            generalize hWb : World.alloc x3 _ = wb
            have hbb : Below x3.heap.size x3 wb := by rw [← hWb]; exact bA
            have hsb : x3.heap.size + 1 ≤ wb.heap.size := by rw [← hWb]; simp
            have c0 : wb.cell? ⟨x3.heap.size, 0, none⟩ = some (.pointer (some ⟨tq, tf, none⟩)) := by rw [← hWb]; simp [go_sem]
            have c1 : wb.cell? ⟨x3.heap.size, 1, none⟩ = some (.int .i64 ar) := by rw [← hWb]; simp [go_sem]
            have c2 : wb.cell? ⟨x3.heap.size, 2, none⟩ = some (.slice none 0 0) := by rw [← hWb]; simp [go_sem]
            have c3 : wb.cell? ⟨x3.heap.size, 3, none⟩ = some (.slice (some ⟨x0.heap.size, 0, none⟩) N N) := by rw [← hWb]; simp [go_sem]
            have c4 : wb.cell? ⟨x3.heap.size, 4, none⟩ = some (.slice (some ⟨x2.heap.size, 0, none⟩) N N) := by rw [← hWb]; simp [go_sem]
            have c5 : wb.cell? ⟨x3.heap.size, 5, none⟩ = some (.slice (some ⟨x1.heap.size, 0, none⟩) N N) := by rw [← hWb]; simp [go_sem]
            have c6 : wb.cell? ⟨x3.heap.size, 6, none⟩ = some (.int .i64 0) := by rw [← hWb]; simp [go_sem]
            have c7 : wb.cell? ⟨x3.heap.size, 7, none⟩ = some (.bool false) := by rw [← hWb]; simp [go_sem]
            have m2 : wb.frozen? ⟨x3.heap.size, 2, none⟩ = false := by rw [← hWb]; simp [go_sem]
            have m4 : wb.frozen? ⟨x3.heap.size, 4, none⟩ = false := by rw [← hWb]; simp [go_sem]
            have m6 : wb.frozen? ⟨x3.heap.size, 6, none⟩ = false := by rw [← hWb]; simp [go_sem]
            have m7 : wb.frozen? ⟨x3.heap.size, 7, none⟩ = false := by rw [← hWb]; simp [go_sem]
            have hJf := IR.same hIf (hbb.block _ (by omega))
            have hJt := IR.same (IR.same hIt (hb3.block _ (by omega))) (hbb.block _ (by omega))
            have hD : ∀ eA top, DU eA 201 wb.heap.size top wb x0.heap.size N (fun _ => .slice none 0 0) (fun _ => []) := fun eA top => (hDU eA wb.heap.size top (by omega)).nils (by omega) (by rw [hbb.block _ (by omega)]; rw [hb3.block _ (by omega)]; rw [hb2.block _ (by omega)])
            have hbw := bthen hv3 hbb
            clear hWb
            refine hK.out _ _ trivial (fun hHeld => ?_)
            clear hK K hHeld
            refine wpAnyT_take (i := 10) (v := ?_) rfl (by kernel_rfl) (fun _ _ _ h => h) (Or.inl ⟨by rfl, ?_⟩) (by assumption) ?_
            rotate_left
            · (intro w hSw; (try dsimp only at hSw); go_simp <;> with_reducible rfl)
            go_simp
            refine wpAnyT_done (by kernel_rfl) ?_ _
            go_simp
            go_wp2_with fail
            go_meet
            case rel => exact ⟨x3.heap.size, x0.heap.size, x2.heap.size, x1.heap.size, rfl, ⟨by omega, c0, c1, c2, c3, c4, c5, c6, c7, m2, m4, m6, m7⟩, hJf, hJt, hD, hbw, by omega, by omega, by omega, by omega, by omega, by omega, by omega, by omega⟩
        · refine step_mkI _ rfl _ _ 62 2 rfl Try.underlying62 infoInt W.heap.size N rfl rfl (by omega) (by decide) (by omega) ?_
          intro x1 hIf hb1 hs1
          have hlf : x0.heap.size < x1.heap.size := by omega
          clear hs1
          have hv1 : Below W.heap.size W x1 := bthen hv0 hb1
          have hz1 := hb1.size
          refine hK.out _ _ trivial (fun hHeld => ?_)
          clear hK K hHeld
          refine wpAnyT_two (i := 3) (j := 7) rfl rfl (by kernel_rfl) (fun K hK => ?_) (fun K hK => ?_)
          · refine step_mkN _ rfl _ _ 166 201 rfl Try.underlying166 infoCondS N rfl rfl (by omega) (by decide) ?_
            intro x2 hDU hb2 hs2
            have hld : x1.heap.size < x2.heap.size := by omega
            clear hs2
            have hv2 : Below W.heap.size W x2 := bthen hv1 hb2
            have hz2 := hb2.size
            refine hK.out _ _ trivial (fun hHeld => ?_)
            clear hK K hHeld
            refine wpAnyT_one (i := 7) rfl (by kernel_rfl) (fun K hK => ?_)
            refine step_mkI _ rfl _ _ 62 2 rfl Try.underlying62 infoInt W.heap.size N rfl rfl (by omega) (by decide) (by omega) ?_
            intro x3 hIt hb3 hs3
            have hlt : x2.heap.size < x3.heap.size := by omega
            clear hs3
            have hv3 : Below W.heap.size W x3 := bthen hv2 hb3
            have hz3 := hb3.size
            refine hK.out _ _ trivial (fun hHeld => ?_)
            clear hK K hHeld
            refine wpAnyT_take (i := 8) (v := ?_) rfl (by kernel_rfl) (fun _ _ _ h => h) (Or.inl ⟨by rfl, ?_⟩) (by assumption) ?_
            rotate_left
            · (intro w hSw; (try dsimp only at hSw); go_simp <;> with_reducible rfl)
            go_simp
            refine wpAnyT_one (i := 9) rfl (by kernel_rfl) (fun K hK => ?_)
            go_simp
            generalize hWb : World.alloc x3 _ = wb
            have hbb : Below x3.heap.size x3 wb := by rw [← hWb]; exact bA
            have hsb : x3.heap.size + 1 ≤ wb.heap.size := by rw [← hWb]; simp
            have c0 : wb.cell? ⟨x3.heap.size, 0, none⟩ = some (.pointer (some ⟨tq, tf, none⟩)) := by rw [← hWb]; simp [go_sem]
            have c1 : wb.cell? ⟨x3.heap.size, 1, none⟩ = some (.int .i64 ar) := by rw [← hWb]; simp [go_sem]
            have c2 : wb.cell? ⟨x3.heap.size, 2, none⟩ = some (.slice none 0 0) := by rw [← hWb]; simp [go_sem]
            have c3 : wb.cell? ⟨x3.heap.size, 3, none⟩ = some (.slice (some ⟨x1.heap.size, 0, none⟩) N N) := by rw [← hWb]; simp [go_sem]
            have c4 : wb.cell? ⟨x3.heap.size, 4, none⟩ = some (.slice (some ⟨x0.heap.size, 0, none⟩) N N) := by rw [← hWb]; simp [go_sem]
            have c5 : wb.cell? ⟨x3.heap.size, 5, none⟩ = some (.slice (some ⟨x2.heap.size, 0, none⟩) N N) := by rw [← hWb]; simp [go_sem]
            have c6 : wb.cell? ⟨x3.heap.size, 6, none⟩ = some (.int .i64 0) := by rw [← hWb]; simp [go_sem]
            have c7 : wb.cell? ⟨x3.heap.size, 7, none⟩ = some (.bool false) := by rw [← hWb]; simp [go_sem]
            have m2 : wb.frozen? ⟨x3.heap.size, 2, none⟩ = false := by rw [← hWb]; simp [go_sem]
            have m4 : wb.frozen? ⟨x3.heap.size, 4, none⟩ = false := by rw [← hWb]; simp [go_sem]
            have m6 : wb.frozen? ⟨x3.heap.size, 6, none⟩ = false := by rw [← hWb]; simp [go_sem]
            have m7 : wb.frozen? ⟨x3.heap.size, 7, none⟩ = false := by rw [← hWb]; simp [go_sem]
            have hJf := IR.same (IR.same (IR.same hIf (hb2.block _ (by omega))) (hb3.block _ (by omega))) (hbb.block _ (by omega))
            have hJt := IR.same hIt (hbb.block _ (by omega))
            have hD : ∀ eA top, DU eA 201 wb.heap.size top wb x1.heap.size N (fun _ => .slice none 0 0) (fun _ => []) := fun eA top => (hDU eA wb.heap.size top (by omega)).nils (by omega) (by rw [hbb.block _ (by omega)]; rw [hb3.block _ (by omega)])
            have hbw := bthen hv3 hbb
            clear hWb
            refine hK.out _ _ trivial (fun hHeld => ?_)
            clear hK K hHeld
            refine wpAnyT_take (i := 10) (v := ?_) rfl (by kernel_rfl) (fun _ _ _ h => h) (Or.inl ⟨by rfl, ?_⟩) (by assumption) ?_
            rotate_left
            · (intro w hSw; (try dsimp only at hSw); go_simp <;> with_reducible rfl)
            go_simp
            refine wpAnyT_done (by kernel_rfl) ?_ _
            go_simp
            go_wp2_with fail
            go_meet
            case rel => exact ⟨x3.heap.size, x1.heap.size, x0.heap.size, x2.heap.size, rfl, ⟨by omega, c0, c1, c2, c3, c4, c5, c6, c7, m2, m4, m6, m7⟩, hJf, hJt, hD, hbw, by omega, by omega, by omega, by omega, by omega, by omega, by omega, by omega⟩
          · refine step_mkI _ rfl _ _ 62 2 rfl Try.underlying62 infoInt W.heap.size N rfl rfl (by omega) (by decide) (by omega) ?_
            intro x2 hIt hb2 hs2
            have hlt : x1.heap.size < x2.heap.size := by omega
            clear hs2
            have hv2 : Below W.heap.size W x2 := bthen hv1 hb2
            have hz2 := hb2.size
            refine hK.out _ _ trivial (fun hHeld => ?_)
            clear hK K hHeld
            refine wpAnyT_one (i := 3) rfl (by kernel_rfl) (fun K hK => ?_)
            refine step_mkN _ rfl _ _ 166 201 rfl Try.underlying166 infoCondS N rfl rfl (by omega) (by decide) ?_
            intro x3 hDU hb3 hs3
            have hld : x2.heap.size < x3.heap.size := by omega
            clear hs3
            have hv3 : Below W.heap.size W x3 := bthen hv2 hb3
            have hz3 := hb3.size
            refine hK.out _ _ trivial (fun hHeld => ?_)
            clear hK K hHeld
            refine wpAnyT_take (i := 8) (v := ?_) rfl (by kernel_rfl) (fun _ _ _ h => h) (Or.inl ⟨by rfl, ?_⟩) (by assumption) ?_
            rotate_left
            · (intro w hSw; (try dsimp only at hSw); go_simp <;> with_reducible rfl)
            go_simp
            refine wpAnyT_one (i := 9) rfl (by kernel_rfl) (fun K hK => ?_)
            go_simp
            generalize hWb : World.alloc x3 _ = wb
            have hbb : Below x3.heap.size x3 wb := by rw [← hWb]; exact bA
            have hsb : x3.heap.size + 1 ≤ wb.heap.size := by rw [← hWb]; simp
            have c0 : wb.cell? ⟨x3.heap.size, 0, none⟩ = some (.pointer (some ⟨tq, tf, none⟩)) := by rw [← hWb]; simp [go_sem]
            have c1 : wb.cell? ⟨x3.heap.size, 1, none⟩ = some (.int .i64 ar) := by rw [← hWb]; simp [go_sem]
            have c2 : wb.cell? ⟨x3.heap.size, 2, none⟩ = some (.slice none 0 0) := by rw [← hWb]; simp [go_sem]
            have c3 : wb.cell? ⟨x3.heap.size, 3, none⟩ = some (.slice (some ⟨x2.heap.size, 0, none⟩) N N) := by rw [← hWb]; simp [go_sem]
            have c4 : wb.cell? ⟨x3.heap.size, 4, none⟩ = some (.slice (some ⟨x0.heap.size, 0, none⟩) N N) := by rw [← hWb]; simp [go_sem]
            have c5 : wb.cell? ⟨x3.heap.size, 5, none⟩ = some (.slice (some ⟨x1.heap.size, 0, none⟩) N N) := by rw [← hWb]; simp [go_sem]
            have c6 : wb.cell? ⟨x3.heap.size, 6, none⟩ = some (.int .i64 0) := by rw [← hWb]; simp [go_sem]
            have c7 : wb.cell? ⟨x3.heap.size, 7, none⟩ = some (.bool false) := by rw [← hWb]; simp [go_sem]
            have m2 : wb.frozen? ⟨x3.heap.size, 2, none⟩ = false := by rw [← hWb]; simp [go_sem]
            have m4 : wb.frozen? ⟨x3.heap.size, 4, none⟩ = false := by rw [← hWb]; simp [go_sem]
            have m6 : wb.frozen? ⟨x3.heap.size, 6, none⟩ = false := by rw [← hWb]; simp [go_sem]
            have m7 : wb.frozen? ⟨x3.heap.size, 7, none⟩ = false := by rw [← hWb]; simp [go_sem]
            have hJf := IR.same (IR.same (IR.same hIf (hb2.block _ (by omega))) (hb3.block _ (by omega))) (hbb.block _ (by omega))
            have hJt := IR.same (IR.same hIt (hb3.block _ (by omega))) (hbb.block _ (by omega))
            have hD : ∀ eA top, DU eA 201 wb.heap.size top wb x2.heap.size N (fun _ => .slice none 0 0) (fun _ => []) := fun eA top => (hDU eA wb.heap.size top (by omega)).nils (by omega) (by rw [hbb.block _ (by omega)])
            have hbw := bthen hv3 hbb
            clear hWb
            refine hK.out _ _ trivial (fun hHeld => ?_)
            clear hK K hHeld
            refine wpAnyT_take (i := 10) (v := ?_) rfl (by kernel_rfl) (fun _ _ _ h => h) (Or.inl ⟨by rfl, ?_⟩) (by assumption) ?_
            rotate_left
            · (intro w hSw; (try dsimp only at hSw); go_simp <;> with_reducible rfl)
            go_simp
            refine wpAnyT_done (by kernel_rfl) ?_ _
            go_simp
            go_wp2_with fail
            go_meet
            case rel => exact ⟨x3.heap.size, x2.heap.size, x0.heap.size, x1.heap.size, rfl, ⟨by omega, c0, c1, c2, c3, c4, c5, c6, c7, m2, m4, m6, m7⟩, hJf, hJt, hD, hbw, by omega, by omega, by omega, by omega, by omega, by omega, by omega, by omega⟩
        · refine step_mkI _ rfl _ _ 62 2 rfl Try.underlying62 infoInt W.heap.size N rfl rfl (by omega) (by decide) (by omega) ?_
          intro x1 hIt hb1 hs1
          have hlt : x0.heap.size < x1.heap.size := by omega
          clear hs1
          have hv1 : Below W.heap.size W x1 := bthen hv0 hb1
          have hz1 := hb1.size
          refine hK.out _ _ trivial (fun hHeld => ?_)
          clear hK K hHeld
          refine wpAnyT_two (i := 3) (j := 5) rfl rfl (by kernel_rfl) (fun K hK => ?_) (fun K hK => ?_)
          · refine step_mkN _ rfl _ _ 166 201 rfl Try.underlying166 infoCondS N rfl rfl (by omega) (by decide) ?_
            intro x2 hDU hb2 hs2
            have hld : x1.heap.size < x2.heap.size := by omega
            clear hs2
            have hv2 : Below W.heap.size W x2 := bthen hv1 hb2
            have hz2 := hb2.size
            refine hK.out _ _ trivial (fun hHeld => ?_)
            clear hK K hHeld
            refine wpAnyT_one (i := 5) rfl (by kernel_rfl) (fun K hK => ?_)
            refine step_mkI _ rfl _ _ 62 2 rfl Try.underlying62 infoInt W.heap.size N rfl rfl (by omega) (by decide) (by omega) ?_
            intro x3 hIf hb3 hs3
            have hlf : x2.heap.size < x3.heap.size := by omega
            clear hs3
            have hv3 : Below W.heap.size W x3 := bthen hv2 hb3
            have hz3 := hb3.size
            refine hK.out _ _ trivial (fun hHeld => ?_)
            clear hK K hHeld
            refine wpAnyT_take (i := 8) (v := ?_) rfl (by kernel_rfl) (fun _ _ _ h => h) (Or.inl ⟨by rfl, ?_⟩) (by assumption) ?_
            rotate_left
            · (intro w hSw; (try dsimp only at hSw); go_simp <;> with_reducible rfl)
            go_simp
            refine wpAnyT_one (i := 9) rfl (by kernel_rfl) (fun K hK => ?_)
            go_simp
            generalize hWb : World.alloc x3 _ = wb
            have hbb : Below x3.heap.size x3 wb := by rw [← hWb]; exact bA
            have hsb : x3.heap.size + 1 ≤ wb.heap.size := by rw [← hWb]; simp
            have c0 : wb.cell? ⟨x3.heap.size, 0, none⟩ = some (.pointer (some ⟨tq, tf, none⟩)) := by rw [← hWb]; simp [go_sem]
            have c1 : wb.cell? ⟨x3.heap.size, 1, none⟩ = some (.int .i64 ar) := by rw [← hWb]; simp [go_sem]
            have c2 : wb.cell? ⟨x3.heap.size, 2, none⟩ = some (.slice none 0 0) := by rw [← hWb]; simp [go_sem]
            have c3 : wb.cell? ⟨x3.heap.size, 3, none⟩ = some (.slice (some ⟨x1.heap.size, 0, none⟩) N N) := by rw [← hWb]; simp [go_sem]
            have c4 : wb.cell? ⟨x3.heap.size, 4, none⟩ = some (.slice (some ⟨x2.heap.size, 0, none⟩) N N) := by rw [← hWb]; simp [go_sem]
            have c5 : wb.cell? ⟨x3.heap.size, 5, none⟩ = some (.slice (some ⟨x0.heap.size, 0, none⟩) N N) := by rw [← hWb]; simp [go_sem]
            have c6 : wb.cell? ⟨x3.heap.size, 6, none⟩ = some (.int .i64 0) := by rw [← hWb]; simp [go_sem]
            have c7 : wb.cell? ⟨x3.heap.size, 7, none⟩ = some (.bool false) := by rw [← hWb]; simp [go_sem]
            have m2 : wb.frozen? ⟨x3.heap.size, 2, none⟩ = false := by rw [← hWb]; simp [go_sem]
            have m4 : wb.frozen? ⟨x3.heap.size, 4, none⟩ = false := by rw [← hWb]; simp [go_sem]
            have m6 : wb.frozen? ⟨x3.heap.size, 6, none⟩ = false := by rw [← hWb]; simp [go_sem]
            have m7 : wb.frozen? ⟨x3.heap.size, 7, none⟩ = false := by rw [← hWb]; simp [go_sem]
            have hJf := IR.same hIf (hbb.block _ (by omega))
            have hJt := IR.same (IR.same (IR.same hIt (hb2.block _ (by omega))) (hb3.block _ (by omega))) (hbb.block _ (by omega))
            have hD : ∀ eA top, DU eA 201 wb.heap.size top wb x1.heap.size N (fun _ => .slice none 0 0) (fun _ => []) := fun eA top => (hDU eA wb.heap.size top (by omega)).nils (by omega) (by rw [hbb.block _ (by omega)]; rw [hb3.block _ (by omega)])
            have hbw := bthen hv3 hbb
            clear hWb
            refine hK.out _ _ trivial (fun hHeld => ?_)
            clear hK K hHeld
            refine wpAnyT_take (i := 10) (v := ?_) rfl (by kernel_rfl) (fun _ _ _ h => h) (Or.inl ⟨by rfl, ?_⟩) (by assumption) ?_
            rotate_left
            · (intro w hSw; (try dsimp only at hSw); go_simp <;> with_reducible rfl)
            go_simp
            refine wpAnyT_done (by kernel_rfl) ?_ _
            go_simp
            go_wp2_with fail
            go_meet
            case rel => exact ⟨x3.heap.size, x1.heap.size, x2.heap.size, x0.heap.size, rfl, ⟨by omega, c0, c1, c2, c3, c4, c5, c6, c7, m2, m4, m6, m7⟩, hJf, hJt, hD, hbw, by omega, by omega, by omega, by omega, by omega, by omega, by omega, by omega⟩
          · refine step_mkI _ rfl _ _ 62 2 rfl Try.underlying62 infoInt W.heap.size N rfl rfl (by omega) (by decide) (by omega) ?_
            intro x2 hIf hb2 hs2
            have hlf : x1.heap.size < x2.heap.size := by omega
            clear hs2
            have hv2 : Below W.heap.size W x2 := bthen hv1 hb2
            have hz2 := hb2.size
            refine hK.out _ _ trivial (fun hHeld => ?_)
            clear hK K hHeld
            refine wpAnyT_one (i := 3) rfl (by kernel_rfl) (fun K hK => ?_)
            refine step_mkN _ rfl _ _ 166 201 rfl Try.underlying166 infoCondS N rfl rfl (by omega) (by decide) ?_
            intro x3 hDU hb3 hs3
            have hld : x2.heap.size < x3.heap.size := by omega
            clear hs3
            have hv3 : Below W.heap.size W x3 := bthen hv2 hb3
            have hz3 := hb3.size
            refine hK.out _ _ trivial (fun hHeld => ?_)
            clear hK K hHeld
            refine wpAnyT_take (i := 8) (v := ?_) rfl (by kernel_rfl) (fun _ _ _ h => h) (Or.inl ⟨by rfl, ?_⟩) (by assumption) ?_
            rotate_left
            · (intro w hSw; (try dsimp only at hSw); go_simp <;> with_reducible rfl)
            go_simp
            refine wpAnyT_one (i := 9) rfl (by kernel_rfl) (fun K hK => ?_)
            go_simp
            generalize hWb : World.alloc x3 _ = wb
            have hbb : Below x3.heap.size x3 wb := by rw [← hWb]; exact bA
            have hsb : x3.heap.size + 1 ≤ wb.heap.size := by rw [← hWb]; simp
            have c0 : wb.cell? ⟨x3.heap.size, 0, none⟩ = some (.pointer (some ⟨tq, tf, none⟩)) := by rw [← hWb]; simp [go_sem]
            have c1 : wb.cell? ⟨x3.heap.size, 1, none⟩ = some (.int .i64 ar) := by rw [← hWb]; simp [go_sem]
            have c2 : wb.cell? ⟨x3.heap.size, 2, none⟩ = some (.slice none 0 0) := by rw [← hWb]; simp [go_sem]
            have c3 : wb.cell? ⟨x3.heap.size, 3, none⟩ = some (.slice (some ⟨x2.heap.size, 0, none⟩) N N) := by rw [← hWb]; simp [go_sem]
            have c4 : wb.cell? ⟨x3.heap.size, 4, none⟩ = some (.slice (some ⟨x1.heap.size, 0, none⟩) N N) := by rw [← hWb]; simp [go_sem]
            have c5 : wb.cell? ⟨x3.heap.size, 5, none⟩ = some (.slice (some ⟨x0.heap.size, 0, none⟩) N N) := by rw [← hWb]; simp [go_sem]
            have c6 : wb.cell? ⟨x3.heap.size, 6, none⟩ = some (.int .i64 0) := by rw [← hWb]; simp [go_sem]
            have c7 : wb.cell? ⟨x3.heap.size, 7, none⟩ = some (.bool false) := by rw [← hWb]; simp [go_sem]
            have m2 : wb.frozen? ⟨x3.heap.size, 2, none⟩ = false := by rw [← hWb]; simp [go_sem]
            have m4 : wb.frozen? ⟨x3.heap.size, 4, none⟩ = false := by rw [← hWb]; simp [go_sem]
            have m6 : wb.frozen? ⟨x3.heap.size, 6, none⟩ = false := by rw [← hWb]; simp [go_sem]
            have m7 : wb.frozen? ⟨x3.heap.size, 7, none⟩ = false := by rw [← hWb]; simp [go_sem]
            have hJf := IR.same (IR.same hIf (hb3.block _ (by omega))) (hbb.block _ (by omega))
            have hJt := IR.same (IR.same (IR.same hIt (hb2.block _ (by omega))) (hb3.block _ (by omega))) (hbb.block _ (by omega))
            have hD : ∀ eA top, DU eA 201 wb.heap.size top wb x2.heap.size N (fun _ => .slice none 0 0) (fun _ => []) := fun eA top => (hDU eA wb.heap.size top (by omega)).nils (by omega) (by rw [hbb.block _ (by omega)])
            have hbw := bthen hv3 hbb
            clear hWb
            refine hK.out _ _ trivial (fun hHeld => ?_)
            clear hK K hHeld
            refine wpAnyT_take (i := 10) (v := ?_) rfl (by kernel_rfl) (fun _ _ _ h => h) (Or.inl ⟨by rfl, ?_⟩) (by assumption) ?_
            rotate_left
            · (intro w hSw; (try dsimp only at hSw); go_simp <;> with_reducible rfl)
            go_simp
            refine wpAnyT_done (by kernel_rfl) ?_ _
            go_simp
            go_wp2_with fail
            go_meet
            case rel => exact ⟨x3.heap.size, x2.heap.size, x1.heap.size, x0.heap.size, rfl, ⟨by omega, c0, c1, c2, c3, c4, c5, c6, c7, m2, m4, m6, m7⟩, hJf, hJt, hD, hbw, by omega, by omega, by omega, by omega, by omega, by omega, by omega, by omega⟩
      · have HRES : Hid (BgR w t ar (.returned (.tuple #[.pointer none, .int .i64 3])) w) := ⟨Below.refl _ _, .inl ⟨by rw [← HLM.out]; exact hl, rfl⟩⟩
        go_wp2_with fail
        go_ret2
        exact HRES.out
end Go.Proofs.Ytepebfpgmnidnaa
