/-
  Contracts: merging variables of an instance, the reference's.
-/
import Derived.Test.YtigclobkmocfkaaK34
namespace Go.Proofs.Ytigclobkmocfkaa
open Go.RowKit Go.Sort
set_option maxHeartbeats 3200000 in
set_option maxRecDepth 100000 in
theorem l05Moved_any (w : World) {v u : Value} {ts : List Int} {xs : List (Int × List Int)} (h : opsT.Rd w [v] xs) (h' : intsT.Rd w [u] ts) (hin : ∀ a ∈ xs, (∀ p ∈ a.2, 0 ≤ p ∧ p < (ts.length : Int)) ∧ a.2.length ≤ 1000000) (hlen : xs.length ≤ 1000000) :
    Calls Try.prog 82 #[v, u] w (RetS opsT w (movedL ts xs)) := by
  obtain ⟨ad, cap, hv, hl, hc, hcell⟩ := pairs_ex h
  obtain rfl : v = _ := by simpa using hv
  obtain ⟨ad', cap', rfl⟩ := rd_slice h'
  have HIN := Lib.hid hin
  clear h hv hin
  go_enter Try.func82, Try.ntmps82
  go_wp2_with fail
  go_loopw [6, 5] (fun i o wr => ∃ k : Nat, k ≤ xs.length ∧ i = .int .i64 k ∧ Bl opT 116 w.heap.size wr.heap.size wr o (movedL ts (xs.take k)) ∧ Below w.heap.size w wr) (fun i _ _ => xs.length - (intOf i).toNat)
  case atStart => exact ⟨0, Nat.zero_le _, rfl, by simpa [movedL] using Bl.lit0 (E := opT) (e := 116) (w := w) (Nat.le_refl _), bA⟩
  case round =>
    obtain ⟨k, hk, rfl, hBl, hbel⟩ := hrel
    have HB := Lib.hid hBl
    clear hBl
    by_cases hkl : k < xs.length
    · obtain ⟨b, o, rfl, hb, hce⟩ := hcell (by omega)
      obtain ⟨uk, huk, hIk, g0, g1⟩ := hce k hkl
      obtain ⟨ak, ck, rfl⟩ := rd_slice huk
      have hin := HIN.out xs[k] (List.getElem_mem hkl)
      have d0 := (hbel.cell hb).trans g0
      have d1 := (hbel.cell hb).trans g1
      have HU := Lib.hid (huk.below hbel)
      have HT := Lib.hid (h'.below hbel)
      have HN := Lib.hid hin
      have hsz := hbel.size
      have HR := Lib.hid (movedL_take (to := ts) hkl)
      have HG0 := Lib.hid g0
      have HG1 := Lib.hid g1
      clear hcell hce hin huk g0 g1
      go_wp2_with fail
      have hbw := Nat.lt_of_lt_of_le hb hsz
      go_region_held_law (fun w' => w'.cell? ⟨b, o + k * 2, none⟩ = some (.int .i64 (xs[k]).1) ∧ w'.cell? ⟨b, o + k * 2 + 1, none⟩ = some (.slice ak (xs[k]).2.length ck)) (first | exact ⟨d0, d1⟩ | exact ⟨e0, e1⟩ | exact ⟨m0, m1⟩ | go_keep)
        (first
          | (refine step_push (E := opT) _ rfl _ _ 45 116 rfl elConS rfl (HB.out.below (hbn.alloc hbn.size _) (Nat.le_refl _)) rfl news2 (fr_cons hIk (HF.out.below bA)) (by rw [movedL_len, take_len hk]; omega) (by decide) hsz (by simp; omega) ?_; intro v1 w2 hB1 hg1 _; have hbel1 : Below w.heap.size w w2 := ((hbel.trans (hbn.mono hsz)).alloc (by omega) _).grown hg1 (by simp; omega) (fun k hk => HB.out.own hk); have m0 := (hbel1.cell hb).trans HG0.out; have m1 := (hbel1.cell hb).trans HG1.out)
          | (go_simp; go_at_call 166; refine (l01Mapped_any _ (HT.out.below bD) (HU.out.below bD) HN.out.1 HN.out.2).mono ?_; rintro e w1 ⟨u2, rfl, hf, hb1⟩; obtain ⟨ad2, cap2, rfl⟩ := fr_slice hf; have hbn : Below wr.heap.size wr w1 := bthen bD hb1; have e0 := (hbn.cell hbw).trans d0; have e1 := (hbn.cell hbw).trans d1; have hz1 := hbn.size; have HF := Lib.hid hf; clear hf; dsimp only))
      rw [HR.out] at hB1
      have HB1 := Lib.hid hB1
      clear hB1
      go_simp
      go_wp2_with fail
      go_roundw
      case rel => exact ⟨k + 1, by omega, by go_num, HB1.out, hbel1⟩
      case measure => simp [intOf]; omega
    · obtain rfl : k = xs.length := by omega
      go_wp2_with fail
      go_ret
      rw [List.take_length] at HB
      exact ⟨_, rfl, HB.out.fr (by rw [movedL_len]; unfold capMax; omega), hbel⟩
set_option maxHeartbeats 3200000 in
set_option maxRecDepth 100000 in
theorem specMergeVariables_any (w : World) {cs cs' : Array Value} {t : Int × List (Int × List (List Int))} {x : Int × List (Int × List Int)} (h : tplT.Rd w cs.toList t) (h' : instT.Rd w cs'.toList x) {a b : Int} :
    Calls Try.prog 24 #[.agg cs, .agg cs', .int .i64 a, .int .i64 b] w (RetAC instT w (mrgV t x a b) (mrgC t x a b)) := by
  have p0 : tplT.Pt ((w.alloc (.cells cs 34)).alloc (.cells cs' 47)) (.pointer (some ⟨w.heap.size, 0, none⟩)) t := (pt_box h).below bA
  have p1 : instT.Pt ((w.alloc (.cells cs 34)).alloc (.cells cs' 47)) (.pointer (some ⟨w.heap.size + 1, 0, none⟩)) x := by
    simpa using pt_box (T := 47) (h'.below (bA (o := .cells cs 34)))
  obtain ⟨v1, hv, hI, -⟩ := pair_ex h
  obtain rfl := agg_of hv
  obtain ⟨v2, hv', hI', hxx⟩ := pair_ex h'
  obtain rfl := agg_of hv'
  obtain ⟨ax, nx, cx, rfl⟩ := rd_sl hxx
  have HXX := Lib.hid hxx
  clear h hv h' hv' hxx
  go_enter Try.func24, Try.ntmps24
  go_wp2_with fail
  have P0 := p0.below (bA (o := .cells #[.int .i64 0, .slice none 0 0] 47))
  have P1 := p1.below (bA (o := .cells #[.int .i64 0, .slice none 0 0] 47))
  generalize hW : World.alloc (World.alloc (World.alloc _ _) _) _ = W at P0 P1 ⊢
  have hbW : Below w.heap.size w W := hW ▸ ((bAA (w := w)).alloc (by simp; omega) _)
  have hsW : W.heap.size = w.heap.size + 3 := by rw [← hW]; simp
  have x0 : W.cell? ⟨w.heap.size + 1, 0, none⟩ = some (.int .i64 x.1) := by rw [← hW]; simp [go_sem]
  have x1 : W.cell? ⟨w.heap.size + 1, 1, none⟩ = some (.slice ax nx cx) := by rw [← hW]; simp [go_sem]
  have r0 : W.cell? ⟨w.heap.size + 2, 0, none⟩ = some (.int .i64 0) := by rw [← hW]; simp [go_sem]
  have r1 : W.cell? ⟨w.heap.size + 2, 1, none⟩ = some (.slice none 0 0) := by rw [← hW]; simp [go_sem]
  have m0 : W.frozen? ⟨w.heap.size + 2, 0, none⟩ = false := by rw [← hW]; simp [go_sem]
  have m1 : W.frozen? ⟨w.heap.size + 2, 1, none⟩ = false := by rw [← hW]; simp [go_sem]
  clear hW p0 p1
  refine (l05Ok_quiet _ P0 P1).mono ?_
  rintro e w1 ⟨rfl, hq1⟩
  have hb1 := hq1.below
  have hz1 := hb1.size
  have hB1 := bthen hbW hb1
  replace x0 := (cellB hb1 (by omega)).trans x0
  replace x1 := (cellB hb1 (by omega)).trans x1
  replace r0 := (cellB hb1 (by omega)).trans r0
  replace r1 := (cellB hb1 (by omega)).trans r1
  replace m0 := (frozenB hb1 (by omega)).trans m0
  replace m1 := (frozenB hb1 (by omega)).trans m1
  clear hq1 P0 P1
  obtain ⟨g0, g1⟩ := set2_cells (x := .int .i64 0) (y := .slice none 0 0) r0 r1
  have hbad : ∀ c : Int, mrgV t x a b = inst0 ∧ mrgC t x a b = c → RetAC instT w (mrgV t x a b) (mrgC t x a b) (.returned (.tuple #[.agg #[.int .i64 0, .slice none 0 0], .int .i64 c])) ((w1.setCell ⟨w.heap.size + 2, 0, none⟩ (.int .i64 0)).setCell ⟨w.heap.size + 2, 1, none⟩ (.slice none 0 0)) := fun c hc =>
    ⟨[.int .i64 0, .slice none 0 0], by rw [hc.2], by rw [hc.1]; exact fr_inst0, (hB1.setCell (by simp) _).setCell (by simp) _⟩
  have HBAD := Lib.hid hbad
  clear hbad
  cases hT : tb (instOk t x)
  · have HR := Lib.hid (mrg_1 (a := a) (b := b) hT)
    clear hT
    go_wp2_with fail
    exact bodyPost_ret (v := .tuple #[.agg #[.int .i64 0, .slice none 0 0], .int .i64 1]) (by simp [results, Try.results24, go_sem, g0, g1]) rfl (HBAD.out _ HR.out)
  obtain ⟨k1, k2⟩ := inst_bd2 hT
  have k3 := (inst_bd hT).2.2
  have K2 := Lib.hid k2
  have K4 := Lib.hid (inst_vals hT)
  clear k2
  go_wp2_with fail
  refine (l00In_any _ _ _ _).mono ?_
  rintro e _ ⟨rfl, rfl⟩
  cases hA : inB a 0 (x.1 - 1)
  · have HR := Lib.hid (mrg_2 (b := b) hT hA)
    clear hT hA
    go_wp2_with fail
    exact bodyPost_ret (v := .tuple #[.agg #[.int .i64 0, .slice none 0 0], .int .i64 2]) (by simp [results, Try.results24, go_sem, g0, g1]) rfl (HBAD.out _ HR.out)
  go_wp2_with fail
  refine (l00In_any _ _ _ _).mono ?_
  rintro e _ ⟨rfl, rfl⟩
  cases hB : inB b 0 (x.1 - 1)
  · have HR := Lib.hid (mrg_3 hT hA hB)
    clear hT hA hB
    go_wp2_with fail
    exact bodyPost_ret (v := .tuple #[.agg #[.int .i64 0, .slice none 0 0], .int .i64 2]) (by simp [results, Try.results24, go_sem, g0, g1]) rfl (HBAD.out _ HR.out)
  cases hE : (a == b)
  rotate_left
  · have HR := Lib.hid (mrg_4 hT hA hB hE)
    clear hT hA hB
    go_wp2_with fail
    exact bodyPost_ret (v := .tuple #[.agg #[.int .i64 0, .slice none 0 0], .int .i64 2]) (by simp [results, Try.results24, go_sem, g0, g1]) rfl (HBAD.out _ HR.out)
  have HR := Lib.hid (mrg_0 hT hA hB hE)
  have hA2 := inB_true.1 hA
  have hB2 := inB_true.1 hB
  obtain ⟨lo, hlo⟩ : ∃ lo, min a b = lo := ⟨_, rfl⟩
  obtain ⟨hi, hhi⟩ : ∃ hi, max a b = hi := ⟨_, rfl⟩
  rw [mrgF, hlo, hhi] at HR
  have hlo2 : 0 ≤ lo ∧ lo ≤ 9 := by omega
  have HLO := Lib.hid hlo
  have HHI := Lib.hid hhi
  obtain ⟨N, hN⟩ : ∃ N : Nat, x.1 = N := ⟨x.1.toNat, by omega⟩
  have HM := Lib.hid (movedL_toL (g := mergeTo lo hi) (n := N) (xs := x.2) fun c hc p hp => by have := K4.out c hc p hp; omega)
  have hN2 : N ≤ 10 := by omega
  have HN := Lib.hid hN
  rw [hN] at x0 hA2 hB2
  have hlt1 : w.heap.size + 1 < w1.heap.size := by omega
  have hne : a ≠ b := by simpa using hE
  clear hT hA hB HBAD g0 g1 hE hlo hhi hN
  go_wp2_with fail
  refine (l00Max_any _ _ _).mono ?_
  rintro e _ ⟨rfl, rfl⟩
  rw [HHI.out]
  clear hne
  go_wp2_with fail
  go_loopw [12, 11] (fun i o wr => ∃ k : Nat, k ≤ N ∧ i = .int .i64 k ∧ Bl Ty.int 2 w1.heap.size wr.heap.size wr o (toL (mergeTo lo hi) k) ∧ Below w1.heap.size w1 wr) (fun i _ _ => N - (intOf i).toNat)
  case atStart => exact ⟨0, Nat.zero_le _, rfl, by simpa [toL] using Bl.lit0 (E := Ty.int) (e := 2) (w := w1) (Nat.le_refl _), bA⟩
  case round =>
    obtain ⟨k, hk, rfl, hBl, hbel⟩ := hrel
    have HB := Lib.hid hBl
    clear hBl
    have hsz := hbel.size
    have d0 := (cellB hbel hlt1).trans x0
    by_cases hkl : k < N
    · have hI : I64 (mergeTo lo hi k) := merge_I (by omega) (by omega)
      have HRT := Lib.hid (toL_succ (mergeTo lo hi) k)
      rcases Int.lt_trichotomy (k : Int) hi with hc | hc | hc
      · have e := merge_lt (lo := lo) hc
        rw [e] at hI HRT
        clear e
        go_wp2_with (refine wpList_push (E := Ty.int) _ rfl _ _ 25 2 rfl elInt rfl (HB.out.below bA (Nat.le_refl _)) rfl news1 (fr_int hI) (by rw [toL_len]; omega) (by decide) hbel.size (by simp) ?_; intro v1 w2 hB1 hg1 _)
        have hbel1 : Below w1.heap.size w1 w2 := (hbel.alloc hbel.size _).grown hg1 (by simp; omega) (fun k hk => HB.out.own hk)
        rw [HRT.out] at hB1
        have HB1 := Lib.hid hB1
        clear hB1
        go_wp2_with fail
        go_roundw
        case rel => exact ⟨k + 1, by omega, by go_num, HB1.out, hbel1⟩
        case measure => simp [intOf]; omega
      · have e := merge_eq (lo := lo) hc
        rw [e] at hI HRT
        have hc' : ((k : Int) == hi) = true := by simpa using hc
        clear e hc
        go_wp2_with fail
        refine (l00Min_any _ _ _).mono ?_
        rintro e _ ⟨rfl, rfl⟩
        rw [HLO.out]
        go_wp2_with (refine wpList_push (E := Ty.int) _ rfl _ _ 25 2 rfl elInt rfl (HB.out.below bA (Nat.le_refl _)) rfl news1 (fr_int hI) (by rw [toL_len]; omega) (by decide) hbel.size (by simp) ?_; intro v1 w2 hB1 hg1 _)
        have hbel1 : Below w1.heap.size w1 w2 := (hbel.alloc hbel.size _).grown hg1 (by simp; omega) (fun k hk => HB.out.own hk)
        rw [HRT.out] at hB1
        have HB1 := Lib.hid hB1
        clear hB1
        go_wp2_with fail
        go_roundw
        case rel => exact ⟨k + 1, by omega, by go_num, HB1.out, hbel1⟩
        case measure => simp [intOf]; omega
      · have e := merge_gt (lo := lo) hc
        rw [e] at hI HRT
        clear e
        go_wp2_with (refine wpList_push (E := Ty.int) _ rfl _ _ 25 2 rfl elInt rfl (HB.out.below bA (Nat.le_refl _)) rfl news1 (fr_int hI) (by rw [toL_len]; omega) (by decide) hbel.size (by simp) ?_; intro v1 w2 hB1 hg1 _)
        have hbel1 : Below w1.heap.size w1 w2 := (hbel.alloc hbel.size _).grown hg1 (by simp; omega) (fun k hk => HB.out.own hk)
        rw [HRT.out] at hB1
        have HB1 := Lib.hid hB1
        clear hB1
        go_wp2_with fail
        go_roundw
        case rel => exact ⟨k + 1, by omega, by go_num, HB1.out, hbel1⟩
        case measure => simp [intOf]; omega
    · obtain rfl : k = N := by omega
      have hft := HB.out.fr (by rw [toL_len]; unfold capMax; omega)
      obtain ⟨at0, nt0, ct0, rfl⟩ := ex_slice hft
      have HIN := Lib.hid (show ∀ c ∈ x.2, (∀ p ∈ c.2, 0 ≤ p ∧ p < (((toL (mergeTo lo hi) k).length : Nat) : Int)) ∧ c.2.length ≤ 1000000 from fun c hc => ⟨fun p hp => by have := K4.out c hc p hp; have := HN.out; rw [toL_len]; omega, K2.out c hc⟩)
      have hlen : x.2.length ≤ 1000000 := by omega
      have HT := Lib.hid hft.rd
      have hB2 : Below w.heap.size w wr := bthen hB1 hbel
      have HX := Lib.hid (HXX.out.below hB2)
      replace x1 := (cellB hbel (by omega)).trans x1
      replace r0 := (cellB hbel (by omega)).trans r0
      replace r1 := (cellB hbel (by omega)).trans r1
      replace m0 := (frozenB hbel (by omega)).trans m0
      replace m1 := (frozenB hbel (by omega)).trans m1
      have hl2 : w.heap.size + 2 < wr.heap.size := by omega
      have hl1 : w.heap.size + 1 < wr.heap.size := by omega
      have HN2 := Lib.hid HN.out
      clear hft HB x0
      go_wp2_with fail
      go_region_held_law (fun w' => w'.cell? ⟨w.heap.size + 1, 0, none⟩ = some (.int .i64 (k : Int)) ∧ w'.cell? ⟨w.heap.size + 1, 1, none⟩ = some (.slice ax nx cx)) (first | exact ⟨d0, x1⟩ | exact ⟨e0, e1⟩ | go_keep)
        (first
          | (go_simp; go_at_call 82; refine (l05Moved_any _ (HX.out.below bD) (HT.out.below bD) HIN.out hlen).mono ?_; rintro e w2 ⟨u2, rfl, hf, hb2⟩; obtain ⟨ad2, n2, cap2, rfl⟩ := ex_slice hf; have hbn : Below wr.heap.size wr w2 := bthen bD hb2; have e0 := (cellB hbn hl1).trans d0; have e1 := (cellB hbn hl1).trans x1; have s0 := (cellB hbn hl2).trans r0; have s1 := (cellB hbn hl2).trans r1; have t0 := (frozenB hbn hl2).trans m0; have t1 := (frozenB hbn hl2).trans m1; have HF := Lib.hid hf; clear hf; dsimp only))
      have hwr : IntKind.i64.wrap ((k : Int) - 1) = (k : Int) - 1 := wrap_small (by omega) (by omega)
      rw [hwr]
      go_wp2_with fail
      obtain ⟨g0, g1⟩ := set2_cells (x := .int .i64 ((k : Int) - 1)) (y := .slice ad2 n2 cap2) (show w2.cell? ⟨w.heap.size + 1 + 1, 0, none⟩ = _ from s0) (show w2.cell? ⟨w.heap.size + 1 + 1, 1, none⟩ = _ from s1)
      refine bodyPost_ret (v := .tuple #[.agg #[.int .i64 ((k : Int) - 1), .slice ad2 n2 cap2], .int .i64 0]) (by simp [results, Try.results24, go_sem, g0, g1]) rfl ⟨[.int .i64 ((k : Int) - 1), .slice ad2 n2 cap2], by rw [HR.out.2], ?_, ?_⟩
      · rw [HR.out.1, ← HM.out, HN.out]
        exact (fr_cons (I64.small (by omega) (by omega)) (fr_set2 HF.out (by simp; omega))).mono (by simp; omega)
      · exact ((bthen hB2 hbn).setCell (by simp; omega) _).setCell (by simp; omega) _
end Go.Proofs.Ytigclobkmocfkaa
