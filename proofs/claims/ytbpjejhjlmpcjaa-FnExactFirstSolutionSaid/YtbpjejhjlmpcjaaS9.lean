/-
  Contracts: the solutions of an instance, counted, listed, the first; the reference's.
-/
import Derived.Test.YtbpjejhjlmpcjaaS8
namespace Go.Proofs.Ytbpjejhjlmpcjaa
open Go.RowKit Go.Sort
theorem solsX_nat {t : Int × List (Int × List (List Int))} {x : Int × List (Int × List Int)} {n s : Nat} (hn : x.1 = n) (hs : t.1 = s) : solsL s (goesB t (duesL x.2 n)) n [] = solsX t x := by
  unfold solsX
  rw [show x.1.toNat = n by omega, show t.1.toNat = s by omega]
theorem solsX_each {t : Int × List (Int × List (List Int))} {x : Int × List (Int × List Int)} (h : instOk t x) : ∀ y ∈ solsX t x, y.length ≤ 10 := fun y hy => by
  have h1 := solsL_each y hy
  have h2 := h.2.1
  simp at h1
  omega
theorem as_cnt {t : Int × List (Int × List (List Int))} {x : Int × List (Int × List Int)} : cntRows (asV t x) ≤ 1000000 := by
  cases h : tb (instOk t x)
  · rw [(as_no h).1]; simp [cntRows, sumL]
  cases h2 : decide ((solsX t x).length ≤ 200)
  · rw [(as_more h h2).1]; simp [cntRows, sumL]
  · rw [(as_yes h h2).1]
    have h3 := of_decide_eq_true h2
    have h4 := sumL_bd (f := cntI) (c := 10) (xs := solsX t x) (fun y hy => by have := solsX_each (tb_iff.1 h) y hy; unfold cntI; omega)
    unfold cntRows
    omega
theorem fs_cnt {t : Int × List (Int × List (List Int))} {x : Int × List (Int × List Int)} : cntI (fsV t x) ≤ 1000000 := by
  cases h : tb (instOk t x)
  · rw [(fs_no h).1]; simp [cntI]
  · have h3 := solsX_each (tb_iff.1 h)
    simp only [fsV, h]
    cases hs : solsX t x with
    | nil => simp [headV, cntI]
    | cons y r =>
      have := h3 y (by rw [hs]; exact List.mem_cons_self ..)
      simp only [headV, cntI]
      omega
set_option maxHeartbeats 3200000 in
set_option maxRecDepth 100000 in
theorem l05Solutions_any (w : World) {vt vx : Value} {t : Int × List (Int × List (List Int))} {x : Int × List (Int × List Int)} (ht : tplT.Pt w vt t) (hx : instT.Pt w vx x) (hok : instOk t x) {most : Nat} (hm : most ≤ 1000) (hm0 : 0 < most) :
    Calls Try.prog 61 #[vt, vx, .int .i64 most] w (RetS rowsT w ((solsX t x).take most)) := by
  have HT := Lib.hid ht
  have HX := Lib.hid hx
  have HOK := Lib.hid hok
  have HSL := Lib.hid (solsX_len hok)
  have hn1 := hok.2.1
  have hs1 := hok.1.1
  unfold sizeOk at hs1
  obtain ⟨n, hn⟩ : ∃ n : Nat, x.1 = n := ⟨x.1.toNat, by omega⟩
  obtain ⟨s, hs⟩ : ∃ s : Nat, t.1 = s := ⟨t.1.toNat, by omega⟩
  have HN := Lib.hid hn
  have HS := Lib.hid hs
  have HSX := Lib.hid (solsX_nat (t := t) (x := x) hn hs)
  obtain ⟨bt, ot, _, _, rfl, -, -, -, -, -⟩ := pt_pair ht
  obtain ⟨bx, ox, _, _, rfl, -, -, -, -, -⟩ := pt_pair hx
  clear ht hx hok hn1 hs1 hn hs
  go_enter Try.func61, Try.ntmps61
  go_wp2_with fail
  generalize hW : World.alloc (World.alloc w _) _ = W
  have hbW : Below w.heap.size w W := hW ▸ bAA
  have hsW : w.heap.size + 2 ≤ W.heap.size := by rw [← hW]; simp
  have c0 : W.cell? ⟨w.heap.size, 0, none⟩ = some (.pointer (some ⟨bt, ot, none⟩)) := by rw [← hW]; simp [go_sem]
  have c1 : W.cell? ⟨w.heap.size, 1, none⟩ = some (.pointer (some ⟨bx, ox, none⟩)) := by rw [← hW]; simp [go_sem]
  have c2 : W.cell? ⟨w.heap.size, 2, none⟩ = some (.int .i64 most) := by rw [← hW]; simp [go_sem]
  have c3 : W.cell? ⟨w.heap.size, 3, none⟩ = some (.slice none 0 0) := by rw [← hW]; simp [go_sem]
  have c4 : W.cell? ⟨w.heap.size, 4, none⟩ = some (.int .i64 0) := by rw [← hW]; simp [go_sem]
  have m3 : W.frozen? ⟨w.heap.size, 3, none⟩ = false := by rw [← hW]; simp [go_sem]
  have m4 : W.frozen? ⟨w.heap.size, 4, none⟩ = false := by rw [← hW]; simp [go_sem]
  have HF : Hid (Fnd 54 w.heap.size most (.pointer (some ⟨bt, ot, none⟩)) (.pointer (some ⟨bx, ox, none⟩)) [] [w.heap.size] W) := ⟨.slice none 0 0, rfl, by omega, c0, c1, c2, c3, c4, m3, m4, by simpa using Bl.nil⟩
  have HTB := Lib.hid (HT.out.B.below hbW)
  have HXB := Lib.hid (HX.out.B.below hbW)
  clear c0 c1 c2 c3 c4 m3 m4 hW
  refine (from_any HOK.out HN.out HS.out w.heap.size most hm _ _ n W _ [] [] [] [w.heap.size] (by simp) HF.out HTB.out HXB.out ⟨_, 0, rfl, Nat.le_refl _, Nat.zero_le _, .inl ⟨rfl, rfl⟩⟩ (fun k hk => by cases hk) (.inr (by simpa using hm0)) (by have := HSL.out; rw [HSX.out]; simp only [List.length_nil]; omega)).mono ?_
  rintro e w2 ⟨⟨u, rfl⟩, O', hF2, ht2, hO2⟩
  rw [List.nil_append, lim_pos hm0, HSX.out] at hF2
  have hb2 : Below w.heap.size w w2 := hbW.trans (ht2.below (by omega) (fun q hq => by simp at hq; omega))
  obtain ⟨v2, -, h1, -, -, -, d3, -, -, -, hB⟩ := hF2
  rw [List.take_take, Nat.min_self] at hB
  have hf := hB.fr (by rw [List.length_take]; unfold capMax; omega)
  obtain ⟨a2, n2, cc2, rfl⟩ := ex_slice hf
  have HFR := Lib.hid hf
  clear hB hf ht2 hO2 HF
  go_wp2_with fail
  go_ret
  exact ⟨_, rfl, HFR.out.mono (by omega), hb2⟩
set_option maxHeartbeats 3200000 in
set_option maxRecDepth 100000 in
theorem specCountSolutions_any (w : World) {cs cs' : Array Value} {t : Int × List (Int × List (List Int))} {x : Int × List (Int × List Int)} (h : tplT.Rd w cs.toList t) (h' : instT.Rd w cs'.toList x) :
    Calls Try.prog 23 #[.agg cs, .agg cs'] w fun e w' => e = .returned (.tuple #[.int .i64 (csV t x), .int .i64 (csC t x)]) ∧ Below w.heap.size w w' := by
  have p0 : tplT.Pt ((w.alloc (.cells cs 34)).alloc (.cells cs' 38)) (.pointer (some ⟨w.heap.size, 0, none⟩)) t := (pt_box h).below bA
  have p1 : instT.Pt ((w.alloc (.cells cs 34)).alloc (.cells cs' 38)) (.pointer (some ⟨w.heap.size + 1, 0, none⟩)) x := by
    simpa using pt_box (T := 38) (h'.below (bA (o := .cells cs 34)))
  obtain ⟨v1, hv, hI, -⟩ := pair_ex h
  obtain rfl := agg_of hv
  obtain ⟨v2, hv', hI', -⟩ := pair_ex h'
  obtain rfl := agg_of hv'
  clear h hv h' hv'
  go_enter Try.func23, Try.ntmps23
  go_wp2_with fail
  generalize hW : World.alloc _ _ = W at p0 p1 ⊢
  have hbW : Below w.heap.size w W := hW ▸ bAA
  have hsW : w.heap.size + 2 ≤ W.heap.size := by rw [← hW]; simp
  clear hW
  refine (l05Ok_quiet _ p0 p1).mono ?_
  rintro e w1 ⟨rfl, hq1⟩
  have hb1 := hq1.below
  have hB1 := bthen hbW hb1
  have hz1 := hb1.size
  clear hq1
  cases hok : tb (instOk t x)
  · have HR := Lib.hid (cs_no hok)
    clear hok
    go_wp2_with fail
    go_ret2
    exact ⟨by rw [HR.out.1, HR.out.2]; rfl, hB1⟩
  · have HR := Lib.hid (cs_yes hok)
    have HOK := Lib.hid (tb_iff.1 hok)
    have HSL := Lib.hid (solsX_len HOK.out)
    have hn1 := HOK.out.2.1
    have hs1 := HOK.out.1.1
    unfold sizeOk at hs1
    obtain ⟨n, hn⟩ : ∃ n : Nat, x.1 = n := ⟨x.1.toNat, by omega⟩
    obtain ⟨s, hs⟩ : ∃ s : Nat, t.1 = s := ⟨t.1.toNat, by omega⟩
    have HN := Lib.hid hn
    have HS := Lib.hid hs
    have HSX := Lib.hid (solsX_nat (t := t) (x := x) hn hs)
    have P0 := Lib.hid (p0.below hb1)
    have P1 := Lib.hid (p1.below hb1)
    clear hok hn1 hs1 hn hs p0 p1
    go_wp2_with fail
    generalize hWa : World.alloc (World.alloc w1 _) _ = wa
    have hba : Below w1.heap.size w1 wa := hWa ▸ bAA
    have hsa : w1.heap.size + 2 ≤ wa.heap.size := by rw [← hWa]; simp
    have c0 : wa.cell? ⟨w1.heap.size, 0, none⟩ = some (.pointer (some ⟨w.heap.size, 0, none⟩)) := by rw [← hWa]; simp [go_sem]
    have c1 : wa.cell? ⟨w1.heap.size, 1, none⟩ = some (.pointer (some ⟨w.heap.size + 1, 0, none⟩)) := by rw [← hWa]; simp [go_sem]
    have c2 : wa.cell? ⟨w1.heap.size, 2, none⟩ = some (.int .i64 0) := by rw [← hWa]; simp [go_sem]
    have c3 : wa.cell? ⟨w1.heap.size, 3, none⟩ = some (.slice none 0 0) := by rw [← hWa]; simp [go_sem]
    have c4 : wa.cell? ⟨w1.heap.size, 4, none⟩ = some (.int .i64 0) := by rw [← hWa]; simp [go_sem]
    have m3 : wa.frozen? ⟨w1.heap.size, 3, none⟩ = false := by rw [← hWa]; simp [go_sem]
    have m4 : wa.frozen? ⟨w1.heap.size, 4, none⟩ = false := by rw [← hWa]; simp [go_sem]
    have HF : Hid (Fnd 54 w1.heap.size 0 (.pointer (some ⟨w.heap.size, 0, none⟩)) (.pointer (some ⟨w.heap.size + 1, 0, none⟩)) [] [w1.heap.size] wa) := ⟨.slice none 0 0, rfl, by omega, c0, c1, c2, c3, c4, m3, m4, by simpa using Bl.nil⟩
    have HTB := Lib.hid (P0.out.B.below hba)
    have HXB := Lib.hid (P1.out.B.below hba)
    clear c0 c1 c2 c3 c4 m3 m4 hWa
    refine (from_any HOK.out HN.out HS.out w1.heap.size 0 (by omega) _ _ n wa _ [] [] [] [w1.heap.size] (by simp) HF.out HTB.out HXB.out ⟨_, 0, rfl, Nat.le_refl _, Nat.zero_le _, .inl ⟨rfl, rfl⟩⟩ (fun k hk => by cases hk) (.inl rfl) (by have := HSL.out; rw [HSX.out]; simp only [List.length_nil]; omega)).mono ?_
    rintro e w2 ⟨⟨u, rfl⟩, O', hF2, ht2, hO2⟩
    rw [List.nil_append, lim_zero, HSX.out] at hF2
    have hb2 : Below w.heap.size w w2 := (bthen hB1 hba).trans (ht2.below (by omega) (fun q hq => by simp at hq; omega))
    obtain ⟨v2, -, h1, -, -, -, -, d4, -, -, -⟩ := hF2
    have d5 : w2.cell? ⟨w1.heap.size, 4, none⟩ = some (.int .i64 (csV t x)) := by rw [HR.out.1]; exact d4
    clear ht2 hO2 HF d4
    go_wp2_with fail
    go_ret2
    exact ⟨by rw [HR.out.2]; rfl, hb2⟩
set_option maxHeartbeats 3200000 in
set_option maxRecDepth 100000 in
theorem specAllSolutions_any (w : World) {cs cs' : Array Value} {t : Int × List (Int × List (List Int))} {x : Int × List (Int × List Int)} (h : tplT.Rd w cs.toList t) (h' : instT.Rd w cs'.toList x) :
    Calls Try.prog 25 #[.agg cs, .agg cs'] w (RetSC rowsT w (asV t x) (asC t x)) := by
  have p0 : tplT.Pt ((w.alloc (.cells cs 34)).alloc (.cells cs' 38)) (.pointer (some ⟨w.heap.size, 0, none⟩)) t := (pt_box h).below bA
  have p1 : instT.Pt ((w.alloc (.cells cs 34)).alloc (.cells cs' 38)) (.pointer (some ⟨w.heap.size + 1, 0, none⟩)) x := by
    simpa using pt_box (T := 38) (h'.below (bA (o := .cells cs 34)))
  obtain ⟨v1, hv, hI, -⟩ := pair_ex h
  obtain rfl := agg_of hv
  obtain ⟨v2, hv', hI', -⟩ := pair_ex h'
  obtain rfl := agg_of hv'
  clear h hv h' hv'
  go_enter Try.func25, Try.ntmps25
  go_wp2_with fail
  generalize hW : World.alloc _ _ = W at p0 p1 ⊢
  have hbW : Below w.heap.size w W := hW ▸ bAA
  clear hW
  refine (l05Ok_quiet _ p0 p1).mono ?_
  rintro e w1 ⟨rfl, hq1⟩
  have hb1 := hq1.below
  have hB1 := bthen hbW hb1
  clear hq1
  cases hok : tb (instOk t x)
  · have HR := Lib.hid (as_no hok)
    clear hok
    go_wp2_with fail
    go_ret2
    exact ⟨.slice (some ⟨w1.heap.size, 0, none⟩) 0 0, by rw [HR.out.2]; rfl, by rw [HR.out.1]; exact fr_nil, hB1.alloc hB1.size _⟩
  · have HRM := Lib.hid (fun h => as_more hok h)
    have HRY := Lib.hid (fun h => as_yes hok h)
    have HOK := Lib.hid (tb_iff.1 hok)
    clear hok
    go_wp2_with fail
    refine (l05Solutions_any (most := 201) _ (p0.below hb1) (p1.below hb1) HOK.out (by omega) (by omega)).mono ?_
    rintro e w2 ⟨u, rfl, hf, hb2⟩
    obtain ⟨a2, c2, rfl⟩ := fr_slice hf
    have hll : ((solsX t x).take 201).length = min 201 (solsX t x).length := List.length_take
    generalize ((solsX t x).take 201).length = ln at *
    have HF := Lib.hid hf
    have hz1 := hB1.size
    clear hf
    cases hle : decide ((solsX t x).length ≤ 200)
    · have HR := Lib.hid (HRM.out hle)
      have hgt : (200 : Int) < (ln : Int) := by have := of_decide_eq_false hle; omega
      clear hle hll
      go_wp2_with fail
      go_ret2
      exact ⟨.slice (some ⟨w2.heap.size, 0, none⟩) 0 0, by rw [HR.out.2]; rfl, by rw [HR.out.1]; exact fr_nil, (bthen hB1 hb2).alloc (bthen hB1 hb2).size _⟩
    · have HR := Lib.hid (HRY.out hle)
      have HTK : Hid ((solsX t x).take 201 = solsX t x) := List.take_of_length_le (by have := of_decide_eq_true hle; omega)
      have hgt : ¬ ((200 : Int) < (ln : Int)) := by have := of_decide_eq_true hle; omega
      clear hle hll
      go_wp2_with fail
      go_ret2
      exact ⟨.slice a2 ln c2, by rw [HR.out.2]; rfl, by rw [HR.out.1, ← HTK.out]; exact HF.out.mono hz1, bthen hB1 hb2⟩
set_option maxHeartbeats 3200000 in
set_option maxRecDepth 100000 in
theorem specFirstSolution_any (w : World) {cs cs' : Array Value} {t : Int × List (Int × List (List Int))} {x : Int × List (Int × List Int)} (h : tplT.Rd w cs.toList t) (h' : instT.Rd w cs'.toList x) :
    Calls Try.prog 30 #[.agg cs, .agg cs'] w (RetSC intsT w (fsV t x) (fsC t x)) := by
  have p0 : tplT.Pt ((w.alloc (.cells cs 34)).alloc (.cells cs' 38)) (.pointer (some ⟨w.heap.size, 0, none⟩)) t := (pt_box h).below bA
  have p1 : instT.Pt ((w.alloc (.cells cs 34)).alloc (.cells cs' 38)) (.pointer (some ⟨w.heap.size + 1, 0, none⟩)) x := by
    simpa using pt_box (T := 38) (h'.below (bA (o := .cells cs 34)))
  obtain ⟨v1, hv, hI, -⟩ := pair_ex h
  obtain rfl := agg_of hv
  obtain ⟨v2, hv', hI', -⟩ := pair_ex h'
  obtain rfl := agg_of hv'
  clear h hv h' hv'
  go_enter Try.func30, Try.ntmps30
  go_wp2_with fail
  generalize hW : World.alloc _ _ = W at p0 p1 ⊢
  have hbW : Below w.heap.size w W := hW ▸ bAA
  clear hW
  refine (l05Ok_quiet _ p0 p1).mono ?_
  rintro e w1 ⟨rfl, hq1⟩
  have hb1 := hq1.below
  have hB1 := bthen hbW hb1
  clear hq1
  cases hok : tb (instOk t x)
  · have HR := Lib.hid (fs_no hok)
    clear hok
    go_wp2_with fail
    go_ret2
    exact ⟨.slice (some ⟨w1.heap.size, 0, none⟩) 0 0, by rw [HR.out.2]; rfl, by rw [HR.out.1]; exact fr_nil, hB1.alloc hB1.size _⟩
  · have HRM := Lib.hid (fun h => fs_none hok h)
    have HRY := Lib.hid (fun h => fs_yes hok h)
    have HOK := Lib.hid (tb_iff.1 hok)
    clear hok
    go_wp2_with fail
    refine (l05Solutions_any (most := 1) _ (p0.below hb1) (p1.below hb1) HOK.out (by omega) (by omega)).mono ?_
    rintro e w2 ⟨u, rfl, hf, hb2⟩
    have hz1 := hB1.size
    rcases hL : solsX t x with _ | ⟨y, r⟩
    · rw [hL] at hf
      obtain ⟨a2, c2, rfl⟩ := fr_slice hf
      have HR := Lib.hid (HRM.out (by rw [hL]; rfl))
      clear hf hL
      go_wp2_with fail
      go_ret2
      exact ⟨.slice (some ⟨w2.heap.size, 0, none⟩) 0 0, by rw [HR.out.2]; rfl, by rw [HR.out.1]; exact fr_nil, (bthen hB1 hb2).alloc (bthen hB1 hb2).size _⟩
    · rw [hL] at hf
      have hR := HRY.out (by rw [hL]; rfl)
      rw [hL] at hR
      have HR := Lib.hid hR
      rw [show (y :: r).take 1 = [y] by simp] at hf
      obtain ⟨fp, ⟨ad, cap, hv, h1, h2, h3⟩, hnd, hbs, hun⟩ := hf
      obtain rfl : u = _ := by simpa using hv
      rcases h3 with ⟨h3, -⟩ | ⟨-, b, o, fps, rfl, hbl, hfp, h4⟩
      · simp at h3
      obtain ⟨cs3, h5, h6⟩ := h4 0 (by simp)
      obtain ⟨ua, uc, rfl, -⟩ := id h5
      have e0 : w2.cell? ⟨b, o, none⟩ = some (.slice ua y.length uc) := by simpa [Ty.slice] using h6 0 (by simp)
      have hsub : fp = b :: fps 0 := by rw [hfp]; simp
      have HFY : Hid (intsT.Fr w1.heap.size w2 [.slice ua y.length uc] y) := ⟨fps 0, h5, (List.nodup_cons.1 (by rw [hsub] at hnd; exact hnd)).2, fun k hk => hbs k (by rw [hsub]; exact List.mem_cons_of_mem _ hk), fun k hk => hun k (by rw [hsub]; exact List.mem_cons_of_mem _ hk)⟩
      clear hL hR hv h1 h2 h4 h5 h6 hsub hfp hnd hbs hun
      go_wp2_with fail
      go_ret2
      exact ⟨.slice ua y.length uc, by rw [HR.out.2]; rfl, by rw [HR.out.1]; exact HFY.out.mono hz1, bthen hB1 hb2⟩
end Go.Proofs.Ytbpjejhjlmpcjaa
