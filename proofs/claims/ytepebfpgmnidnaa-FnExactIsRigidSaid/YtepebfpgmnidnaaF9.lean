/-
  Contracts: how many lists a finder looks at; the code of a template and an arity; polymorphisms counted, the program's.
-/
import Derived.Test.YtepebfpgmnidnaaF8
namespace Go.Proofs.Ytepebfpgmnidnaa
open Go.RowKit Go.Sort
noncomputable def askC (t : Tpl) (ar : Int) : Int := match tb (tplOk t), inB ar 1 3 with
  | false, _ => 1
  | true, false => 2
  | true, true => 0
theorem ask_1 {t : Tpl} {ar : Int} (h : tb (tplOk t) = false) : askC t ar = 1 := by simp [askC, h]
theorem ask_2 {t : Tpl} {ar : Int} (h : tb (tplOk t) = true) (h' : inB ar 1 3 = false) : askC t ar = 2 := by simp [askC, h, h']
theorem ask_0 {t : Tpl} {ar : Int} (h : tb (tplOk t) = true) (h' : inB ar 1 3 = true) : askC t ar = 0 := by simp [askC, h, h']
theorem ask_ok {t : Tpl} {ar : Int} (h : askC t ar = 0) : tplOk t ∧ 1 ≤ ar ∧ ar ≤ 3 := by
  cases h1 : tb (tplOk t)
  · rw [ask_1 h1] at h; cases h
  · cases h2 : inB ar 1 3
    · rw [ask_2 h1 h2] at h; cases h
    · exact ⟨tb_iff.1 h1, inB_true.1 h2⟩
theorem ask_I (t : Tpl) (ar : Int) : 0 ≤ askC t ar ∧ askC t ar ≤ 2 := by
  cases h1 : tb (tplOk t)
  · rw [ask_1 h1]; omega
  · cases h2 : inB ar 1 3
    · rw [ask_2 h1 h2]; omega
    · rw [ask_0 h1 h2]; omega
/-- a whole search -/
def tabL (t : Tpl) (ar : Int) : Nat := (t.1 ^ ar.toNat).toNat
noncomputable def okF (t : Tpl) (ar : Int) : List Int → Bool := goesF t (duesF (looksA t ar.toNat) (tabL t ar))
noncomputable def polyF (t : Tpl) (ar : Int) (fx : List Int) (yc : List (List Int) → Int) : FR := srch t.1.toNat (okF t ar) fx yc (tabL t ar) [] (0, 0, [])
def fxN (t : Tpl) (ar : Int) : List Int := List.replicate (tabL t ar) (-1)
theorem tabL_of {t : Tpl} {ar : Int} (h : tplOk t) : t.1 ^ ar.toNat = ((tabL t ar : Nat) : Int) := by
  have := pow_nn (s := t.1) (by have := h.1; unfold sizeOk at this; omega) ar.toNat
  unfold tabL
  omega
noncomputable def cpR (t : Tpl) (ar : Int) : FR := polyF t ar (fxN t ar) (fun _ => 0)
noncomputable def cpC (t : Tpl) (ar : Int) : Int := match askC t ar == 0, limF t ar.toNat with
  | false, _ => askC t ar
  | true, true => 3
  | true, false => (cpR t ar).1
noncomputable def cpV (t : Tpl) (ar : Int) : Int := match askC t ar == 0, limF t ar.toNat, (cpR t ar).1 == 0 with
  | true, false, true => ((cpR t ar).2.2.length : Int)
  | _, _, _ => 0
section
variable {t : Tpl} {ar : Int}
theorem cp_ask (h : askC t ar ≠ 0) : cpV t ar = 0 ∧ cpC t ar = askC t ar := by
  have : (askC t ar == 0) = false := by simpa using h
  simp [cpV, cpC, this]
theorem cp_lim (h : askC t ar = 0) (h1 : limF t ar.toNat = true) : cpV t ar = 0 ∧ cpC t ar = 3 := by simp [cpV, cpC, h, h1]
theorem cp_no (h : askC t ar = 0) (h1 : limF t ar.toNat = false) (h2 : (cpR t ar).1 ≠ 0) : cpV t ar = 0 ∧ cpC t ar = (cpR t ar).1 := by
  have : ((cpR t ar).1 == 0) = false := by simpa using h2
  simp [cpV, cpC, h, h1, this]
theorem cp_yes (h : askC t ar = 0) (h1 : limF t ar.toNat = false) (h2 : (cpR t ar).1 = 0) : cpV t ar = ((cpR t ar).2.2.length : Int) ∧ cpC t ar = 0 := by simp [cpV, cpC, h, h1, h2]
end
theorem tpl_looks {t : Tpl} {ar : Int} (hT : tplOk t) (har : 1 ≤ ar ∧ ar ≤ 3) (hl : limF t ar.toNat = false) : ldueOk t (duesF (looksA t ar.toNat) (tabL t ar)) ∧ (duesF (looksA t ar.toNat) (tabL t ar)).length = tabL t ar ∧ ∀ d ∈ duesF (looksA t ar.toNat) (tabL t ar), d.length ≤ 1000000 := by
  refine ⟨duesF_ok (looksA_ok hT (tabL_of hT) (by omega) _ (Nat.le_refl _)), duesF_len, fun d hd => ?_⟩
  obtain ⟨v, _, rfl⟩ := List.mem_map.1 hd
  have h1 := List.length_filter_le (fun a : Int × List Int => topI a.2 == (v : Int)) (looksA t ar.toNat)
  have h2 := looksA_len hl
  have h3 : (dueF (looksA t ar.toNat) v).length ≤ (looksA t ar.toNat).length := h1
  omega
/-- a row of -1s -/
theorem IR.of_mone {e base : Nat} {w : World} {g N : Nat} (h : w.heap[g]? = some (.cells (mone N N).toArray e (0, 0))) (hb : base ≤ g) (hN : N ≤ 1000) : IR e base w g N N (List.replicate N (-1)) := by
  refine ⟨by simp, fun a ha => by rw [List.eq_of_mem_replicate ha]; exact I64.small (by omega) (by omega), hb, by simp, .inr ⟨g, N, _, rfl, hb, h, Nat.le_refl _, by unfold maxLen; omega, ?_, ?_⟩⟩
  · rw [mone_full]; simp
  · rw [mone_full]; simp
theorem IR.fp {e base : Nat} {w : World} {g n cap : Nat} {L : List Int} (_h : IR e base w g n cap L) {fp : List Nat} (h2 : intsT.rd w [.slice (some ⟨g, 0, none⟩) n cap] L fp) : ∀ k ∈ fp, k = g := fun k hk => by
  obtain ⟨ad, cap', hv, -, -, h3⟩ := h2
  rcases h3 with ⟨_, rfl⟩ | ⟨_, b, o, fps, rfl, _, rfl, h4⟩
  · cases hk
  · simp only [List.cons.injEq, Value.slice.injEq, Option.some.injEq, Addr.mk.injEq, and_true] at hv
    obtain ⟨⟨rfl, rfl⟩, -, -⟩ := hv
    rcases List.mem_cons.1 hk with rfl | hk
    · rfl
    · obtain ⟨i, hi, hk⟩ := List.mem_flatMap.1 hk
      obtain ⟨cs, ⟨_, _, hf⟩, _⟩ := h4 i (by simpa using hi)
      rw [hf] at hk
      cases hk
set_option maxHeartbeats 800000 in
theorem searchFault_any (w : World) {cs : Array Value} {t : Tpl} (h : tplT.Rd w cs.toList t) (ar : Int) :
    Calls Try.prog 92 #[.agg cs, .int .i64 ar] w fun e w' => e = .returned (.int .i64 (askC t ar)) ∧ Below w.heap.size w w' := by
  have HT := Lib.hid h
  obtain ⟨v1, hv, -, -⟩ := pair_ex h
  obtain rfl := agg_of hv
  clear h hv
  go_enter Try.func92, Try.ntmps92
  go_wp2_with fail
  generalize hW : World.alloc _ _ = W
  have hbW : Below w.heap.size w W := hW ▸ bA
  clear hW
  refine (ValidTemplate_any _ (HT.out.below hbW)).mono ?_
  rintro e w1 ⟨rfl, hb1⟩
  have hB1 := bthen hbW hb1
  cases h1 : tb (tplOk t)
  · have HA := Lib.hid (ask_1 (ar := ar) h1)
    clear h1
    go_wp2_with fail
    go_ret
    exact ⟨ret_int HA.out.symm, hB1⟩
  · go_wp2_with fail
    refine (isOpArity_any ar _).mono ?_
    rintro e _ ⟨rfl, rfl⟩
    cases h2 : inB ar 1 3
    · have HA := Lib.hid (ask_2 h1 h2)
      clear h1 h2
      go_wp2_with fail
      go_ret
      exact ⟨ret_int HA.out.symm, hB1⟩
    · have HA := Lib.hid (ask_0 h1 h2)
      clear h1 h2
      go_wp2_with fail
      go_ret
      exact ⟨ret_int HA.out.symm, hB1⟩
def minP (ar : Nat) (r : Int × List (List Int)) : Int := min 4001 ((r.2.length : Int) ^ ar)
theorem minP_bd {ar : Nat} (r : Int × List (List Int)) : 0 ≤ minP ar r ∧ minP ar r ≤ 4001 := by
  unfold minP
  have := pow0 (n := r.2.length) (ar := ar)
  omega
theorem minS_bd {ar : Nat} : ∀ {xs : List (Int × List (List Int))}, 0 ≤ sumL (minP ar) xs ∧ sumL (minP ar) xs ≤ xs.length * 4001
  | [] => by simp [sumL]
  | x :: r => by
    have h1 := minP_bd (ar := ar) x
    have h2 := minS_bd (ar := ar) (xs := r)
    simp only [sumL, List.length_cons]
    omega
set_option maxHeartbeats 1600000 in
set_option maxRecDepth 100000 in
theorem manyLooks_any (w : World) {cs : Array Value} {t : Tpl} (h : tplT.Rd w cs.toList t) (hT : tplOk t) {ar : Int} (har : 1 ≤ ar ∧ ar ≤ 3) :
    Calls Try.prog 93 #[.agg cs, .int .i64 ar] w fun e w' => e = .returned (.int .i64 (sumL (minP ar.toNat) t.2)) ∧ Below w.heap.size w w' := by
  obtain ⟨v1, hv, -, hx⟩ := pair_ex h
  obtain rfl := agg_of hv
  obtain ⟨ra, rc, hv1, -, -, hrce⟩ := pairs_ex hx
  obtain rfl : v1 = _ := by simpa using hv1
  have HRC := Lib.hid hrce
  have HT := Lib.hid hT
  have hl6 := hT.2.1
  clear h hv hx hv1 hrce hT
  go_enter Try.func93, Try.ntmps93
  go_wp2_with fail
  generalize hW : World.alloc _ _ = W
  have hbW : Below w.heap.size w W := hW ▸ bA
  have t1 : W.cell? ⟨w.heap.size, 1, none⟩ = some (.slice ra t.2.length rc) := by rw [← hW]; simp
  clear hW
  go_wp2_with fail
  clear t1
  go_loopw [11, 5] (fun i s wr => ∃ k : Nat, k ≤ t.2.length ∧ i = .int .i64 k ∧ s = .int .i64 (sumL (minP ar.toNat) (t.2.take k)) ∧ Below w.heap.size w wr) (fun i _ _ => t.2.length - (intOf i).toNat)
  case atStart => exact ⟨0, Nat.zero_le _, rfl, by simp [sumL], hbW⟩
  case round =>
    obtain ⟨k, hk, rfl, rfl, hbe⟩ := hrel
    have hze := hbe.size
    clear hbW
    by_cases hkl : k < t.2.length
    · obtain ⟨b, o, rfl, hb, hce⟩ := HRC.out (by omega)
      obtain ⟨u, hu, -, g0, g1⟩ := hce k hkl
      obtain ⟨ua, uc, rfl⟩ := rd_slice hu
      have hr := HT.out.2.2 _ (List.getElem_mem hkl)
      have hrl := rel_len_le hr
      have d0 := (cellB hbe hb).trans g0
      have d1 := (cellB hbe hb).trans g1
      have HS := Lib.hid (sumL_succ (minP ar.toNat) hkl)
      have hm1 := minP_bd (ar := ar.toNat) t.2[k]
      have hm2 := minS_bd (ar := ar.toNat) (xs := t.2.take k)
      rw [List.length_take] at hm2
      have HMP : Hid (min 4001 (((t.2[k]).2.length : Int) ^ ar.toNat) = minP ar.toNat t.2[k]) := rfl
      have hl256 : (t.2[k]).2.length ≤ 1000 := by omega
      have hwr : IntKind.i64.wrap (sumL (minP ar.toNat) (t.2.take k) + minP ar.toNat t.2[k]) = sumL (minP ar.toNat) (t.2.take k) + minP ar.toNat t.2[k] := wrap_small (by omega) (by omega)
      have HW := Lib.hid hwr
      clear hce hu g0 g1 hr hrl hwr
      go_wp2_with fail
      refine (power_any _ ((t.2[k]).2.length : Int) ar (by omega) (by omega) (by omega)).mono ?_
      rintro e w2 ⟨rfl, hw2⟩
      have hb2 : Below w.heap.size w w2 := by rw [← hw2]; exact hbe.alloc (by omega) _
      clear hw2
      have HMX : Hid (∃ x, ((t.2[k]).2.length : Int) ^ ar.toNat = x) := ⟨_, rfl⟩
      generalize hx : ((t.2[k]).2.length : Int) ^ ar.toNat = x
      have HX : Hid (minP ar.toNat t.2[k] = min 4001 x) := by unfold Hid minP; rw [hx]
      rw [HX.out] at hm1 HW
      have hx0 : 0 ≤ min 4001 x ∧ min 4001 x ≤ 4001 := hm1
      have hS0 : 0 ≤ sumL (minP ar.toNat) (t.2.take k) ∧ sumL (minP ar.toNat) (t.2.take k) ≤ 30000 := by omega
      clear hx HMX HMP hm1
      generalize sumL (minP ar.toNat) (t.2.take k) = S at *
      go_wp2_with fail
      go_roundw
      case rel => exact ⟨k + 1, by omega, by go_num, by rw [HS.out, HX.out]; first | rfl | exact congrArg _ HW.out | exact congrArg _ (by split <;> omega), hb2⟩
      case measure => simp [intOf]; omega
    · obtain rfl : k = t.2.length := by omega
      rw [List.take_length]
      go_wp2_with fail
      go_ret
      exact ⟨rfl, hbe⟩
/-- a counter that listens -/
def cntF (bx : Nat) (told : List (List Int)) (O : Nat → Prop) (w : World) : Prop := (∀ k, O k → k = bx) ∧ O bx ∧ bx < w.heap.size ∧ w.frozen? ⟨bx, 0, none⟩ = false ∧ w.cell? ⟨bx, 0, none⟩ = some (.int .i64 (told.length : Int))
set_option maxHeartbeats 1600000 in
theorem cnt1_yf (ar : Int) (bx : Nat) : Yf Try.prog ar 96 #[.pointer (some ⟨bx, 0, none⟩)] (fun _ => 0) (cntF bx) := by
  refine ⟨?_, ?_, ?_⟩
  · rintro told O w w' ⟨h1, h2, h3, h4, h5⟩ hs hz
    have := hs bx h3 h2
    exact ⟨h1, h2, Nat.lt_of_lt_of_le h3 hz, (World.frozen?_of_block (a := ⟨bx, 0, none⟩) this).trans h4, (World.cell?_of_block (a := ⟨bx, 0, none⟩) this).trans h5⟩
  · rintro told O w ⟨h1, -, h3, -, -⟩ k hk
    rw [h1 k hk]
    exact h3
  · rintro told O w0 w u x ⟨h1, h2, h3, h4, h5⟩ hb hf - hln
    obtain ⟨ua, uc, rfl⟩ := fr_slice hf
    have f0 := (frozenB hb h3).trans h4
    have c0 := (cellB hb h3).trans h5
    have hlt : bx < w.heap.size := by have := hb.size; omega
    have hwr : IntKind.i64.wrap ((told.length : Int) + 1) = (told.length : Int) + 1 := wrap_small (by omega) (by omega)
    have H1 := Lib.hid h1
    clear h4 h5 hf h1
    show Calls Try.prog 96 #[.agg #[.int .i64 ar, .slice ua x.length uc], .pointer (some ⟨bx, 0, none⟩)] w _
    go_enter Try.func96, Try.ntmps96
    go_wp2_with fail
    go_ret
    have hls : bx < (w.setCell ⟨bx, 0, none⟩ (.int .i64 ((told.length : Int) + 1))).heap.size := by simpa [World.setCell] using hlt
    refine ⟨rfl, O, ⟨H1.out, h2, by simp [World.setCell]; omega, (frozenB bA hls).trans ((World.frozen?_setCell _ _ _ _).trans f0), (cellB bA hls).trans ?_⟩, (TchP.set h2).then (TchP.of_below bA (fun _ => False)) (fun k _ hk => hk.elim), fun k hk => .inl hk⟩
    rw [World.cell?_setCell_same _ _ _ c0]
    exact congrArg some (congrArg (Value.int .i64) (by rw [List.length_append, List.length_singleton]; omega))
set_option maxHeartbeats 3200000 in
set_option maxRecDepth 100000 in
theorem CountPolymorphisms_any (w : World) {cs : Array Value} {t : Tpl} (h : tplT.Rd w cs.toList t) (ar : Int) :
    Calls Try.prog 30 #[.agg cs, .int .i64 ar] w fun e w' => e = .returned (.tuple #[.int .i64 (cpV t ar), .int .i64 (cpC t ar)]) ∧ Below w.heap.size w w' := by
  have HT := Lib.hid h
  obtain ⟨v1, hv, -, -⟩ := pair_ex h
  obtain rfl := agg_of hv
  clear h hv
  go_enter Try.func30, Try.ntmps30
  go_wp2_with fail
  generalize hW : World.alloc _ _ = W
  have hbW : Below w.heap.size w W := hW ▸ bA
  have t0 : W.cell? ⟨w.heap.size, 0, none⟩ = some (.int .i64 t.1) := by rw [← hW]; simp
  have t1 : W.cell? ⟨w.heap.size, 1, none⟩ = some v1 := by rw [← hW]; simp
  have hsW : w.heap.size + 1 ≤ W.heap.size := by rw [← hW]; simp
  clear hW
  refine (searchFault_any _ (HT.out.below hbW) ar).mono ?_
  rintro e w1 ⟨rfl, hb1⟩
  have hB1 := bthen hbW hb1
  have hz1 := hb1.size
  replace t0 := (cellB hb1 (by omega)).trans t0
  replace t1 := (cellB hb1 (by omega)).trans t1
  have hl1 : w.heap.size < w1.heap.size := by omega
  cases ha : (askC t ar != 0)
  · have ha0 : askC t ar = 0 := by simpa using ha
    have HAOK := Lib.hid (ask_ok ha0)
    have HA0 := Lib.hid ha0
    have har := (ask_ok ha0).2
    rw [ha0]
    clear ha ha0
    go_wp2_with fail
    refine (manyLooks_any _ (HT.out.below hB1) HAOK.out.1 har).mono ?_
    rintro e w2 ⟨rfl, hb2⟩
    have hB2 := bthen hB1 hb2
    have hz2 := hb2.size
    replace t0 := (cellB hb2 (by omega)).trans t0
    replace t1 := (cellB hb2 (by omega)).trans t1
    have hl2 : w.heap.size < w2.heap.size := by omega
    have HLM : Hid (decide (4000 < sumL (minP ar.toNat) t.2) = limF t ar.toNat) := lim_min
    generalize sumL (minP ar.toNat) t.2 = S at *
    cases hl : decide (4000 < S)
    · have HLF : Hid (limF t ar.toNat = false) := by unfold Hid; rw [← HLM.out]; exact hl
      go_wp2_with fail
      generalize hWa : World.alloc w2 _ = wa
      have hba : Below w2.heap.size w2 wa := hWa ▸ bA
      have hsa : w2.heap.size + 1 ≤ wa.heap.size := by rw [← hWa]; simp
      have y0 : wa.cell? ⟨w2.heap.size, 0, none⟩ = some (.int .i64 0) := by rw [← hWa]; simp [go_sem]
      have y1 : wa.frozen? ⟨w2.heap.size, 0, none⟩ = false := by rw [← hWa]; simp [go_sem]
      have hBa := bthen hB2 hba
      clear hWa hl
      refine (newFinder_any _ (HT.out.below hBa) HAOK.out.1 har HLF.out (tabL_of HAOK.out.1)).mono ?_
      rintro e w3 hnf
      obtain ⟨bs, gd, gt, vin, rfl, hbs, hgt, hne, hbx, hgth, hdu, hin, hb3⟩ := hnf
      have hz3 := hb3.size
      have z0 := (cellB hb3 (by omega)).trans y0
      have z1 := (frozenB hb3 (by omega)).trans y1
      obtain ⟨hbslt, b0, b2, b3, b4, b5, b6, b7, -, e6, e7⟩ := hbx
      have hgtl := lt_of_block hgth
      have hNb := tabN_bd (tabN_of HAOK.out.1.1 (ar := ar.toNat) (by omega) (tabL_of HAOK.out.1))
      have HFD : Hid (Fd (fun k => k < w3.heap.size ∧ k ≠ bs ∧ k ≠ w2.heap.size) w3 bs t ar (duesF (looksA t ar.toNat) (tabL t ar)) (fxN t ar)) := by
        refine ⟨hbslt, _, _, _, b0, b2, b3, b4, b5, hdu.mono (fun k h1 h2 => ⟨h1, h2.2.1, by omega⟩), hin.mono (fun k h1 h2 => ⟨h1, h2.2.1, by omega⟩), ?_⟩
        have h1 : IR 2 wa.heap.size w3 gt (tabL t ar) (tabL t ar) (fxN t ar) := IR.of_mone hgth hgt (by omega)
        obtain ⟨fp, h2, -, h3, -⟩ := h1.fr (by unfold capMax; omega)
        refine ⟨fp, h2, fun k hk => ?_⟩
        have hk1 := intsT.lt h2 k hk
        have hk2 : k = gt := IR.fp h1 h2 k hk
        exact ⟨hk1, by rw [hk2]; exact hne, by have := h3 k hk; omega⟩
      have HTB : Hid (Tb 2 w3.heap.size w3 bs 0 (.slice none 0 0) []) := ⟨b6, b7, e6, e7, Bl.nil⟩
      have HI : Hid (cntF w2.heap.size [] (fun k => k = w2.heap.size) w3) := ⟨fun k hk => hk, rfl, by omega, z1, z0⟩
      have HLK := Lib.hid (tpl_looks HAOK.out.1 har HLF.out)
      have hB3 := bthen hBa hb3
      have hs0 : t.1 = (t.1.toNat : Int) := by have := HAOK.out.1.1; unfold sizeOk at this; omega
      have HS0 := Lib.hid hs0
      have HFXL : Hid ((fxN t ar).length = tabL t ar) := by simp [Hid, fxN]
      clear b0 b2 b3 b4 b5 b6 b7 e6 e7 hdu hin hgth hs0
      go_wp2_with fail
      refine (search_any HAOK.out.1 HS0.out (by omega) HLK.out.2.1 HLK.out.1 HLK.out.2.2 HFXL.out 96 #[.pointer (some ⟨w2.heap.size, 0, none⟩)] (enters Try.func96 (by kernel_rfl) rfl) (fun _ => 0) (cntF w2.heap.size) (cnt1_yf ar _) bs w3.heap.size (fun k => k < w3.heap.size ∧ k ≠ bs ∧ k ≠ w2.heap.size) hbslt (fun k hk => ⟨hk.1, hk.2.1⟩) (tabL t ar) w3 (.slice none 0 0) [] 0 [] (fun k => k = w2.heap.size) (by simp) (fun a ha => by cases ha) HFD.out HTB.out HI.out (fun k hk => hk.2.2) (by omega) (fun k hk => by simp [Value.ownBlock] at hk) (by omega) (by simp) (Nat.le_refl _)).mono ?_
      rintro e w4 ⟨rfl, hsr⟩
      obtain ⟨v4, O4, -, -, hI4, -, -, ht4⟩ := hsr
      have HCP : Hid (srch t.1.toNat (goesF t (duesF (looksA t ar.toNat) (tabL t ar))) (fxN t ar) (fun _ => 0) (tabL t ar) [] (0, 0, []) = cpR t ar) := rfl
      rw [HCP.out] at hI4 ⊢
      obtain ⟨-, -, hl4, -, c4⟩ := hI4
      have hB4 : Below w.heap.size w w4 := hB3.trans (ht4.below (by have := hB3.size; omega) (fun k hk h => by
        rcases h with h | h | h
        · omega
        · omega
        · simp [Value.ownBlock] at h))
      clear ht4 HCP
      cases hc : ((cpR t ar).1 != 0)
      · have HR := Lib.hid (cp_yes HA0.out HLF.out (by simpa using hc))
        go_wp2_with fail
        go_ret2
        exact ⟨by rw [HR.out.1, HR.out.2]; rfl, hB4⟩
      · have HR := Lib.hid (cp_no HA0.out HLF.out (by simpa using hc))
        go_wp2_with fail
        go_ret2
        exact ⟨by rw [HR.out.1, HR.out.2]; rfl, hB4⟩
    · have HR := Lib.hid (cp_lim HA0.out (by rw [← HLM.out]; exact hl))
      go_wp2_with fail
      go_ret2
      exact ⟨by rw [HR.out.1, HR.out.2]; rfl, hB2⟩
  · have HR := Lib.hid (cp_ask (t := t) (ar := ar) (by simpa using ha))
    go_wp2_with fail
    go_ret2
    exact ⟨by rw [HR.out.1, HR.out.2]; rfl, hB1⟩
end Go.Proofs.Ytepebfpgmnidnaa
