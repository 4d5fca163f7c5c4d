/-
  The law FnPolymorphisms, walked: its contract.
-/
import Derived.Test.YthjafhjghjbdmaaQBD
import Derived.Test.YthjafhjghjbdmaaQAC
namespace Go.Proofs.Ythjafhjghjbdmaa
open Go.RowKit Go.Sort
theorem pair_mk2' {w : World} {n : Int} {v : Value} {f : Int × List Int} (h1 : n = f.1) (h2 : I64 n) (h3 : intsT.Rd w [v] f.2) : opT.Rd w [.int .i64 n, v] f := by
  subst h1
  exact pair_mk h2 h3
set_option maxHeartbeats 12800000 in
set_option maxRecDepth 100000 in
theorem fnPolymorphisms_any (w : World) {v0 v1 : Value} {x0 x1 : List Int} (h0 : bytesT.Rd w [v0] x0) (h1 : bytesT.Rd w [v1] x1) :
    Calls Try.prog 3 #[v0, v1] w fun e w' => e = .returned (.bool true) ∧ Below w.heap.size w w' := by
  obtain ⟨a0, k0, rfl⟩ := rd_slice h0
  obtain ⟨a1, k1, rfl⟩ := rd_slice h1
  have H0 := Lib.hid h0
  have H1 := Lib.hid h1
  clear h0 h1
  go_enter Try.func3, Try.ntmps3
  go_wp2_with fail
  refine (a2Long_any w H0.out H1.out).mono ?_
  rintro e _ ⟨b, rfl, rfl⟩
  cases b
  rotate_left
  · go_wp2_with fail
    go_ret
    exact ⟨rfl, (by repeat (first | exact Below.refl _ _ | exact bA | assumption | refine Below.setCell ?_ (by first | omega | (simp; try omega)) _ | refine Below.alloc ?_ (by first | omega | (simp; try omega)) _ | refine Below.drew ?_ | refine bDN ?_ | refine bthen ?_ (by assumption)))⟩
  go_wp2_with fail
  refine (A2Template_any w H0.out).mono ?_
  rintro e w1 ⟨cs, t, rfl, hf, hok, h3, hb1⟩
  obtain ⟨ta, tc, rfl⟩ := fr_pair hf
  have HF1 := Lib.hid hf.rd
  have HOK := Lib.hid hok
  have hs := hok.1
  unfold sizeOk at hs
  have hz1 := hb1.size
  clear hf hok H0
  go_wp2_with fail
  generalize hW2 : World.alloc w1 _ = w2
  have hb2 : Below w1.heap.size w1 w2 := hW2 ▸ bA
  have hz2 : w1.heap.size + 1 ≤ w2.heap.size := by rw [← hW2]; simp
  have t0 : w2.cell? ⟨w1.heap.size, 0, none⟩ = some (.int .i64 t.1) := by rw [← hW2]; simp [go_sem]
  have t1 : w2.cell? ⟨w1.heap.size, 1, none⟩ = some (.slice ta t.2.length tc) := by rw [← hW2]; simp [go_sem]
  have hbw2 := bthen hb1 hb2
  have HT2 : Hid (tplT.Rd w2 [.int .i64 t.1, .slice ta t.2.length tc] t) := HF1.out.below hb2
  clear hW2 HF1
  refine (a2At_any w2 (k := 0) (n := 2) (H1.out.below hbw2) (by omega)).mono ?_
  rintro e _ ⟨x, rfl, hx, rfl⟩
  obtain ⟨ar, har⟩ : ∃ ar : Nat, (1 : Int) + (x : Int) = (ar : Int) := ⟨1 + x, by omega⟩
  have hwr : IntKind.i64.wrap ((1 : Int) + (x : Int)) = (ar : Int) := by rw [har]; exact wrap_small (by omega) (by omega)
  have har2 : 1 ≤ ar ∧ ar ≤ 2 := by omega
  clear har
  go_wp2_with fail
  refine (PolymorphismsOf_any w2 HT2.out (ar := (ar : Int))).mono ?_
  rintro e w3 ⟨u3, rfl, hf3, hb3⟩
  obtain ⟨a3, n3, c3, rfl⟩ := ex_slice hf3
  have hz3 := hb3.size
  have HP3 := Lib.hid hf3.rd
  replace t0 := (cellB hb3 (by omega)).trans t0
  replace t1 := (cellB hb3 (by omega)).trans t1
  have HT3 := Lib.hid (HT2.out.below hb3)
  have hbw3 := bthen hbw2 hb3
  clear hf3 HT2 hwr
  go_wp2_with fail
  refine (specPolymorphismsOf_any w3 HT3.out (ar := (ar : Int))).mono ?_
  rintro e w4 ⟨u4, rfl, hf4, hb4⟩
  obtain ⟨a4, c4, rfl⟩ := fr_slice hf4
  have hz4 := hb4.size
  have HP4 := Lib.hid hf4.rd
  replace t0 := (cellB hb4 (by omega)).trans t0
  replace t1 := (cellB hb4 (by omega)).trans t1
  have HT4 := Lib.hid (HT3.out.below hb4)
  have HP34 := Lib.hid (HP3.out.below hb4)
  have hbw4 := bthen hbw3 hb4
  clear hf4 HT3 HP3
  go_wp2_with fail
  refine (CountPolymorphisms_any w4 HT4.out (ar : Int)).mono ?_
  rintro e w5 ⟨rfl, hb5⟩
  have hz5 := hb5.size
  replace t0 := (cellB hb5 (by omega)).trans t0
  replace t1 := (cellB hb5 (by omega)).trans t1
  have HT5 := Lib.hid (HT4.out.below hb5)
  have HPA := Lib.hid (HP34.out.below hb5)
  have HPB := Lib.hid (HP4.out.below hb5)
  have hbw5 := bthen hbw4 hb5
  have HCP := Lib.hid (po_cp (ask_yes HOK.out (by omega : 1 ≤ ar ∧ ar ≤ 3)))
  have HMANY := Lib.hid (po_many (t := t) (ar := ar))
  clear HT4 HP34 HP4
  have HSAME : Hid (Calls Try.prog 10 #[.slice a3 n3 c3, .slice a4 (poV t (ar : Int)).length c4] w5 fun e w' => e = .returned (.bool true) ∧ Quiet w5 w') := by
    refine (A2SameOps_quiet w5 HPA.out HPB.out).mono ?_
    rintro e w' ⟨rfl, h⟩
    exact ⟨by rw [eqB_true rfl], h⟩
  have hcc : (poC t (ar : Int) != poC t (ar : Int)) = false := by simp
  cases hc : (poC t (ar : Int) != 0)
  rotate_left
  · have hc' : poC t (ar : Int) ≠ 0 := by simpa using hc
    obtain ⟨h37, hcp⟩ := HCP.out.2 hc'
    clear HCP hc'
    generalize poC t (ar : Int) = c at *
    generalize cpC t (ar : Int) = d at *
    generalize cpV t (ar : Int) = n at *
    have e1 : (c == 3 || c == 7) = true := by rcases h37 with h | h <;> simp [h]
    have e2 : (d != 0 || decide (64 < n)) = true := by rcases hcp with h | h <;> simp [h]
    clear h37 hcp
    go_wp2_with fail
    refine HSAME.out.mono ?_
    rintro e w6 ⟨rfl, hq6⟩
    cases g1 : (c == 3) <;> cases g2 : (c == 7) <;> cases g3 : (d != 0) <;> cases g4 : decide (64 < n) <;> simp only [g1, g2, g3, g4, Bool.or_true, Bool.or_false, Bool.true_or, Bool.false_or, reduceCtorEq] at e1 e2
    all_goals
      go_wp2_with fail
      go_ret
      exact ⟨rfl, bthen hbw5 hq6.below⟩
  · have hc' : poC t (ar : Int) = 0 := by simpa using hc
    obtain ⟨hd, hn⟩ := HCP.out.1 hc'
    obtain ⟨N, hN⟩ : ∃ N : Nat, t.1 ^ ar = (N : Int) := ⟨(t.1 ^ ar).toNat, by have h0 : 0 < t.1 ^ ar := Int.pow_pos (by omega); omega⟩
    obtain ⟨i0, hi0, hi1⟩ := po_proj HOK.out (by omega) hc' hN
    have HALL : Hid (∀ f ∈ poV t (ar : Int), f.1 = ar ∧ opOk t.1 f ∧ polyB t f = true ∧ polyC t f = 0) := fun f hf => po_all HOK.out (by omega) hc' hf
    have HCMP : Hid (∀ f ∈ poV t (ar : Int), ∀ gs : List (Int × List Int), (∀ g ∈ gs, g ∈ poV t (ar : Int)) → gs.length = ar → polyB t ((ar : Int), compT t.1 ar N f.2 gs) = true ∧ polyC t ((ar : Int), compT t.1 ar N f.2 gs) = 0) := fun f hf gs hg hl => po_comp HOK.out (by omega) hc' hN hf hg hl
    have HAMO : Hid (∀ f : Int × List Int, f.1 = ar → anyB (fun g => eqB g f) (poV t (ar : Int)) = polyB t f) := fun f hf => po_among HOK.out (by omega) hc' hf
    have HN := Lib.hid hN
    have HI1 := Lib.hid hi1
    clear HCP hN hi1
    rw [hc'] at hc hcc ⊢
    rw [hd, hn]
    clear hc' hd hn
    generalize poV t (ar : Int) = P at *
    have hPn : (((P.length : Nat) : Int) != ((P.length : Nat) : Int)) = false := by simp
    go_wp2_with fail
    refine HSAME.out.mono ?_
    rintro e w6 ⟨rfl, hq6⟩
    have hb6 := hq6.below
    have hz6 := hb6.size
    replace t0 := (cellB hb6 (by omega)).trans t0
    replace t1 := (cellB hb6 (by omega)).trans t1
    have hbw6 := bthen hbw5 hb6
    have HT6 := Lib.hid (HT5.out.below hb6)
    have HPB6 := Lib.hid (HPB.out.below hb6)
    obtain ⟨VS, hVl, hVr, ad, cap, hu, hVc⟩ := rd_vals HPB6.out
    simp only [Value.slice.injEq, true_and] at hu
    obtain ⟨rfl, rfl⟩ := hu
    obtain ⟨b, o, rfl, hbl, hVc⟩ := hVc (by omega)
    have HVR := Lib.hid hVr
    have HVC := Lib.hid hVc
    have hlt1 : w1.heap.size < w6.heap.size := by omega
    have H16 := Lib.hid (H1.out.below hbw6)
    clear HSAME HT5 HPA HPB hq6 hVr hVc hb6 hPn hcc hc
    go_wp2_with fail
    go_loopw [14, 13] (fun i f wr => ∃ k n : Nat, k ≤ P.length ∧ i = .int .i64 k ∧ f = .int .i64 n ∧ n ≤ 2 * k ∧ (i0 < k → 1 ≤ n) ∧ Below w6.heap.size w6 wr) (fun i _ _ => P.length - (intOf i).toNat)
    case atStart => exact ⟨0, 0, Nat.zero_le _, rfl, rfl, by omega, by omega, Below.refl _ _⟩
    case round =>
      obtain ⟨k, n, hk, rfl, rfl, hn, hn1, hbr⟩ := hrel
      have u0 := (cellB hbr hlt1).trans t0
      have u1 := (cellB hbr hlt1).trans t1
      have hzr := hbr.size
      have hm64 : P.length ≤ 64 := HMANY.out
      by_cases hkl : k < P.length
      · have hkV : k < VS.length := by omega
        obtain ⟨e0, e1⟩ := HVC.out k hkV
        obtain ⟨g1, g2, g3⟩ := HVR.out k hkV hkl
        replace e0 := (cellB hbr hbl).trans e0
        replace e1 := (cellB hbr hbl).trans e1
        have HEL : Hid (opT.Rd wr [.int .i64 (VS[k]).1, (VS[k]).2] P[k]) := pair_mk2' g1 g2 (g3.below hbr)
        obtain ⟨hf1, hf2, hfB, hfC⟩ := HALL.out _ (List.getElem_mem hkl)
        have hIu := g3
        obtain ⟨va, vc, hvu⟩ := rd_slice g3
        rw [hvu] at e1 HEL
        have hm : (VS[k]).1 = (ar : Int) := g1.trans hf1
        rw [hm] at e0 HEL
        have HM := Lib.hid hm
        clear hm hf1 g1 g2 g3
        have HE0 := Lib.hid (And.intro e0 e1)
        go_wp2_with fail
        refine wp_region_T (fun w' => (w'.cell? ⟨w1.heap.size, 0, none⟩ = some (.int .i64 t.1) ∧ w'.cell? ⟨w1.heap.size, 1, none⟩ = some (.slice ta t.2.length tc)) ∧ w'.cell? ⟨b, o + k * 2, none⟩ = some (.int .i64 (ar : Int)) ∧ w'.cell? ⟨b, o + k * 2 + 1, none⟩ = some (.slice va (P[k]).2.length vc)) [] (by kernel_rfl) ⟨⟨u0, u1⟩, e0, e1⟩ (fun hHeld => ?_)
        refine wpAnyT_take (i := 0) (v := ?_) rfl (by kernel_rfl) (fun _ _ _ h => h) (Or.inl ⟨by rfl, ?_⟩) (by assumption) ?_
        rotate_left
        · (intro w hSw; (try dsimp only at hSw); go_simp <;> with_reducible rfl)
        go_simp
        refine wpAnyT_take (i := 1) (v := ?_) rfl (by kernel_rfl) (fun _ _ _ h => h) (Or.inl ⟨by rfl, ?_⟩) (by assumption) ?_
        rotate_left
        · (intro w hSw; (try dsimp only at hSw); go_simp <;> with_reducible rfl)
        go_simp
        refine wpAnyT_take (i := 2) (v := ?_) rfl (by kernel_rfl) (fun _ _ _ h => h) (Or.inl ⟨by rfl, ?_⟩) (by assumption) ?_
        rotate_left
        · (intro w hSw; (try dsimp only at hSw); go_simp <;> with_reducible rfl)
        go_simp
        refine wpAnyT_take (i := 3) (v := ?_) rfl (by kernel_rfl) (fun _ _ _ h => h) (Or.inl ⟨by rfl, ?_⟩) (by assumption) ?_
        rotate_left
        · (intro w hSw; (try dsimp only at hSw); go_simp <;> with_reducible rfl)
        go_simp
        refine wpAnyT_take (i := 4) (v := ?_) rfl (by kernel_rfl) (fun _ _ _ h => h) (Or.inl ⟨by rfl, ?_⟩) (by assumption) ?_
        rotate_left
        · (intro w hSw; (try dsimp only at hSw); go_simp <;> with_reducible rfl)
        go_simp
        have hv0 : Below wr.heap.size wr wr.drew := bD
        have HELd := Lib.hid (HEL.out.below hv0)
        have HTd := Lib.hid ((HT6.out.below hbr).below hv0)
        have hzd := hv0.size
        have hbd := bthen hbr hv0
        clear e0 e1 u0 u1 HE0
        generalize wr.drew = x0 at hHeld hv0 HELd HTd hzd hbd ⊢
        obtain ⟨⟨u0, u1⟩, e0, e1⟩ := hHeld
        refine wpAnyT_one (i := 5) rfl (by kernel_rfl) (fun K hK => ?_)
        go_simp
        go_at_call 11
        refine (IsPolymorphism_any x0 (f := P[k]) HTd.out HELd.out).mono ?_
        rintro e x1 ⟨rfl, hbx⟩
        rw [hfB, hfC]
        have hzx := hbx.size
        replace u0 := (cellB hbx (by omega)).trans u0
        replace u1 := (cellB hbx (by omega)).trans u1
        replace e0 := (cellB hbx (by omega)).trans e0
        replace e1 := (cellB hbx (by omega)).trans e1
        have hb1w := bthen hbd hbx
        have HELx := Lib.hid (HELd.out.below hbx)
        dsimp only
        refine hK.out _ _ ⟨⟨u0, u1⟩, e0, e1⟩ (fun hHeld => ?_)
        clear hK K HELd HTd
        refine wpAnyT_take (i := 6) (v := ?_) rfl (by kernel_rfl) (fun _ _ _ h => h) (Or.inl ⟨by rfl, ?_⟩) (by assumption) ?_
        rotate_left
        · (intro w hSw; (try dsimp only at hSw); go_simp <;> with_reducible rfl)
        go_simp
        refine wpAnyT_take (i := 7) (v := ?_) rfl (by kernel_rfl) (fun _ _ _ h => h) (Or.inl ⟨by rfl, ?_⟩) (by assumption) ?_
        rotate_left
        · (intro w hSw; (try dsimp only at hSw); go_simp <;> with_reducible rfl)
        go_simp
        refine wpAnyT_take (i := 8) (v := ?_) rfl (by kernel_rfl) (fun _ _ _ h => h) (Or.inl ⟨by rfl, ?_⟩) (by assumption) ?_
        rotate_left
        · (intro w hSw; (try dsimp only at hSw); go_simp <;> with_reducible rfl)
        go_simp
        refine wpAnyT_take (i := 9) (v := ?_) rfl (by kernel_rfl) (fun _ _ _ h => h) (Or.inl ⟨by rfl, ?_⟩) (by assumption) ?_
        rotate_left
        · (intro w hSw; (try dsimp only at hSw); go_simp <;> with_reducible rfl)
        go_simp
        refine wpAnyT_take (i := 10) (v := ?_) rfl (by kernel_rfl) (fun _ _ _ h => h) (Or.inl ⟨by rfl, ?_⟩) (by assumption) ?_
        rotate_left
        · (intro w hSw; (try dsimp only at hSw); go_simp <;> with_reducible rfl)
        go_simp
        refine wpAnyT_done (by kernel_rfl) ?_ _
        go_simp
        go_wp2_with fail
        clear u0 u1 e0 e1
        have hxw : Below w6.heap.size w6 x1 := hb1w
        have hx6 : w6.heap.size ≤ x1.heap.size := hxw.size
        have HTX := Lib.hid (HT6.out.below hxw)
        go_loopw [17, 13] (fun i f wq => ∃ p q : Nat, p ≤ ar ∧ i = .int .i64 p ∧ f = .int .i64 ((n + q : Nat) : Int) ∧ q ≤ p ∧ (k = i0 → 0 < p → 1 ≤ q) ∧ Below x1.heap.size x1 wq) (fun i _ _ => ar - (intOf i).toNat)
        case atStart => exact ⟨0, 0, Nat.zero_le _, rfl, rfl, Nat.le_refl _, by omega, Below.refl _ _⟩
        case round =>
          obtain ⟨p, q, hp, rfl, rfl, hq, hq1, hbq⟩ := hrel
          obtain ⟨wq, rfl⟩ : ∃ wq : World, wq = wr := ⟨_, rfl⟩
          by_cases hpl : p < ar
          · have hbq6 : Below w6.heap.size w6 wq := bthen hxw hbq
            have t0q := (cellB hbq6 hlt1).trans t0
            have hzq := hbq6.size
            go_wp2_with fail
            refine (ProjectionOp_any wq (s := t.1) (ar := ar) (N := N) (p := p) ⟨by omega, by omega⟩ (by omega) HN.out hpl).mono ?_
            rintro e x2 ⟨cs, rfl, hf2, hb2⟩
            obtain ⟨pa, pc, rfl⟩ := fr_pair hf2
            have hf2 : opT.Fr wq.heap.size x2 [.int .i64 (ar : Int), .slice pa (projT t.1 ar N p).length pc] ((ar : Int), projT t.1 ar N p) := hf2
            have HF2 := Lib.hid hf2.rd
            have hz2 := hb2.size
            clear hf2
            go_wp2_with fail
            generalize hX : World.alloc x2 _ = x3
            have hb3 : Below x2.heap.size x2 x3 := hX ▸ bA
            have hz3 : x2.heap.size + 1 ≤ x3.heap.size := by rw [← hX]; simp
            have b0 : x3.cell? ⟨x2.heap.size, 0, none⟩ = some (.int .i64 (ar : Int)) := by rw [← hX]; simp [go_sem]
            have b1 : x3.cell? ⟨x2.heap.size, 1, none⟩ = some (.slice pa (projT t.1 ar N p).length pc) := by rw [← hX]; simp [go_sem]
            have hbqx : Below wq.heap.size wq x3 := bthen hb2 hb3
            have hb63 : Below w6.heap.size w6 x3 := bthen hbq6 hbqx
            obtain ⟨e0, e1⟩ := HVC.out k hkV
            rw [hvu] at e1
            rw [HM.out] at e0
            replace e0 := (cellB hb63 hbl).trans e0
            replace e1 := (cellB hb63 hbl).trans e1
            clear hX t0q
            have hx3 : w6.heap.size ≤ x2.heap.size := by have := hbq6.size; omega
            refine wp_region_T (fun w' => (w'.cell? ⟨x2.heap.size, 0, none⟩ = some (.int .i64 (ar : Int)) ∧ w'.cell? ⟨x2.heap.size, 1, none⟩ = some (.slice pa (projT t.1 ar N p).length pc)) ∧ w'.cell? ⟨b, o + k * 2, none⟩ = some (.int .i64 (ar : Int)) ∧ w'.cell? ⟨b, o + k * 2 + 1, none⟩ = some (.slice va (P[k]).2.length vc)) [] (by kernel_rfl) ⟨⟨b0, b1⟩, e0, e1⟩ (fun hHeld => ?_)
            refine wpAnyT_take (i := 0) (v := ?_) rfl (by kernel_rfl) (fun _ _ _ h => h) (Or.inl ⟨by rfl, ?_⟩) (by assumption) ?_
            rotate_left
            · (intro w hSw; (try dsimp only at hSw); go_simp <;> with_reducible rfl)
            go_simp
            refine wpAnyT_take (i := 1) (v := ?_) rfl (by kernel_rfl) (fun _ _ _ h => h) (Or.inl ⟨by rfl, ?_⟩) (by assumption) ?_
            rotate_left
            · (intro w hSw; (try dsimp only at hSw); go_simp <;> with_reducible rfl)
            go_simp
            refine wpAnyT_take (i := 2) (v := ?_) rfl (by kernel_rfl) (fun _ _ _ h => h) (Or.inl ⟨by rfl, ?_⟩) (by assumption) ?_
            rotate_left
            · (intro w hSw; (try dsimp only at hSw); go_simp <;> with_reducible rfl)
            go_simp
            refine wpAnyT_take (i := 3) (v := ?_) rfl (by kernel_rfl) (fun _ _ _ h => h) (Or.inl ⟨by rfl, ?_⟩) (by assumption) ?_
            rotate_left
            · (intro w hSw; (try dsimp only at hSw); go_simp <;> with_reducible rfl)
            go_simp
            refine wpAnyT_take (i := 4) (v := ?_) rfl (by kernel_rfl) (fun _ _ _ h => h) (Or.inl ⟨by rfl, ?_⟩) (by assumption) ?_
            rotate_left
            · (intro w hSw; (try dsimp only at hSw); go_simp <;> with_reducible rfl)
            go_simp
            refine wpAnyT_take (i := 5) (v := ?_) rfl (by kernel_rfl) (fun _ _ _ h => h) (Or.inl ⟨by rfl, ?_⟩) (by assumption) ?_
            rotate_left
            · (intro w hSw; (try dsimp only at hSw); go_simp <;> with_reducible rfl)
            go_simp
            refine wpAnyT_take (i := 6) (v := ?_) rfl (by kernel_rfl) (fun _ _ _ h => h) (Or.inl ⟨by rfl, ?_⟩) (by assumption) ?_
            rotate_left
            · (intro w hSw; (try dsimp only at hSw); go_simp <;> with_reducible rfl)
            go_simp
            refine wpAnyT_take (i := 7) (v := ?_) rfl (by kernel_rfl) (fun _ _ _ h => h) (Or.inl ⟨by rfl, ?_⟩) (by assumption) ?_
            rotate_left
            · (intro w hSw; (try dsimp only at hSw); go_simp <;> with_reducible rfl)
            go_simp
            have hv3 : Below x3.heap.size x3 x3.drew := bD
            have HA3 := Lib.hid ((HF2.out.below hb3).below hv3)
            have HE3 := Lib.hid ((HELx.out.below (bthen hbq hbqx)).below hv3)
            have hzd3 := hv3.size
            have hbx3 := bthen hbqx hv3
            have hb6d := bthen hb63 hv3
            clear b0 b1 e0 e1
            generalize x3.drew = x4 at hHeld hv3 HA3 HE3 hzd3 hbx3 hb6d ⊢
            obtain ⟨⟨b0, b1⟩, e0, e1⟩ := hHeld
            refine wpAnyT_one (i := 8) rfl (by kernel_rfl) (fun K hK => ?_)
            go_simp
            go_at_call 13
            refine (specSameOp_any x4 (x := ((ar : Int), projT t.1 ar N p)) (y := P[k]) HA3.out HE3.out).mono ?_
            rintro e x5 ⟨rfl, hb5q⟩
            have hz5q := hb5q.size
            replace b0 := (cellB hb5q (by omega)).trans b0
            replace b1 := (cellB hb5q (by omega)).trans b1
            replace e0 := (cellB hb5q (by omega)).trans e0
            replace e1 := (cellB hb5q (by omega)).trans e1
            have hbx5 := bthen hbx3 hb5q
            dsimp only
            refine hK.out _ _ ⟨⟨b0, b1⟩, e0, e1⟩ (fun hHeld => ?_)
            clear hK K
            refine wpAnyT_take (i := 9) (v := ?_) rfl (by kernel_rfl) (fun _ _ _ h => h) (Or.inl ⟨by rfl, ?_⟩) (by assumption) ?_
            rotate_left
            · (intro w hSw; (try dsimp only at hSw); go_simp <;> with_reducible rfl)
            go_simp
            refine wpAnyT_done (by kernel_rfl) ?_ _
            go_simp
            have hone : k = i0 → p = 0 → eqB ((ar : Int), projT t.1 ar N p) P[k] = true := by
              rintro rfl rfl
              rw [HI1.out]
              exact eqB_true rfl
            cases hE : eqB ((ar : Int), projT t.1 ar N p) P[k]
            · rw [hE] at hone
              have hq2 : k = i0 → 0 < p + 1 → 1 ≤ q := fun h _ => by
                rcases Nat.eq_zero_or_pos p with h0 | h0
                · exact absurd (hone h h0) (by simp)
                · exact hq1 h h0
              clear hone hE
              go_wp2_with fail
              go_roundw
              case rel => exact ⟨p + 1, q, by omega, by go_num, rfl, by omega, hq2, bthen hbq hbx5⟩
              case measure => simp [intOf]; omega
            · clear hone hE
              have hwf : IntKind.i64.wrap (((n + q : Nat) : Int) + 1) = ((n + (q + 1) : Nat) : Int) := by rw [wrap_small (by omega) (by omega)]; omega
              go_wp2_with fail
              go_roundw
              case rel => exact ⟨p + 1, q + 1, by omega, by go_num, by first | rfl | (go_num; omega), by omega, fun _ _ => by omega, bthen hbq hbx5⟩
              case measure => simp [intOf]; omega
          · obtain rfl : p = ar := by omega
            go_wp2_with fail
            go_roundw
            case rel => exact ⟨k + 1, n + q, by omega, by go_num, rfl, by omega, fun h => by
              rcases Nat.lt_or_ge i0 k with h0 | h0
              · have := hn1 h0; omega
              · have := hq1 (by omega) (by omega); omega, bthen hxw hbq⟩
            case measure => simp [intOf]; omega
      · obtain rfl : k = P.length := by omega
        have hn0 : 1 ≤ n := hn1 (by omega)
        have hltn : decide ((n : Int) < 1) = false := by simp; omega
        obtain ⟨wv, rfl⟩ : ∃ wv : World, wv = wr := ⟨_, rfl⟩
        have H17 := Lib.hid (H16.out.below hbr)
        clear hn hn1 u0 u1
        go_wp2_with fail
        refine (a2At_any wv (k := 1) (n := ((P.length : Nat) : Int)) H17.out (by omega)).mono ?_
        rintro e _ ⟨xf, rfl, hxf, rfl⟩
        have hxl : xf < P.length := by omega
        have hxV : xf < VS.length := by omega
        have HVS : Hid (∀ j (h : j < P.length), ∃ a c, (VS[j]'(by omega)) = ((ar : Int), .slice a (P[j]).2.length c)) := fun j h => by
          obtain ⟨g1, g2, g3⟩ := HVR.out j (by omega) h
          obtain ⟨a, c, h4⟩ := rd_slice g3
          exact ⟨a, c, Prod.ext (g1.trans (HALL.out _ (List.getElem_mem h)).1) h4⟩
        obtain ⟨fa, fc, hVf⟩ := HVS.out xf hxl
        obtain ⟨e0, e1⟩ := HVC.out xf hxV
        obtain ⟨-, -, hRf⟩ := HVR.out xf hxV hxl
        rw [hVf] at e0 e1 hRf
        replace e0 := (cellB hbr hbl).trans e0
        replace e1 := (cellB hbr hbl).trans e1
        have HRF := Lib.hid hRf
        have hfar := (HALL.out _ (List.getElem_mem hxl)).1
        have hfok := (HALL.out _ (List.getElem_mem hxl)).2.1
        have HFAR := Lib.hid hfar
        have HFOK := Lib.hid hfok
        clear hVf hRf hfar hfok
        go_wp2_with fail
        generalize hX : World.alloc wv _ = wg
        have hbg : Below wv.heap.size wv wg := hX ▸ bA
        have hzg : wv.heap.size + 1 ≤ wg.heap.size := by rw [← hX]; simp
        have HZE : Hid (wv.heap.size + 1 = wg.heap.size) := by unfold Hid; rw [← hX]; simp
        have b0 : wg.cell? ⟨wv.heap.size, 0, none⟩ = some (.int .i64 (ar : Int)) := by rw [← hX]; simp [go_sem]
        have b1 : wg.cell? ⟨wv.heap.size, 1, none⟩ = some (.slice fa (P[xf]).2.length fc) := by rw [← hX]; simp [go_sem]
        have hbg6 : Below w6.heap.size w6 wg := bthen hbr hbg
        have hzg6 := hbg6.size
        clear hX e0 e1
        go_loopw [22, 21] (fun i g wq => ∃ (p : Nat) (L : List Nat), p ≤ ar ∧ i = .int .i64 p ∧ L.length = p ∧ (∀ j ∈ L, j < P.length) ∧ Bl pvT 39 wg.heap.size wq.heap.size wq g (L.map fun j => VS.getD j (0, undef)) ∧ Below wg.heap.size wg wq) (fun i _ _ => ar - (intOf i).toNat)
        case atStart => exact ⟨0, [], Nat.zero_le _, rfl, rfl, by simp, by rw [HZE.out]; simpa using Bl.lit0 (E := pvT) (e := 39) (w := wg) (Nat.le_refl _), bA⟩
        case round =>
          obtain ⟨p, L, hp, rfl, hL, hLP, hBl, hbq⟩ := hrel
          obtain ⟨wq, rfl⟩ : ∃ wq : World, wq = wr := ⟨_, rfl⟩
          have hbq6 : Below w6.heap.size w6 wq := bthen hbg6 hbq
          have hzq := hbq.size
          have HB := Lib.hid hBl
          have HLP := Lib.hid hLP
          have HL := Lib.hid hL
          have HLM : Hid ((L.map fun j => VS.getD j (0, undef)).length = p) := by unfold Hid; rw [List.length_map, hL]
          obtain ⟨ga, gn, gc, rfl⟩ := ex_slice (hBl.fr (by rw [HLM.out]; unfold capMax; omega))
          clear hBl hLP hL
          by_cases hpl : p < ar
          · have H18 := Lib.hid (H17.out.below (bthen hbg hbq))
            have hw2 : IntKind.i64.wrap ((2 : Int) + (p : Int)) = ((2 + p : Nat) : Int) := by rw [wrap_small (by omega) (by omega)]; omega
            go_wp2_with fail
            refine (a2At_any wq (k := 2 + p) (n := ((P.length : Nat) : Int)) H18.out (by omega)).mono ?_
            rintro e _ ⟨j, rfl, hj, rfl⟩
            have hjl : j < P.length := by omega
            have hjV : j < VS.length := by omega
            obtain ⟨ja, jc, hVj⟩ := HVS.out j hjl
            obtain ⟨e0, e1⟩ := HVC.out j hjV
            rw [hVj] at e0 e1
            replace e0 := (cellB hbq6 hbl).trans e0
            replace e1 := (cellB hbq6 hbl).trans e1
            have HSC : Hid ((L.map fun j => VS.getD j (0, undef)) ++ [((ar : Int), Value.slice ja (P[j]).2.length jc)] = (L ++ [j]).map fun j => VS.getD j (0, undef)) := by
              unfold Hid
              rw [List.map_append, List.map_singleton, List.getD_eq_getElem?_getD, List.getElem?_eq_getElem hjV, ← hVj]
              rfl
            have HIA : Hid (I64 (ar : Int)) := I64.small (by omega) (by omega)
            clear hVj hw2
            go_wp2_with (at_builtin; go_loud (refine wpList_push (E := pvT) _ rfl _ _ 29 39 rfl elOp rfl (HB.out.below bA (Nat.le_refl _)) rfl news2 (fr_pv (x := .slice ja (P[j]).2.length jc) HIA.out rfl) (by rw [HLM.out]; omega) (by decide) hzq (by first | (simp; done) | (simp; omega)) ?_; intro v1 w1' hB1 hg1 _))
            have hbel1 : Below wg.heap.size wg w1' := (hbq.alloc hbq.size _).grown hg1 (by first | (simp; done) | (simp; omega)) (fun q hq => HB.out.own hq)
            rw [HSC.out] at hB1
            have HB1 := Lib.hid hB1
            clear hB1
            go_wp2_with fail
            go_roundw
            case rel => exact ⟨p + 1, L ++ [j], by omega, by go_num, by rw [List.length_append, HL.out]; rfl, fun q hq => (List.mem_append.1 hq).elim (HLP.out q) (fun h => by rw [List.mem_singleton.1 h]; exact hjl), HB1.out, hbel1⟩
            case measure => simp [intOf]; omega
          · obtain rfl : p = ar := by omega
            have HGS : Hid (opsT.Rd wq [.slice ga gn gc] (L.map fun j => P.getD j (0, []))) := by
              refine ops_of_vals (HB.out.fr (by rw [HLM.out]; unfold capMax; omega)).rd (by simp) (fun i h h' => ?_)
              have hi : i < L.length := by simpa using h
              have hj := HLP.out _ (List.getElem_mem hi)
              obtain ⟨g1, g2, g3⟩ := HVR.out L[i] (by omega) hj
              have q1 : (L.map fun j => VS.getD j (0, undef))[i] = VS[L[i]]'(by omega) := by simp [List.getD_eq_getElem?_getD, List.getElem?_eq_getElem (show L[i] < VS.length by omega)]
              have q2 : (L.map fun j => P.getD j (0, []))[i] = P[L[i]] := by simp [List.getD_eq_getElem?_getD, List.getElem?_eq_getElem hj]
              rw [q1, q2]
              exact ⟨g1, g2, g3.below hbq6⟩
            have HGP : Hid (∀ g ∈ (L.map fun j => P.getD j (0, [])), g ∈ P) := fun g hg => by
              obtain ⟨j, hj, rfl⟩ := List.mem_map.1 hg
              have hjl := HLP.out j hj
              rw [List.getD_eq_getElem?_getD, List.getElem?_eq_getElem hjl]
              exact List.getElem_mem hjl
            have HGL : Hid ((L.map fun j => P.getD j (0, [])).length = p) := by unfold Hid; rw [List.length_map]; exact HL.out
            generalize (L.map fun j => P.getD j (0, [])) = gs at HGS HGP HGL
            have hcmp := HCMP.out _ (List.getElem_mem hxl) gs HGP.out HGL.out
            have HC1 := Lib.hid hcmp.1
            have HC2 := Lib.hid hcmp.2
            have HGO : Hid (∀ g ∈ gs, opOk t.1 g ∧ g.1 = p) := fun g hg => ⟨(HALL.out g (HGP.out g hg)).2.1, (HALL.out g (HGP.out g hg)).1⟩
            have HFL : Hid (P[xf].1 = gs.length) := by unfold Hid; rw [HFAR.out, HGL.out]
            have hlq : wv.heap.size < wq.heap.size := by omega
            have HFX : Hid (opT.Rd wq [.int .i64 (p : Int), .slice fa (P[xf]).2.length fc] P[xf]) := pair_mk2' HFAR.out.symm (I64.small (by omega) (by omega)) (HRF.out.below hbq6)
            replace b0 := (cellB hbq (by omega)).trans b0
            replace b1 := (cellB hbq (by omega)).trans b1
            have u0 := (cellB hbq6 hlt1).trans t0
            clear HB HLM hcmp
            go_wp2_with fail
            refine (ComposeOps_any wq (f := P[xf]) (gs := gs) (s := t.1) (ar := p) (N := N) HFX.out HGS.out HFOK.out HFL.out HGO.out HN.out).mono ?_
            rintro e wc ⟨cs, rfl, hfc, hbc⟩
            have hfc : opT.Fr wq.heap.size wc cs ((p : Int), compT t.1 p N (P[xf]).2 gs) := hfc
            generalize compT t.1 p N (P[xf]).2 gs = ct at hfc HC1 HC2
            obtain ⟨ca, cc, rfl⟩ := fr_pair hfc
            have HFC := Lib.hid hfc.rd
            have hbc6 := bthen hbq6 hbc
            have hzc := hbc6.size
            have hlc : w1.heap.size < wc.heap.size := by omega
            replace u0 := (cellB hbc6 hlt1).trans t0
            have u1 := (cellB hbc6 hlt1).trans t1
            clear hfc b0 b1
            go_wp2_with fail
            generalize hX : World.alloc wc _ = wd
            have hbd : Below wc.heap.size wc wd := hX ▸ bA
            have hzd : wc.heap.size + 1 ≤ wd.heap.size := by rw [← hX]; simp
            have b0 : wd.cell? ⟨wc.heap.size, 0, none⟩ = some (.int .i64 (p : Int)) := by rw [← hX]; simp [go_sem]
            have b1 : wd.cell? ⟨wc.heap.size, 1, none⟩ = some (.slice ca ct.length cc) := by rw [← hX]; simp [go_sem]
            have hbd6 := bthen hbc6 hbd
            have HTD := Lib.hid (HT6.out.below hbd6)
            have HFD := Lib.hid (HFC.out.below hbd)
            clear hX u0 u1
            refine (IsPolymorphism_any wd (f := ((p : Int), ct)) HTD.out HFD.out).mono ?_
            rintro e we ⟨rfl, hbe⟩
            rw [HC1.out, HC2.out]
            have hbe6 := bthen hbd6 hbe
            have hze := hbe6.size
            have H1E := Lib.hid (H16.out.below hbe6)
            have u0 := (cellB hbe6 hlt1).trans t0
            clear b0 b1 HTD HFD
            go_wp2_with fail
            refine (A2Op_any we H1E.out (s := t.1) (ar := p) ⟨by omega, by omega⟩ (by omega)).mono ?_
            rintro e wf ⟨cs, f2, rfl, hff, hok2, har2', hbf⟩
            obtain ⟨oa, oc, rfl⟩ := fr_pair hff
            have HFF := Lib.hid hff.rd
            have hbf6 := bthen hbe6 hbf
            have hzf := hbf6.size
            have HP2 := Lib.hid (poly_ok HOK.out hok2)
            have HAM := Lib.hid (HAMO.out f2 har2')
            have hlf : w1.heap.size < wf.heap.size := by omega
            replace u0 := (cellB hbf6 hlt1).trans t0
            have u1 := (cellB hbf6 hlt1).trans t1
            clear hff har2' hok2
            go_wp2_with fail
            generalize hX : World.alloc wf _ = wh
            have hbh : Below wf.heap.size wf wh := hX ▸ bA
            have hzh : wf.heap.size + 1 ≤ wh.heap.size := by rw [← hX]; simp
            have b0 : wh.cell? ⟨wf.heap.size, 0, none⟩ = some (.int .i64 f2.1) := by rw [← hX]; simp [go_sem]
            have b1 : wh.cell? ⟨wf.heap.size, 1, none⟩ = some (.slice oa f2.2.length oc) := by rw [← hX]; simp [go_sem]
            have hbh6 := bthen hbf6 hbh
            have HTD := Lib.hid (HT6.out.below hbh6)
            have HFD := Lib.hid (HFF.out.below hbh)
            clear hX u0 u1
            refine (IsPolymorphism_any wh (f := f2) HTD.out HFD.out).mono ?_
            rintro e wi ⟨rfl, hbi⟩
            rw [HP2.out]
            rw [← HAM.out]
            have hbi6 := bthen hbh6 hbi
            have hzi := hbi6.size
            have hzi2 := hbi.size
            replace b0 := (cellB hbi (by omega)).trans b0
            replace b1 := (cellB hbi (by omega)).trans b1
            have HFI := Lib.hid (HFD.out.below hbi)
            clear HTD HFD
            go_wp2_with fail
            have hbw9 : Below w.heap.size w wi := bthen hbw6 hbi6
            have HKEY : Hid (anyB (fun g => eqB g f2) P = anyB (fun g => eqB g f2) P) := rfl
            generalize hkb : anyB (fun g => eqB g f2) P = kb at HKEY ⊢
            have HKB := Lib.hid hkb
            clear hkb HKEY
            go_loopw [31, 30] (fun i a wq => ∃ k : Nat, k ≤ P.length ∧ i = .int .i64 k ∧ a = .bool (anyB (fun g => eqB g f2) (P.take k)) ∧ Below wi.heap.size wi wq) (fun i _ _ => P.length - (intOf i).toNat)
            case atStart => exact ⟨0, Nat.zero_le _, rfl, rfl, Below.refl _ _⟩
            case round =>
              obtain ⟨k, hk, rfl, rfl, hbk⟩ := hrel
              obtain ⟨wk, rfl⟩ : ∃ wk : World, wk = wr := ⟨_, rfl⟩
              have hbk6 := bthen hbi6 hbk
              by_cases hkl : k < P.length
              · have hkV : k < VS.length := by omega
                have HSC : Hid (anyB (fun g => eqB g f2) (P.take (k + 1)) = (anyB (fun g => eqB g f2) (P.take k) || eqB P[k] f2)) := by
                  unfold Hid anyB
                  rw [List.take_succ_eq_append_getElem hkl, List.any_append, List.any_cons, List.any_nil, Bool.or_false]
                obtain ⟨ka, kc, hVk⟩ := HVS.out k hkl
                obtain ⟨e0, e1⟩ := HVC.out k hkV
                obtain ⟨-, -, hRk⟩ := HVR.out k hkV hkl
                rw [hVk] at e0 e1 hRk
                replace e0 := (cellB hbk6 hbl).trans e0
                replace e1 := (cellB hbk6 hbl).trans e1
                have c0 := (cellB hbk (by omega)).trans b0
                have c1 := (cellB hbk (by omega)).trans b1
                have HEK : Hid (opT.Rd wk [.int .i64 (p : Int), .slice ka (P[k]).2.length kc] P[k]) := pair_mk2' (HALL.out _ (List.getElem_mem hkl)).1.symm (I64.small (by omega) (by omega)) (hRk.below hbk6)
                have HFK := Lib.hid (HFI.out.below hbk)
                have hzk := hbk.size
                clear hVk hRk
                generalize anyB (fun g => eqB g f2) (P.take k) = am at *
                cases am
                · go_wp2_with fail
                  refine wp_region_T (fun w' => (w'.cell? ⟨wf.heap.size, 0, none⟩ = some (.int .i64 f2.1) ∧ w'.cell? ⟨wf.heap.size, 1, none⟩ = some (.slice oa f2.2.length oc)) ∧ w'.cell? ⟨b, o + k * 2, none⟩ = some (.int .i64 (p : Int)) ∧ w'.cell? ⟨b, o + k * 2 + 1, none⟩ = some (.slice ka (P[k]).2.length kc)) [] (by kernel_rfl) ⟨⟨c0, c1⟩, e0, e1⟩ (fun hHeld => ?_)
                  refine wpAnyT_take (i := 0) (v := ?_) rfl (by kernel_rfl) (fun _ _ _ h => h) (Or.inl ⟨by rfl, ?_⟩) (by assumption) ?_
                  rotate_left
                  · (intro w hSw; (try dsimp only at hSw); go_simp <;> with_reducible rfl)
                  go_simp
                  refine wpAnyT_take (i := 1) (v := ?_) rfl (by kernel_rfl) (fun _ _ _ h => h) (Or.inl ⟨by rfl, ?_⟩) (by assumption) ?_
                  rotate_left
                  · (intro w hSw; (try dsimp only at hSw); go_simp <;> with_reducible rfl)
                  go_simp
                  refine wpAnyT_take (i := 2) (v := ?_) rfl (by kernel_rfl) (fun _ _ _ h => h) (Or.inl ⟨by rfl, ?_⟩) (by assumption) ?_
                  rotate_left
                  · (intro w hSw; (try dsimp only at hSw); go_simp <;> with_reducible rfl)
                  go_simp
                  refine wpAnyT_take (i := 3) (v := ?_) rfl (by kernel_rfl) (fun _ _ _ h => h) (Or.inl ⟨by rfl, ?_⟩) (by assumption) ?_
                  rotate_left
                  · (intro w hSw; (try dsimp only at hSw); go_simp <;> with_reducible rfl)
                  go_simp
                  refine wpAnyT_take (i := 4) (v := ?_) rfl (by kernel_rfl) (fun _ _ _ h => h) (Or.inl ⟨by rfl, ?_⟩) (by assumption) ?_
                  rotate_left
                  · (intro w hSw; (try dsimp only at hSw); go_simp <;> with_reducible rfl)
                  go_simp
                  refine wpAnyT_take (i := 5) (v := ?_) rfl (by kernel_rfl) (fun _ _ _ h => h) (Or.inl ⟨by rfl, ?_⟩) (by assumption) ?_
                  rotate_left
                  · (intro w hSw; (try dsimp only at hSw); go_simp <;> with_reducible rfl)
                  go_simp
                  refine wpAnyT_take (i := 6) (v := ?_) rfl (by kernel_rfl) (fun _ _ _ h => h) (Or.inl ⟨by rfl, ?_⟩) (by assumption) ?_
                  rotate_left
                  · (intro w hSw; (try dsimp only at hSw); go_simp <;> with_reducible rfl)
                  go_simp
                  have hv3 : Below wk.heap.size wk wk.drew := bD
                  have HE3 := Lib.hid (HEK.out.below hv3)
                  have HF3 := Lib.hid (HFK.out.below hv3)
                  have hzd3 := hv3.size
                  clear c0 c1 e0 e1
                  generalize wk.drew = x4 at hHeld hv3 HE3 HF3 hzd3 ⊢
                  obtain ⟨⟨c0, c1⟩, e0, e1⟩ := hHeld
                  refine wpAnyT_one (i := 7) rfl (by kernel_rfl) (fun K hK => ?_)
                  go_simp
                  go_at_call 13
                  refine (specSameOp_any x4 (x := P[k]) (y := f2) HE3.out HF3.out).mono ?_
                  rintro e x5 ⟨rfl, hb5q⟩
                  have hz5q := hb5q.size
                  have hzb : b < x4.heap.size := by have := hbk6.size; omega
                  have hzo : wf.heap.size < x4.heap.size := by omega
                  replace c0 := (cellB hb5q (by omega)).trans c0
                  replace c1 := (cellB hb5q (by omega)).trans c1
                  replace e0 := (cellB hb5q (by omega)).trans e0
                  replace e1 := (cellB hb5q (by omega)).trans e1
                  have hbx5 := bthen hv3 hb5q
                  dsimp only
                  refine hK.out _ _ ⟨⟨c0, c1⟩, e0, e1⟩ (fun hHeld => ?_)
                  clear hK K
                  refine wpAnyT_take (i := 8) (v := ?_) rfl (by kernel_rfl) (fun _ _ _ h => h) (Or.inl ⟨by rfl, ?_⟩) (by assumption) ?_
                  rotate_left
                  · (intro w hSw; (try dsimp only at hSw); go_simp <;> with_reducible rfl)
                  go_simp
                  refine wpAnyT_take (i := 9) (v := ?_) rfl (by kernel_rfl) (fun _ _ _ h => h) (Or.inl ⟨by rfl, ?_⟩) (by assumption) ?_
                  rotate_left
                  · (intro w hSw; (try dsimp only at hSw); go_simp <;> with_reducible rfl)
                  go_simp
                  refine wpAnyT_done (by kernel_rfl) ?_ _
                  go_simp
                  go_wp2_with fail
                  go_roundw
                  case rel => exact ⟨k + 1, by omega, by go_num, by rw [HSC.out]; rfl, bthen hbk hbx5⟩
                  case measure => simp [intOf]; omega
                · go_wp2_with fail
                  refine wp_region_T (fun _ => True) [] (by kernel_rfl) trivial (fun hHeld => ?_)
                  refine wpAnyT_take (i := 0) (v := ?_) rfl (by kernel_rfl) (fun _ _ _ h => h) (Or.inl ⟨by rfl, ?_⟩) (by assumption) ?_
                  rotate_left
                  · (intro w hSw; (try dsimp only at hSw); go_simp <;> with_reducible rfl)
                  go_simp
                  refine wpAnyT_take (i := 1) (v := ?_) rfl (by kernel_rfl) (fun _ _ _ h => h) (Or.inl ⟨by rfl, ?_⟩) (by assumption) ?_
                  rotate_left
                  · (intro w hSw; (try dsimp only at hSw); go_simp <;> with_reducible rfl)
                  go_simp
                  refine wpAnyT_take (i := 2) (v := undef) rfl (by kernel_rfl) (fun _ _ _ h => h) (Or.inr ⟨by rfl, rfl⟩) (by assumption) ?_
                  go_simp
                  refine wpAnyT_take (i := 3) (v := undef) rfl (by kernel_rfl) (fun _ _ _ h => h) (Or.inr ⟨by rfl, rfl⟩) (by assumption) ?_
                  go_simp
                  refine wpAnyT_take (i := 4) (v := undef) rfl (by kernel_rfl) (fun _ _ _ h => h) (Or.inr ⟨by rfl, rfl⟩) (by assumption) ?_
                  go_simp
                  refine wpAnyT_take (i := 5) (v := undef) rfl (by kernel_rfl) (fun _ _ _ h => h) (Or.inr ⟨by rfl, rfl⟩) (by assumption) ?_
                  go_simp
                  refine wpAnyT_take (i := 6) (v := undef) rfl (by kernel_rfl) (fun _ _ _ h => h) (Or.inr ⟨by rfl, rfl⟩) (by assumption) ?_
                  go_simp
                  refine wpAnyT_take (i := 7) (v := undef) rfl (by kernel_rfl) (fun _ _ _ h => h) (Or.inr ⟨by rfl, rfl⟩) (by assumption) ?_
                  go_simp
                  refine wpAnyT_take (i := 8) (v := ?_) rfl (by kernel_rfl) (fun _ _ _ h => h) (Or.inl ⟨by rfl, ?_⟩) (by assumption) ?_
                  rotate_left
                  · (intro w hSw; (try dsimp only at hSw); go_simp <;> with_reducible rfl)
                  go_simp
                  refine wpAnyT_take (i := 9) (v := ?_) rfl (by kernel_rfl) (fun _ _ _ h => h) (Or.inl ⟨by rfl, ?_⟩) (by assumption) ?_
                  rotate_left
                  · (intro w hSw; (try dsimp only at hSw); go_simp <;> with_reducible rfl)
                  go_simp
                  refine wpAnyT_done (by kernel_rfl) ?_ _
                  go_simp
                  go_wp2_with fail
                  go_roundw
                  case rel => exact ⟨k + 1, by omega, by go_num, by rw [HSC.out]; rfl, bthen hbk bD⟩
                  case measure => simp [intOf]; omega
              · obtain rfl : k = P.length := by omega
                rw [List.take_length, HKB.out]
                cases kb
                all_goals
                  go_wp2_with fail
                  go_ret
                  exact ⟨rfl, bthen hbw9 hbk⟩
end Go.Proofs.Ythjafhjghjbdmaa
