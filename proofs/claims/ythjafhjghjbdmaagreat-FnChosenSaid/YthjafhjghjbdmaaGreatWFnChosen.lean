/-
  The law FnChosen, walked: its contract.
-/
import Derived.Test.YthjafhjghjbdmaaGreatQBD
import Derived.Test.YthjafhjghjbdmaaGreatQBE
namespace Go.Proofs.YthjafhjghjbdmaaGreat
open Go.RowKit Go.Sort
set_option maxHeartbeats 12800000 in
set_option maxRecDepth 100000 in
theorem fnChosen_any (w : World) {v0 v1 : Value} {x0 x1 : List Int} (h0 : bytesT.Rd w [v0] x0) (h1 : bytesT.Rd w [v1] x1) :
    Calls Tryz.prog 4 #[v0, v1] w fun e w' => e = .returned (.bool true) ∧ Below w.heap.size w w' := by
  obtain ⟨a0, k0, rfl⟩ := rd_slice h0
  obtain ⟨a1, k1, rfl⟩ := rd_slice h1
  have H0 := Lib.hid h0
  have H1 := Lib.hid h1
  clear h0 h1
  go_enter Tryz.func4, Tryz.ntmps4
  go_wp2_with fail
  refine (a2Long_any w H0.out H1.out).mono ?_
  rintro e _ ⟨b, rfl, rfl⟩
  cases b
  rotate_left
  · go_wp2_with fail
    go_ret
    exact ⟨rfl, (by repeat (first | exact Below.refl _ _ | exact bA | assumption | refine Below.setCell ?_ (by first | omega | (simp; try omega)) _ | refine Below.alloc ?_ (by first | omega | (simp; try omega)) _ | refine Below.drew ?_ | refine bDN ?_ | refine bthen ?_ (by assumption)))⟩
  go_wp2_with fail
  refine (A2Template_any w H0.out).mono ?_
  rintro e w1 ⟨cs, t, rfl, hf, hok, h3, hb1⟩
  obtain ⟨ta, tc, rfl⟩ := fr_pair hf
  have HF1 := Lib.hid hf.rd
  have HOK := Lib.hid hok
  have hs := hok.1
  unfold sizeOk at hs
  have hz1 := hb1.size
  clear hf hok
  go_wp2_with fail
  generalize hW2 : World.alloc w1 _ = w2
  have hb2 : Below w1.heap.size w1 w2 := hW2 ▸ bA
  have hz2 : w1.heap.size + 1 ≤ w2.heap.size := by rw [← hW2]; simp
  have t0 : w2.cell? ⟨w1.heap.size, 0, none⟩ = some (.int .i64 t.1) := by rw [← hW2]; simp [go_sem]
  have t1 : w2.cell? ⟨w1.heap.size, 1, none⟩ = some (.slice ta t.2.length tc) := by rw [← hW2]; simp [go_sem]
  have hbw2 := bthen hb1 hb2
  have HT2 : Hid (tplT.Rd w2 [.int .i64 t.1, .slice ta t.2.length tc] t) := HF1.out.below hb2
  clear hW2 HF1
  refine (a2At_any w2 (k := 0) (n := 2) (H1.out.below hbw2) (by omega)).mono ?_
  rintro e _ ⟨x, rfl, hx, rfl⟩
  obtain ⟨ar, har⟩ : ∃ ar : Nat, (1 : Int) + (x : Int) = (ar : Int) := ⟨1 + x, by omega⟩
  have hwr : IntKind.i64.wrap ((1 : Int) + (x : Int)) = (ar : Int) := by rw [har]; exact wrap_small (by omega) (by omega)
  have har2 : 1 ≤ ar ∧ ar ≤ 2 := by omega
  clear har
  go_wp2_with fail
  refine (a2At_any w2 (k := 1) (n := 10) (H1.out.below hbw2) (by omega)).mono ?_
  rintro e _ ⟨y, rfl, hy, rfl⟩
  obtain ⟨kk, hkk⟩ : ∃ kk : Nat, (1 : Int) + (y : Int) = (kk : Int) := ⟨1 + y, by omega⟩
  have hwk : IntKind.i64.wrap ((1 : Int) + (y : Int)) = (kk : Int) := by rw [hkk]; exact wrap_small (by omega) (by omega)
  have hkk2 : 1 ≤ kk ∧ kk ≤ 10 := by omega
  clear hkk
  go_wp2_with fail
  refine (FirstPolymorphism_any w2 HT2.out (ar := (ar : Int)) (k := (kk : Int))).mono ?_
  rintro e w3 ⟨cs, rfl, hf3, hb3⟩
  obtain ⟨a3, c3, rfl⟩ := fr_pair hf3
  have hz3 := hb3.size
  have HP3 := Lib.hid hf3.rd
  replace t0 := (cellB hb3 (by omega)).trans t0
  replace t1 := (cellB hb3 (by omega)).trans t1
  have HT3 := Lib.hid (HT2.out.below hb3)
  have hbw3 := bthen hbw2 hb3
  clear hf3 HT2 hwr hwk
  have ta0 : ∀ o : Obj, (World.alloc w3 o).cell? ⟨w1.heap.size, 0, none⟩ = some (.int .i64 t.1) := fun o => (cellB bA (by omega)).trans t0
  have ta1 : ∀ o : Obj, (World.alloc w3 o).cell? ⟨w1.heap.size, 1, none⟩ = some (.slice ta t.2.length tc) := fun o => (cellB bA (by omega)).trans t1
  go_wp2_with fail
  clear ta0 ta1
  generalize hW4 : World.alloc w3 _ = w4
  have hb4 : Below w3.heap.size w3 w4 := hW4 ▸ bA
  have hz4 : w3.heap.size + 1 ≤ w4.heap.size := by rw [← hW4]; simp
  have f0 : w4.cell? ⟨w3.heap.size, 0, none⟩ = some (.int .i64 (fpV t ar kk).1) := by rw [← hW4]; simp [go_sem]
  have f1 : w4.cell? ⟨w3.heap.size, 1, none⟩ = some (.slice a3 (fpV t ar kk).2.length c3) := by rw [← hW4]; simp [go_sem]
  replace t0 := (cellB hb4 (by omega)).trans t0
  replace t1 := (cellB hb4 (by omega)).trans t1
  have HT4 := Lib.hid (HT3.out.below hb4)
  have HP4 := Lib.hid (HP3.out.below hb4)
  have hbw4 := bthen hbw3 hb4
  clear hW4 HT3 HP3
  refine (specFirstPolymorphism_any w4 HT4.out (ar := (ar : Int)) (k := (kk : Int))).mono ?_
  rintro e w5 ⟨cs, rfl, hf5, hb5⟩
  obtain ⟨a5, c5, rfl⟩ := fr_pair hf5
  have hz5 := hb5.size
  have HD5 := Lib.hid hf5.rd
  replace t0 := (cellB hb5 (by omega)).trans t0
  replace t1 := (cellB hb5 (by omega)).trans t1
  replace f0 := (cellB hb5 (by omega)).trans f0
  replace f1 := (cellB hb5 (by omega)).trans f1
  have HT5 := Lib.hid (HT4.out.below hb5)
  have HP5 := Lib.hid (HP4.out.below hb5)
  have hbw5 := bthen hbw4 hb5
  clear hf5 HT4 HP4
  have ta0 : ∀ o : Obj, (World.alloc w5 o).cell? ⟨w1.heap.size, 0, none⟩ = some (.int .i64 t.1) := fun o => (cellB bA (by omega)).trans t0
  have ta1 : ∀ o : Obj, (World.alloc w5 o).cell? ⟨w1.heap.size, 1, none⟩ = some (.slice ta t.2.length tc) := fun o => (cellB bA (by omega)).trans t1
  go_wp2_with fail
  clear ta0 ta1
  generalize hW6 : World.alloc w5 _ = w6
  have hb6 : Below w5.heap.size w5 w6 := hW6 ▸ bA
  have hz6 : w5.heap.size + 1 ≤ w6.heap.size := by rw [← hW6]; simp
  have d0 : w6.cell? ⟨w5.heap.size, 0, none⟩ = some (.int .i64 (fpV t ar kk).1) := by rw [← hW6]; simp [go_sem]
  have d1 : w6.cell? ⟨w5.heap.size, 1, none⟩ = some (.slice a5 (fpV t ar kk).2.length c5) := by rw [← hW6]; simp [go_sem]
  replace t0 := (cellB hb6 (by omega)).trans t0
  replace t1 := (cellB hb6 (by omega)).trans t1
  replace f0 := (cellB hb6 (by omega)).trans f0
  replace f1 := (cellB hb6 (by omega)).trans f1
  have HT6 := Lib.hid (HT5.out.below hb6)
  have HP6 := Lib.hid (HP5.out.below hb6)
  have HD6 := Lib.hid (HD5.out.below hb6)
  have hbw6 := bthen hbw5 hb6
  clear hW6 HT5 HP5 HD5
  refine (PolymorphismsOf_any w6 HT6.out (ar := (ar : Int))).mono ?_
  rintro e w7 ⟨u7, rfl, hf7, hb7⟩
  obtain ⟨a7, n7, c7, rfl⟩ := ex_slice hf7
  have hz7 := hb7.size
  have HL7 := Lib.hid hf7.rd
  replace t0 := (cellB hb7 (by omega)).trans t0
  replace t1 := (cellB hb7 (by omega)).trans t1
  replace f0 := (cellB hb7 (by omega)).trans f0
  replace f1 := (cellB hb7 (by omega)).trans f1
  replace d0 := (cellB hb7 (by omega)).trans d0
  replace d1 := (cellB hb7 (by omega)).trans d1
  have HT7 := Lib.hid (HT6.out.below hb7)
  have HP7 := Lib.hid (HP6.out.below hb7)
  have HD7 := Lib.hid (HD6.out.below hb7)
  have hbw7 := bthen hbw6 hb7
  clear hf7 HT6 HP6 HD6
  have HASK := Lib.hid (ask_yes HOK.out (by omega : 1 ≤ ar ∧ ar ≤ 3))
  have HMANY := Lib.hid (po_many (t := t) (ar := ar))
  have HSAME : Hid (Calls Tryz.prog 19 #[.agg #[.int .i64 (fpV t ar kk).1, .slice a3 (fpV t ar kk).2.length c3], .agg #[.int .i64 (fpV t ar kk).1, .slice a5 (fpV t ar kk).2.length c5]] w7 fun e w' => e = .returned (.bool true) ∧ Below w7.heap.size w7 w') := by
    refine (specSameOp_any w7 (x := fpV t ar kk) (y := fpV t ar kk) HP7.out HD7.out).mono ?_
    rintro e w' ⟨rfl, h⟩
    exact ⟨by rw [eqB_true rfl], h⟩
  have hnn : (fpC t (ar : Int) (kk : Int) != fpC t (ar : Int) (kk : Int)) = false := by simp
  clear HP7
  cases hc : (poC t (ar : Int) != 0)
  rotate_left
  · generalize poC t (ar : Int) = c at *
    generalize fpC t (ar : Int) (kk : Int) = c1 at *
    generalize fpV t (ar : Int) (kk : Int) = p1 at *
    cases g1 : (c1 == 0)
    · go_wp2_with fail
      go_ret
      exact ⟨rfl, hbw7⟩
    · go_wp2_with fail
      refine HSAME.out.mono ?_
      rintro e w8 ⟨rfl, hb8⟩
      go_wp2_with fail
      go_ret
      exact ⟨rfl, bthen hbw7 hb8⟩
  have hc' : poC t (ar : Int) = 0 := by simpa using hc
  obtain ⟨N, hN⟩ : ∃ N : Nat, t.1 ^ ar = (N : Int) := ⟨(t.1 ^ ar).toNat, by have h0 : 0 < t.1 ^ ar := Int.pow_pos (by omega); omega⟩
  obtain ⟨i0, hi0, -⟩ := po_proj HOK.out (by omega) hc' hN
  have hPos : 0 < (poV t (ar : Int)).length := by omega
  clear hi0 hN N
  have HALL : Hid (∀ f ∈ poV t (ar : Int), f.1 = ar ∧ opOk t.1 f ∧ polyB t f = true ∧ polyC t f = 0) := fun f hf => po_all HOK.out (by omega) hc' hf
  obtain ⟨I, hI, hlo, hhi, hhit, hmiss⟩ := (fp_list HASK.out hc' (k := (kk : Int)) (by omega)).ix
  have HBR : Hid ((fpC t (ar : Int) (kk : Int) == 0) = decide (I < (poV t (ar : Int)).length)) := by
    unfold Hid
    by_cases h : I < (poV t (ar : Int)).length
    · rw [(hhit h).2, decide_eq_true h]; rfl
    · rw [hmiss (by omega), decide_eq_false h]; rfl
  have HEQ : Hid (∀ h : I < (poV t (ar : Int)).length, fpV t (ar : Int) (kk : Int) = (poV t (ar : Int))[I]) := fun h => (hhit h).1
  have HLO := Lib.hid hlo
  have HHI := Lib.hid hhi
  clear hlo hhi hhit hmiss
  have HPW : Hid (∀ (l0 : List Int) (v : Int), (l0.length : Int) = ar → inS t.1 l0 → 0 ≤ v ∧ v ≤ t.1 - 1 → _) := fun l0 v h1 h2 h3 => pw_ix (l0 := l0) (v := v) HASK.out hc' h1 h2 h3
  rw [hc'] at hc ⊢
  clear hc' HASK
  generalize poV t (ar : Int) = P at *
  generalize fpC t (ar : Int) (kk : Int) = c1 at *
  generalize fpV t (ar : Int) (kk : Int) = p1 at *
  obtain ⟨VS, hVl, hVr, ad, cap, hu, hVc⟩ := rd_vals HL7.out
  simp only [Value.slice.injEq] at hu
  obtain ⟨rfl, rfl, rfl⟩ := hu
  obtain ⟨b, o, rfl, hbl, hVc⟩ := hVc hPos
  have HVR := Lib.hid hVr
  have HVC := Lib.hid hVc
  have HVS : Hid (∀ j (h : j < P.length), ∃ a c, (VS[j]'(by omega)) = ((ar : Int), .slice a (P[j]).2.length c)) := fun j h => by
    obtain ⟨g1, g2, g3⟩ := HVR.out j (by omega) h
    obtain ⟨a, c, h4⟩ := rd_slice g3
    exact ⟨a, c, Prod.ext (g1.trans (HALL.out _ (List.getElem_mem h)).1) h4⟩
  clear hVr hVc
  have hm64 : P.length ≤ 64 := HMANY.out
  clear HMANY
  cases g1 : (c1 == 0)
  go_wp2_with fail
  obtain ⟨w8, rfl⟩ : ∃ w8 : World, w8 = w7 := ⟨_, rfl⟩
  have hb8 : Below w8.heap.size w8 w8 := Below.refl _ _
  rotate_left
  go_wp2_with fail
  refine HSAME.out.mono ?_
  rintro e w8 ⟨rfl, hb8⟩
  have hz8 := hb8.size
  replace t0 := (cellB hb8 (by omega)).trans t0
  replace t1 := (cellB hb8 (by omega)).trans t1
  replace d0 := (cellB hb8 (by omega)).trans d0
  replace d1 := (cellB hb8 (by omega)).trans d1
  go_wp2_with fail
  all_goals
    have hbw8 := bthen hbw7 hb8
    have HT8 := Lib.hid (HT7.out.below hb8)
    have HD8 := Lib.hid (HD7.out.below hb8)
    have HG1 := Lib.hid g1
    have hlt1 : w1.heap.size < w8.heap.size := by have := hb8.size; omega
    have hlt5 : w5.heap.size < w8.heap.size := by have := hb8.size; omega
    have hlb : b < w8.heap.size := by have := hb8.size; omega
    have HVC8 : Hid (∀ i (h : i < VS.length), w8.cell? ⟨b, o + i * 2, none⟩ = some (.int .i64 (VS[i]).1) ∧ w8.cell? ⟨b, o + i * 2 + 1, none⟩ = some (VS[i]).2) := fun i h => ⟨(cellB hb8 hbl).trans (HVC.out i h).1, (cellB hb8 hbl).trans (HVC.out i h).2⟩
    have HVR8 : Hid (∀ i (h : i < P.length), opT.Rd w8 [.int .i64 (ar : Int), (VS[i]'(by omega)).2] P[i]) := fun i h => by
      obtain ⟨q1, q2, q3⟩ := HVR.out i (by omega) h
      exact pair_mk2' (HALL.out _ (List.getElem_mem h)).1.symm (I64.small (by omega) (by omega)) (q3.below hb8)
    clear HT7 HD7 HSAME HVC HVR hnn f0 f1 g1 hc
    go_loopw [15, 14] (fun i f wr => ∃ (k : Nat) (n : Int), k ≤ P.length ∧ i = .int .i64 k ∧ f = .int .i64 n ∧ (k ≤ I → n = -1) ∧ (I < k → n = (I : Int)) ∧ Below w8.heap.size w8 wr) (fun i _ _ => P.length - (intOf i).toNat)
    case atStart => exact ⟨0, -1, Nat.zero_le _, rfl, rfl, fun _ => rfl, fun h => absurd h (Nat.not_lt_zero _), Below.refl _ _⟩
    case round =>
      obtain ⟨k, n, hk, rfl, rfl, hn1, hn2, hbr⟩ := hrel
      have HN1 := Lib.hid hn1
      have HN2 := Lib.hid hn2
      clear hn1 hn2
      obtain ⟨wv, rfl⟩ : ∃ wv : World, wv = wr := ⟨_, rfl⟩
      by_cases hkl : k < P.length
      · have u0 := (cellB hbr hlt1).trans t0
        obtain ⟨ka, kc, hVk⟩ := HVS.out k hkl
        obtain ⟨e0, e1⟩ := HVC8.out k (by omega)
        have hRk := HVR8.out k hkl
        rw [hVk] at e0 e1 hRk
        replace e0 := (cellB hbr hlb).trans e0
        replace e1 := (cellB hbr hlb).trans e1
        have HEL := Lib.hid (hRk.below hbr)
        have HOKk := Lib.hid (HALL.out _ (List.getElem_mem hkl)).2.1
        clear hVk hRk
        go_wp2_with fail
        refine wp_region_T (fun w' => w'.cell? ⟨w1.heap.size, 0, none⟩ = some (.int .i64 t.1) ∧ w'.cell? ⟨b, o + k * 2, none⟩ = some (.int .i64 (ar : Int)) ∧ w'.cell? ⟨b, o + k * 2 + 1, none⟩ = some (.slice ka (P[k]).2.length kc)) [] (by kernel_rfl) ⟨u0, e0, e1⟩ (fun hHeld => ?_)
        refine wpAnyT_take (i := 0) (v := ?_) rfl (by kernel_rfl) (fun _ _ _ h => h) (Or.inl ⟨by rfl, ?_⟩) (by assumption) ?_
        rotate_left
        · (intro w hSw; (try dsimp only at hSw); go_simp <;> with_reducible rfl)
        go_simp
        refine wpAnyT_take (i := 1) (v := ?_) rfl (by kernel_rfl) (fun _ _ _ h => h) (Or.inl ⟨by rfl, ?_⟩) (by assumption) ?_
        rotate_left
        · (intro w hSw; (try dsimp only at hSw); go_simp <;> with_reducible rfl)
        go_simp
        refine wpAnyT_take (i := 2) (v := ?_) rfl (by kernel_rfl) (fun _ _ _ h => h) (Or.inl ⟨by rfl, ?_⟩) (by assumption) ?_
        rotate_left
        · (intro w hSw; (try dsimp only at hSw); go_simp <;> with_reducible rfl)
        go_simp
        refine wpAnyT_take (i := 3) (v := ?_) rfl (by kernel_rfl) (fun _ _ _ h => h) (Or.inl ⟨by rfl, ?_⟩) (by assumption) ?_
        rotate_left
        · (intro w hSw; (try dsimp only at hSw); go_simp <;> with_reducible rfl)
        go_simp
        refine wpAnyT_take (i := 4) (v := ?_) rfl (by kernel_rfl) (fun _ _ _ h => h) (Or.inl ⟨by rfl, ?_⟩) (by assumption) ?_
        rotate_left
        · (intro w hSw; (try dsimp only at hSw); go_simp <;> with_reducible rfl)
        go_simp
        refine wpAnyT_take (i := 5) (v := ?_) rfl (by kernel_rfl) (fun _ _ _ h => h) (Or.inl ⟨by rfl, ?_⟩) (by assumption) ?_
        rotate_left
        · (intro w hSw; (try dsimp only at hSw); go_simp <;> with_reducible rfl)
        go_simp
        refine wpAnyT_take (i := 6) (v := ?_) rfl (by kernel_rfl) (fun _ _ _ h => h) (Or.inl ⟨by rfl, ?_⟩) (by assumption) ?_
        rotate_left
        · (intro w hSw; (try dsimp only at hSw); go_simp <;> with_reducible rfl)
        go_simp
        have hv0 : Below wv.heap.size wv wv.drew := bD
        have HELd := Lib.hid (HEL.out.below hv0)
        have hbd := bthen hbr hv0
        have hzd := hbd.size
        clear u0 e0 e1 HEL
        generalize wv.drew = x0 at hHeld hv0 HELd hbd hzd ⊢
        obtain ⟨u0, e0, e1⟩ := hHeld
        refine wpAnyT_one (i := 7) rfl (by kernel_rfl) (fun K hK => ?_)
        go_simp
        go_at_call 20
        refine (IsOfKind_any x0 (f := P[k]) HELd.out (s := t.1) (k := (kk : Int)) HOKk.out (by omega)).mono ?_
        rintro e x1 ⟨rfl, hbx⟩
        have hzx := hbx.size
        replace u0 := (cellB hbx (by omega)).trans u0
        replace e0 := (cellB hbx (by omega)).trans e0
        replace e1 := (cellB hbx (by omega)).trans e1
        have hb1w := bthen hbd hbx
        dsimp only
        refine hK.out _ _ ⟨u0, e0, e1⟩ (fun hHeld => ?_)
        clear hK K
        refine wpAnyT_take (i := 8) (v := ?_) rfl (by kernel_rfl) (fun _ _ _ h => h) (Or.inl ⟨by rfl, ?_⟩) (by assumption) ?_
        rotate_left
        · (intro w hSw; (try dsimp only at hSw); go_simp <;> with_reducible rfl)
        go_simp
        refine wpAnyT_take (i := 9) (v := ?_) rfl (by kernel_rfl) (fun _ _ _ h => h) (Or.inl ⟨by rfl, ?_⟩) (by assumption) ?_
        rotate_left
        · (intro w hSw; (try dsimp only at hSw); go_simp <;> with_reducible rfl)
        go_simp
        refine wpAnyT_take (i := 10) (v := ?_) rfl (by kernel_rfl) (fun _ _ _ h => h) (Or.inl ⟨by rfl, ?_⟩) (by assumption) ?_
        rotate_left
        · (intro w hSw; (try dsimp only at hSw); go_simp <;> with_reducible rfl)
        go_simp
        refine wpAnyT_take (i := 11) (v := ?_) rfl (by kernel_rfl) (fun _ _ _ h => h) (Or.inl ⟨by rfl, ?_⟩) (by assumption) ?_
        rotate_left
        · (intro w hSw; (try dsimp only at hSw); go_simp <;> with_reducible rfl)
        go_simp
        refine wpAnyT_take (i := 12) (v := ?_) rfl (by kernel_rfl) (fun _ _ _ h => h) (Or.inl ⟨by rfl, ?_⟩) (by assumption) ?_
        rotate_left
        · (intro w hSw; (try dsimp only at hSw); go_simp <;> with_reducible rfl)
        go_simp
        refine wpAnyT_done (by kernel_rfl) ?_ _
        go_simp
        clear HELd u0 e0 e1 hHeld
        cases hkd : kindB t.1 P[k] (kk : Int)
        · have HS : Hid (I < k + 1 → I < k) := fun h => by
            rcases Nat.lt_or_ge I k with h0 | h0
            · exact h0
            · obtain rfl : I = k := by omega
              have := HHI.out hkl
              rw [hkd] at this
              cases this
          clear hkd
          go_wp2_with fail
          go_roundw
          case rel => exact ⟨k + 1, n, by omega, by go_num, rfl, fun h => HN1.out (by omega), fun h => HN2.out (HS.out h), hb1w⟩
          case measure => simp [intOf]; omega
        · have hIk : I ≤ k := by
            rcases Nat.lt_or_ge k I with h0 | h0
            · have := HLO.out k hkl h0
              rw [hkd] at this
              cases this
            · exact h0
          clear hkd
          rcases Nat.lt_or_ge I k with h0 | h0
          · obtain rfl : n = (I : Int) := HN2.out h0
            have hd : decide ((I : Int) < 0) = false := by simp
            go_wp2_with fail
            go_roundw
            case rel => exact ⟨k + 1, (I : Int), by omega, by go_num, rfl, fun h => by omega, fun _ => rfl, hb1w⟩
            case measure => simp [intOf]; omega
          · obtain rfl : n = -1 := HN1.out h0
            go_wp2_with fail
            go_roundw
            case rel => exact ⟨k + 1, (k : Int), by omega, by go_num, rfl, fun h => by omega, fun _ => by omega, hb1w⟩
            case measure => simp [intOf]; omega
      · obtain rfl : k = P.length := by omega
        have hzv := hbr.size
        by_cases hd : I < P.length
        all_goals try (exfalso; have h := HBR.out; rw [HG1.out] at h; simp [hd] at h; done)
        have hg := HG1.out
        first
        | (have hIl : I < P.length := hd
           obtain rfl : n = (I : Int) := HN2.out hIl
           have hd1 : decide ((0 : Int) ≤ (I : Int)) = true := by simp
           obtain ⟨ia, ic, hVi⟩ := HVS.out I hIl
           obtain ⟨e0, e1⟩ := HVC8.out I (by omega)
           have hRi := HVR8.out I hIl
           rw [hVi] at e0 e1 hRi
           replace e0 := (cellB hbr hlb).trans e0
           replace e1 := (cellB hbr hlb).trans e1
           have q0 := (cellB hbr hlt5).trans d0
           have q1 := (cellB hbr hlt5).trans d1
           have HEI := Lib.hid (hRi.below hbr)
           have HDI := Lib.hid (HD8.out.below hbr)
           clear hVi hRi
           go_wp2_with fail
           refine wp_region_T (fun w' => (w'.cell? ⟨w5.heap.size, 0, none⟩ = some (.int .i64 p1.1) ∧ w'.cell? ⟨w5.heap.size, 1, none⟩ = some (.slice a5 p1.2.length c5)) ∧ w'.cell? ⟨b, o + I * 2, none⟩ = some (.int .i64 (ar : Int)) ∧ w'.cell? ⟨b, o + I * 2 + 1, none⟩ = some (.slice ia (P[I]).2.length ic)) [] (by kernel_rfl) ⟨⟨q0, q1⟩, e0, e1⟩ (fun hHeld => ?_)
           refine wpAnyT_take (i := 0) (v := ?_) rfl (by kernel_rfl) (fun _ _ _ h => h) (Or.inl ⟨by rfl, ?_⟩) (by assumption) ?_
           rotate_left
           · (intro w hSw; (try dsimp only at hSw); go_simp <;> with_reducible rfl)
           go_simp
           refine wpAnyT_take (i := 1) (v := ?_) rfl (by kernel_rfl) (fun _ _ _ h => h) (Or.inl ⟨by rfl, ?_⟩) (by assumption) ?_
           rotate_left
           · (intro w hSw; (try dsimp only at hSw); go_simp <;> with_reducible rfl)
           go_simp
           refine wpAnyT_take (i := 2) (v := ?_) rfl (by kernel_rfl) (fun _ _ _ h => h) (Or.inl ⟨by rfl, ?_⟩) (by assumption) ?_
           rotate_left
           · (intro w hSw; (try dsimp only at hSw); go_simp <;> with_reducible rfl)
           go_simp
           refine wpAnyT_take (i := 3) (v := ?_) rfl (by kernel_rfl) (fun _ _ _ h => h) (Or.inl ⟨by rfl, ?_⟩) (by assumption) ?_
           rotate_left
           · (intro w hSw; (try dsimp only at hSw); go_simp <;> with_reducible rfl)
           go_simp
           refine wpAnyT_take (i := 4) (v := ?_) rfl (by kernel_rfl) (fun _ _ _ h => h) (Or.inl ⟨by rfl, ?_⟩) (by assumption) ?_
           rotate_left
           · (intro w hSw; (try dsimp only at hSw); go_simp <;> with_reducible rfl)
           go_simp
           refine wpAnyT_take (i := 5) (v := ?_) rfl (by kernel_rfl) (fun _ _ _ h => h) (Or.inl ⟨by rfl, ?_⟩) (by assumption) ?_
           rotate_left
           · (intro w hSw; (try dsimp only at hSw); go_simp <;> with_reducible rfl)
           go_simp
           refine wpAnyT_take (i := 6) (v := ?_) rfl (by kernel_rfl) (fun _ _ _ h => h) (Or.inl ⟨by rfl, ?_⟩) (by assumption) ?_
           rotate_left
           · (intro w hSw; (try dsimp only at hSw); go_simp <;> with_reducible rfl)
           go_simp
           refine wpAnyT_take (i := 7) (v := ?_) rfl (by kernel_rfl) (fun _ _ _ h => h) (Or.inl ⟨by rfl, ?_⟩) (by assumption) ?_
           rotate_left
           · (intro w hSw; (try dsimp only at hSw); go_simp <;> with_reducible rfl)
           go_simp
           refine wpAnyT_take (i := 8) (v := ?_) rfl (by kernel_rfl) (fun _ _ _ h => h) (Or.inl ⟨by rfl, ?_⟩) (by assumption) ?_
           rotate_left
           · (intro w hSw; (try dsimp only at hSw); go_simp <;> with_reducible rfl)
           go_simp
           refine wpAnyT_take (i := 9) (v := ?_) rfl (by kernel_rfl) (fun _ _ _ h => h) (Or.inl ⟨by rfl, ?_⟩) (by assumption) ?_
           rotate_left
           · (intro w hSw; (try dsimp only at hSw); go_simp <;> with_reducible rfl)
           go_simp
           refine wpAnyT_take (i := 10) (v := ?_) rfl (by kernel_rfl) (fun _ _ _ h => h) (Or.inl ⟨by rfl, ?_⟩) (by assumption) ?_
           rotate_left
           · (intro w hSw; (try dsimp only at hSw); go_simp <;> with_reducible rfl)
           go_simp
           refine wpAnyT_take (i := 11) (v := ?_) rfl (by kernel_rfl) (fun _ _ _ h => h) (Or.inl ⟨by rfl, ?_⟩) (by assumption) ?_
           rotate_left
           · (intro w hSw; (try dsimp only at hSw); go_simp <;> with_reducible rfl)
           go_simp
           refine wpAnyT_take (i := 12) (v := ?_) rfl (by kernel_rfl) (fun _ _ _ h => h) (Or.inl ⟨by rfl, ?_⟩) (by assumption) ?_
           rotate_left
           · (intro w hSw; (try dsimp only at hSw); go_simp <;> with_reducible rfl)
           go_simp
           refine wpAnyT_take (i := 13) (v := ?_) rfl (by kernel_rfl) (fun _ _ _ h => h) (Or.inl ⟨by rfl, ?_⟩) (by assumption) ?_
           rotate_left
           · (intro w hSw; (try dsimp only at hSw); go_simp <;> with_reducible rfl)
           go_simp
           have hv3 : Below wv.heap.size wv wv.drew := bD
           have HE3 := Lib.hid (HEI.out.below hv3)
           have HF3 := Lib.hid (HDI.out.below hv3)
           have hzd3 := hv3.size
           clear q0 q1 e0 e1 HEI HDI
           generalize wv.drew = x4 at hHeld hv3 HE3 HF3 hzd3 ⊢
           obtain ⟨⟨q0, q1⟩, e0, e1⟩ := hHeld
           refine wpAnyT_one (i := 14) rfl (by kernel_rfl) (fun K hK => ?_)
           go_simp
           go_at_call 19
           refine (specSameOp_any x4 (x := P[I]) (y := p1) HE3.out HF3.out).mono ?_
           rintro e wx ⟨rfl, hbx⟩
           have hbX : Below w8.heap.size w8 wx := bthen hbr (bthen hv3 hbx)
           replace q0 := (cellB hbx (by omega)).trans q0
           replace q1 := (cellB hbx (by omega)).trans q1
           replace e0 := (cellB hbx (by omega)).trans e0
           replace e1 := (cellB hbx (by omega)).trans e1
           rw [show eqB P[I] p1 = true from eqB_true (HEQ.out hIl).symm]
           dsimp only
           refine hK.out _ _ ⟨⟨q0, q1⟩, e0, e1⟩ (fun hHeld => ?_)
           clear hK K
           refine wpAnyT_take (i := 15) (v := ?_) rfl (by kernel_rfl) (fun _ _ _ h => h) (Or.inl ⟨by rfl, ?_⟩) (by assumption) ?_
           rotate_left
           · (intro w hSw; (try dsimp only at hSw); go_simp <;> with_reducible rfl)
           go_simp
           refine wpAnyT_take (i := 16) (v := ?_) rfl (by kernel_rfl) (fun _ _ _ h => h) (Or.inl ⟨by rfl, ?_⟩) (by assumption) ?_
           rotate_left
           · (intro w hSw; (try dsimp only at hSw); go_simp <;> with_reducible rfl)
           go_simp
           refine wpAnyT_take (i := 17) (v := ?_) rfl (by kernel_rfl) (fun _ _ _ h => h) (Or.inl ⟨by rfl, ?_⟩) (by assumption) ?_
           rotate_left
           · (intro w hSw; (try dsimp only at hSw); go_simp <;> with_reducible rfl)
           go_simp
           refine wpAnyT_done (by kernel_rfl) ?_ _
           go_simp
           clear q0 q1 e0 e1 hHeld HE3 HF3)
        | (have hIl : ¬ I < P.length := hd
           obtain rfl : n = -1 := HN1.out (by omega)
           go_wp2_with fail
           refine wp_region_T (fun _ => True) [] (by kernel_rfl) trivial (fun hHeld => ?_)
           refine wpAnyT_take (i := 0) (v := ?_) rfl (by kernel_rfl) (fun _ _ _ h => h) (Or.inl ⟨by rfl, ?_⟩) (by assumption) ?_
           rotate_left
           · (intro w hSw; (try dsimp only at hSw); go_simp <;> with_reducible rfl)
           go_simp
           refine wpAnyT_take (i := 1) (v := ?_) rfl (by kernel_rfl) (fun _ _ _ h => h) (Or.inl ⟨by rfl, ?_⟩) (by assumption) ?_
           rotate_left
           · (intro w hSw; (try dsimp only at hSw); go_simp <;> with_reducible rfl)
           go_simp
           refine wpAnyT_take (i := 2) (v := ?_) rfl (by kernel_rfl) (fun _ _ _ h => h) (Or.inl ⟨by rfl, ?_⟩) (by assumption) ?_
           rotate_left
           · (intro w hSw; (try dsimp only at hSw); go_simp <;> with_reducible rfl)
           go_simp
           refine wpAnyT_take (i := 3) (v := ?_) rfl (by kernel_rfl) (fun _ _ _ h => h) (Or.inl ⟨by rfl, ?_⟩) (by assumption) ?_
           rotate_left
           · (intro w hSw; (try dsimp only at hSw); go_simp <;> with_reducible rfl)
           go_simp
           refine wpAnyT_take (i := 4) (v := ?_) rfl (by kernel_rfl) (fun _ _ _ h => h) (Or.inl ⟨by rfl, ?_⟩) (by assumption) ?_
           rotate_left
           · (intro w hSw; (try dsimp only at hSw); go_simp <;> with_reducible rfl)
           go_simp
           refine wpAnyT_take (i := 5) (v := ?_) rfl (by kernel_rfl) (fun _ _ _ h => h) (Or.inl ⟨by rfl, ?_⟩) (by assumption) ?_
           rotate_left
           · (intro w hSw; (try dsimp only at hSw); go_simp <;> with_reducible rfl)
           go_simp
           refine wpAnyT_take (i := 6) (v := ?_) rfl (by kernel_rfl) (fun _ _ _ h => h) (Or.inl ⟨by rfl, ?_⟩) (by assumption) ?_
           rotate_left
           · (intro w hSw; (try dsimp only at hSw); go_simp <;> with_reducible rfl)
           go_simp
           refine wpAnyT_take (i := 7) (v := ?_) rfl (by kernel_rfl) (fun _ _ _ h => h) (Or.inl ⟨by rfl, ?_⟩) (by assumption) ?_
           rotate_left
           · (intro w hSw; (try dsimp only at hSw); go_simp <;> with_reducible rfl)
           go_simp
           refine wpAnyT_take (i := 8) (v := ?_) rfl (by kernel_rfl) (fun _ _ _ h => h) (Or.inl ⟨by rfl, ?_⟩) (by assumption) ?_
           rotate_left
           · (intro w hSw; (try dsimp only at hSw); go_simp <;> with_reducible rfl)
           go_simp
           refine wpAnyT_take (i := 9) (v := undef) rfl (by kernel_rfl) (fun _ _ _ h => h) (Or.inr ⟨by rfl, rfl⟩) (by assumption) ?_
           go_simp
           refine wpAnyT_take (i := 10) (v := undef) rfl (by kernel_rfl) (fun _ _ _ h => h) (Or.inr ⟨by rfl, rfl⟩) (by assumption) ?_
           go_simp
           refine wpAnyT_take (i := 11) (v := undef) rfl (by kernel_rfl) (fun _ _ _ h => h) (Or.inr ⟨by rfl, rfl⟩) (by assumption) ?_
           go_simp
           refine wpAnyT_take (i := 12) (v := undef) rfl (by kernel_rfl) (fun _ _ _ h => h) (Or.inr ⟨by rfl, rfl⟩) (by assumption) ?_
           go_simp
           refine wpAnyT_take (i := 13) (v := undef) rfl (by kernel_rfl) (fun _ _ _ h => h) (Or.inr ⟨by rfl, rfl⟩) (by assumption) ?_
           go_simp
           refine wpAnyT_take (i := 14) (v := undef) rfl (by kernel_rfl) (fun _ _ _ h => h) (Or.inr ⟨by rfl, rfl⟩) (by assumption) ?_
           go_simp
           refine wpAnyT_take (i := 15) (v := undef) rfl (by kernel_rfl) (fun _ _ _ h => h) (Or.inr ⟨by rfl, rfl⟩) (by assumption) ?_
           go_simp
           refine wpAnyT_take (i := 16) (v := ?_) rfl (by kernel_rfl) (fun _ _ _ h => h) (Or.inl ⟨by rfl, ?_⟩) (by assumption) ?_
           rotate_left
           · (intro w hSw; (try dsimp only at hSw); go_simp <;> with_reducible rfl)
           go_simp
           refine wpAnyT_take (i := 17) (v := ?_) rfl (by kernel_rfl) (fun _ _ _ h => h) (Or.inl ⟨by rfl, ?_⟩) (by assumption) ?_
           rotate_left
           · (intro w hSw; (try dsimp only at hSw); go_simp <;> with_reducible rfl)
           go_simp
           refine wpAnyT_done (by kernel_rfl) ?_ _
           go_simp
           have hbX : Below w8.heap.size w8 wv.drew := bthen hbr bD
           generalize wv.drew = wx at hbX ⊢)
        have hbwX := bthen hbw8 hbX
        have hzX := hbX.size
        have u0 := (cellB hbX hlt1).trans t0
        have u1 := (cellB hbX hlt1).trans t1
        have H0X := Lib.hid (H0.out.below hbwX)
        have H1X := Lib.hid (H1.out.below hbwX)
        have HTX := Lib.hid (HT8.out.below hbX)
        clear hg HN1 HN2 hd
        go_wp2_with fail
        refine (A2Tuples_any wx H1X.out (s := t.1) (ar := ar) (cnt := 1) (by omega) (by omega) (by omega)).mono ?_
        rintro e wy ⟨u, ts, rfl, hts, htl, hall, hby⟩
        obtain ⟨l0, rfl⟩ := List.length_eq_one_iff.1 htl
        obtain ⟨hl0, hin0⟩ := hall l0 (by simp)
        obtain ⟨ra, rc, hu, -, -, hrc⟩ := slices_ex hts.rd
        obtain rfl : u = _ := by simpa using hu
        obtain ⟨rb, ro, rfl, hrb, hrc⟩ := hrc (by simp)
        obtain ⟨rv, hrv, hr0⟩ := hrc 0 (by simp)
        obtain ⟨la, lc, rfl⟩ := rd_slice hrv
        have HRW : Hid (rowsT.Rd wy [.slice (some ⟨rb, ro, none⟩) 1 rc] [l0]) := hts.rd
        have HRV : Hid (intsT.Rd wy [.slice la l0.length lc] l0) := hrv
        have HR0 : Hid (wy.cell? ⟨rb, ro, none⟩ = some (.slice la l0.length lc)) := by unfold Hid; simpa using hr0
        have HL0 := Lib.hid hl0
        have HIN := Lib.hid hin0
        have hzy := hby.size
        replace u0 := (cellB hby (by omega)).trans u0
        replace u1 := (cellB hby (by omega)).trans u1
        have H0Y := Lib.hid (H0X.out.below hby)
        have HTY := Lib.hid (HTX.out.below hby)
        have hbY : Below w8.heap.size w8 wy := bthen hbX hby
        clear hts htl hall hu hrc hrv hl0 hin0 hr0 H0X H1X HTX
        go_wp2_with fail
        refine (a2At_any wy (k := 0) (n := t.1) H0Y.out (by omega)).mono ?_
        rintro e _ ⟨z, rfl, hz, rfl⟩
        have HIZ : Hid (I64 (z : Int)) := I64.small (by omega) (by omega)
        go_wp2_with fail
        generalize hX : World.alloc wy _ = wz
        have hbz : Below wy.heap.size wy wz := hX ▸ bA
        have HV : Hid (intsT.Rd wz [.slice (some ⟨wy.heap.size, 0, none⟩) 1 1] [(z : Int)]) := by
          unfold Hid
          rw [← hX]
          exact (fr_ints1 HIZ.out rfl (Nat.le_refl _)).rd
        have HTZ := Lib.hid (HTY.out.below hbz)
        have HRZ := Lib.hid (HRW.out.below hbz)
        have hbZ := bthen hbY hbz
        clear hX u0 u1
        refine (PolymorphismWith_any wz HTZ.out HRZ.out HV.out (ar := (ar : Int))).mono ?_
        rintro e wa ⟨cs, rfl, hfa, hba⟩
        obtain ⟨ga, gc, rfl⟩ := fr_pair hfa
        have HGA := Lib.hid hfa.rd
        obtain ⟨J, hJ, hjlo, hjhi, hjc⟩ := HPW.out l0 (z : Int) (by have := HL0.out; omega) HIN.out (by omega)
        have HJLO := Lib.hid hjlo
        have HJHI := Lib.hid hjhi
        have HJC := Lib.hid hjc
        have hbA2 := bthen hbZ hba
        have hzA := hbA2.size
        clear hfa hjlo hjhi hjc HPW HTZ HRZ HV HTY
        generalize pwV t (ar : Int) [l0] [(z : Int)] = p2 at *
        generalize pwC t (ar : Int) [l0] [(z : Int)] = c2 at *
        go_wp2_with fail
        generalize hX : World.alloc wa _ = wb
        have hbb : Below wa.heap.size wa wb := hX ▸ bA
        have hzb : wa.heap.size + 1 ≤ wb.heap.size := by rw [← hX]; simp
        have q0 : wb.cell? ⟨wa.heap.size, 0, none⟩ = some (.int .i64 p2.1) := by rw [← hX]; simp [go_sem]
        have q1 : wb.cell? ⟨wa.heap.size, 1, none⟩ = some (.slice ga p2.2.length gc) := by rw [← hX]; simp [go_sem]
        have HGB := Lib.hid (HGA.out.below hbb)
        have hb9 : Below w8.heap.size w8 wb := bthen hbA2 hbb
        have hbyb : Below wy.heap.size wy wb := bthen hbz (bthen hba hbb)
        have hlta : wa.heap.size < wb.heap.size := by omega
        clear hX HGA hbr hbX hbwX hzX hbY hbZ hbA2 hzA
        go_loopw [23, 22] (fun i f wr => ∃ (k : Nat) (n : Int), k ≤ P.length ∧ i = .int .i64 k ∧ f = .int .i64 n ∧ (k ≤ J → n = -1) ∧ (J < k → n = (J : Int)) ∧ Below wb.heap.size wb wr) (fun i _ _ => P.length - (intOf i).toNat)
        case atStart => exact ⟨0, -1, Nat.zero_le _, rfl, rfl, fun _ => rfl, fun h => absurd h (Nat.not_lt_zero _), Below.refl _ _⟩
        case round =>
          obtain ⟨k, n, hk, rfl, rfl, hn1, hn2, hbq⟩ := hrel
          have HN1 := Lib.hid hn1
          have HN2 := Lib.hid hn2
          clear hn1 hn2
          obtain ⟨wq, rfl⟩ : ∃ wq : World, wq = wr := ⟨_, rfl⟩
          have hbq8 : Below w8.heap.size w8 wq := bthen hb9 hbq
          have hbqy : Below wy.heap.size wy wq := bthen hbyb hbq
          have hzq := hbq8.size
          by_cases hkl : k < P.length
          · have u0 := (cellB hbq8 hlt1).trans t0
            have r0 := (cellB hbqy hrb).trans HR0.out
            obtain ⟨ka, kc, hVk⟩ := HVS.out k hkl
            obtain ⟨e0, e1⟩ := HVC8.out k (by omega)
            have hRk := HVR8.out k hkl
            rw [hVk] at e0 e1 hRk
            replace e0 := (cellB hbq8 hlb).trans e0
            replace e1 := (cellB hbq8 hlb).trans e1
            have HEL := Lib.hid (hRk.below hbq8)
            have HUL := Lib.hid (HRV.out.below hbqy)
            have HOKk := Lib.hid (HALL.out _ (List.getElem_mem hkl)).2.1
            have HLK : Hid ((l0.length : Int) = (P[k]).1) := by
              unfold Hid
              rw [(HALL.out _ (List.getElem_mem hkl)).1, HL0.out]
            clear hVk hRk
            go_wp2_with fail
            refine wp_region_T (fun w' => w'.cell? ⟨w1.heap.size, 0, none⟩ = some (.int .i64 t.1) ∧ w'.cell? ⟨rb, ro, none⟩ = some (.slice la l0.length lc) ∧ w'.cell? ⟨b, o + k * 2, none⟩ = some (.int .i64 (ar : Int)) ∧ w'.cell? ⟨b, o + k * 2 + 1, none⟩ = some (.slice ka (P[k]).2.length kc)) [] (by kernel_rfl) ⟨u0, r0, e0, e1⟩ (fun hHeld => ?_)
            refine wpAnyT_take (i := 0) (v := ?_) rfl (by kernel_rfl) (fun _ _ _ h => h) (Or.inl ⟨by rfl, ?_⟩) (by assumption) ?_
            rotate_left
            · (intro w hSw; (try dsimp only at hSw); go_simp <;> with_reducible rfl)
            go_simp
            refine wpAnyT_take (i := 1) (v := ?_) rfl (by kernel_rfl) (fun _ _ _ h => h) (Or.inl ⟨by rfl, ?_⟩) (by assumption) ?_
            rotate_left
            · (intro w hSw; (try dsimp only at hSw); go_simp <;> with_reducible rfl)
            go_simp
            refine wpAnyT_take (i := 2) (v := ?_) rfl (by kernel_rfl) (fun _ _ _ h => h) (Or.inl ⟨by rfl, ?_⟩) (by assumption) ?_
            rotate_left
            · (intro w hSw; (try dsimp only at hSw); go_simp <;> with_reducible rfl)
            go_simp
            refine wpAnyT_take (i := 3) (v := ?_) rfl (by kernel_rfl) (fun _ _ _ h => h) (Or.inl ⟨by rfl, ?_⟩) (by assumption) ?_
            rotate_left
            · (intro w hSw; (try dsimp only at hSw); go_simp <;> with_reducible rfl)
            go_simp
            refine wpAnyT_take (i := 4) (v := ?_) rfl (by kernel_rfl) (fun _ _ _ h => h) (Or.inl ⟨by rfl, ?_⟩) (by assumption) ?_
            rotate_left
            · (intro w hSw; (try dsimp only at hSw); go_simp <;> with_reducible rfl)
            go_simp
            refine wpAnyT_take (i := 5) (v := ?_) rfl (by kernel_rfl) (fun _ _ _ h => h) (Or.inl ⟨by rfl, ?_⟩) (by assumption) ?_
            rotate_left
            · (intro w hSw; (try dsimp only at hSw); go_simp <;> with_reducible rfl)
            go_simp
            refine wpAnyT_take (i := 6) (v := ?_) rfl (by kernel_rfl) (fun _ _ _ h => h) (Or.inl ⟨by rfl, ?_⟩) (by assumption) ?_
            rotate_left
            · (intro w hSw; (try dsimp only at hSw); go_simp <;> with_reducible rfl)
            go_simp
            refine wpAnyT_take (i := 7) (v := ?_) rfl (by kernel_rfl) (fun _ _ _ h => h) (Or.inl ⟨by rfl, ?_⟩) (by assumption) ?_
            rotate_left
            · (intro w hSw; (try dsimp only at hSw); go_simp <;> with_reducible rfl)
            go_simp
            refine wpAnyT_take (i := 8) (v := ?_) rfl (by kernel_rfl) (fun _ _ _ h => h) (Or.inl ⟨by rfl, ?_⟩) (by assumption) ?_
            rotate_left
            · (intro w hSw; (try dsimp only at hSw); go_simp <;> with_reducible rfl)
            go_simp
            have hv0 : Below wq.heap.size wq wq.drew := bD
            have HELd := Lib.hid (HEL.out.below hv0)
            have HULd := Lib.hid (HUL.out.below hv0)
            have hbd := bthen hbq hv0
            have hzd := hv0.size
            have hrbd : rb < wq.drew.heap.size := by have := hbqy.size; omega
            clear u0 r0 e0 e1 HEL HUL
            generalize wq.drew = x0 at hHeld hv0 HELd HULd hbd hzd hrbd ⊢
            obtain ⟨u0, r0, e0, e1⟩ := hHeld
            refine wpAnyT_one (i := 9) rfl (by kernel_rfl) (fun K hK => ?_)
            go_simp
            go_at_call 23
            refine (ApplyOp_any x0 (f := P[k]) HELd.out HULd.out (s := t.1) HOKk.out HLK.out HIN.out).mono ?_
            rintro e x1 ⟨rfl, hbx⟩
            have hzx := hbx.size
            replace u0 := (cellB hbx (by omega)).trans u0
            replace r0 := (cellB hbx (by omega)).trans r0
            replace e0 := (cellB hbx (by omega)).trans e0
            replace e1 := (cellB hbx (by omega)).trans e1
            have hb1w := bthen hbd hbx
            dsimp only
            refine hK.out _ _ ⟨u0, r0, e0, e1⟩ (fun hHeld => ?_)
            clear hK K
            refine wpAnyT_take (i := 10) (v := ?_) rfl (by kernel_rfl) (fun _ _ _ h => h) (Or.inl ⟨by rfl, ?_⟩) (by assumption) ?_
            rotate_left
            · (intro w hSw; (try dsimp only at hSw); go_simp <;> with_reducible rfl)
            go_simp
            refine wpAnyT_take (i := 11) (v := ?_) rfl (by kernel_rfl) (fun _ _ _ h => h) (Or.inl ⟨by rfl, ?_⟩) (by assumption) ?_
            rotate_left
            · (intro w hSw; (try dsimp only at hSw); go_simp <;> with_reducible rfl)
            go_simp
            refine wpAnyT_take (i := 12) (v := ?_) rfl (by kernel_rfl) (fun _ _ _ h => h) (Or.inl ⟨by rfl, ?_⟩) (by assumption) ?_
            rotate_left
            · (intro w hSw; (try dsimp only at hSw); go_simp <;> with_reducible rfl)
            go_simp
            refine wpAnyT_take (i := 13) (v := ?_) rfl (by kernel_rfl) (fun _ _ _ h => h) (Or.inl ⟨by rfl, ?_⟩) (by assumption) ?_
            rotate_left
            · (intro w hSw; (try dsimp only at hSw); go_simp <;> with_reducible rfl)
            go_simp
            refine wpAnyT_take (i := 14) (v := ?_) rfl (by kernel_rfl) (fun _ _ _ h => h) (Or.inl ⟨by rfl, ?_⟩) (by assumption) ?_
            rotate_left
            · (intro w hSw; (try dsimp only at hSw); go_simp <;> with_reducible rfl)
            go_simp
            refine wpAnyT_done (by kernel_rfl) ?_ _
            go_simp
            clear HELd HULd u0 r0 e0 e1 hHeld
            have HLOK : Hid (k < J → (opV t.1 (P[k]).2 l0 == (z : Int)) = false) := fun h => HJLO.out k hkl h
            have HHIK : Hid (J = k → (opV t.1 (P[k]).2 l0 == (z : Int)) = true) := fun h => by subst h; exact HJHI.out hkl
            clear HLK HOKk
            generalize opV t.1 (P[k]).2 l0 = vv at *
            cases hkd : (vv == (z : Int))
            · have HS : Hid (J < k + 1 → J < k) := fun h => by
                rcases Nat.lt_or_ge J k with h0 | h0
                · exact h0
                · have := HHIK.out (by omega)
                  rw [hkd] at this
                  cases this
              go_wp2_with fail
              go_roundw
              case rel => exact ⟨k + 1, n, by omega, by go_num, rfl, fun h => HN1.out (by omega), fun h => HN2.out (HS.out h), hb1w⟩
              case measure => simp [intOf]; omega
            · have hIk : J ≤ k := by
                rcases Nat.lt_or_ge k J with h0 | h0
                · have := HLOK.out h0
                  rw [hkd] at this
                  cases this
                · exact h0
              rcases Nat.lt_or_ge J k with h0 | h0
              · obtain rfl : n = (J : Int) := HN2.out h0
                have hd : decide ((J : Int) < 0) = false := by simp
                go_wp2_with fail
                go_roundw
                case rel => exact ⟨k + 1, (J : Int), by omega, by go_num, rfl, fun h => by omega, fun _ => rfl, hb1w⟩
                case measure => simp [intOf]; omega
              · obtain rfl : n = -1 := HN1.out h0
                go_wp2_with fail
                go_roundw
                case rel => exact ⟨k + 1, (k : Int), by omega, by go_num, rfl, fun h => by omega, fun _ => by omega, hb1w⟩
                case measure => simp [intOf]; omega
          · obtain rfl : k = P.length := by omega
            have hbwQ : Below w.heap.size w wq := bthen hbw8 hbq8
            rcases HJC.out with h7 | ⟨hJl, hp2, h0⟩ | ⟨hJl, h6⟩
            · obtain rfl : c2 = 7 := h7
              go_wp2_with fail
              go_ret
              exact ⟨rfl, hbwQ⟩
            · obtain rfl : c2 = 0 := h0
              obtain rfl : n = (J : Int) := HN2.out hJl
              have HP2 := Lib.hid hp2
              have hd1 : decide ((0 : Int) ≤ (J : Int)) = true := by simp
              obtain ⟨ia, ic, hVi⟩ := HVS.out J hJl
              obtain ⟨e0, e1⟩ := HVC8.out J (by omega)
              have hRi := HVR8.out J hJl
              rw [hVi] at e0 e1 hRi
              replace e0 := (cellB hbq8 hlb).trans e0
              replace e1 := (cellB hbq8 hlb).trans e1
              replace q0 := (cellB hbq hlta).trans q0
              replace q1 := (cellB hbq hlta).trans q1
              have HEI := Lib.hid (hRi.below hbq8)
              have HDI := Lib.hid (HGB.out.below hbq)
              clear hVi hRi hp2 HJC HN1 HN2
              go_wp2_with fail
              refine wp_region_T (fun w' => (w'.cell? ⟨wa.heap.size, 0, none⟩ = some (.int .i64 p2.1) ∧ w'.cell? ⟨wa.heap.size, 1, none⟩ = some (.slice ga p2.2.length gc)) ∧ w'.cell? ⟨b, o + J * 2, none⟩ = some (.int .i64 (ar : Int)) ∧ w'.cell? ⟨b, o + J * 2 + 1, none⟩ = some (.slice ia (P[J]).2.length ic)) [] (by kernel_rfl) ⟨⟨q0, q1⟩, e0, e1⟩ (fun hHeld => ?_)
              refine wpAnyT_take (i := 0) (v := ?_) rfl (by kernel_rfl) (fun _ _ _ h => h) (Or.inl ⟨by rfl, ?_⟩) (by assumption) ?_
              rotate_left
              · (intro w hSw; (try dsimp only at hSw); go_simp <;> with_reducible rfl)
              go_simp
              refine wpAnyT_take (i := 1) (v := ?_) rfl (by kernel_rfl) (fun _ _ _ h => h) (Or.inl ⟨by rfl, ?_⟩) (by assumption) ?_
              rotate_left
              · (intro w hSw; (try dsimp only at hSw); go_simp <;> with_reducible rfl)
              go_simp
              refine wpAnyT_take (i := 2) (v := ?_) rfl (by kernel_rfl) (fun _ _ _ h => h) (Or.inl ⟨by rfl, ?_⟩) (by assumption) ?_
              rotate_left
              · (intro w hSw; (try dsimp only at hSw); go_simp <;> with_reducible rfl)
              go_simp
              refine wpAnyT_take (i := 3) (v := ?_) rfl (by kernel_rfl) (fun _ _ _ h => h) (Or.inl ⟨by rfl, ?_⟩) (by assumption) ?_
              rotate_left
              · (intro w hSw; (try dsimp only at hSw); go_simp <;> with_reducible rfl)
              go_simp
              refine wpAnyT_take (i := 4) (v := ?_) rfl (by kernel_rfl) (fun _ _ _ h => h) (Or.inl ⟨by rfl, ?_⟩) (by assumption) ?_
              rotate_left
              · (intro w hSw; (try dsimp only at hSw); go_simp <;> with_reducible rfl)
              go_simp
              refine wpAnyT_take (i := 5) (v := ?_) rfl (by kernel_rfl) (fun _ _ _ h => h) (Or.inl ⟨by rfl, ?_⟩) (by assumption) ?_
              rotate_left
              · (intro w hSw; (try dsimp only at hSw); go_simp <;> with_reducible rfl)
              go_simp
              refine wpAnyT_take (i := 6) (v := ?_) rfl (by kernel_rfl) (fun _ _ _ h => h) (Or.inl ⟨by rfl, ?_⟩) (by assumption) ?_
              rotate_left
              · (intro w hSw; (try dsimp only at hSw); go_simp <;> with_reducible rfl)
              go_simp
              refine wpAnyT_take (i := 7) (v := ?_) rfl (by kernel_rfl) (fun _ _ _ h => h) (Or.inl ⟨by rfl, ?_⟩) (by assumption) ?_
              rotate_left
              · (intro w hSw; (try dsimp only at hSw); go_simp <;> with_reducible rfl)
              go_simp
              have hv3 : Below wq.heap.size wq wq.drew := bD
              have HE3 := Lib.hid (HEI.out.below hv3)
              have HF3 := Lib.hid (HDI.out.below hv3)
              have hzd3 := hv3.size
              have hla3 : wa.heap.size < wq.drew.heap.size := by have := hbq.size; omega
              clear q0 q1 e0 e1 HEI HDI
              generalize wq.drew = x4 at hHeld hv3 HE3 HF3 hzd3 hla3 ⊢
              obtain ⟨⟨q0, q1⟩, e0, e1⟩ := hHeld
              refine wpAnyT_one (i := 8) rfl (by kernel_rfl) (fun K hK => ?_)
              go_simp
              go_at_call 19
              refine (specSameOp_any x4 (x := p2) (y := P[J]) HF3.out HE3.out).mono ?_
              rintro e x5 ⟨rfl, hbx⟩
              have hbX5 : Below w.heap.size w x5 := bthen hbwQ (bthen hv3 hbx)
              replace q0 := (cellB hbx (by omega)).trans q0
              replace q1 := (cellB hbx (by omega)).trans q1
              replace e0 := (cellB hbx (by omega)).trans e0
              replace e1 := (cellB hbx (by omega)).trans e1
              rw [show eqB p2 P[J] = true from eqB_true HP2.out]
              dsimp only
              refine hK.out _ _ ⟨⟨q0, q1⟩, e0, e1⟩ (fun hHeld => ?_)
              clear hK K
              refine wpAnyT_take (i := 9) (v := ?_) rfl (by kernel_rfl) (fun _ _ _ h => h) (Or.inl ⟨by rfl, ?_⟩) (by assumption) ?_
              rotate_left
              · (intro w hSw; (try dsimp only at hSw); go_simp <;> with_reducible rfl)
              go_simp
              refine wpAnyT_take (i := 10) (v := ?_) rfl (by kernel_rfl) (fun _ _ _ h => h) (Or.inl ⟨by rfl, ?_⟩) (by assumption) ?_
              rotate_left
              · (intro w hSw; (try dsimp only at hSw); go_simp <;> with_reducible rfl)
              go_simp
              refine wpAnyT_done (by kernel_rfl) ?_ _
              go_simp
              clear q0 q1 e0 e1 hHeld HE3 HF3
              go_wp2_with fail
              go_ret
              exact ⟨rfl, hbX5⟩
            · obtain rfl : c2 = 6 := h6
              obtain rfl : n = -1 := HN1.out (by omega)
              go_wp2_with fail
              go_ret
              exact ⟨rfl, hbwQ⟩
end Go.Proofs.YthjafhjghjbdmaaGreat
