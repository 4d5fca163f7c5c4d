/-
  Contracts: polymorphisms counted, the reference's; whether there is but one, both sides.
  Contracts: whether there is but one polymorphism of one place, both sides.
-/
import Derived.Test.YtepebfpgmnidnaaG4
namespace Go.Proofs.Ytepebfpgmnidnaa
open Go.RowKit Go.Sort
set_option maxHeartbeats 800000 in
theorem l04Asked_any (w : World) {v : Value} {t : Tpl} (h : tplT.Pt w v t) (ar : Int) :
    Calls Try.prog 89 #[v, .int .i64 ar] w fun e w' => e = .returned (.int .i64 (askC t ar)) ∧ Quiet w w' := by
  go_enter Try.func89, Try.ntmps89
  go_wp2_with fail
  refine (l01Template_quiet _ h).mono ?_
  rintro e w1 ⟨rfl, hq1⟩
  cases h1 : tb (tplOk t)
  · have HA := Lib.hid (ask_1 (ar := ar) h1)
    clear h1
    go_wp2_with fail
    go_ret
    exact ⟨ret_int HA.out.symm, hq1⟩
  · go_wp2_with fail
    refine (l02Arity_any ar _).mono ?_
    rintro e _ ⟨rfl, rfl⟩
    cases h2 : inB ar 1 3
    · have HA := Lib.hid (ask_2 h1 h2)
      clear h1 h2
      go_wp2_with fail
      go_ret
      exact ⟨ret_int HA.out.symm, hq1⟩
    · have HA := Lib.hid (ask_0 h1 h2)
      clear h1 h2
      go_wp2_with fail
      go_ret
      exact ⟨ret_int HA.out.symm, hq1⟩
theorem fxN_lt {t : Tpl} {ar : Int} {s : Nat} (hs : 1 ≤ s) : ∀ i, (fxN t ar).getD i 0 < s := fun i => by
  unfold fxN
  rw [List.getD_eq_getElem?_getD, List.getElem?_replicate]
  by_cases h : i < tabL t ar
  · rw [if_pos h]; show (-1 : Int) < s; omega
  · rw [if_neg h]; show (0 : Int) < s; omega
/-- where the counting stands -/
def CnR (w : World) (t : Tpl) (ar : Int) (br gt : Nat) (nv : Value) (g : Nat) (wr : World) : Prop :=
  ∃ (pre : List Int) (cur : Int) (st : Nat) (bg : Bool) (L : List (List Int)), nv = .int .i64 (L.length : Int) ∧ g = 6001 - st ∧ Ru (fun k => k ≠ br ∧ k ≠ gt) wr br t ar (duesF (looksA t ar.toNat) (tabL t ar)) (fxN t ar) ∧ Mc 2 w.heap.size wr br gt (tabL t ar) (tabV (tabL t ar) pre cur) st bg ∧ preOk t.1.toNat (fxN t ar) pre ∧ curOk t.1.toNat (fxN t ar) pre.length cur ∧ pre.length < tabL t ar ∧ st ≤ 6000 ∧ L.length ≤ st ∧ (bg = false → pre.length = 0) ∧ (bg = true → pre.length + 1 = tabL t ar) ∧
    upF t.1.toNat (okF t ar) (fxN t ar) (fun _ => 0) (tabL t ar) pre.length pre cur (0, st, L) = cpR t ar ∧ Below w.heap.size w wr
set_option maxHeartbeats 6400000 in
set_option maxRecDepth 100000 in
theorem specCountPolymorphisms_any (w : World) {cs : Array Value} {t : Tpl} (h : tplT.Rd w cs.toList t) (ar : Int) :
    Calls Try.prog 29 #[.agg cs, .int .i64 ar] w fun e w' => e = .returned (.tuple #[.int .i64 (cpV t ar), .int .i64 (cpC t ar)]) ∧ Below w.heap.size w w' := by
  have p0 : tplT.Pt (w.alloc (.cells cs 37)) (.pointer (some ⟨w.heap.size, 0, none⟩)) t := pt_box h
  obtain ⟨v1, hv, -, -⟩ := pair_ex h
  obtain rfl := agg_of hv
  clear h hv
  go_enter Try.func29, Try.ntmps29
  go_wp2_with fail
  generalize hW : World.alloc _ _ = W at p0 ⊢
  have hbW : Below w.heap.size w W := hW ▸ bA
  clear hW
  refine (l04Asked_any _ p0 ar).mono ?_
  rintro e w1 ⟨rfl, hq1⟩
  have hb1 := hq1.below
  have hB1 := bthen hbW hb1
  have HP := Lib.hid (p0.below hb1)
  clear hq1 p0
  cases ha : (askC t ar != 0)
  · have ha0 : askC t ar = 0 := by simpa using ha
    have HAOK := Lib.hid (ask_ok ha0)
    have HA0 := Lib.hid ha0
    have har := (ask_ok ha0).2
    rw [ha0]
    clear ha ha0
    go_wp2_with fail
    refine (l04Begin_any _ HP.out HAOK.out.1 har).mono ?_
    rintro e w2 ⟨hb2, hcase⟩
    have hB2 := bthen hB1 hb2
    rcases hcase with ⟨hl, rfl⟩ | ⟨hl, br, gt, rfl, hbr, hgt, hne, hf4, hRu, hMc⟩
    · have HR := Lib.hid (cp_lim HA0.out hl)
      clear hl
      go_wp2_with fail
      go_ret2
      exact ⟨by rw [HR.out.1, HR.out.2]; rfl, hB2⟩
    · have HLF := Lib.hid hl
      have hs4 := HAOK.out.1.1
      unfold sizeOk at hs4
      have hNb := tabN_bd (tabN_of HAOK.out.1.1 (ar := ar.toNat) (by omega) (tabL_of HAOK.out.1))
      have HS : Hid (t.1 = (t.1.toNat : Int)) := by unfold Hid; omega
      have HLK := Lib.hid (tpl_looks HAOK.out.1 har hl)
      have HFXL : Hid ((fxN t ar).length = tabL t ar) := by simp [Hid, fxN]
      have HFS := Lib.hid (fxN_lt (t := t) (ar := ar) (s := t.1.toNat) (by omega))
      have hz2 := hB1.size
      have HNE := Lib.hid hne
      have H0 : Hid (CnR w t ar br gt (.int .i64 0) 6001 w2) := by
        refine ⟨[], -1, 0, false, [], rfl, rfl, hRu, ?_, preOk_nil, .inl rfl, by show 0 < tabL t ar; omega, by omega, Nat.le_refl _, fun _ => rfl, (fun h => by cases h), up_all (by omega), hB2⟩
        rw [← tabV_start (by omega)]
        obtain ⟨m0, m1, m2, m3⟩ := hMc
        exact ⟨m0, m1, ⟨m2.1, m2.2.1, by have := m2.2.2.1; omega, by
          obtain ⟨q1, q2⟩ := m2.2.2.2
          refine ⟨q1, ?_⟩
          rcases q2 with q2 | ⟨g', cap, cur, e1, e2, e3⟩
          · exact .inl q2
          · exact .inr ⟨g', cap, cur, e1, by omega, e3⟩⟩, m3⟩
      clear hl hRu hMc hne hf4
      go_wp2_with fail
      go_loopg [9] 6001 (fun g nv wr => CnR w t ar br gt nv g wr)
      case atStart => exact H0.out
      case round =>
        obtain ⟨pre, cur, st, bg, L, rfl, hg, hRu, hMc, hpo, hco, hpl, hst, hLl, hb0, hb1', hup, hbe⟩ := hrel
        have HUP := Lib.hid hup
        have HG := Lib.hid hg
        obtain ⟨wv, rfl⟩ : ∃ wv : World, wv = wr := ⟨_, rfl⟩
        have HHb0 := Lib.hid hb0
        have HHb1 := Lib.hid hb1'
        have HRU := Lib.hid hRu
        have HMC := Lib.hid hMc
        have HPO := Lib.hid hpo
        have HCO := Lib.hid hco
        have hwr : IntKind.i64.wrap ((L.length : Int) + 1) = (L.length : Int) + 1 := wrap_small (by omega) (by omega)
        clear hup hg hb0 hb1' hRu hMc hpo hco H0
        go_wp2_with fail
        refine (next_any wv HRU.out HMC.out (fun k hk => hk) HNE.out HAOK.out.1 HS.out (by omega) HLK.out.2.1 HLK.out.1 HLK.out.2.2 HFXL.out HFS.out HPO.out HCO.out hpl hst HHb0.out HHb1.out).mono ?_
        rintro e w3 ⟨more, bad, rfl, hRu3, htc3, hcase⟩
        have hB3 : Below w.heap.size w w3 := hbe.trans (htc3.below hbe.size (fun q hq h => by omega))
        have HRU3 := Lib.hid hRu3
        clear hRu3 htc3
        rcases hcase with ⟨rfl, rfl, st', hu⟩ | ⟨rfl, rfl, hu⟩ | ⟨rfl, rfl, pre', v, st', hpl', hpo', hco', hMc', hst1, hst2, hu⟩
        · have hE := (hu (fun _ => 0) L).symm.trans HUP.out
          have HR := Lib.hid (cp_yes HA0.out HLF.out (by rw [← hE]))
          have HLN : Hid ((cpR t ar).2.2.length = L.length) := by unfold Hid; rw [← hE]
          clear hu hE hwr
          go_wp2_with fail
          go_ret2
          exact ⟨by rw [HR.out.1, HR.out.2, HLN.out]; rfl, hB3⟩
        · have hE := (hu (fun _ => 0) L).symm.trans HUP.out
          have HR := Lib.hid (cp_no HA0.out HLF.out (by rw [← hE]; show (7 : Int) ≠ 0; decide))
          have HC7 : Hid ((cpR t ar).1 = 7) := by unfold Hid; rw [← hE]
          clear hu hE hwr
          go_wp2_with fail
          go_ret2
          exact ⟨by rw [HR.out.1, HR.out.2, HC7.out]; rfl, hB3⟩
        · have hE := (hu (fun _ => 0) L).symm.trans HUP.out
          rw [cont_yes rfl] at hE
          have HNX : Hid (CnR w t ar br gt (.int .i64 ((L.length : Int) + 1)) (6001 - st') w3) := by
            refine ⟨pre', v, st', true, L ++ [pre' ++ [(v : Int)]], by rw [List.length_append, List.length_singleton]; congr 1, rfl, HRU3.out, by rw [tabV_full hpl']; exact hMc', hpo', hco', by omega, hst2, by rw [List.length_append, List.length_singleton]; omega, (fun h => by cases h), fun _ => hpl', hE, hB3⟩
          have hgk : 6001 - st' < gk := by have := HG.out; omega
          clear hu hE hMc' hpo' hco'
          go_wp2_with fail
          clear hwr
          go_roundg (6001 - st')
          case measure => exact hgk
          case rel => exact HNX.out
  · have HR := Lib.hid (cp_ask (t := t) (ar := ar) (by simpa using ha))
    go_wp2_with fail
    go_ret2
    exact ⟨by rw [HR.out.1, HR.out.2]; rfl, hB1⟩
noncomputable def riB (t : Tpl) : Bool := cpV t 1 == 1
theorem cp_zero {t : Tpl} {ar : Int} (h : cpC t ar ≠ 0) : cpV t ar = 0 := by
  by_cases h1 : askC t ar = 0
  · cases h2 : limF t ar.toNat
    · by_cases h3 : (cpR t ar).1 = 0
      · exact absurd (cp_yes h1 h2 h3).2 h
      · exact (cp_no h1 h2 h3).1
    · exact (cp_lim h1 h2).1
  · exact (cp_ask h1).1
theorem ri_and {t : Tpl} : (cpV t 1 == 1 && cpC t 1 == 0) = riB t := by
  unfold riB
  by_cases h : cpC t 1 = 0
  · simp [h]
  · simp [cp_zero h]
set_option maxHeartbeats 800000 in
theorem IsRigid_any (w : World) {cs : Array Value} {t : Tpl} (h : tplT.Rd w cs.toList t) :
    Calls Try.prog 32 #[.agg cs] w fun e w' => e = .returned (.tuple #[.bool (riB t), .int .i64 (cpC t 1)]) ∧ Below w.heap.size w w' := by
  have HT := Lib.hid h
  obtain ⟨v1, hv, -, -⟩ := pair_ex h
  obtain rfl := agg_of hv
  clear h hv
  go_enter Try.func32, Try.ntmps32
  go_wp2_with fail
  generalize hW : World.alloc _ _ = W
  have hbW : Below w.heap.size w W := hW ▸ bA
  have t0 : W.cell? ⟨w.heap.size, 0, none⟩ = some (.int .i64 t.1) := by rw [← hW]; simp
  have t1 : W.cell? ⟨w.heap.size, 1, none⟩ = some v1 := by rw [← hW]; simp
  have hsW : w.heap.size + 1 ≤ W.heap.size := by rw [← hW]; simp
  clear hW
  refine (ValidTemplate_any _ (HT.out.below hbW)).mono ?_
  rintro e w1 ⟨rfl, hb1⟩
  have hB1 := bthen hbW hb1
  have hz1 := hb1.size
  replace t0 := (cellB hb1 (by omega)).trans t0
  replace t1 := (cellB hb1 (by omega)).trans t1
  have hl1 : w.heap.size < w1.heap.size := by omega
  cases h1 : tb (tplOk t)
  · have HR : Hid (riB t = false ∧ cpC t 1 = 1) := by
      have ha := cp_ask (t := t) (ar := 1) (by rw [ask_1 h1]; decide)
      exact ⟨by unfold riB; rw [ha.1]; rfl, by rw [ha.2, ask_1 h1]⟩
    clear h1
    go_wp2_with fail
    go_ret2
    exact ⟨by rw [HR.out.1, HR.out.2]; rfl, hB1⟩
  · clear h1
    go_wp2_with fail
    refine (CountPolymorphisms_any _ (HT.out.below hB1) 1).mono ?_
    rintro e w2 ⟨rfl, hb2⟩
    have hB2 := bthen hB1 hb2
    go_wp2_with fail
    go_ret2
    exact ⟨by unfold riB; rfl, hB2⟩
set_option maxHeartbeats 800000 in
theorem specIsRigid_any (w : World) {cs : Array Value} {t : Tpl} (h : tplT.Rd w cs.toList t) :
    Calls Try.prog 31 #[.agg cs] w fun e w' => e = .returned (.tuple #[.bool (riB t), .int .i64 (cpC t 1)]) ∧ Below w.heap.size w w' := by
  have HT := Lib.hid h
  obtain ⟨v1, hv, -, -⟩ := pair_ex h
  obtain rfl := agg_of hv
  clear h hv
  go_enter Try.func31, Try.ntmps31
  go_wp2_with fail
  generalize hW : World.alloc _ _ = W
  have hbW : Below w.heap.size w W := hW ▸ bA
  have t0 : W.cell? ⟨w.heap.size, 0, none⟩ = some (.int .i64 t.1) := by rw [← hW]; simp
  have t1 : W.cell? ⟨w.heap.size, 1, none⟩ = some v1 := by rw [← hW]; simp
  have hsW : w.heap.size + 1 ≤ W.heap.size := by rw [← hW]; simp
  clear hW
  refine (specCountPolymorphisms_any _ (HT.out.below hbW) 1).mono ?_
  rintro e w1 ⟨rfl, hb1⟩
  have hB1 := bthen hbW hb1
  have HA : Hid (cpV t 1 = 1 → (cpC t 1 == 0) = riB t) := fun h => by rw [← ri_and, h]; rfl
  have HB : Hid (¬cpV t 1 = 1 → false = riB t) := fun h => by unfold riB; rw [beq_false_of_ne h]
  go_wp2_with fail
  · rename_i h1
    go_ret2
    exact ⟨by rw [← HA.out h1]; rfl, hB1⟩
  · rename_i h1
    go_ret2
    exact ⟨by rw [← HB.out h1]; rfl, hB1⟩
theorem CountPolymorphisms_at (w : World) {cs : Array Value} {t : Tpl} (h : tplT.Rd w cs.toList t) {ar : Int} :
    Calls Try.prog 30 #[.agg cs, .int .i64 ar] w fun e w' => e = .returned (.tuple #[.int .i64 (cpV t ar), .int .i64 (cpC t ar)]) ∧ Below w.heap.size w w' := CountPolymorphisms_any w h ar
theorem specCountPolymorphisms_at (w : World) {cs : Array Value} {t : Tpl} (h : tplT.Rd w cs.toList t) {ar : Int} :
    Calls Try.prog 29 #[.agg cs, .int .i64 ar] w fun e w' => e = .returned (.tuple #[.int .i64 (cpV t ar), .int .i64 (cpC t ar)]) ∧ Below w.heap.size w w' := specCountPolymorphisms_any w h ar
end Go.Proofs.Ytepebfpgmnidnaa
