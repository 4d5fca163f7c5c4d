/-
Contracts: an operation that breaks a relation, the program's.
Contracts: tuples drawn from bytes; an operation applied; the kind of an operation, checked.
Plain: the index of the first one of a kind, of the first one with a value; one number, just made.
Plain: whether a relation is its own hull, and the operation that breaks it where it is not.
Plain: a few rows sorted by insertion, and equal neighbours dropped.
A row of rows while it is sorted: its cells, and what they read outside it.
Contracts: a few rows sorted by insertion, in place.
Contracts: slices.SortFunc on one to three rows of numbers.
Plain: what slices.CompactFunc leaves of a row, step by step.
A row of rows: from its reading to its cells, and back.
Contracts: slices.CompactFunc on rows of numbers, in place.
-/
import Derived.Test.YtajmjfbejfiipaaGreatQBC
import Derived.Test.YtajmjfbejfiipaaGreatQAJ
import Derived.Test.YtajmjfbejfiipaaGreatQBB
import Derived.Test.YtajmjfbejfiipaaGreatQAC
import Derived.Test.YtajmjfbejfiipaaGreatQAE
import Derived.Lib.SliceRun
namespace Go.Proofs.YtajmjfbejfiipaaGreat
open Go.RowKit Go.Sort
/-- the first tuple of the hull that is not in the relation -/
noncomputable def boI (t : Tpl) (r : RelV) : Option Nat := (roV t r).2.findIdx? fun v => !(tb (v ∈ r.2))
noncomputable def boC (t : Tpl) (r : RelV) : Int := match roC t r == 0, boI t r with
 | false, _ => roC t r
 | true, none => 6
 | true, some _ => 0
noncomputable def boO (t : Tpl) (r : RelV) : Int × List Int := match roC t r == 0, boI t r with
 | true, some i => (roO t r).getD i (0, [])
 | _, _ => (0, [])
noncomputable def boT (t : Tpl) (r : RelV) : List Int := match roC t r == 0, boI t r with
 | true, some i => (roV t r).2.getD i []
 | _, _ => []
section
variable {t : Tpl} {r : RelV}
theorem bo_no (h : (roC t r == 0) = false) : boC t r = roC t r ∧ boO t r = (0, []) ∧ boT t r = [] := by simp [boC, boO, boT, h]
theorem bo_none (h : roC t r = 0) (h1 : ∀ v ∈ (roV t r).2, tb (v ∈ r.2) = true) : boC t r = 6 ∧ boO t r = (0, []) ∧ boT t r = [] := by
 have h2 : boI t r = none := by
  unfold boI
  rw [List.findIdx?_eq_none_iff]
  intro v hv
  rw [h1 v hv]
  rfl
 simp [boC, boO, boT, h, h2]
theorem bo_some (h : roC t r = 0) {k : Nat} (hk : k < (roV t r).2.length) (ho : k < (roO t r).length) (h0 : ∀ v ∈ (roV t r).2.take k, tb (v ∈ r.2) = true) (h1 : tb ((roV t r).2[k] ∈ r.2) = false) : boC t r = 0 ∧ boO t r = (roO t r)[k] ∧ boT t r = (roV t r).2[k] := by
 have h2 : boI t r = some k := by
  unfold boI
  rw [List.findIdx?_eq_some_iff_getElem]
  refine ⟨hk, by rw [h1]; rfl, fun j hj => ?_⟩
  have hj' : j < ((roV t r).2.take k).length := by rw [List.length_take]; omega
  have := h0 ((roV t r).2.take k)[j] (List.getElem_mem hj')
  rw [List.getElem_take] at this
  rw [this]
  simp
 simp [boC, boO, boT, h, h2, List.getD_eq_getElem?_getD, hk, ho]
/-- what comes of a code 0 -/
theorem ro_zero (h : roC t r = 0) : tplOk t ∧ relOk t.1 r ∧ huC t r.2 = 0 ∧ limF t r.2.length = false ∧ roV t r = ((huM r.2 : Int), hulR t r.2 (hulN t r.2)) ∧ roO t r = hulO t r.2 (hulN t r.2) := by
 cases h1 : tb (tplOk t)
 ·rw [(ro_1 h1).1] at h; cases h
 cases h2 : tb (relOk t.1 r)
 ·rw [(ro_2 h1 h2).1] at h; cases h
 cases h3 : decide (3 < (r.2.length : Int))
 ·cases h4 : ((r.2.length : Int) == 0)
  ·obtain ⟨e1, e2, e3⟩ := ro_5 h1 h2 h3 h4
   rw [e1] at h
   rw [e2, e3]
   cases h5 : limF t r.2.length
   ·cases h6 : hulB t r.2 (hulN t r.2)
    ·exact ⟨tb_iff.1 h1, tb_iff.1 h2, (ro_hu h1 h2 h3 h4).1, rfl, (hl_ok h5 h6).2.1, (hl_ok h5 h6).2.2⟩
    ·rw [(hl_bad h5 h6).1] at h; cases h
   ·rw [(hl_lim h5).1] at h; cases h
  ·rw [(ro_4 h1 h2 h3 h4).1] at h; cases h
 ·rw [(ro_3 h1 h2 h3).1] at h; cases h
theorem ro_len (h : roC t r = 0) : (roO t r).length = (roV t r).2.length ∧ (roV t r).2.length ≤ 256 := by
 obtain ⟨h1, -, h3, -, h4, h5⟩ := ro_zero h
 rw [h4, h5]
 refine ⟨by simp [hulO, hulR], Nat.le_trans hulR_len (hulN_bd h1 (hu_ok h3).2.2.1).2⟩
theorem ro_at (h : roC t r = 0) {k : Nat} (hk : k < (roV t r).2.length) (ho : k < (roO t r).length) : ((roV t r).2[k]).length = huM r.2 ∧ (∀ a ∈ (roV t r).2[k], 0 ≤ a ∧ a ≤ t.1 - 1) ∧ (roO t r)[k] = phV t r.2.length (colsL r.2 (huM r.2)) (roV t r).2[k] ∧ phC t r.2.length (colsL r.2 (huM r.2)) (roV t r).2[k] = 0 ∧ ((roO t r)[k]).2.length ≤ 64 := by
 obtain ⟨h1, -, h3, h3', h4, h5⟩ := ro_zero h
 have hT := hu_ok h3
 have hs := h1.1
 unfold sizeOk at hs
 simp only [h4, h5] at hk ho ⊢
 have hJ : k < (hulJ t r.2 (hulN t r.2)).length := by simpa [hulR] using hk
 have e1 : (hulR t r.2 (hulN t r.2))[k] = hulD t r.2 ((hulJ t r.2 (hulN t r.2))[k]) := by simp [hulR]
 have e2 : (hulO t r.2 (hulN t r.2))[k] = phV t r.2.length (colsL r.2 (huM r.2)) (hulD t r.2 ((hulJ t r.2 (hulN t r.2))[k])) := by simp [hulO]
 have hm := (List.mem_filter.1 (List.getElem_mem hJ)).2
 rw [e1, e2]
 refine ⟨hulD_len, hulD_in (by omega), rfl, by simpa [hulP] using hm, ?_⟩
 unfold phV
 cases wF t r.2.length (colsL r.2 (huM r.2)) (hulD t r.2 ((hulJ t r.2 (hulN t r.2))[k])) with
 | none => exact Nat.zero_le _
 | some f =>
  have hNb := tabN_bd (tabN_of h1.1 (ar := ((r.2.length : Int)).toNat) (by omega) (tabL_of h1))
  exact Nat.le_trans fo_len hNb.2
end
set_option maxHeartbeats 1600000 in
theorem ownOp_any (w : World) {cs : Array Value} {x : Int × List Int} (h : opT.Rd w cs.toList x) (hl : x.2.length ≤ 1000000) :
  Calls Tryz.prog 88 #[.agg cs] w (RetA opT w x) := by
 obtain ⟨v1, hv1, hI, hx⟩ := pair_ex h
 obtain rfl := agg_of hv1
 obtain ⟨la, lc, rfl⟩ := rd_slice hx
 have HX := Lib.hid hx
 clear h hv1 hx
 go_enter Tryz.func88, Tryz.ntmps88
 go_wp2_with fail
 generalize hW : World.alloc (World.alloc w _) _ = W
 have hbW : Below w.heap.size w W := hW ▸ bAA
 have hsW : w.heap.size + 2 ≤ W.heap.size := by rw [← hW]; simp
 have c0 : W.cell? ⟨w.heap.size, 0, none⟩ = some (.int .i64 x.1) := by rw [← hW]; simp [go_sem]
 have c1 : W.cell? ⟨w.heap.size, 1, none⟩ = some (.slice la x.2.length lc) := by rw [← hW]; simp [go_sem]
 have r0 : W.cell? ⟨w.heap.size + 1, 0, none⟩ = some (.int .i64 0) := by rw [← hW]; simp [go_sem]
 have r1 : W.cell? ⟨w.heap.size + 1, 1, none⟩ = some (.slice none 0 0) := by rw [← hW]; simp [go_sem]
 have q0 : W.frozen? ⟨w.heap.size + 1, 0, none⟩ = false := by rw [← hW]; simp [go_sem]
 have q1 : W.frozen? ⟨w.heap.size + 1, 1, none⟩ = false := by rw [← hW]; simp [go_sem]
 clear hW
 refine wp_region_T (fun w' => w'.cell? ⟨w.heap.size, 0, none⟩ = some (.int .i64 x.1) ∧ w'.cell? ⟨w.heap.size, 1, none⟩ = some (.slice la x.2.length lc)) [6] (by kernel_rfl) ⟨c0, c1⟩ (fun hHeld => ?_)
 refine wpAnyT_take (i := 0) (v := ?_) rfl (by kernel_rfl) (fun _ _ _ h => h) (Or.inl ⟨by rfl, ?_⟩) (by assumption) ?_
 rotate_left
 ·(intro w hSw; (try dsimp only at hSw); go_simp <;> with_reducible rfl)
 go_simp
 refine wpAnyT_take (i := 1) (v := ?_) rfl (by kernel_rfl) (fun _ _ _ h => h) (Or.inl ⟨by rfl, ?_⟩) (by assumption) ?_
 rotate_left
 ·(intro w hSw; (try dsimp only at hSw); go_simp <;> with_reducible rfl)
 go_simp
 refine wpAnyT_take (i := 2) (v := ?_) rfl (by kernel_rfl) (fun _ _ _ h => h) (Or.inl ⟨by rfl, ?_⟩) (by assumption) ?_
 rotate_left
 ·(intro w hSw; (try dsimp only at hSw); go_simp <;> with_reducible rfl)
 go_simp
 refine wpAnyT_take (i := 3) (v := ?_) rfl (by kernel_rfl) (fun _ _ _ h => h) (Or.inl ⟨by rfl, ?_⟩) (by assumption) ?_
 rotate_left
 ·(intro w hSw; (try dsimp only at hSw); go_simp <;> with_reducible rfl)
 go_simp
 refine wpAnyT_one (i := 4) rfl (by kernel_rfl) (fun K hK => ?_)
 go_simp
 go_at_call 89
 refine (Clone_any _ (HX.out.below (bthen hbW bD)) hl).mono ?_
 rintro e w1 ⟨u, rfl, hf, hb1⟩
 have hb1' : Below W.heap.size W w1 := bthen (bD (w := W)) hb1
 have hB1 := bthen hbW hb1'
 obtain ⟨ua, uc, rfl⟩ := fr_slice hf
 have HF := Lib.hid hf
 have hz1 := hb1'.size
 replace c0 := (cellB hb1' (by omega)).trans c0
 replace c1 := (cellB hb1' (by omega)).trans c1
 replace r0 := (cellB hb1' (by omega)).trans r0
 replace r1 := (cellB hb1' (by omega)).trans r1
 replace q0 := (frozenB hb1' (by omega)).trans q0
 replace q1 := (frozenB hb1' (by omega)).trans q1
 clear hf
 dsimp only
 refine hK.out _ _ ⟨c0, c1⟩ (fun hHeld => ?_)
 clear hK K
 refine wpAnyT_one (i := 5) rfl (by kernel_rfl) (fun K hK => ?_)
 go_simp
 refine hK.out _ _ ⟨c0, c1⟩ (fun hHeld => ?_)
 clear hK K
 refine wpAnyT_last (i := 6) rfl (by kernel_rfl) (by kernel_rfl) (fun K hK => ?_)
 go_simp
 have z0 := res2_0 (x := .int .i64 x.1) (y := .slice ua x.2.length uc) r0
 have z1 := res2_1 (x := .int .i64 x.1) (y := .slice ua x.2.length uc) r1
 have hf2 := (HF.out.set (a := ⟨w.heap.size + 1, 0, none⟩) (u := .int .i64 x.1) (show w.heap.size + 1 < W.drew.heap.size by simp; omega)).set (a := ⟨w.heap.size + 1, 1, none⟩) (u := .slice ua x.2.length uc) (show w.heap.size + 1 < W.drew.heap.size by simp; omega)
 have HF2 := Lib.hid (hf2.mono (show w.heap.size ≤ _ by simp; omega))
 have hbz := res2_b (x := .int .i64 x.1) (y := .slice ua x.2.length uc) hB1 (show w.heap.size ≤ w.heap.size + 1 by omega)
 generalize (w1.setCell ⟨w.heap.size + 1, 0, none⟩ (.int .i64 x.1)).setCell ⟨w.heap.size + 1, 1, none⟩ (.slice ua x.2.length uc) = wz at *
 clear hf2
 refine hK.out _ _ ?_
 clear hK K
 refine wpAnyT_done (by kernel_rfl) ?_ _
 go_simp
 go_wp2_with fail
 exact bodyPost_ret (v := .agg #[.int .i64 x.1, .slice ua x.2.length uc]) (by simp [results, Tryz.results88, go_sem, z0, z1]) rfl ⟨_, rfl, fr_cons hI HF2.out, hbz⟩
end Go.Proofs.YtajmjfbejfiipaaGreat
namespace Go.Proofs.YtajmjfbejfiipaaGreat
open Go.RowKit Go.Sort
set_option maxHeartbeats 3200000 in
set_option maxRecDepth 100000 in
theorem A2Tuples_any (w : World) {v : Value} {code : List Int} (h : bytesT.Rd w [v] code) {s : Int} {ar cnt : Nat} (hs : 1 ≤ s ∧ s ≤ 4) (har : 1 ≤ ar ∧ ar ≤ 3) (hcn : cnt ≤ 3) :
  Calls Tryz.prog 9 #[v, .int .i64 s, .int .i64 ar, .int .i64 cnt] w fun e w' => ∃ u ts, e = .returned u ∧ rowsT.Fr w.heap.size w' [u] ts ∧ ts.length = cnt ∧ (∀ l ∈ ts, l.length = ar ∧ inS s l) ∧ Below w.heap.size w w' := by
 obtain ⟨ad, cap, rfl⟩ := rd_slice h
 have H := Lib.hid h
 clear h
 go_enter Tryz.func9, Tryz.ntmps9
 go_wp2_with fail
 refine (l00From_any w H.out).mono ?_
 rintro e w1 ⟨rfl, hs1, hb1⟩
 have HS := Lib.hid hs1
 have hsl := hs1.lt
 have hz1 := hb1.size
 clear hs1
 go_wp2_with fail
 go_loopw [11, 10] (fun i g wr => ∃ (k : Nat) (ts : List (List Int)), k ≤ cnt ∧ i = .int .i64 k ∧ ts.length = k ∧ (∀ l ∈ ts, l.length = ar ∧ inS s l) ∧ Bl intsT 38 w1.heap.size wr.heap.size wr g ts ∧ SrcR w.heap.size w.heap.size (4 * k) wr ∧ TchP (fun q => q = w.heap.size) w1 wr) (fun i _ _ => cnt - (intOf i).toNat)
 case atStart => exact ⟨0, [], Nat.zero_le _, rfl, rfl, by simp, by simpa using Bl.lit0 (E := intsT) (e := 38) (w := w1) (Nat.le_refl _), HS.out.below bA, TchP.of_below bA _⟩
 case round =>
  obtain ⟨k, ts, hk, rfl, htl, hts, hBl, hsr, htc⟩ := hrel
  obtain ⟨wv, rfl⟩ : ∃ wv : World, wv = wr := ⟨_, rfl⟩
  have HB := Lib.hid hBl
  have HSR := Lib.hid hsr
  have HTC := Lib.hid htc
  have HTS := Lib.hid hts
  have HTL := Lib.hid htl
  have hzv := htc.size
  obtain ⟨ga, gn, gc, rfl⟩ := ex_slice (hBl.fr (by rw [htl]; unfold capMax; omega))
  clear hBl hsr htc hts htl
  by_cases hkl : k < cnt
  ·go_wp2_with fail
   go_loopw [13, 12] (fun i g wq => ∃ (p : Nat) (xs : List Int), p ≤ ar ∧ i = .int .i64 p ∧ xs.length = p ∧ inS s xs ∧ Bl Ty.int 2 wv.heap.size wq.heap.size wq g xs ∧ SrcR w.heap.size w.heap.size (4 * k + p) wq ∧ TchP (fun q => q = w.heap.size) wv wq) (fun i _ _ => ar - (intOf i).toNat)
   case atStart => exact ⟨0, [], Nat.zero_le _, rfl, rfl, inS_nil, by simpa using Bl.lit0 (E := Ty.int) (e := 2) (w := wv) (Nat.le_refl _), (HSR.out.below bA).mono (by omega), TchP.of_below bA _⟩
   case round =>
    obtain ⟨p, xs, hp, rfl, hxl, hxs, hBx, hsx, htx⟩ := hrel
    obtain ⟨wq, rfl⟩ : ∃ wq : World, wq = wr := ⟨_, rfl⟩
    have HBX := Lib.hid hBx
    have HSX := Lib.hid hsx
    have HTX := Lib.hid htx
    have HXS := Lib.hid hxs
    have HXL := Lib.hid hxl
    have hzq := htx.size
    obtain ⟨xa, xn, xc, rfl⟩ := ex_slice (hBx.fr (by rw [hxl]; unfold capMax; omega))
    clear hBx hsx htx hxs hxl
    by_cases hpl : p < ar
    ·go_wp2_with fail
     refine (pick_any wq HSX.out (by omega) (by omega) ⟨hs.1, by omega⟩).mono ?_
     rintro e w3 ⟨x, rfl, hx0, hx1, hs3, ht3⟩
     have hz3 := ht3.size
     have HB3 : Hid (Bl Ty.int 2 wv.heap.size w3.heap.size w3 (.slice xa xn xc) xs) := (HBX.out.sameB (fun q h1 h2 => ht3.block q h2 (by omega))).mono ht3.size
     have HS3 := Lib.hid hs3
     have HT3 : Hid (TchP (fun q => q = w.heap.size) wv w3) := HTX.out.then ht3 (fun _ _ h => h)
     have hIx : I64 x := i64_in hs ⟨hx0, hx1⟩
     have HXN : Hid (inS s (xs ++ [x])) := inS_push HXS.out ⟨hx0, hx1⟩
     have hzv3 : wv.heap.size ≤ w3.heap.size := by omega
     clear hs3 ht3 HBX
     go_wp2_with (at_builtin; go_loud (refine wpList_push (E := Ty.int) _ rfl _ _ 38 2 rfl elInt rfl (HB3.out.below (bA (w := w3)) (Nat.le_refl _)) rfl news1 (fr_int hIx) (by rw [HXL.out]; omega) (by decide) hzv3 (by first | (simp; done) | (simp; omega)) ?_; intro v5 w5 hB5 hg5 hown))
     have hge : ∀ q, (Value.slice xa xn xc).ownBlock = some q → wv.heap.size ≤ q := fun q hq => HB3.out.ge hq
     have ht5 : TchP (fun q => (Value.slice xa xn xc).ownBlock = some q) w3 w5 := (TchP.of_below (bA (w := w3)) _).then (TchP.grown hg5 (fun q h => h)) (fun q _ h => h)
     have HS5 : Hid (SrcR w.heap.size w.heap.size (4 * k + (p + 1 : Nat)) w5) := (HS3.out.mono (by omega)).tch ht5 (fun h => by have := hge _ h; omega) (fun q hq h => by have := hge _ h; omega)
     have HT5 : Hid (TchP (fun q => q = w.heap.size) wv w5) := HT3.out.then ht5 (fun q hq h => by have := hge q h; omega)
     have HB5 := Lib.hid hB5
     clear hB5 hg5 hown hge ht5
     go_wp2_with fail
     go_roundw
     case rel => exact ⟨p + 1, xs ++ [x], by omega, by go_num, by rw [List.length_append, HXL.out]; rfl, HXN.out, HB5.out, HS5.out, HT5.out⟩
     case measure => simp [intOf]; omega
    ·obtain rfl : p = ar := by omega
     have HBO : Hid (Bl intsT 38 w1.heap.size wv.heap.size wq (.slice ga gn gc) ts) := HB.out.sameB (fun q h1 h2 => HTX.out.block q h2 (by omega))
     have HFX := Lib.hid (HBX.out.fr (by rw [HXL.out]; unfold capMax; omega))
     clear HB HBX
     go_wp2_with (at_builtin; go_loud (refine wpList_push (E := intsT) (top := wv.heap.size) _ rfl _ _ 29 38 rfl elInt64SS rfl (HBO.out.below ((Below.refl wv.heap.size wq).alloc (by omega) _) (Nat.le_refl _)) rfl news1 (HFX.out.below bA) (by rw [HTL.out]; omega) (by decide) hzv (by first | (simp; done) | (simp; omega)) ?_; intro v5 w5 hB5 hg5 hown))
     have hge : ∀ q, (Value.slice ga gn gc).ownBlock = some q → w1.heap.size ≤ q := fun q hq => HBO.out.ge hq
     have ht5 : TchP (fun q => (Value.slice ga gn gc).ownBlock = some q) wq w5 := (TchP.of_below (bA (w := wq)) _).then (TchP.grown hg5 (fun q h => h)) (fun q _ h => h)
     have HS5 : Hid (SrcR w.heap.size w.heap.size (4 * (k + 1 : Nat)) w5) := (HSX.out.mono (by omega)).tch ht5 (fun h => by have := hge _ h; omega) (fun q hq h => by have := hge _ h; omega)
     have HT5 : Hid (TchP (fun q => q = w.heap.size) w1 w5) := (HTC.out.then HTX.out (fun _ _ h => h)).then ht5 (fun q hq h => by have := hge q h; omega)
     have HB5 := Lib.hid hB5
     clear hB5 hg5 hown hge ht5
     go_wp2_with fail
     go_roundw
     case rel => exact ⟨k + 1, ts ++ [xs], by omega, by go_num, by rw [List.length_append, HTL.out]; rfl, fun l hl => (List.mem_append.1 hl).elim (HTS.out l) (fun h => by rw [List.mem_singleton.1 h]; exact ⟨HXL.out, HXS.out⟩), HB5.out, HS5.out, HT5.out⟩
     case measure => simp [intOf]; omega
  ·obtain rfl : k = cnt := by omega
   go_wp2_with fail
   go_ret
   exact ⟨_, ts, rfl, (HB.out.fr (by rw [HTL.out]; unfold capMax; omega)).mono (by omega), HTL.out, HTS.out, hb1.trans (HTC.out.below (by omega) (fun q hq h => by omega))⟩
end Go.Proofs.YtajmjfbejfiipaaGreat
namespace Go.Proofs.YtajmjfbejfiipaaGreat
open Go.RowKit Go.Sort
theorem FstR.ix {α : Type} {p : α → Bool} {K : List α} {hit : α → Prop} {miss : Prop} (h : FstR p K (fun _ x => hit x) miss) :
  ∃ I, I ≤ K.length ∧ (∀ j (h : j < K.length), j < I → p K[j] = false) ∧ (∀ h : I < K.length, p K[I] = true) ∧ (∀ h : I < K.length, hit K[I]) ∧ (I = K.length → miss) := by
 rcases h.idx with ⟨i, hi, h1, h2, h3⟩ | ⟨h1, h2⟩
 ·exact ⟨i, by omega, fun j _ hj => h2 j hj, fun _ => h1, fun _ => h3, fun e => by omega⟩
 ·exact ⟨K.length, Nat.le_refl _, fun j hj _ => h1 j hj, fun h => absurd h (Nat.lt_irrefl _), fun h => absurd h (Nat.lt_irrefl _), fun _ => h2⟩
theorem first_ix {α : Type} (p : α → Bool) (K : List α) : ∃ I, I ≤ K.length ∧ (∀ j (h : j < K.length), j < I → p K[j] = false) ∧ (∀ h : I < K.length, p K[I] = true) := by
 have h : FstR p K (fun _ _ => True) True := by
  induction K with
  | nil => exact .inr ⟨by simp, trivial⟩
  | cons a K ih =>
   cases hp : p a
   ·exact FstR.pre (A := [a]) (by simpa using hp) ih (fun _ _ h => h) (fun h => h)
   ·exact .inl ⟨[], a, K, rfl, by simp, hp, trivial⟩
 obtain ⟨I, h1, h2, h3, -, -⟩ := h.ix
 exact ⟨I, h1, h2, h3⟩
section
variable {t : Tpl} {ar : Int}
end
theorem pair_mk2' {w : World} {n : Int} {v : Value} {f : Int × List Int} (h1 : n = f.1) (h2 : I64 n) (h3 : intsT.Rd w [v] f.2) : opT.Rd w [.int .i64 n, v] f := by
 subst h1
 exact pair_mk h2 h3
end Go.Proofs.YtajmjfbejfiipaaGreat
namespace Go.Proofs.YtajmjfbejfiipaaGreat
open Go.RowKit Go.Sort
theorem ltL_irrefl {x : List Int} : ¬ ltL x x := by unfold ltL; rw [cmpL_self]; omega
theorem pw_ext : ∀ {xs ys : List (List Int)}, xs.Pairwise ltL → ys.Pairwise ltL → (∀ a, a ∈ xs ↔ a ∈ ys) → xs = ys
 | [], [], _, _, _ => rfl
 | [], y :: ys, _, _, h => absurd ((h y).2 (List.mem_cons_self ..)) (by simp)
 | x :: xs, [], _, _, h => absurd ((h x).1 (List.mem_cons_self ..)) (by simp)
 | x :: xs, y :: ys, hx, hy, h => by
  obtain ⟨x1, x2⟩ := List.pairwise_cons.1 hx
  obtain ⟨y1, y2⟩ := List.pairwise_cons.1 hy
  have e : x = y := by
   rcases List.mem_cons.1 ((h x).1 (List.mem_cons_self ..)) with e | e
   ·exact e
   ·rcases List.mem_cons.1 ((h y).2 (List.mem_cons_self ..)) with e' | e'
    ·exact e'.symm
    ·exact absurd (ltL_trans (y1 x e) (x1 y e')) ltL_irrefl
  subst e
  rw [pw_ext x2 y2 fun a => ⟨fun ha => ?_, fun ha => ?_⟩]
  ·rcases List.mem_cons.1 ((h a).1 (List.mem_cons_of_mem _ ha)) with e | e
   ·subst e; exact absurd (x1 _ ha) ltL_irrefl
   ·exact e
  ·rcases List.mem_cons.1 ((h a).2 (List.mem_cons_of_mem _ ha)) with e | e
   ·subst e; exact absurd (y1 _ ha) ltL_irrefl
   ·exact e
theorem sortedL_pw {xs : List (List Int)} (h : sortedL xs) : xs.Pairwise ltL := List.pairwise_iff_getElem.2 fun _ _ _ hj hij => sortedL_lt h hj hij
theorem rel_ext {s : Int} {r q : Int × List (List Int)} (hr : relOk s r) (hq : relOk s q) (h1 : r.1 = q.1) (h : ∀ a, a ∈ r.2 ↔ a ∈ q.2) : r = q :=
 Prod.ext h1 (pw_ext (sortedL_pw (relOk_sorted hr)) (sortedL_pw (relOk_sorted hq)) h)
section
variable {t : Tpl} {r : RelV}
theorem ro_hof (hT : tplOk t) (hr : relOk t.1 r) (h0 : 0 < r.2.length) (h3 : r.2.length ≤ 3) : huC t r.2 = 0 ∧ (huM r.2 : Int) = r.1 ∧ roC t r = hofC t r.2 ∧ roV t r = hofV t r.2 ∧ roO t r = hlO t r.2 := by
 have e1 : decide (3 < (r.2.length : Int)) = false := by simp; omega
 have e2 : ((r.2.length : Int) == 0) = false := by simp; intro e; rw [e] at h0; exact absurd h0 (Nat.lt_irrefl _)
 obtain ⟨g1, g2⟩ := ro_hu (tb_true hT) (tb_true hr) e1 e2
 obtain ⟨g3, g4, g5⟩ := ro_5 (tb_true hT) (tb_true hr) e1 e2
 obtain ⟨g6, g7⟩ := hof_yes g1
 exact ⟨g1, g2, by rw [g3, g7], by rw [g4, g6], g5⟩
theorem break_facts (hT : tplOk t) (hr : relOk t.1 r) (h0 : 0 < r.2.length) (h3 : r.2.length ≤ 3) :
  (roC t r = 3 ∨ roC t r = 7) ∨ (roC t r = 0 ∧ ((idB t r = true ∧ boC t r = 6) ∨ (idB t r = false ∧ boC t r = 0 ∧ ∃ x, boO t r = ((r.2.length : Int), x) ∧ polyT t (r.2.length : Int) x ∧ madeL t.1 x r.2 (huM r.2) = boT t r ∧ boT t r ∉ r.2))) := by
 obtain ⟨g1, g2, g3, g4, g5⟩ := ro_hof hT hr h0 h3
 rcases hof_code g1 with hc | hc | hc
 rotate_left
 ·exact .inl (.inl (g3.trans hc))
 ·exact .inl (.inr (g3.trans hc))
 have hz := g3.trans hc
 refine .inr ⟨hz, ?_⟩
 have hzb : (roC t r == 0) = true := by rw [hz]; rfl
 rw [id_yes hzb]
 by_cases hall : ∀ v ∈ (roV t r).2, tb (v ∈ r.2) = true
 ·refine .inl ⟨eqB_true ?_, (bo_none hz hall).1⟩
  rw [g4] at hall ⊢
  exact rel_ext (hof_ok hc) hr ((hof_dim hc).trans g2) fun a => ⟨fun ha => tb_iff.1 (hall a ha), fun ha => hof_own hc ha⟩
 ·obtain ⟨k, hk, hlo, hhi, hn⟩ : ∃ k, ∃ hk : k < (roV t r).2.length, (∀ v ∈ (roV t r).2.take k, tb (v ∈ r.2) = true) ∧ tb ((roV t r).2[k] ∈ r.2) = false ∧ True := by
   obtain ⟨I, h1, h2, h3⟩ := first_ix (fun v => !(tb (v ∈ r.2))) (roV t r).2
   rcases Nat.lt_or_ge I (roV t r).2.length with hI | hI
   ·refine ⟨I, hI, fun v hv => ?_, by simpa using h3 hI, trivial⟩
    obtain ⟨j, hj, rfl⟩ := List.mem_iff_getElem.1 hv
    rw [List.getElem_take]
    have hj' : j < I := by simp at hj; omega
    simpa using h2 j (by omega) hj'
   ·refine absurd (fun v hv => ?_) hall
    obtain ⟨j, hj, rfl⟩ := List.mem_iff_getElem.1 hv
    simpa using h2 j hj (by omega)
  have ho : k < (roO t r).length := by rw [(ro_len hz).1]; exact hk
  obtain ⟨b1, b2, b3⟩ := bo_some hz hk ho hlo hhi
  have hni : (roV t r).2[k] ∉ r.2 := fun h => by rw [tb_true h] at hhi; cases hhi
  refine .inr ⟨eqB_false fun e => hni ?_, b1, ?_⟩
  ·have := List.getElem_mem hk
   generalize (roV t r).2[k] = v at *
   rw [e] at this
   exact this
  ·obtain ⟨-, -, q3, -, -⟩ := ro_at hz hk ho
   obtain ⟨-, -, -, hV⟩ := hof_no7 hc
   have hm := List.getElem_mem hk
   rw [b2, b3, q3]
   generalize (roV t r).2[k] = v at *
   rw [g4, hV] at hm
   obtain ⟨j, hj, rfl⟩ := List.mem_map.1 hm
   rcases hul_at hc (hulJ_lt hj) with ⟨x, y1, -, y3, y4⟩ | ⟨y1, -⟩
   ·exact ⟨x, y1, y3, y4, hni⟩
   ·have := (List.mem_filter.1 hj).2
    rw [y1] at this
    cases this
end
end Go.Proofs.YtajmjfbejfiipaaGreat
namespace Go.Proofs.YtajmjfbejfiipaaGreat
open Go.RowKit Go.Sort
/-- a row as it stands in memory, and what it reads -/
abbrev PV := Value × List Int
theorem cmpL_total : ∀ {a b : List Int}, ¬ cmpL a b < 0 → a = b ∨ ltL b a
 | [], [], _ => .inl rfl
 | [], _ :: _, h => by simp [cmpL] at h
 | _ :: _, [], _ => .inr (by simp [ltL, cmpL])
 | x :: a, y :: b, h => by
  unfold ltL
  simp only [cmpL] at h ⊢
  by_cases e : x = y
  ·subst e
   simp only [if_true] at h ⊢
   rcases cmpL_total h with h1 | h1
   ·exact .inl (by rw [h1])
   ·exact .inr h1
  ·rw [if_neg e, cmpI_neg] at h
   rw [if_neg (fun e' => e e'.symm), cmpI_neg]
   exact .inr (by omega)
def leP (a b : PV) : Prop := a.2 = b.2 ∨ ltL a.2 b.2
theorem leP_of {a b : PV} (h : ¬ cmpL b.2 a.2 < 0) : leP a b := (cmpL_total h).elim (fun e => .inl e.symm) .inr
theorem leP_trans {a b c : PV} (h : leP a b) (h' : leP b c) : leP a c := by
 rcases h with h | h
 ·rcases h' with h' | h'
  ·exact .inl (h.trans h')
  ·exact .inr (by rw [h]; exact h')
 ·rcases h' with h' | h'
  ·exact .inr (by rw [← h']; exact h)
  ·exact .inr (ltL_trans h h')
def swP (L : List PV) (j : Nat) : List PV := (L.set (j + 1) (L.getD j (undef, []))).set j (L.getD (j + 1) (undef, []))
/-- a row moved down to its place -/
def insDown (L : List PV) : Nat → List PV
 | 0 => L
 | j + 1 => match decide (cmpL (L.getD (j + 1) (undef, [])).2 (L.getD j (undef, [])).2 < 0) with
  | true => insDown (swP L j) j
  | false => L
/-- the next m rows -/
def insRest : Nat → List PV → Nat → List PV
 | 0, L, _ => L
 | m + 1, L, k => insRest m (insDown L k) (k + 1)
theorem insRest_3 : ∀ {L : List PV}, L.length ≤ 3 → (insRest (L.length - 1) L 1).Perm L ∧ (insRest (L.length - 1) L 1).Pairwise leP
 | [], _ => ⟨List.Perm.refl _, List.Pairwise.nil⟩
 | [a], _ => ⟨List.Perm.refl _, List.pairwise_singleton _ _⟩
 | [a, b], _ => by
  by_cases h : cmpL b.2 a.2 < 0
  ·have e : insRest ([a, b].length - 1) [a, b] 1 = [b, a] := by simp [insRest, insDown, swP, h]
   rw [e]
   exact ⟨List.Perm.swap _ _ _, by simpa using (show leP b a from .inr h)⟩
  ·have e : insRest ([a, b].length - 1) [a, b] 1 = [a, b] := by simp [insRest, insDown, h]
   rw [e]
   exact ⟨List.Perm.refl _, by simpa using leP_of h⟩
 | [a, b, c], _ => by
  by_cases h : cmpL b.2 a.2 < 0
  ·have hba : leP b a := .inr h
   by_cases h2 : cmpL c.2 a.2 < 0
   ·have hca : leP c a := .inr h2
    by_cases h3 : cmpL c.2 b.2 < 0
    ·have e : insRest ([a, b, c].length - 1) [a, b, c] 1 = [c, b, a] := by simp [insRest, insDown, swP, h, h2, h3]
     rw [e]
     exact ⟨(List.reverse_perm [a, b, c] : [c, b, a].Perm [a, b, c]), by simp; exact ⟨⟨.inr h3, hca⟩, hba⟩⟩
    ·have e : insRest ([a, b, c].length - 1) [a, b, c] 1 = [b, c, a] := by simp [insRest, insDown, swP, h, h2, h3]
     rw [e]
     exact ⟨(List.perm_append_comm : ([b, c] ++ [a]).Perm ([a] ++ [b, c])), by simp; exact ⟨⟨leP_of h3, hba⟩, hca⟩⟩
   ·have e : insRest ([a, b, c].length - 1) [a, b, c] 1 = [b, a, c] := by simp [insRest, insDown, swP, h, h2]
    rw [e]
    exact ⟨List.Perm.swap _ _ _, by simp; exact ⟨⟨hba, leP_trans hba (leP_of h2)⟩, leP_of h2⟩⟩
  ·have hab : leP a b := leP_of h
   by_cases h2 : cmpL c.2 b.2 < 0
   ·have hcb : leP c b := .inr h2
    by_cases h3 : cmpL c.2 a.2 < 0
    ·have e : insRest ([a, b, c].length - 1) [a, b, c] 1 = [c, a, b] := by simp [insRest, insDown, swP, h, h2, h3]
     rw [e]
     exact ⟨(List.perm_append_comm : ([c] ++ [a, b]).Perm ([a, b] ++ [c])), by simp; exact ⟨⟨.inr h3, hcb⟩, hab⟩⟩
    ·have e : insRest ([a, b, c].length - 1) [a, b, c] 1 = [a, c, b] := by simp [insRest, insDown, swP, h, h2, h3]
     rw [e]
     exact ⟨List.Perm.cons a (List.Perm.swap _ _ _), by simp; exact ⟨⟨leP_of h3, hab⟩, hcb⟩⟩
   ·have e : insRest ([a, b, c].length - 1) [a, b, c] 1 = [a, b, c] := by simp [insRest, insDown, h, h2]
    rw [e]
    exact ⟨List.Perm.refl _, by simp; exact ⟨⟨hab, leP_trans hab (leP_of h2)⟩, leP_of h2⟩⟩
/-- equal neighbours dropped -/
def ddL : List PV → List PV
 | [] => []
 | [a] => [a]
 | a :: b :: l => if a.2 = b.2 then ddL (a :: l) else a :: ddL (b :: l)
theorem dd_mem : ∀ {L : List PV} {x : List Int}, x ∈ (ddL L).map (·.2) ↔ x ∈ L.map (·.2)
 | [], x => by simp [ddL]
 | [a], x => by simp [ddL]
 | a :: b :: l, x => by
  unfold ddL
  split
  ·rename_i h
   rw [dd_mem]
   simp only [List.map_cons, List.mem_cons]
   rw [← h]
   simp
  ·rw [List.map_cons, List.mem_cons, dd_mem, List.map_cons (a := a), List.mem_cons]
termination_by L => L.length
theorem dd_pw : ∀ {L : List PV}, L.Pairwise leP → ((ddL L).map (·.2)).Pairwise ltL
 | [], _ => by simp [ddL]
 | [a], _ => by simp [ddL]
 | a :: b :: l, h => by
  obtain ⟨h1, h2⟩ := List.pairwise_cons.1 h
  obtain ⟨h3, h4⟩ := List.pairwise_cons.1 h2
  unfold ddL
  split
  ·exact dd_pw (List.pairwise_cons.2 ⟨fun y hy => h1 y (List.mem_cons_of_mem _ hy), h4⟩)
  ·rename_i hne
   rw [List.map_cons, List.pairwise_cons]
   refine ⟨fun y hy => ?_, dd_pw h2⟩
   have hab : ltL a.2 b.2 := (h1 b (List.mem_cons_self ..)).elim (fun e => absurd e hne) id
   rw [dd_mem] at hy
   obtain ⟨z, hz, rfl⟩ := List.mem_map.1 hy
   rcases List.mem_cons.1 hz with rfl | hz
   ·exact hab
   ·rcases h3 z hz with e | e
    ·rw [← e]; exact hab
    ·exact ltL_trans hab e
termination_by L => L.length
end Go.Proofs.YtajmjfbejfiipaaGreat
namespace Go.Proofs.YtajmjfbejfiipaaGreat
open Go.RowKit Go.Sort
/-- block b holds the values of L from place o on; what they read lies elsewhere -/
def SR (w : World) (b o : Nat) (L : List PV) : Prop := b < w.heap.size ∧ (∀ i, w.frozen? ⟨b, i, none⟩ = false) ∧ ∀ i (h : i < L.length), w.cell? ⟨b, o + i, none⟩ = some (L[i]).1 ∧ intsT.RdP (fun q => q ≠ b) w [(L[i]).1] (L[i]).2
theorem SR.below {w w' : World} {b o : Nat} {L : List PV} (h : SR w b o L) (hb : Below w.heap.size w w') : SR w' b o L :=
 ⟨Nat.lt_of_lt_of_le h.1 hb.size, fun i => (frozenB hb h.1).trans (h.2.1 i), fun i hi => ⟨(cellB hb h.1).trans (h.2.2 i hi).1, (h.2.2 i hi).2.below hb⟩⟩
theorem tchP_cell {w : World} {b i : Nat} {v : Value} : TchP (fun q => q = b) w (w.setCell ⟨b, i, none⟩ v) :=
 ⟨rfl, rfl, rfl, Nat.le_of_eq (size_set ..).symm, fun _ _ hn => Below.heap_setCell _ _ _ _ (fun e => hn e)⟩
theorem SR.set {w : World} {b o : Nat} {L : List PV} (h : SR w b o L) {j : Nat} (hj : j < L.length) {x : PV} (hx : intsT.RdP (fun q => q ≠ b) w [x.1] x.2) : SR (w.setCell ⟨b, o + j, none⟩ x.1) b o (L.set j x) := by
 have hr : ∀ (y : PV), intsT.RdP (fun q => q ≠ b) w [y.1] y.2 → intsT.RdP (fun q => q ≠ b) (w.setCell ⟨b, o + j, none⟩ x.1) [y.1] y.2 := fun y hy => hy.tchP tchP_cell fun k _ hk e => hk e
 refine ⟨by rw [size_set]; exact h.1, fun i => (World.frozen?_setCell _ _ _ _).trans (h.2.1 i), fun i hi => ?_⟩
 have hi' : i < L.length := by simpa using hi
 rw [List.getElem_set]
 by_cases e : j = i
 ·subst e
  simp only [if_true]
  exact ⟨World.cell?_setCell_same _ _ _ (h.2.2 j hj).1, hr x hx⟩
 ·simp only [if_neg e]
  exact ⟨(World.cell?_setCell_other _ _ _ _ (by simp)).trans (h.2.2 i hi').1, hr _ (h.2.2 i hi').2⟩
theorem SR.swap {w : World} {b o j : Nat} {L : List PV} (h : SR w b o L) (hj : j + 1 < L.length) : SR ((w.setCell ⟨b, o + (j + 1), none⟩ (L[j]'(by omega)).1).setCell ⟨b, o + j, none⟩ (L[j + 1]).1) b o (swP L j) := by
 have hj0 : j < L.length := by omega
 have h1 := h.set (j := j + 1) hj (x := L[j]) (h.2.2 j hj0).2
 have h2 := h1.set (j := j) (by simpa using hj0) (x := L[j + 1]) ((h.2.2 (j + 1) hj).2.tchP tchP_cell fun k _ hk e => hk e)
 have e : swP L j = (L.set (j + 1) L[j]).set j L[j + 1] := by
  unfold swP
  simp [List.getD_eq_getElem?_getD, hj0, hj]
 rw [e]
 exact h2
end Go.Proofs.YtajmjfbejfiipaaGreat
namespace Go.Proofs.YtajmjfbejfiipaaGreat
open Go.RowKit Go.Sort
theorem makeRel1_any (w : World) {v u : Value} {xs ys : List Int} (h : intsT.Rd w [v] xs) (h' : intsT.Rd w [u] ys) :
  Calls Tryz.prog 164 #[v, u] w fun e w' => e = .returned (.int .i64 (cmpL xs ys)) ∧ w = w' := by
 have H := Lib.hid h
 have H' := Lib.hid h'
 clear h h'
 go_enter Tryz.func164, Tryz.ntmps164
 go_wp2_with fail
 refine (Compare_any w H.out H'.out).mono ?_
 rintro e _ ⟨rfl, rfl⟩
 go_wp2_with fail
 go_ret
 exact ⟨rfl, rfl⟩
theorem insDown_yes {L : List PV} {j : Nat} (h : decide (cmpL (L.getD (j + 1) (undef, [])).2 (L.getD j (undef, [])).2 < 0) = true) : insDown L (j + 1) = insDown (swP L j) j := by simp only [insDown, h]
theorem insDown_no {L : List PV} {j : Nat} (h : decide (cmpL (L.getD (j + 1) (undef, [])).2 (L.getD j (undef, [])).2 < 0) = false) : insDown L (j + 1) = L := by simp only [insDown, h]
theorem swP_len {L : List PV} {j : Nat} : (swP L j).length = L.length := by simp [swP]
set_option maxHeartbeats 3200000 in
set_option maxRecDepth 100000 in
theorem insertionRows_any (w : World) {b o n c : Nat} {L0 : List PV} (hL : L0.length = n) (h : SR w b o L0) (hn : 1 ≤ n ∧ n ≤ 12) :
  Calls Tryz.prog 239 #[.slice (some ⟨b, o, none⟩) n c, .int .i64 0, .int .i64 n, .func (.func 164) #[] #[]] w fun e w' => e = .returned (.tuple #[]) ∧ SR w' b o (insRest (n - 1) L0 1) ∧ TchP (fun q => q = b) w w' := by
 have H := Lib.hid h
 have HL := Lib.hid hL
 clear h hL
 go_enter Tryz.func239, Tryz.ntmps239
 go_wp2_with fail
 go_loopw [8] (fun i wr => ∃ (k : Nat) (L : List PV), 1 ≤ k ∧ k ≤ n ∧ i = .int .i64 k ∧ L.length = n ∧ insRest (n - k) L k = insRest (n - 1) L0 1 ∧ SR wr b o L ∧ TchP (fun q => q = b) w wr) (fun i _ => n - (intOf i).toNat)
 case atStart => exact ⟨1, L0, Nat.le_refl _, hn.1, by first | rfl | go_num, HL.out, rfl, H.out, TchP.refl _ _⟩
 case round =>
  obtain ⟨k, L, hk1, hk, rfl, hLl, hR, hS, hT⟩ := hrel
  obtain ⟨wv, rfl⟩ : ∃ wv : World, wv = wr := ⟨_, rfl⟩
  have HLL := Lib.hid hLl
  have HR := Lib.hid hR
  have HS := Lib.hid hS
  have HT := Lib.hid hT
  clear hLl hR hS hT
  by_cases hkn : k < n
  ·go_wp2_with fail
   go_loopw [9] (fun i wr => ∃ (j : Nat) (M : List PV), j ≤ k ∧ i = .int .i64 j ∧ M.length = n ∧ insDown M j = insDown L k ∧ SR wr b o M ∧ TchP (fun q => q = b) w wr) (fun i _ => (intOf i).toNat)
   case atStart => exact ⟨k, L, Nat.le_refl _, rfl, HLL.out, rfl, HS.out, HT.out⟩
   case round =>
    obtain ⟨j, M, hj, rfl, hMl, hI, hSM, hTM⟩ := hrel
    obtain ⟨wq, rfl⟩ : ∃ wq : World, wq = wr := ⟨_, rfl⟩
    have HMl := Lib.hid hMl
    have HI := Lib.hid hI
    have HSM := Lib.hid hSM
    have HTM := Lib.hid hTM
    clear hMl hI hSM hTM
    by_cases hj0 : j = 0
    ·subst hj0
     have hd : decide ((0 : Int) < (((0 : Nat) : Nat) : Int)) = false := by simp
     go_wp2_with fail
     refine wp_region_T (fun _ => True) [] (by kernel_rfl) trivial (fun hHeld => ?_)
     refine wpAnyT_take (i := 0) (v := ?_) rfl (by kernel_rfl) (fun _ _ _ h => h) (Or.inl ⟨by rfl, ?_⟩) (by assumption) ?_
     rotate_left
     ·(intro w hSw; (try dsimp only at hSw); go_simp <;> with_reducible rfl)
     go_simp
     refine wpAnyT_take (i := 1) (v := ?_) rfl (by kernel_rfl) (fun _ _ _ h => h) (Or.inl ⟨by rfl, ?_⟩) (by assumption) ?_
     rotate_left
     ·(intro w hSw; (try dsimp only at hSw); go_simp <;> with_reducible rfl)
     go_simp
     refine wpAnyT_take (i := 2) (v := ?_) rfl (by kernel_rfl) (fun _ _ _ h => h) (Or.inl ⟨by rfl, ?_⟩) (by assumption) ?_
     rotate_left
     ·(intro w hSw; (try dsimp only at hSw); go_simp <;> with_reducible rfl)
     go_simp
     refine wpAnyT_take (i := 3) (v := ?_) rfl (by kernel_rfl) (fun _ _ _ h => h) (Or.inl ⟨by rfl, ?_⟩) (by assumption) ?_
     rotate_left
     ·(intro w hSw; (try dsimp only at hSw); go_simp <;> with_reducible rfl)
     go_simp
     refine wpAnyT_take (i := 4) (v := undef) rfl (by kernel_rfl) (fun _ _ _ h => h) (Or.inr ⟨by rfl, rfl⟩) (by assumption) ?_
     go_simp
     refine wpAnyT_take (i := 5) (v := undef) rfl (by kernel_rfl) (fun _ _ _ h => h) (Or.inr ⟨by rfl, rfl⟩) (by assumption) ?_
     go_simp
     refine wpAnyT_take (i := 6) (v := undef) rfl (by kernel_rfl) (fun _ _ _ h => h) (Or.inr ⟨by rfl, rfl⟩) (by assumption) ?_
     go_simp
     refine wpAnyT_take (i := 7) (v := undef) rfl (by kernel_rfl) (fun _ _ _ h => h) (Or.inr ⟨by rfl, rfl⟩) (by assumption) ?_
     go_simp
     refine wpAnyT_take (i := 8) (v := undef) rfl (by kernel_rfl) (fun _ _ _ h => h) (Or.inr ⟨by rfl, rfl⟩) (by assumption) ?_
     go_simp
     refine wpAnyT_take (i := 9) (v := undef) rfl (by kernel_rfl) (fun _ _ _ h => h) (Or.inr ⟨by rfl, rfl⟩) (by assumption) ?_
     go_simp
     refine wpAnyT_take (i := 10) (v := undef) rfl (by kernel_rfl) (fun _ _ _ h => h) (Or.inr ⟨by rfl, rfl⟩) (by assumption) ?_
     go_simp
     refine wpAnyT_take (i := 11) (v := undef) rfl (by kernel_rfl) (fun _ _ _ h => h) (Or.inr ⟨by rfl, rfl⟩) (by assumption) ?_
     go_simp
     refine wpAnyT_take (i := 12) (v := undef) rfl (by kernel_rfl) (fun _ _ _ h => h) (Or.inr ⟨by rfl, rfl⟩) (by assumption) ?_
     go_simp
     refine wpAnyT_take (i := 13) (v := undef) rfl (by kernel_rfl) (fun _ _ _ h => h) (Or.inr ⟨by rfl, rfl⟩) (by assumption) ?_
     go_simp
     refine wpAnyT_take (i := 14) (v := undef) rfl (by kernel_rfl) (fun _ _ _ h => h) (Or.inr ⟨by rfl, rfl⟩) (by assumption) ?_
     go_simp
     refine wpAnyT_take (i := 15) (v := undef) rfl (by kernel_rfl) (fun _ _ _ h => h) (Or.inr ⟨by rfl, rfl⟩) (by assumption) ?_
     go_simp
     refine wpAnyT_take (i := 16) (v := ?_) rfl (by kernel_rfl) (fun _ _ _ h => h) (Or.inl ⟨by rfl, ?_⟩) (by assumption) ?_
     rotate_left
     ·(intro w hSw; (try dsimp only at hSw); go_simp <;> with_reducible rfl)
     go_simp
     refine wpAnyT_done (by kernel_rfl) ?_ _
     go_simp
     go_wp2_with fail
     go_roundw
     case rel => exact ⟨k + 1, M, by omega, by omega, by go_num, HMl.out, by
      have e : insDown M 0 = M := rfl
      rw [← e, HI.out, ← HR.out, show n - k = n - (k + 1) + 1 by omega]
      rfl, HSM.out.below bD, HTM.out.then (TchP.of_below bD _) (fun _ _ h => h)⟩
     case measure => simp [intOf]; omega
    ·obtain ⟨p, hp⟩ : ∃ p, j = p + 1 := ⟨j - 1, by omega⟩
     have hw : IntKind.i64.wrap ((j : Int) - 1) = (p : Int) := by rw [wrap_small (by omega) (by omega)]; omega
     have hd : decide ((0 : Int) < (j : Int)) = true := by simp; omega
     have hd2 : decide (0 < j) = true := by simp; omega
     have hd3 : 0 < j := by omega
     have hjn : j < n := by omega
     have hpn : p < n := by omega
     have hjM : j < M.length := by rw [HMl.out]; exact hjn
     have hpM : p < M.length := by rw [HMl.out]; exact hpn
     obtain ⟨e1, r1⟩ := HSM.out.2.2 j hjM
     obtain ⟨e0, r0⟩ := HSM.out.2.2 p hpM
     have R1 := Lib.hid r1.rd
     have R0 := Lib.hid r0.rd
     have HSW : Hid (∀ W, SR W b o M → SR ((W.setCell ⟨b, o + j, none⟩ (M[p]).1).setCell ⟨b, o + p, none⟩ (M[j]).1) b o (swP M p)) := fun W hW => by subst hp; exact hW.swap hjM
     have HD1 : Hid (decide (cmpL (M[j]).2 (M[p]).2 < 0) = true → insDown M j = insDown (swP M p) p) := fun h => by
      subst hp
      exact insDown_yes (by simpa [List.getD_eq_getElem?_getD, hjM, hpM] using h)
     have HD0 : Hid (decide (cmpL (M[j]).2 (M[p]).2 < 0) = false → insDown M j = M) := fun h => by
      subst hp
      exact insDown_no (by simpa [List.getD_eq_getElem?_getD, hjM, hpM] using h)
     have HPJ := Lib.hid hp
     generalize hv1 : (M[j]).1 = v1 at e1 r1 R1 HSW
     generalize hv0 : (M[p]).1 = v0 at e0 r0 R0 HSW
     generalize (M[j]).2 = y1 at r1 R1 HD1 HD0
     generalize (M[p]).2 = y0 at r0 R0 HD1 HD0
     obtain ⟨ax1, cx1, rfl⟩ := rd_slice R1.out
     obtain ⟨ax0, cx0, rfl⟩ := rd_slice R0.out
     clear hp r1 r0 hv1 hv0 hj0 hjM hpM
     go_wp2_with fail
     refine wp_region_T (fun w' => w'.cell? ⟨b, o + j, none⟩ = some (.slice ax1 y1.length cx1) ∧ w'.cell? ⟨b, o + p, none⟩ = some (.slice ax0 y0.length cx0)) [] (by kernel_rfl) ⟨e1, e0⟩ (fun hHeld => ?_)
     refine wpAnyT_take (i := 0) (v := ?_) rfl (by kernel_rfl) (fun _ _ _ h => h) (Or.inl ⟨by rfl, ?_⟩) (by assumption) ?_
     rotate_left
     ·(intro w hSw; (try dsimp only at hSw); go_simp <;> with_reducible rfl)
     go_simp
     refine wpAnyT_take (i := 1) (v := ?_) rfl (by kernel_rfl) (fun _ _ _ h => h) (Or.inl ⟨by rfl, ?_⟩) (by assumption) ?_
     rotate_left
     ·(intro w hSw; (try dsimp only at hSw); go_simp <;> with_reducible rfl)
     go_simp
     refine wpAnyT_take (i := 2) (v := ?_) rfl (by kernel_rfl) (fun _ _ _ h => h) (Or.inl ⟨by rfl, ?_⟩) (by assumption) ?_
     rotate_left
     ·(intro w hSw; (try dsimp only at hSw); go_simp <;> with_reducible rfl)
     go_simp
     refine wpAnyT_take (i := 3) (v := ?_) rfl (by kernel_rfl) (fun _ _ _ h => h) (Or.inl ⟨by rfl, ?_⟩) (by assumption) ?_
     rotate_left
     ·(intro w hSw; (try dsimp only at hSw); go_simp <;> with_reducible rfl)
     go_simp
     refine wpAnyT_take (i := 4) (v := ?_) rfl (by kernel_rfl) (fun _ _ _ h => h) (Or.inl ⟨by rfl, ?_⟩) (by assumption) ?_
     rotate_left
     ·(intro w hSw; (try dsimp only at hSw); go_simp <;> with_reducible rfl)
     go_simp
     refine wpAnyT_take (i := 5) (v := ?_) rfl (by kernel_rfl) (fun _ _ _ h => h) (Or.inl ⟨by rfl, ?_⟩) (by assumption) ?_
     rotate_left
     ·(intro w hSw; (try dsimp only at hSw); go_simp <;> with_reducible rfl)
     go_simp
     refine wpAnyT_take (i := 6) (v := ?_) rfl (by kernel_rfl) (fun _ _ _ h => h) (Or.inl ⟨by rfl, ?_⟩) (by assumption) ?_
     rotate_left
     ·(intro w hSw; (try dsimp only at hSw); go_simp <;> with_reducible rfl)
     go_simp
     refine wpAnyT_take (i := 7) (v := ?_) rfl (by kernel_rfl) (fun _ _ _ h => h) (Or.inl ⟨by rfl, ?_⟩) (by assumption) ?_
     rotate_left
     ·(intro w hSw; (try dsimp only at hSw); go_simp <;> with_reducible rfl)
     go_simp
     refine wpAnyT_take (i := 8) (v := ?_) rfl (by kernel_rfl) (fun _ _ _ h => h) (Or.inl ⟨by rfl, ?_⟩) (by assumption) ?_
     rotate_left
     ·(intro w hSw; (try dsimp only at hSw); go_simp <;> with_reducible rfl)
     go_simp
     refine wpAnyT_take (i := 9) (v := ?_) rfl (by kernel_rfl) (fun _ _ _ h => h) (Or.inl ⟨by rfl, ?_⟩) (by assumption) ?_
     rotate_left
     ·(intro w hSw; (try dsimp only at hSw); go_simp <;> with_reducible rfl)
     go_simp
     refine wpAnyT_take (i := 10) (v := ?_) rfl (by kernel_rfl) (fun _ _ _ h => h) (Or.inl ⟨by rfl, ?_⟩) (by assumption) ?_
     rotate_left
     ·(intro w hSw; (try dsimp only at hSw); go_simp <;> with_reducible rfl)
     go_simp
     refine wpAnyT_take (i := 11) (v := ?_) rfl (by kernel_rfl) (fun _ _ _ h => h) (Or.inl ⟨by rfl, ?_⟩) (by assumption) ?_
     rotate_left
     ·(intro w hSw; (try dsimp only at hSw); go_simp <;> with_reducible rfl)
     go_simp
     refine wpAnyT_take (i := 12) (v := ?_) rfl (by kernel_rfl) (fun _ _ _ h => h) (Or.inl ⟨by rfl, ?_⟩) (by assumption) ?_
     rotate_left
     ·(intro w hSw; (try dsimp only at hSw); go_simp <;> with_reducible rfl)
     go_simp
     refine wpAnyT_take (i := 13) (v := ?_) rfl (by kernel_rfl) (fun _ _ _ h => h) (Or.inl ⟨by rfl, ?_⟩) (by assumption) ?_
     rotate_left
     ·(intro w hSw; (try dsimp only at hSw); go_simp <;> with_reducible rfl)
     go_simp
     have hv : Below wq.heap.size wq wq.drew := bD
     have R1d := Lib.hid (R1.out.below hv)
     have R0d := Lib.hid (R0.out.below hv)
     have HSd := Lib.hid (HSM.out.below hv)
     have HTd := Lib.hid (HTM.out.then (TchP.of_below hv _) (fun _ _ h => h))
     clear e1 e0 R1 R0
     generalize wq.drew = x0 at hHeld hv R1d R0d HSd HTd ⊢
     obtain ⟨e1, e0⟩ := hHeld
     refine wpAnyT_one (i := 14) rfl (by kernel_rfl) (fun K hK => ?_)
     go_simp
     go_at_call 164
     refine (makeRel1_any x0 R1d.out R0d.out).mono ?_
     rintro e _ ⟨rfl, rfl⟩
     dsimp only
     refine hK.out _ _ ⟨e1, e0⟩ (fun hHeld => ?_)
     clear hK K
     refine wpAnyT_take (i := 15) (v := ?_) rfl (by kernel_rfl) (fun _ _ _ h => h) (Or.inl ⟨by rfl, ?_⟩) (by assumption) ?_
     rotate_left
     ·(intro w hSw; (try dsimp only at hSw); go_simp <;> with_reducible rfl)
     go_simp
     refine wpAnyT_take (i := 16) (v := ?_) rfl (by kernel_rfl) (fun _ _ _ h => h) (Or.inl ⟨by rfl, ?_⟩) (by assumption) ?_
     rotate_left
     ·(intro w hSw; (try dsimp only at hSw); go_simp <;> with_reducible rfl)
     go_simp
     refine wpAnyT_done (by kernel_rfl) ?_ _
     go_simp
     cases hc : decide (cmpL y1 y0 < 0)
     ·go_wp2_with fail
      go_roundw
      case rel => exact ⟨k + 1, M, by omega, by omega, by go_num, HMl.out, by
       have e : insDown M j = M := HD0.out hc
       rw [← e, HI.out, ← HR.out, show n - k = n - (k + 1) + 1 by omega]
       rfl, HSd.out, HTd.out⟩
      case measure => simp [intOf]; omega
     ·have fz1 := HSd.out.2.1 (o + j)
      have fz0 := HSd.out.2.1 (o + p)
      go_wp2_with fail
      refine wp_region_T (fun w' => w'.cell? ⟨b, o + j, none⟩ = some (.slice ax1 y1.length cx1) ∧ w'.cell? ⟨b, o + p, none⟩ = some (.slice ax0 y0.length cx0)) [15, 16, 17] (by kernel_rfl) ⟨e1, e0⟩ (fun hHeld => ?_)
      refine wpAnyT_any (i := 2) (v := ?_) rfl (by kernel_rfl) (fun _ _ _ h => h) (Or.inl ⟨by rfl, ?_⟩) (by first | exact fun _ => by assumption | (intro hp; exact absurd hp (by rw [show pastB _ _ = true by kernel_rfl]; simp))) ?_
      rotate_left
      ·(intro w hSw; (try dsimp only at hSw); go_simp <;> with_reducible rfl)
      try simp only [Act.put]
      go_simp
      refine wpAnyT_any (i := 3) (v := ?_) rfl (by kernel_rfl) (fun _ _ _ h => h) (Or.inl ⟨by rfl, ?_⟩) (by first | exact fun _ => by assumption | (intro hp; exact absurd hp (by rw [show pastB _ _ = true by kernel_rfl]; simp))) ?_
      rotate_left
      ·(intro w hSw; (try dsimp only at hSw); go_simp <;> with_reducible rfl)
      try simp only [Act.put]
      go_simp
      refine wpAnyT_any (i := 4) (v := ?_) rfl (by kernel_rfl) (fun _ _ _ h => h) (Or.inl ⟨by rfl, ?_⟩) (by first | exact fun _ => by assumption | (intro hp; exact absurd hp (by rw [show pastB _ _ = true by kernel_rfl]; simp))) ?_
      rotate_left
      ·(intro w hSw; (try dsimp only at hSw); go_simp <;> with_reducible rfl)
      try simp only [Act.put]
      go_simp
      refine wpAnyT_take (i := 0) (v := ?_) rfl (by kernel_rfl) (fun _ _ _ h => h) (Or.inl ⟨by rfl, ?_⟩) (by assumption) ?_
      rotate_left
      ·(intro w hSw; (try dsimp only at hSw); go_simp <;> with_reducible rfl)
      go_simp
      refine wpAnyT_take (i := 1) (v := ?_) rfl (by kernel_rfl) (fun _ _ _ h => h) (Or.inl ⟨by rfl, ?_⟩) (by assumption) ?_
      rotate_left
      ·(intro w hSw; (try dsimp only at hSw); go_simp <;> with_reducible rfl)
      go_simp
      refine wpAnyT_take (i := 5) (v := ?_) rfl (by kernel_rfl) (fun _ _ _ h => h) (Or.inl ⟨by rfl, ?_⟩) (by assumption) ?_
      rotate_left
      ·(intro w hSw; (try dsimp only at hSw); go_simp <;> with_reducible rfl)
      go_simp
      refine wpAnyT_take (i := 6) (v := ?_) rfl (by kernel_rfl) (fun _ _ _ h => h) (Or.inl ⟨by rfl, ?_⟩) (by assumption) ?_
      rotate_left
      ·(intro w hSw; (try dsimp only at hSw); go_simp <;> with_reducible rfl)
      go_simp
      refine wpAnyT_take (i := 7) (v := ?_) rfl (by kernel_rfl) (fun _ _ _ h => h) (Or.inl ⟨by rfl, ?_⟩) (by assumption) ?_
      rotate_left
      ·(intro w hSw; (try dsimp only at hSw); go_simp <;> with_reducible rfl)
      go_simp
      refine wpAnyT_take (i := 8) (v := ?_) rfl (by kernel_rfl) (fun _ _ _ h => h) (Or.inl ⟨by rfl, ?_⟩) (by assumption) ?_
      rotate_left
      ·(intro w hSw; (try dsimp only at hSw); go_simp <;> with_reducible rfl)
      go_simp
      refine wpAnyT_take (i := 9) (v := ?_) rfl (by kernel_rfl) (fun _ _ _ h => h) (Or.inl ⟨by rfl, ?_⟩) (by assumption) ?_
      rotate_left
      ·(intro w hSw; (try dsimp only at hSw); go_simp <;> with_reducible rfl)
      go_simp
      refine wpAnyT_take (i := 10) (v := ?_) rfl (by kernel_rfl) (fun _ _ _ h => h) (Or.inl ⟨by rfl, ?_⟩) (by assumption) ?_
      rotate_left
      ·(intro w hSw; (try dsimp only at hSw); go_simp <;> with_reducible rfl)
      go_simp
      refine wpAnyT_take (i := 11) (v := ?_) rfl (by kernel_rfl) (fun _ _ _ h => h) (Or.inl ⟨by rfl, ?_⟩) (by assumption) ?_
      rotate_left
      ·(intro w hSw; (try dsimp only at hSw); go_simp <;> with_reducible rfl)
      go_simp
      refine wpAnyT_take (i := 12) (v := ?_) rfl (by kernel_rfl) (fun _ _ _ h => h) (Or.inl ⟨by rfl, ?_⟩) (by assumption) ?_
      rotate_left
      ·(intro w hSw; (try dsimp only at hSw); go_simp <;> with_reducible rfl)
      go_simp
      refine wpAnyT_take (i := 13) (v := ?_) rfl (by kernel_rfl) (fun _ _ _ h => h) (Or.inl ⟨by rfl, ?_⟩) (by assumption) ?_
      rotate_left
      ·(intro w hSw; (try dsimp only at hSw); go_simp <;> with_reducible rfl)
      go_simp
      refine wpAnyT_take (i := 14) (v := ?_) rfl (by kernel_rfl) (fun _ _ _ h => h) (Or.inl ⟨by rfl, ?_⟩) (by assumption) ?_
      rotate_left
      ·(intro w hSw; (try dsimp only at hSw); go_simp <;> with_reducible rfl)
      go_simp
      have hv2 : Below x0.heap.size x0 x0.drew := bD
      have HSe := Lib.hid (HSW.out _ (HSd.out.below hv2))
      have HTe : Hid (TchP (fun q => q = b) w ((x0.drew.setCell ⟨b, o + j, none⟩ (.slice ax0 y0.length cx0)).setCell ⟨b, o + p, none⟩ (.slice ax1 y1.length cx1))) := ((HTd.out.then (TchP.of_below hv2 _) (fun _ _ h => h)).then (TchP.set (O := fun q => q = b) rfl) (fun _ _ h => h)).then (TchP.set (O := fun q => q = b) rfl) (fun _ _ h => h)
      have fz1 := (HSd.out.below hv2).2.1 (o + j)
      have fz0 : (x0.drew.setCell ⟨b, o + j, none⟩ (.slice ax0 y0.length cx0)).frozen? ⟨b, o + p, none⟩ = false := (World.frozen?_setCell _ _ _ _).trans ((HSd.out.below hv2).2.1 (o + p))
      generalize x0.drew = x1 at hHeld hv2 HSe HTe fz1 fz0 ⊢
      clear e1 e0
      obtain ⟨e1, e0⟩ := hHeld
      have e0' : (x1.setCell ⟨b, o + j, none⟩ (.slice ax0 y0.length cx0)).cell? ⟨b, o + p, none⟩ = some (.slice ax0 y0.length cx0) := (World.cell?_setCell_other _ _ _ _ (by have := HPJ.out; first | (simp; done) | (simp; omega))).trans e0
      refine wpAnyT_last (i := 15) rfl (by kernel_rfl) (by kernel_rfl) (fun K hK => ?_)
      go_simp
      refine hK.out _ _ ?_
      clear hK K
      refine wpAnyT_last (i := 16) rfl (by kernel_rfl) (by kernel_rfl) (fun K hK => ?_)
      go_simp
      refine hK.out _ _ ?_
      clear hK K
      refine wpAnyT_last (i := 17) rfl (by kernel_rfl) (by kernel_rfl) (fun K hK => ?_)
      go_simp
      refine hK.out _ _ ?_
      clear hK K
      refine wpAnyT_done (by kernel_rfl) ?_ _
      go_simp
      go_wp2_with fail
      go_roundw
      case rel => exact ⟨p, swP M p, by have := HPJ.out; omega, by go_num, swP_len.trans HMl.out, (HD1.out hc).symm.trans HI.out, HSe.out, HTe.out⟩
      case measure => have := HPJ.out; simp [intOf]; omega
  ·obtain rfl : k = n := by omega
   go_wp2_with fail
   go_end0
   exact ⟨rfl, by have := HR.out; rw [Nat.sub_self] at this; rw [← this]; exact HS.out, HT.out⟩
end Go.Proofs.YtajmjfbejfiipaaGreat
namespace Go.Proofs.YtajmjfbejfiipaaGreat
open Go.RowKit Go.Sort
set_option maxHeartbeats 1600000 in
set_option maxRecDepth 100000 in
theorem pdqRows_any (w : World) {b o n c : Nat} {L0 : List PV} (hL : L0.length = n) (h : SR w b o L0) (hn : 1 ≤ n ∧ n ≤ 12) (m : Int) :
  Calls Tryz.prog 210 #[.slice (some ⟨b, o, none⟩) n c, .int .i64 0, .int .i64 n, .int .i64 m, .func (.func 164) #[] #[]] w fun e w' => e = .returned (.tuple #[]) ∧ SR w' b o (insRest (n - 1) L0 1) ∧ TchP (fun q => q = b) w w' := by
 have H := Lib.hid h
 have HL := Lib.hid hL
 have hw : IntKind.i64.wrap ((n : Int) - 0) = (n : Int) := by rw [wrap_small (by omega) (by omega)]; omega
 have hw2 : IntKind.i64.wrap (n : Int) = (n : Int) := wrap_small (by omega) (by omega)
 have hd : decide ((n : Int) ≤ 12) = true := by simp; omega
 have hd2 : decide (n ≤ 12) = true := by simp; omega
 clear h hL
 go_enter Tryz.func210, Tryz.ntmps210
 go_wp2_with fail
 refine wp_loop_rounds 1 ?_
 rw [rounds_succ]
 go_wp2_with fail
 refine (insertionRows_any w HL.out H.out hn).mono ?_
 rintro e w1 ⟨rfl, h1, h2⟩
 have H1 := Lib.hid h1
 have H2 := Lib.hid h2
 clear h1 h2
 go_wp2_with fail
 (try simp only [Exit.inBlock, Exit.then])
 refine bodyPost_ret (results_none rfl _ _ _) rfl ?_
 exact ⟨rfl, H1.out, H2.out⟩
set_option maxRecDepth 100000 in
set_option maxHeartbeats 1600000 in
theorem bitsLen64_any (w : World) {n : Int} (hn : n = 1 ∨ n = 2 ∨ n = 3) : Calls Tryz.prog 248 #[.int .u64 n] w fun e w' => (∃ m : Int, e = .returned (.int .i64 m)) ∧ w = w' := by
 rcases hn with rfl | rfl | rfl
 all_goals
  go_enter Tryz.func248, Tryz.ntmps248
  go_wp2
  go_ret
  exact ⟨⟨_, rfl⟩, rfl⟩
theorem bitsLen_any (w : World) {n : Int} (hn : n = 1 ∨ n = 2 ∨ n = 3) : Calls Tryz.prog 211 #[.int .u64 n] w fun e w' => (∃ m : Int, e = .returned (.int .i64 m)) ∧ w = w' := by
 have hw : IntKind.u64.wrap n = n := by rcases hn with rfl | rfl | rfl <;> rfl
 have HN := Lib.hid hn
 clear hn
 go_enter Tryz.func211, Tryz.ntmps211
 go_wp2_with fail
 refine (bitsLen64_any w HN.out).mono ?_
 rintro e _ ⟨⟨m, rfl⟩, rfl⟩
 go_wp2_with fail
 go_ret
 exact ⟨⟨_, rfl⟩, rfl⟩
set_option maxHeartbeats 1600000 in
theorem sortRows_any (w : World) {b o n c : Nat} {L0 : List PV} (hL : L0.length = n) (h : SR w b o L0) (hn : 1 ≤ n ∧ n ≤ 3) :
  Calls Tryz.prog 163 #[.slice (some ⟨b, o, none⟩) n c, .func (.func 164) #[] #[]] w fun e w' => e = .returned (.tuple #[]) ∧ SR w' b o (insRest (n - 1) L0 1) ∧ TchP (fun q => q = b) w w' := by
 have hw2 : IntKind.u64.wrap (n : Int) = (n : Int) := by
  obtain h | h | h : n = 1 ∨ n = 2 ∨ n = 3 := by omega
  all_goals subst h; rfl
 have H := Lib.hid h
 have HL := Lib.hid hL
 clear h hL
 go_enter Tryz.func163, Tryz.ntmps163
 go_wp2_with fail
 refine (bitsLen_any w (n := (n : Int)) (by omega)).mono ?_
 rintro e _ ⟨⟨m, rfl⟩, rfl⟩
 go_wp2_with fail
 refine (pdqRows_any w HL.out H.out (by omega) m).mono ?_
 rintro e w1 ⟨rfl, h1, h2⟩
 have H1 := Lib.hid h1
 have H2 := Lib.hid h2
 clear h1 h2
 go_wp2_with fail
 go_end0
 exact ⟨rfl, H1.out, H2.out⟩
end Go.Proofs.YtajmjfbejfiipaaGreat
namespace Go.Proofs.YtajmjfbejfiipaaGreat
open Go.RowKit Go.Sort
/-- what is kept of a row behind an element: what differs from its left neighbour -/
def kpL : PV → List PV → List PV
 | _, [] => []
 | p, x :: l => match decide (x.2 = p.2) with
  | true => kpL x l
  | false => x :: kpL x l
theorem kpL_yes {p x : PV} {l : List PV} (h : x.2 = p.2) : kpL p (x :: l) = kpL x l := by simp only [kpL, decide_eq_true h]
theorem kpL_no {p x : PV} {l : List PV} (h : x.2 ≠ p.2) : kpL p (x :: l) = x :: kpL x l := by simp only [kpL, decide_eq_false h]
theorem kpL_cong {p q : PV} (h : p.2 = q.2) : ∀ (l : List PV), kpL p l = kpL q l
 | [] => rfl
 | x :: l => by
  by_cases h1 : x.2 = p.2
  ·rw [kpL_yes h1, kpL_yes (h1.trans h)]
  ·rw [kpL_no h1, kpL_no (fun e => h1 (e.trans h.symm))]
theorem ddL_kp : ∀ (l : List PV) (a : PV), ddL (a :: l) = a :: kpL a l
 | [], a => by simp [ddL, kpL]
 | b :: l, a => by
  unfold ddL
  by_cases h : a.2 = b.2
  ·rw [if_pos h, ddL_kp l a, kpL_yes h.symm, kpL_cong h]
  ·rw [if_neg h, ddL_kp l b, kpL_no (fun e => h e.symm)]
theorem ddL_len : ∀ (L : List PV), (ddL L).length ≤ L.length
 | [] => by simp [ddL]
 | a :: l => by
  rw [ddL_kp]
  have : ∀ (l : List PV) (p : PV), (kpL p l).length ≤ l.length := fun l => by
   induction l with
   | nil => intro p; exact Nat.le_refl _
   | cons x l ih =>
    intro p
    by_cases h : x.2 = p.2
    ·rw [kpL_yes h]; exact Nat.le_succ_of_le (ih x)
    ·rw [kpL_no h]; exact Nat.succ_le_succ (ih x)
  simpa using this l a
/-- up to place k nothing has fallen out -/
def cmA (L : List PV) (k : Nat) : Prop := ∃ h : k - 1 < L.length, L.take k ++ kpL (L[k - 1]) (L.drop k) = ddL L
theorem cmA_one {L : List PV} (h : 0 < L.length) : cmA L 1 := by
 cases L with
 | nil => simp at h
 | cons a l => exact ⟨by simp, by simp [ddL_kp]⟩
theorem cmA_step {L : List PV} {k : Nat} (hk : 1 ≤ k) (hl : k < L.length) (h : cmA L k) (hne : (L[k]).2 ≠ (L[k - 1]'(by omega)).2) : cmA L (k + 1) := by
 obtain ⟨h1, h2⟩ := h
 refine ⟨by simpa using hl, ?_⟩
 rw [← h2, List.take_succ_eq_append_getElem hl, List.drop_eq_getElem_cons hl, kpL_no hne, List.append_assoc]
 simp
theorem cmA_end {L : List PV} (h : cmA L L.length) : ddL L = L := by
 obtain ⟨h1, h2⟩ := h
 rw [← h2]
 simp [kpL]
/-- behind the first equal neighbours: M is written up to k, what stands from j - 1 on is L's -/
def cmB (L M : List PV) (k j : Nat) : Prop := 1 ≤ k ∧ k < j ∧ j ≤ L.length ∧ M.length = L.length ∧ (∀ i, j - 1 ≤ i → M[i]? = L[i]?) ∧ ∃ h : j - 1 < L.length, M.take k ++ kpL (L[j - 1]) (L.drop j) = ddL L
theorem cmB_start {L : List PV} {k : Nat} (hk : 1 ≤ k) (hl : k < L.length) (h : cmA L k) (he : (L[k]).2 = (L[k - 1]'(by omega)).2) : cmB L L k (k + 1) := by
 obtain ⟨h1, h2⟩ := h
 refine ⟨hk, by omega, by omega, rfl, fun _ _ => rfl, by simpa using hl, ?_⟩
 rw [← h2, List.drop_eq_getElem_cons hl, kpL_yes he]
 simp
theorem cmB_skip {L M : List PV} {k j : Nat} (hj : j < L.length) (h : cmB L M k j) (he : (L[j]).2 = (L[j - 1]'(by omega)).2) : cmB L M k (j + 1) := by
 obtain ⟨h0, h1, h2, h3, h4, h5, h6⟩ := h
 refine ⟨h0, by omega, by omega, h3, fun i hi => h4 i (by omega), by simpa using hj, ?_⟩
 rw [← h6, List.drop_eq_getElem_cons hj, kpL_yes he]
 simp
theorem cmB_keep {L M : List PV} {k j : Nat} (hj : j < L.length) (h : cmB L M k j) (hne : (L[j]).2 ≠ (L[j - 1]'(by omega)).2) : cmB L (M.set k L[j]) (k + 1) (j + 1) := by
 obtain ⟨h0, h1, h2, h3, h4, h5, h6⟩ := h
 refine ⟨by omega, by omega, by omega, by simpa using h3, fun i hi => ?_, by simpa using hj, ?_⟩
 ·rw [List.getElem?_set_ne (by omega)]
  exact h4 i (by omega)
 ·rw [← h6, List.drop_eq_getElem_cons hj, kpL_no hne, List.take_succ_eq_append_getElem (by rw [List.length_set, h3]; omega), List.getElem_set_self, List.take_set_of_le (Nat.le_refl _), List.append_assoc]
  simp
theorem cmB_end {L M : List PV} {k : Nat} (h : cmB L M k L.length) : ddL L = M.take k := by
 obtain ⟨h0, h1, h2, h3, h4, h5, h6⟩ := h
 rw [← h6]
 simp [kpL]
theorem cmB_len {L M : List PV} {k : Nat} (h : cmB L M k L.length) : (ddL L).length = k := by
 rw [cmB_end h, List.length_take, h.2.2.2.1]
 have := h.2.1
 omega
end Go.Proofs.YtajmjfbejfiipaaGreat
namespace Go.Proofs.YtajmjfbejfiipaaGreat
open Go.RowKit Go.Sort
/-- the block of a row of numbers -/
def bkV : Value → List Nat
 | .slice (some a) n _ => if n = 0 then [] else [a.block]
 | _ => []
theorem bkV_ints {w : World} {v : Value} {x : List Int} {fp : List Nat} (h : intsT.rd w [v] x fp) : fp = bkV v := by
 obtain ⟨ad, cap, hv, h1, h2, h3⟩ := h
 obtain rfl : v = _ := by simpa using hv
 rcases h3 with ⟨h0, rfl⟩ | ⟨h0, b, o, fps, rfl, hb, rfl, h4⟩
 ·cases ad <;> simp [bkV, h0]
 ·have e : (List.range x.length).flatMap fps = [] := by
   rw [List.flatMap_eq_nil_iff]
   intro i hi
   obtain ⟨cs, ⟨_, _, e⟩, _⟩ := h4 i (by simpa using hi)
   exact e
  rw [e]
  simp only [bkV]
  rw [if_neg (by omega)]
/-- the rows' blocks: each once, new, and free -/
def SRf (base : Nat) (w : World) (L : List PV) : Prop := (L.flatMap (fun p => bkV p.1)).Nodup ∧ ∀ p ∈ L, ∀ k ∈ bkV p.1, base ≤ k ∧ k < w.heap.size ∧ ∀ o, w.frozen? ⟨k, o, none⟩ = false
theorem SRf.perm {base : Nat} {w : World} {L M : List PV} (h : SRf base w L) (hp : M.Perm L) : SRf base w M := ⟨(hp.flatMap_right _).nodup_iff.2 h.1, fun p hp' => h.2 p (hp.mem_iff.1 hp')⟩
theorem sub_flat {α β : Type} {f : α → List β} {M L : List α} (h : M.Sublist L) : (M.flatMap f).Sublist (L.flatMap f) := by
 induction h with
 | slnil => exact List.Sublist.refl _
 | cons a _ ih => rw [List.flatMap_cons]; exact ih.trans (List.sublist_append_right _ _)
 | cons_cons a _ ih => rw [List.flatMap_cons, List.flatMap_cons]; exact (List.Sublist.refl _).append ih
theorem SRf.sub {base : Nat} {w : World} {L M : List PV} (h : SRf base w L) (hp : M.Sublist L) : SRf base w M := ⟨(sub_flat hp).nodup h.1, fun p hp' => h.2 p (hp.subset hp')⟩
theorem sr_of_fr {w : World} {base b o n c : Nat} {xs : List (List Int)} (h : rowsT.Fr base w [.slice (some ⟨b, o, none⟩) n c] xs) (h0 : 0 < xs.length) : base ≤ b ∧ ∃ L : List PV, L.map (·.2) = xs ∧ SR w b o L ∧ SRf base w L := by
 obtain ⟨fp, ⟨ad, cap, hv, h1, h2, h3⟩, hnd, hge, hun⟩ := h
 simp only [List.cons.injEq, Value.slice.injEq, and_true] at hv
 obtain ⟨rfl, rfl, rfl⟩ := hv
 rcases h3 with ⟨h4, -⟩ | ⟨-, b', o', fps, he, hb, rfl, h4⟩
 ·omega
 simp only [Option.some.injEq, Addr.mk.injEq, and_true] at he
 obtain ⟨rfl, rfl⟩ := he
 have hv : ∀ i : Fin xs.length, ∃ v, intsT.rd w [v] xs[i] (fps i) ∧ w.cell? ⟨b, o + i, none⟩ = some v := fun i => by
  obtain ⟨cs, h5, h6⟩ := h4 i i.2
  obtain ⟨ad, cap, rfl, _⟩ := id h5
  refine ⟨_, h5, ?_⟩
  have := h6 0 (by simp)
  simpa [Ty.slice] using this
 have hfp : ∀ i : Fin xs.length, bkV (Classical.choose (hv i)) = fps i := fun i => (bkV_ints (Classical.choose_spec (hv i)).1).symm
 have hin : ∀ (i : Fin xs.length), ∀ k ∈ fps i, k ∈ (List.range xs.length).flatMap fps := fun i k hk => List.mem_flatMap.2 ⟨i, by simp, hk⟩
 refine ⟨hge b (List.mem_cons_self ..), List.ofFn (fun i => (Classical.choose (hv i), xs[i])), ?_, ⟨hb, fun i => hun b (List.mem_cons_self ..) i, fun i hi => ?_⟩, ?_, ?_⟩
 ·rw [List.map_ofFn]
  refine List.ext_getElem (by simp) fun i h h' => ?_
  simp
 ·have hi' : i < xs.length := by simpa using hi
  obtain ⟨g1, g2⟩ := Classical.choose_spec (hv ⟨i, hi'⟩)
  rw [List.getElem_ofFn]
  refine ⟨g2, _, g1, fun k hk e => ?_⟩
  subst e
  exact (List.nodup_cons.1 hnd).1 (List.mem_flatMap.2 ⟨i, by simpa using hi', hk⟩)
 ·have e : (List.ofFn (fun i : Fin xs.length => (Classical.choose (hv i), xs[i]))).flatMap (fun p : PV => bkV p.1) = (List.range xs.length).flatMap fps := by
   rw [List.flatMap_def, List.flatMap_def, List.map_ofFn]
   congr 1
   refine List.ext_getElem (by simp) fun i h h' => ?_
   rw [List.getElem_ofFn, List.getElem_map, List.getElem_range]
   exact hfp _
  rw [e]
  exact (List.nodup_cons.1 hnd).2
 ·intro p hp k hk
  obtain ⟨i, rfl⟩ := List.mem_ofFn.1 hp
  dsimp only at hk
  rw [hfp] at hk
  have hm := List.mem_cons_of_mem b (hin i k hk)
  exact ⟨hge k hm, Ty.lt intsT (Classical.choose_spec (hv i)).1 k hk, fun o => hun k hm o⟩
theorem flat_get {L : List PV} : (List.range L.length).flatMap (fun i => bkV (L.getD i (undef, [])).1) = L.flatMap (fun p => bkV p.1) := by
 rw [List.flatMap_def, List.flatMap_def]
 congr 1
 refine List.ext_getElem (by simp) fun i h h' => ?_
 have hi : i < L.length := by simpa using h
 simp [List.getD_eq_getElem?_getD, hi]
theorem fr_of_sr {w : World} {base b o m c : Nat} {L : List PV} (h : SR w b o L) (hf : SRf base w L) (hb : base ≤ b) (hm : L.length = m) (hc : m ≤ c) (hl : m ≤ capMax) : rowsT.Fr base w [.slice (some ⟨b, o, none⟩) m c] (L.map (·.2)) := by
 subst hm
 rcases Nat.eq_zero_or_pos L.length with h0 | h0
 ·obtain rfl : L = [] := List.eq_nil_of_length_eq_zero h0
  exact fr_nil
 have hlen : (L.map (fun p : PV => p.2)).length = L.length := by simp
 have hne : ∀ k ∈ L.flatMap (fun p => bkV p.1), k ≠ b := fun k hk => by
  obtain ⟨p, hp, hk⟩ := List.mem_flatMap.1 hk
  obtain ⟨i, hi, rfl⟩ := List.mem_iff_getElem.1 hp
  obtain ⟨fp, h1, h2⟩ := (h.2.2 i hi).2
  rw [bkV_ints h1] at h2
  exact h2 k hk
 refine ⟨b :: (List.range (L.map (fun p : PV => p.2)).length).flatMap (fun i => bkV (L.getD i (undef, [])).1), ⟨some ⟨b, o, none⟩, c, by simp, by simpa using hc, by simpa using hl, .inr ⟨by simpa using h0, b, o, _, rfl, h.1, rfl, fun i hi => ?_⟩⟩, ?_, ?_, ?_⟩
 ·have hi' : i < L.length := by simpa using hi
  obtain ⟨g1, fp, g2, g3⟩ := h.2.2 i hi'
  refine ⟨[(L[i]).1], ?_, fun j hj => ?_⟩
  ·rw [List.getElem_map]
   have e : (L.getD i (undef, [])).1 = (L[i]).1 := by simp [List.getD_eq_getElem?_getD, hi']
   rw [e, ← bkV_ints g2]
   exact g2
  ·obtain rfl : j = 0 := by simp at hj; omega
   simpa [Ty.slice] using g1
 ·rw [hlen, flat_get]
  exact List.nodup_cons.2 ⟨fun hm => hne b hm rfl, hf.1⟩
 ·rw [hlen, flat_get]
  intro k hk
  rcases List.mem_cons.1 hk with rfl | hk
  ·exact hb
  ·obtain ⟨p, hp, hk⟩ := List.mem_flatMap.1 hk
   exact (hf.2 p hp k hk).1
 ·rw [hlen, flat_get]
  intro k hk i
  rcases List.mem_cons.1 hk with rfl | hk
  ·exact h.2.1 i
  ·obtain ⟨p, hp, hk⟩ := List.mem_flatMap.1 hk
   exact (hf.2 p hp k hk).2.2 i
/-- the rows stay when the row of rows alone is written -/
theorem SRf.tch {base b : Nat} {w w' : World} {L : List PV} (h : SRf base w L) (hn : ∀ p ∈ L, ∀ k ∈ bkV p.1, k ≠ b) (ht : TchP (fun q => q = b) w w') : SRf base w' L :=
 ⟨h.1, fun p hp k hk => ⟨(h.2 p hp k hk).1, Nat.lt_of_lt_of_le (h.2 p hp k hk).2.1 ht.size, fun o => (ht.frozen (h.2 p hp k hk).2.1 (hn p hp k hk)).trans ((h.2 p hp k hk).2.2 o)⟩⟩
theorem SR.apart {w : World} {b o : Nat} {L : List PV} (h : SR w b o L) : ∀ p ∈ L, ∀ k ∈ bkV p.1, k ≠ b := fun p hp k hk => by
 obtain ⟨i, hi, rfl⟩ := List.mem_iff_getElem.1 hp
 obtain ⟨fp, h1, h2⟩ := (h.2.2 i hi).2
 rw [bkV_ints h1] at h2
 exact h2 k hk
theorem SR.take {w : World} {b o : Nat} {L : List PV} (h : SR w b o L) (k : Nat) : SR w b o (L.take k) := ⟨h.1, h.2.1, fun i hi => by
 rw [List.getElem_take]
 exact h.2.2 i (by rw [List.length_take] at hi; omega)⟩
/-- cells behind a row's first ones are written -/
theorem SR.high {w : World} {b o j : Nat} {v : Value} {L : List PV} (h : SR w b o L) (hj : L.length ≤ j) : SR (w.setCell ⟨b, o + j, none⟩ v) b o L :=
 ⟨by rw [size_set]; exact h.1, fun i => (World.frozen?_setCell _ _ _ _).trans (h.2.1 i), fun i hi => ⟨(World.cell?_setCell_other _ _ _ _ (by intro e; simp only [Addr.mk.injEq] at e; omega)).trans (h.2.2 i hi).1, (h.2.2 i hi).2.tchP tchP_cell fun k _ hk e => hk e⟩⟩
theorem SR.clear {b o : Nat} {L : List PV} : ∀ (zs : List Value) (k : Nat) (w : World), L.length ≤ k → SR w b o L → SR (w.setCells b (o + k) zs) b o L ∧ TchP (fun q => q = b) w (w.setCells b (o + k) zs)
 | [], k, w, _, h => ⟨h, TchP.refl _ _⟩
 | z :: zs, k, w, hk, h => by
  obtain ⟨h1, h2⟩ := SR.clear zs (k + 1) _ (by omega) (h.high (v := z) hk)
  exact ⟨h1, tchP_cell.then h2 (fun _ _ h => h)⟩
theorem kpL_sub : ∀ (l : List PV) (p : PV), (kpL p l).Sublist l
 | [], _ => List.Sublist.refl _
 | x :: l, p => by
  by_cases h : x.2 = p.2
  ·rw [kpL_yes h]; exact (kpL_sub l x).cons _
  ·rw [kpL_no h]; exact (kpL_sub l x).cons_cons _
theorem ddL_sub : ∀ (L : List PV), (ddL L).Sublist L
 | [] => by simp [ddL]
 | a :: l => by rw [ddL_kp]; exact (kpL_sub l a).cons_cons _
/-- a few lists in order, each once -/
theorem set_ex {ts : List (List Int)} (h : ts.length ≤ 3) : ∃ M : List (List Int), (∀ l, l ∈ M ↔ l ∈ ts) ∧ M.Pairwise ltL ∧ M.length ≤ ts.length := by
 obtain ⟨h1, h2⟩ := insRest_3 (L := ts.map (fun l => ((undef, l) : PV))) (by simpa using h)
 refine ⟨(ddL (insRest ((ts.map (fun l => ((undef, l) : PV))).length - 1) (ts.map (fun l => ((undef, l) : PV))) 1)).map (·.2), fun l => ?_, dd_pw h2, ?_⟩
 ·rw [dd_mem, List.mem_map]
  constructor
  ·rintro ⟨p, hp, rfl⟩
   obtain ⟨l, hl, rfl⟩ := List.mem_map.1 (h1.mem_iff.1 hp)
   exact hl
  ·intro hl
   exact ⟨(undef, l), h1.mem_iff.2 (List.mem_map.2 ⟨l, hl, rfl⟩), rfl⟩
 ·rw [List.length_map]
  refine Nat.le_trans (ddL_len _) ?_
  rw [h1.length_eq, List.length_map]
  exact Nat.le_refl _
end Go.Proofs.YtajmjfbejfiipaaGreat
namespace Go.Proofs.YtajmjfbejfiipaaGreat
open Go.RowKit Go.Sort
theorem makeRel2_any (w : World) {v u : Value} {xs ys : List Int} (h : intsT.Rd w [v] xs) (h' : intsT.Rd w [u] ys) :
  Calls Tryz.prog 166 #[v, u] w fun e w' => e = .returned (.bool (eqB xs ys)) ∧ Quiet w w' := by
 have H := Lib.hid h
 have H' := Lib.hid h'
 clear h h'
 go_enter Tryz.func166, Tryz.ntmps166
 go_wp2_with fail
 refine (Equal_quiet w H.out H'.out).mono ?_
 rintro e w1 ⟨rfl, hq⟩
 go_wp2_with fail
 go_ret
 exact ⟨rfl, hq⟩
set_option maxHeartbeats 3200000 in
set_option maxRecDepth 100000 in
theorem compactRows_any (w : World) {b o n c : Nat} {L : List PV} (hL : L.length = n) (h : SR w b o L) (hn : 1 ≤ n ∧ n ≤ 1000000) (hc : n ≤ c) :
  Calls Tryz.prog 165 #[.slice (some ⟨b, o, none⟩) n c, .func (.func 166) #[] #[]] w fun e w' => e = .returned (.slice (some ⟨b, o, none⟩) (ddL L).length c) ∧ SR w' b o (ddL L) ∧ TchP (fun q => q = b) w w' := by
 have H := Lib.hid h
 have HL := Lib.hid hL
 by_cases hn1 : n = 1
 ·have HD : Hid (ddL L = L ∧ (ddL L).length = 1) := by
   unfold Hid
   rw [hn1] at hL
   obtain ⟨a, rfl⟩ := List.length_eq_one_iff.1 hL
   exact ⟨by simp [ddL], by simp [ddL]⟩
  clear h hL HL
  subst hn1
  go_enter Tryz.func165, Tryz.ntmps165
  go_wp2_with fail
  go_ret
  exact ⟨by rw [HD.out.2]; rfl, by rw [HD.out.1]; exact H.out, TchP.refl _ _⟩
 have hn2 : 2 ≤ n := by omega
 have hd : decide ((n : Int) < 2) = false := by simp; omega
 have hd' : decide (n < 2) = false := by simp; omega
 clear h hL hn1
 go_enter Tryz.func165, Tryz.ntmps165
 go_wp2_with fail
 go_loopw [5] (fun i wr => ∃ k : Nat, 1 ≤ k ∧ k ≤ n ∧ i = .int .i64 k ∧ cmA L k ∧ SR wr b o L ∧ TchP (fun q => q = b) w wr) (fun i _ => n - (intOf i).toNat)
 case atStart => exact ⟨1, Nat.le_refl _, by omega, rfl, cmA_one (by rw [HL.out]; omega), H.out, TchP.refl _ _⟩
 case round =>
  obtain ⟨k, hk1, hk, rfl, hA, hS, hT⟩ := hrel
  obtain ⟨wv, rfl⟩ : ∃ wv : World, wv = wr := ⟨_, rfl⟩
  have HA := Lib.hid hA
  have HS := Lib.hid hS
  have HT := Lib.hid hT
  clear hA hS hT
  by_cases hkn : k < n
  ·obtain ⟨p, hp⟩ : ∃ p, k = p + 1 := ⟨k - 1, by omega⟩
   have hw : IntKind.i64.wrap ((k : Int) - 1) = (p : Int) := by rw [wrap_small (by omega) (by omega)]; omega
   have hpn : p < n := by omega
   have hkL : k < L.length := by rw [HL.out]; exact hkn
   have hpL : p < L.length := by rw [HL.out]; exact hpn
   have HP : Hid (k - 1 = p) := by unfold Hid; omega
   obtain ⟨e1, r1⟩ := HS.out.2.2 k hkL
   obtain ⟨e0, r0⟩ := HS.out.2.2 p hpL
   have R1 := Lib.hid r1.rd
   have R0 := Lib.hid r0.rd
   have HY : Hid (eqB (L[k]).2 (L[p]).2 = true → cmB L L k (k + 1)) := fun h => cmB_start hk1 hkL HA.out (by have e := eqB_iff.1 h; subst hp; exact e)
   have HN : Hid (eqB (L[k]).2 (L[p]).2 = false → cmA L (k + 1)) := fun h => cmA_step hk1 hkL HA.out (by
    intro e
    subst hp
    have : eqB (L[p + 1]).2 (L[p]).2 = true := eqB_iff.2 e
    rw [h] at this
    cases this)
   generalize hv1 : (L[k]).1 = v1 at e1 r1 R1
   generalize hv0 : (L[p]).1 = v0 at e0 r0 R0
   generalize (L[k]).2 = y1 at r1 R1 HY HN
   generalize (L[p]).2 = y0 at r0 R0 HY HN
   obtain ⟨ax1, cx1, rfl⟩ := rd_slice R1.out
   obtain ⟨ax0, cx0, rfl⟩ := rd_slice R0.out
   clear hp r1 r0 hv1 hv0 hkL hpL
   go_wp2_with fail
   refine wp_region_T (fun w' => w'.cell? ⟨b, o + k, none⟩ = some (.slice ax1 y1.length cx1) ∧ w'.cell? ⟨b, o + p, none⟩ = some (.slice ax0 y0.length cx0)) [] (by kernel_rfl) ⟨e1, e0⟩ (fun hHeld => ?_)
   refine wpAnyT_take (i := 0) (v := ?_) rfl (by kernel_rfl) (fun _ _ _ h => h) (Or.inl ⟨by rfl, ?_⟩) (by assumption) ?_
   rotate_left
   ·(intro w hSw; (try dsimp only at hSw); go_simp <;> with_reducible rfl)
   go_simp
   refine wpAnyT_take (i := 1) (v := ?_) rfl (by kernel_rfl) (fun _ _ _ h => h) (Or.inl ⟨by rfl, ?_⟩) (by assumption) ?_
   rotate_left
   ·(intro w hSw; (try dsimp only at hSw); go_simp <;> with_reducible rfl)
   go_simp
   refine wpAnyT_take (i := 2) (v := ?_) rfl (by kernel_rfl) (fun _ _ _ h => h) (Or.inl ⟨by rfl, ?_⟩) (by assumption) ?_
   rotate_left
   ·(intro w hSw; (try dsimp only at hSw); go_simp <;> with_reducible rfl)
   go_simp
   refine wpAnyT_take (i := 3) (v := ?_) rfl (by kernel_rfl) (fun _ _ _ h => h) (Or.inl ⟨by rfl, ?_⟩) (by assumption) ?_
   rotate_left
   ·(intro w hSw; (try dsimp only at hSw); go_simp <;> with_reducible rfl)
   go_simp
   refine wpAnyT_take (i := 4) (v := ?_) rfl (by kernel_rfl) (fun _ _ _ h => h) (Or.inl ⟨by rfl, ?_⟩) (by assumption) ?_
   rotate_left
   ·(intro w hSw; (try dsimp only at hSw); go_simp <;> with_reducible rfl)
   go_simp
   refine wpAnyT_take (i := 5) (v := ?_) rfl (by kernel_rfl) (fun _ _ _ h => h) (Or.inl ⟨by rfl, ?_⟩) (by assumption) ?_
   rotate_left
   ·(intro w hSw; (try dsimp only at hSw); go_simp <;> with_reducible rfl)
   go_simp
   refine wpAnyT_take (i := 6) (v := ?_) rfl (by kernel_rfl) (fun _ _ _ h => h) (Or.inl ⟨by rfl, ?_⟩) (by assumption) ?_
   rotate_left
   ·(intro w hSw; (try dsimp only at hSw); go_simp <;> with_reducible rfl)
   go_simp
   refine wpAnyT_take (i := 7) (v := ?_) rfl (by kernel_rfl) (fun _ _ _ h => h) (Or.inl ⟨by rfl, ?_⟩) (by assumption) ?_
   rotate_left
   ·(intro w hSw; (try dsimp only at hSw); go_simp <;> with_reducible rfl)
   go_simp
   refine wpAnyT_take (i := 8) (v := ?_) rfl (by kernel_rfl) (fun _ _ _ h => h) (Or.inl ⟨by rfl, ?_⟩) (by assumption) ?_
   rotate_left
   ·(intro w hSw; (try dsimp only at hSw); go_simp <;> with_reducible rfl)
   go_simp
   refine wpAnyT_take (i := 9) (v := ?_) rfl (by kernel_rfl) (fun _ _ _ h => h) (Or.inl ⟨by rfl, ?_⟩) (by assumption) ?_
   rotate_left
   ·(intro w hSw; (try dsimp only at hSw); go_simp <;> with_reducible rfl)
   go_simp
   have hv : Below wv.heap.size wv wv.drew := bD
   have R1d := Lib.hid (R1.out.below hv)
   have R0d := Lib.hid (R0.out.below hv)
   have HSd := Lib.hid (HS.out.below hv)
   have HTd := Lib.hid (HT.out.then (TchP.of_below hv _) (fun _ _ h => h))
   clear e1 e0 R1 R0
   generalize wv.drew = x0 at hHeld hv R1d R0d HSd HTd ⊢
   obtain ⟨e1, e0⟩ := hHeld
   refine wpAnyT_one (i := 10) rfl (by kernel_rfl) (fun K hK => ?_)
   go_simp
   go_at_call 166
   refine (makeRel2_any x0 R1d.out R0d.out).mono ?_
   rintro e x9 ⟨rfl, hq9⟩
   have hb9 := hq9.below
   have hsb := HSd.out.1
   replace e1 := (cellB hb9 (by omega)).trans e1
   replace e0 := (cellB hb9 (by omega)).trans e0
   replace HSd := Lib.hid (HSd.out.below hb9)
   replace HTd := Lib.hid (HTd.out.then (TchP.of_below hb9 _) (fun _ _ h => h))
   dsimp only
   refine hK.out _ _ ⟨e1, e0⟩ (fun hHeld => ?_)
   clear hK K
   refine wpAnyT_done (by kernel_rfl) ?_ _
   go_simp
   clear e1 e0 hHeld R1d R0d
   cases hq : eqB y1 y0
   ·go_wp2_with fail
    go_roundw
    case rel => exact ⟨k + 1, by omega, by omega, by go_num, HN.out hq, HSd.out, HTd.out⟩
    case measure => simp [intOf]; omega
   ·go_wp2_with fail
    go_loopw [5, 7] (fun i j wr => ∃ (kk k2 : Nat) (M : List PV), i = .int .i64 kk ∧ j = .int .i64 k2 ∧ 1 ≤ k2 ∧ k + k2 ≤ n ∧ cmB L M kk (k + k2) ∧ SR wr b o M ∧ TchP (fun q => q = b) w wr) (fun _ j _ => n - (k + (intOf j).toNat))
    case atStart => exact ⟨k, 1, L, rfl, rfl, Nat.le_refl _, by omega, HY.out hq, HSd.out, HTd.out⟩
    case round =>
     obtain ⟨kk, k2, M, rfl, rfl, hk2, hkn2, hB, hSM, hTM⟩ := hrel
     obtain ⟨wq, rfl⟩ : ∃ wq : World, wq = wr := ⟨_, rfl⟩
     have hkk1 := hB.1
     have hkk2 := hB.2.1
     have HML : Hid (M.length = n) := hB.2.2.2.1.trans HL.out
     have HB := Lib.hid hB
     have HSM := Lib.hid hSM
     have HTM := Lib.hid hTM
     clear hB hSM hTM
     by_cases hlt : k + k2 < n
     ·obtain ⟨p2, hp2⟩ : ∃ p2, k2 = p2 + 1 := ⟨k2 - 1, by omega⟩
      have hw2 : IntKind.i64.wrap ((k2 : Int) - 1) = (p2 : Int) := by rw [wrap_small (by omega) (by omega)]; omega
      have hjL : k + k2 < L.length := by rw [HL.out]; exact hlt
      have hqL : k + p2 < L.length := by rw [HL.out]; omega
      have hjM : k + k2 < M.length := by rw [HML.out]; exact hlt
      have hqM : k + p2 < M.length := by rw [HML.out]; omega
      have hkM : kk < M.length := by rw [HML.out]; omega
      have g1 : M[k + k2] = L[k + k2] := by have h := HB.out.2.2.2.2.1 (k + k2) (by omega); rw [List.getElem?_eq_getElem hjM, List.getElem?_eq_getElem hjL] at h; exact Option.some.inj h
      have g0 : M[k + p2] = L[k + p2] := by have h := HB.out.2.2.2.2.1 (k + p2) (by omega); rw [List.getElem?_eq_getElem hqM, List.getElem?_eq_getElem hqL] at h; exact Option.some.inj h
      obtain ⟨e1, r1⟩ := HSM.out.2.2 _ hjM
      obtain ⟨e0, r0⟩ := HSM.out.2.2 _ hqM
      have ek := (HSM.out.2.2 _ hkM).1
      have fk := HSM.out.2.1 (o + kk)
      rw [g1] at e1 r1
      rw [g0] at e0 r0
      rw [show o + (k + k2) = o + k + k2 by omega] at e1
      rw [show o + (k + p2) = o + k + p2 by omega] at e0
      have R1 := Lib.hid r1.rd
      have R0 := Lib.hid r0.rd
      have HY2 : Hid (eqB (L[k + k2]).2 (L[k + p2]).2 = true → cmB L M kk (k + (k2 + 1))) := fun h => cmB_skip hjL HB.out (by have e := eqB_iff.1 h; subst hp2; exact e)
      have HN2 : Hid (eqB (L[k + k2]).2 (L[k + p2]).2 = false → cmB L (M.set kk L[k + k2]) (kk + 1) (k + (k2 + 1))) := fun h => cmB_keep hjL HB.out (by
       intro e
       subst hp2
       have : eqB (L[k + (p2 + 1)]).2 (L[k + p2]).2 = true := eqB_iff.2 e
       rw [h] at this
       cases this)
      have HST : Hid (∀ W, SR W b o M → intsT.RdP (fun q => q ≠ b) W [(L[k + k2]).1] (L[k + k2]).2 → SR (W.setCell ⟨b, o + kk, none⟩ (L[k + k2]).1) b o (M.set kk L[k + k2])) := fun W h1 h2 => h1.set hkM h2
      have HR1 := Lib.hid r1
      generalize hx1 : L[k + k2] = x1 at e1 r1 R1 HY2 HN2 HST HR1
      generalize L[k + p2] = x0' at e0 r0 R0 HY2 HN2
      generalize (M[kk]).1 = vk at ek
      obtain ⟨v1, y1'⟩ := x1
      obtain ⟨v0, y0'⟩ := x0'
      dsimp only at e1 e0 r1 r0 R1 R0 HY2 HN2 HST HR1
      obtain ⟨ax1', cx1', rfl⟩ := rd_slice R1.out
      obtain ⟨ax0', cx0', rfl⟩ := rd_slice R0.out
      have hl1 : k2 < n - k := by omega
      have hl0 : p2 < n - k := by omega
      clear hp2 r1 r0 hx1 hjL hqL hjM hqM hkM g1 g0
      go_wp2_with fail
      refine wp_region_T (fun w' => w'.cell? ⟨b, o + k + k2, none⟩ = some (.slice ax1' y1'.length cx1') ∧ w'.cell? ⟨b, o + k + p2, none⟩ = some (.slice ax0' y0'.length cx0') ∧ w'.cell? ⟨b, o + kk, none⟩ = some vk) [] (by kernel_rfl) ⟨e1, e0, ek⟩ (fun hHeld => ?_)
      refine wpAnyT_take (i := 0) (v := ?_) rfl (by kernel_rfl) (fun _ _ _ h => h) (Or.inl ⟨by rfl, ?_⟩) (by assumption) ?_
      rotate_left
      ·(intro w hSw; (try dsimp only at hSw); go_simp <;> with_reducible rfl)
      go_simp
      refine wpAnyT_take (i := 1) (v := ?_) rfl (by kernel_rfl) (fun _ _ _ h => h) (Or.inl ⟨by rfl, ?_⟩) (by assumption) ?_
      rotate_left
      ·(intro w hSw; (try dsimp only at hSw); go_simp <;> with_reducible rfl)
      go_simp
      refine wpAnyT_take (i := 2) (v := ?_) rfl (by kernel_rfl) (fun _ _ _ h => h) (Or.inl ⟨by rfl, ?_⟩) (by assumption) ?_
      rotate_left
      ·(intro w hSw; (try dsimp only at hSw); go_simp <;> with_reducible rfl)
      go_simp
      refine wpAnyT_take (i := 3) (v := ?_) rfl (by kernel_rfl) (fun _ _ _ h => h) (Or.inl ⟨by rfl, ?_⟩) (by assumption) ?_
      rotate_left
      ·(intro w hSw; (try dsimp only at hSw); go_simp <;> with_reducible rfl)
      go_simp
      refine wpAnyT_take (i := 4) (v := ?_) rfl (by kernel_rfl) (fun _ _ _ h => h) (Or.inl ⟨by rfl, ?_⟩) (by assumption) ?_
      rotate_left
      ·(intro w hSw; (try dsimp only at hSw); go_simp <;> with_reducible rfl)
      go_simp
      refine wpAnyT_take (i := 5) (v := ?_) rfl (by kernel_rfl) (fun _ _ _ h => h) (Or.inl ⟨by rfl, ?_⟩) (by assumption) ?_
      rotate_left
      ·(intro w hSw; (try dsimp only at hSw); go_simp <;> with_reducible rfl)
      go_simp
      refine wpAnyT_take (i := 6) (v := ?_) rfl (by kernel_rfl) (fun _ _ _ h => h) (Or.inl ⟨by rfl, ?_⟩) (by assumption) ?_
      rotate_left
      ·(intro w hSw; (try dsimp only at hSw); go_simp <;> with_reducible rfl)
      go_simp
      refine wpAnyT_take (i := 7) (v := ?_) rfl (by kernel_rfl) (fun _ _ _ h => h) (Or.inl ⟨by rfl, ?_⟩) (by assumption) ?_
      rotate_left
      ·(intro w hSw; (try dsimp only at hSw); go_simp <;> with_reducible rfl)
      go_simp
      refine wpAnyT_take (i := 8) (v := ?_) rfl (by kernel_rfl) (fun _ _ _ h => h) (Or.inl ⟨by rfl, ?_⟩) (by assumption) ?_
      rotate_left
      ·(intro w hSw; (try dsimp only at hSw); go_simp <;> with_reducible rfl)
      go_simp
      refine wpAnyT_take (i := 9) (v := ?_) rfl (by kernel_rfl) (fun _ _ _ h => h) (Or.inl ⟨by rfl, ?_⟩) (by assumption) ?_
      rotate_left
      ·(intro w hSw; (try dsimp only at hSw); go_simp <;> with_reducible rfl)
      go_simp
      have hv2 : Below wq.heap.size wq wq.drew := bD
      have R1e := Lib.hid (R1.out.below hv2)
      have R0e := Lib.hid (R0.out.below hv2)
      have HSe := Lib.hid (HSM.out.below hv2)
      have HTe := Lib.hid (HTM.out.then (TchP.of_below hv2 _) (fun _ _ h => h))
      have HR1e := Lib.hid (HR1.out.below hv2)
      clear e1 e0 ek fk R1 R0 HR1
      generalize wq.drew = x2 at hHeld hv2 R1e R0e HSe HTe HR1e ⊢
      obtain ⟨e1, e0, ek⟩ := hHeld
      refine wpAnyT_one (i := 10) rfl (by kernel_rfl) (fun K hK => ?_)
      go_simp
      go_at_call 166
      refine (makeRel2_any x2 R1e.out R0e.out).mono ?_
      rintro e x9 ⟨rfl, hq9⟩
      have hb9 := hq9.below
      have hsb := HSe.out.1
      replace e1 := (cellB hb9 (by omega)).trans e1
      replace e0 := (cellB hb9 (by omega)).trans e0
      replace ek := (cellB hb9 (by omega)).trans ek
      replace HR1e := Lib.hid (HR1e.out.below hb9)
      replace HSe := Lib.hid (HSe.out.below hb9)
      replace HTe := Lib.hid (HTe.out.then (TchP.of_below hb9 _) (fun _ _ h => h))
      dsimp only
      refine hK.out _ _ ⟨e1, e0, ek⟩ (fun hHeld => ?_)
      clear hK K
      refine wpAnyT_take (i := 11) (v := ?_) rfl (by kernel_rfl) (fun _ _ _ h => h) (Or.inl ⟨by rfl, ?_⟩) (by assumption) ?_
      rotate_left
      ·(intro w hSw; (try dsimp only at hSw); go_simp <;> with_reducible rfl)
      go_simp
      refine wpAnyT_done (by kernel_rfl) ?_ _
      go_simp
      clear hHeld R1e R0e
      have fk := HSe.out.2.1 (o + kk)
      cases hq2 : eqB y1' y0'
      ·go_wp2_with fail
       go_roundw
       case rel => exact ⟨kk + 1, k2 + 1, _, by go_num, by go_num, by omega, by omega, HN2.out hq2, HST.out _ HSe.out HR1e.out, HTe.out.then tchP_cell (fun _ _ h => h)⟩
       case measure => simp [intOf]; omega
      ·go_wp2_with fail
       go_roundw
       case rel => exact ⟨kk, k2 + 1, M, rfl, by go_num, by omega, by omega, HY2.out hq2, HSe.out, HTe.out⟩
       case measure => simp [intOf]; omega
     ·have hend : k + k2 = n := by omega
      have hkn3 : kk < n := by omega
      have hcl : ∀ ty, (Builtin.clear_ #[29] ty #[.slice (some ⟨b, o + kk, none⟩) (n - kk) (c - kk)]).run Tryz.prog wq = .ok (.tuple #[]) (wq.setCells b (o + kk) (List.replicate (n - kk) (.slice none 0 0))) :=
       fun ty => Lib.run_clear_slice wq 29 38 ty (.slice none 0 0) (by kernel_rfl) (fun _ => by kernel_rfl) rfl rfl b (o + kk) _ _ (by omega) (fun j hj => by
        rw [show o + kk + j = o + (kk + j) by omega, (HSM.out.2.2 (kk + j) (by rw [HML.out]; omega)).1]; rfl) (fun j hj => HSM.out.2.1 _)
      have HE : Hid ((ddL L).length = kk ∧ ddL L = M.take kk) := by
       have h := HB.out
       rw [hend, ← HL.out] at h
       exact ⟨cmB_len h, cmB_end h⟩
      go_wp2_with fail
      go_ret
      refine ⟨by rw [HE.out.1]; rfl, ?_⟩
      obtain ⟨g1, g2⟩ := SR.clear (b := b) (o := o) (L := ddL L) (List.replicate (n - kk) (.slice none 0 0)) kk wq (by rw [HE.out.1]; exact Nat.le_refl _) (by rw [HE.out.2]; exact HSM.out.take kk)
      exact ⟨g1, HTM.out.then g2 (fun _ _ h => h)⟩
  ·obtain rfl : k = n := by omega
   go_wp2_with fail
   go_ret
   have e : ddL L = L := cmA_end (by rw [HL.out]; exact HA.out)
   exact ⟨by rw [e, HL.out]; rfl, by rw [e]; exact HS.out, HT.out⟩
end Go.Proofs.YtajmjfbejfiipaaGreat
