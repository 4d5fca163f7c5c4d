/-
Contracts: an operation that breaks a relation, the program's.
Contracts: an operation that breaks a relation, the program's, whole.
A region that draws its order and holds one alloc and one store into it besides loads and calls that make new memory: one account serves every order. The box's block is a ghost. No program is named here.
Contracts: an operation that breaks a relation, the reference's.
-/
import Derived.Test.YtccobadobklbpaaQBD
import Derived.Test.YtccobadobklbpaaQAD
namespace Go.Proofs.Ytccobadobklbpaa
open Go.RowKit Go.Sort
/-- the first tuple of the hull that is not in the relation -/
noncomputable def boI (t : Tpl) (r : RelV) : Option Nat := (roV t r).2.findIdx? fun v => !(tb (v ∈ r.2))
noncomputable def boC (t : Tpl) (r : RelV) : Int := match roC t r == 0, boI t r with
  | false, _ => roC t r
  | true, none => 6
  | true, some _ => 0
noncomputable def boO (t : Tpl) (r : RelV) : Int × List Int := match roC t r == 0, boI t r with
  | true, some i => (roO t r).getD i (0, [])
  | _, _ => (0, [])
noncomputable def boT (t : Tpl) (r : RelV) : List Int := match roC t r == 0, boI t r with
  | true, some i => (roV t r).2.getD i []
  | _, _ => []
section
variable {t : Tpl} {r : RelV}
theorem bo_no (h : (roC t r == 0) = false) : boC t r = roC t r ∧ boO t r = (0, []) ∧ boT t r = [] := by simp [boC, boO, boT, h]
theorem bo_none (h : roC t r = 0) (h1 : ∀ v ∈ (roV t r).2, tb (v ∈ r.2) = true) : boC t r = 6 ∧ boO t r = (0, []) ∧ boT t r = [] := by
  have h2 : boI t r = none := by
    unfold boI
    rw [List.findIdx?_eq_none_iff]
    intro v hv
    rw [h1 v hv]
    rfl
  simp [boC, boO, boT, h, h2]
theorem bo_some (h : roC t r = 0) {k : Nat} (hk : k < (roV t r).2.length) (ho : k < (roO t r).length) (h0 : ∀ v ∈ (roV t r).2.take k, tb (v ∈ r.2) = true) (h1 : tb ((roV t r).2[k] ∈ r.2) = false) : boC t r = 0 ∧ boO t r = (roO t r)[k] ∧ boT t r = (roV t r).2[k] := by
  have h2 : boI t r = some k := by
    unfold boI
    rw [List.findIdx?_eq_some_iff_getElem]
    refine ⟨hk, by rw [h1]; rfl, fun j hj => ?_⟩
    have hj' : j < ((roV t r).2.take k).length := by rw [List.length_take]; omega
    have := h0 ((roV t r).2.take k)[j] (List.getElem_mem hj')
    rw [List.getElem_take] at this
    rw [this]
    simp
  simp [boC, boO, boT, h, h2, List.getD_eq_getElem?_getD, hk, ho]
/-- what comes of a code 0 -/
theorem ro_zero (h : roC t r = 0) : tplOk t ∧ relOk t.1 r ∧ huC t r.2 = 0 ∧ limF t r.2.length = false ∧ roV t r = ((huM r.2 : Int), hulR t r.2 (hulN t r.2)) ∧ roO t r = hulO t r.2 (hulN t r.2) := by
  cases h1 : tb (tplOk t)
  · rw [(ro_1 h1).1] at h; cases h
  cases h2 : tb (relOk t.1 r)
  · rw [(ro_2 h1 h2).1] at h; cases h
  cases h3 : decide (3 < (r.2.length : Int))
  · cases h4 : ((r.2.length : Int) == 0)
    · obtain ⟨e1, e2, e3⟩ := ro_5 h1 h2 h3 h4
      rw [e1] at h
      rw [e2, e3]
      cases h5 : limF t r.2.length
      · cases h6 : hulB t r.2 (hulN t r.2)
        · exact ⟨tb_iff.1 h1, tb_iff.1 h2, (ro_hu h1 h2 h3 h4).1, rfl, (hl_ok h5 h6).2.1, (hl_ok h5 h6).2.2⟩
        · rw [(hl_bad h5 h6).1] at h; cases h
      · rw [(hl_lim h5).1] at h; cases h
    · rw [(ro_4 h1 h2 h3 h4).1] at h; cases h
  · rw [(ro_3 h1 h2 h3).1] at h; cases h
theorem ro_len (h : roC t r = 0) : (roO t r).length = (roV t r).2.length ∧ (roV t r).2.length ≤ 256 := by
  obtain ⟨h1, -, h3, -, h4, h5⟩ := ro_zero h
  rw [h4, h5]
  refine ⟨by simp [hulO, hulR], Nat.le_trans hulR_len (hulN_bd h1 (hu_ok h3).2.2.1).2⟩
theorem ro_at (h : roC t r = 0) {k : Nat} (hk : k < (roV t r).2.length) (ho : k < (roO t r).length) : ((roV t r).2[k]).length = huM r.2 ∧ (∀ a ∈ (roV t r).2[k], 0 ≤ a ∧ a ≤ t.1 - 1) ∧ (roO t r)[k] = phV t r.2.length (colsL r.2 (huM r.2)) (roV t r).2[k] ∧ phC t r.2.length (colsL r.2 (huM r.2)) (roV t r).2[k] = 0 ∧ ((roO t r)[k]).2.length ≤ 64 := by
  obtain ⟨h1, -, h3, h3', h4, h5⟩ := ro_zero h
  have hT := hu_ok h3
  have hs := h1.1
  unfold sizeOk at hs
  simp only [h4, h5] at hk ho ⊢
  have hJ : k < (hulJ t r.2 (hulN t r.2)).length := by simpa [hulR] using hk
  have e1 : (hulR t r.2 (hulN t r.2))[k] = hulD t r.2 ((hulJ t r.2 (hulN t r.2))[k]) := by simp [hulR]
  have e2 : (hulO t r.2 (hulN t r.2))[k] = phV t r.2.length (colsL r.2 (huM r.2)) (hulD t r.2 ((hulJ t r.2 (hulN t r.2))[k])) := by simp [hulO]
  have hm := (List.mem_filter.1 (List.getElem_mem hJ)).2
  rw [e1, e2]
  refine ⟨hulD_len, hulD_in (by omega), rfl, by simpa [hulP] using hm, ?_⟩
  unfold phV
  cases wF t r.2.length (colsL r.2 (huM r.2)) (hulD t r.2 ((hulJ t r.2 (hulN t r.2))[k])) with
  | none => exact Nat.zero_le _
  | some f =>
    have hNb := tabN_bd (tabN_of h1.1 (ar := ((r.2.length : Int)).toNat) (by omega) (tabL_of h1))
    exact Nat.le_trans fo_len hNb.2
end
set_option maxHeartbeats 1600000 in
theorem ownOp_any (w : World) {cs : Array Value} {x : Int × List Int} (h : opT.Rd w cs.toList x) (hl : x.2.length ≤ 1000000) :
    Calls Try.prog 71 #[.agg cs] w (RetA opT w x) := by
  obtain ⟨v1, hv1, hI, hx⟩ := pair_ex h
  obtain rfl := agg_of hv1
  obtain ⟨la, lc, rfl⟩ := rd_slice hx
  have HX := Lib.hid hx
  clear h hv1 hx
  go_enter Try.func71, Try.ntmps71
  go_wp2_with fail
  generalize hW : World.alloc (World.alloc w _) _ = W
  have hbW : Below w.heap.size w W := hW ▸ bAA
  have hsW : w.heap.size + 2 ≤ W.heap.size := by rw [← hW]; simp
  have c0 : W.cell? ⟨w.heap.size, 0, none⟩ = some (.int .i64 x.1) := by rw [← hW]; simp [go_sem]
  have c1 : W.cell? ⟨w.heap.size, 1, none⟩ = some (.slice la x.2.length lc) := by rw [← hW]; simp [go_sem]
  have r0 : W.cell? ⟨w.heap.size + 1, 0, none⟩ = some (.int .i64 0) := by rw [← hW]; simp [go_sem]
  have r1 : W.cell? ⟨w.heap.size + 1, 1, none⟩ = some (.slice none 0 0) := by rw [← hW]; simp [go_sem]
  have q0 : W.frozen? ⟨w.heap.size + 1, 0, none⟩ = false := by rw [← hW]; simp [go_sem]
  have q1 : W.frozen? ⟨w.heap.size + 1, 1, none⟩ = false := by rw [← hW]; simp [go_sem]
  clear hW
  refine wp_region_T (fun w' => w'.cell? ⟨w.heap.size, 0, none⟩ = some (.int .i64 x.1) ∧ w'.cell? ⟨w.heap.size, 1, none⟩ = some (.slice la x.2.length lc)) [6] (by kernel_rfl) ⟨c0, c1⟩ (fun hHeld => ?_)
  refine wpAnyT_take (i := 0) (v := ?_) rfl (by kernel_rfl) (fun _ _ _ h => h) (Or.inl ⟨by rfl, ?_⟩) (by assumption) ?_
  rotate_left
  · (intro w hSw; (try dsimp only at hSw); go_simp <;> with_reducible rfl)
  go_simp
  refine wpAnyT_take (i := 1) (v := ?_) rfl (by kernel_rfl) (fun _ _ _ h => h) (Or.inl ⟨by rfl, ?_⟩) (by assumption) ?_
  rotate_left
  · (intro w hSw; (try dsimp only at hSw); go_simp <;> with_reducible rfl)
  go_simp
  refine wpAnyT_take (i := 2) (v := ?_) rfl (by kernel_rfl) (fun _ _ _ h => h) (Or.inl ⟨by rfl, ?_⟩) (by assumption) ?_
  rotate_left
  · (intro w hSw; (try dsimp only at hSw); go_simp <;> with_reducible rfl)
  go_simp
  refine wpAnyT_take (i := 3) (v := ?_) rfl (by kernel_rfl) (fun _ _ _ h => h) (Or.inl ⟨by rfl, ?_⟩) (by assumption) ?_
  rotate_left
  · (intro w hSw; (try dsimp only at hSw); go_simp <;> with_reducible rfl)
  go_simp
  refine wpAnyT_one (i := 4) rfl (by kernel_rfl) (fun K hK => ?_)
  go_simp
  go_at_call 72
  refine (Clone_any _ (HX.out.below (bthen hbW bD)) hl).mono ?_
  rintro e w1 ⟨u, rfl, hf, hb1⟩
  have hb1' : Below W.heap.size W w1 := bthen (bD (w := W)) hb1
  have hB1 := bthen hbW hb1'
  obtain ⟨ua, uc, rfl⟩ := fr_slice hf
  have HF := Lib.hid hf
  have hz1 := hb1'.size
  replace c0 := (cellB hb1' (by omega)).trans c0
  replace c1 := (cellB hb1' (by omega)).trans c1
  replace r0 := (cellB hb1' (by omega)).trans r0
  replace r1 := (cellB hb1' (by omega)).trans r1
  replace q0 := (frozenB hb1' (by omega)).trans q0
  replace q1 := (frozenB hb1' (by omega)).trans q1
  clear hf
  dsimp only
  refine hK.out _ _ ⟨c0, c1⟩ (fun hHeld => ?_)
  clear hK K
  refine wpAnyT_one (i := 5) rfl (by kernel_rfl) (fun K hK => ?_)
  go_simp
  refine hK.out _ _ ⟨c0, c1⟩ (fun hHeld => ?_)
  clear hK K
  refine wpAnyT_last (i := 6) rfl (by kernel_rfl) (by kernel_rfl) (fun K hK => ?_)
  go_simp
  have z0 := res2_0 (x := .int .i64 x.1) (y := .slice ua x.2.length uc) r0
  have z1 := res2_1 (x := .int .i64 x.1) (y := .slice ua x.2.length uc) r1
  have hf2 := (HF.out.set (a := ⟨w.heap.size + 1, 0, none⟩) (u := .int .i64 x.1) (show w.heap.size + 1 < W.drew.heap.size by simp; omega)).set (a := ⟨w.heap.size + 1, 1, none⟩) (u := .slice ua x.2.length uc) (show w.heap.size + 1 < W.drew.heap.size by simp; omega)
  have HF2 := Lib.hid (hf2.mono (show w.heap.size ≤ _ by simp; omega))
  have hbz := res2_b (x := .int .i64 x.1) (y := .slice ua x.2.length uc) hB1 (show w.heap.size ≤ w.heap.size + 1 by omega)
  generalize (w1.setCell ⟨w.heap.size + 1, 0, none⟩ (.int .i64 x.1)).setCell ⟨w.heap.size + 1, 1, none⟩ (.slice ua x.2.length uc) = wz at *
  clear hf2
  refine hK.out _ _ ?_
  clear hK K
  refine wpAnyT_done (by kernel_rfl) ?_ _
  go_simp
  go_wp2_with fail
  exact bodyPost_ret (v := .agg #[.int .i64 x.1, .slice ua x.2.length uc]) (by simp [results, Try.results71, go_sem, z0, z1]) rfl ⟨_, rfl, fr_cons hI HF2.out, hbz⟩
end Go.Proofs.Ytccobadobklbpaa
namespace Go.Proofs.Ytccobadobklbpaa
open Go.RowKit Go.Sort
/-- a struct, a slice and a code; each in blocks of its own -/
def RetASC {α β : Type} (E : Ty α) (F : Ty β) (w : World) (x : α) (y : β) (c : Int) (e : Ending) (w' : World) : Prop :=
  ∃ (cs : List Value) (u : Value) (mid : Nat), e = .returned (.tuple #[.agg cs.toArray, u, .int .i64 c]) ∧ w.heap.size ≤ mid ∧ mid ≤ w'.heap.size ∧ E.Fx w.heap.size mid w' cs x ∧ F.Fr mid w' [u] y ∧ Below w.heap.size w w'
theorem fx_op0 {lo hi : Nat} {w : World} : opT.Fx lo hi w [.int .i64 0, .slice none 0 0] (0, []) := by
  obtain ⟨fp, h1, h2, h3, h4⟩ := fr_op0 (base := 0) (w := w)
  obtain ⟨cs, he, hI, ad, cap, hc, g1, g2, g3⟩ := h1
  rcases g3 with ⟨-, rfl⟩ | ⟨g3, -⟩
  · exact ⟨[], ⟨cs, he, hI, ad, cap, hc, g1, g2, .inl ⟨rfl, rfl⟩⟩, List.nodup_nil, (fun b hb => by cases hb), (fun b hb => by cases hb)⟩
  · simp at g3
theorem Ty.Fx.fx_set {α : Type} {E : Ty α} {lo hi : Nat} {w : World} {cs : List Value} {x : α} {a : Addr} {u : Value} (h : E.Fx lo hi w cs x) (ha : a.block < lo) : E.Fx lo hi (w.setCell a u) cs x :=
  let ⟨fp, h1, h2, h3, h4⟩ := h
  have hs : Same fp w (w.setCell a u) := fun k hk => Below.heap_setCell w a u k (fun e => by have := (h3 k hk).1; omega)
  ⟨fp, E.same h1 hs, h2, h3, h4.same hs⟩
theorem Ty.Fx.fx_lo {α : Type} {E : Ty α} {lo lo' hi : Nat} {w : World} {cs : List Value} {x : α} (h : E.Fx lo hi w cs x) (hl : lo' ≤ lo) : E.Fx lo' hi w cs x :=
  let ⟨fp, h1, h2, h3, h4⟩ := h
  ⟨fp, h1, h2, fun b hb => ⟨Nat.le_trans hl (h3 b hb).1, (h3 b hb).2⟩, h4⟩
set_option maxHeartbeats 3200000 in
set_option maxRecDepth 100000 in
theorem BreakingOp_any (w : World) {cs cr : Array Value} {t : Tpl} {r : RelV} (h : tplT.Rd w cs.toList t) (hr : relT.Rd w cr.toList r) :
    Calls Try.prog 34 #[.agg cs, .agg cr] w (RetASC opT intsT w (boO t r) (boT t r) (boC t r)) := by
  have HP := Lib.hid h
  have HR := Lib.hid hr
  obtain ⟨v1, hv1, -, -⟩ := pair_ex h
  obtain rfl := agg_of hv1
  obtain ⟨v2, hv2, -, hx⟩ := pair_ex hr
  obtain rfl := agg_of hv2
  obtain ⟨la, lc, rfl⟩ := rd_slice hx
  clear h hr hv1 hv2 hx
  go_enter Try.func34, Try.ntmps34
  go_wp2_with fail
  generalize hW : World.alloc (World.alloc (World.alloc w _) _) _ = W
  have hbW : Below w.heap.size w W := hW ▸ bthen bAA bA
  have hsW : w.heap.size + 3 ≤ W.heap.size := by rw [← hW]; simp
  have t0 : W.cell? ⟨w.heap.size, 0, none⟩ = some (.int .i64 t.1) := by rw [← hW]; simp [go_sem]
  have t1 : W.cell? ⟨w.heap.size, 1, none⟩ = some v1 := by rw [← hW]; simp [go_sem]
  have d0 : W.cell? ⟨w.heap.size + 1, 0, none⟩ = some (.int .i64 r.1) := by rw [← hW]; simp [go_sem]
  have d1 : W.cell? ⟨w.heap.size + 1, 1, none⟩ = some (.slice la r.2.length lc) := by rw [← hW]; simp [go_sem]
  have r0 : W.cell? ⟨w.heap.size + 1 + 1, 0, none⟩ = some (.int .i64 0) := by rw [← hW]; simp [go_sem]
  have r1 : W.cell? ⟨w.heap.size + 1 + 1, 1, none⟩ = some (.slice none 0 0) := by rw [← hW]; simp [go_sem]
  have q0 : W.frozen? ⟨w.heap.size + 1 + 1, 0, none⟩ = false := by rw [← hW]; simp [go_sem]
  have q1 : W.frozen? ⟨w.heap.size + 1 + 1, 1, none⟩ = false := by rw [← hW]; simp [go_sem]
  clear hW
  refine (hullOfRel_any _ (HP.out.below hbW) (HR.out.below hbW)).mono ?_
  rintro e w2 ⟨cs2, u2, rfl, hf2, ho2, hb2⟩
  obtain ⟨a2, c2, rfl⟩ := fr_pair hf2
  have HF2 := Lib.hid hf2.rd
  have HO2 := Lib.hid ho2.rd
  obtain ⟨oa, oc, rfl⟩ := rd_slice ho2.rd
  have hB2 := bthen hbW hb2
  have hz2 := hb2.size
  replace d0 := (cellB hb2 (by omega)).trans d0
  replace d1 := (cellB hb2 (by omega)).trans d1
  replace r0 := (cellB hb2 (by omega)).trans r0
  replace r1 := (cellB hb2 (by omega)).trans r1
  replace q0 := (frozenB hb2 (by omega)).trans q0
  replace q1 := (frozenB hb2 (by omega)).trans q1
  have hl2 : w.heap.size + 3 ≤ w2.heap.size := by omega
  clear hf2 ho2 t0 t1
  have x0' : ∀ q, (w2.alloc q).cell? ⟨w.heap.size + 1 + 1, 0, none⟩ = some (.int .i64 0) := fun q => (cellB bA (show w.heap.size + 1 + 1 < w2.heap.size by omega)).trans r0
  have x1' : ∀ q, (w2.alloc q).cell? ⟨w.heap.size + 1 + 1, 1, none⟩ = some (.slice none 0 0) := fun q => (cellB bA (show w.heap.size + 1 + 1 < w2.heap.size by omega)).trans r1
  have y0' : ∀ q, (w2.alloc q).frozen? ⟨w.heap.size + 1 + 1, 0, none⟩ = false := fun q => (frozenB bA (show w.heap.size + 1 + 1 < w2.heap.size by omega)).trans q0
  have y1' : ∀ q, (w2.alloc q).frozen? ⟨w.heap.size + 1 + 1, 1, none⟩ = false := fun q => (frozenB bA (show w.heap.size + 1 + 1 < w2.heap.size by omega)).trans q1
  cases hc : (roC t r == 0)
  · have HE := Lib.hid (bo_no hc)
    have hc1 : (roC t r != 0) = true := by simpa using hc
    have HZ0 := Lib.hid (fun (x y : Value) (q : Obj) => res2_0 (x := x) (y := y) (x0' q))
    have HZ1 := Lib.hid (fun (x y : Value) (q : Obj) => res2_1 (x := x) (y := y) (x1' q))
    clear hc
    generalize roC t r = C at *
    go_wp2_with fail
    refine bodyPost_ret (v := .tuple #[.agg #[.int .i64 0, .slice none 0 0], .slice none 0 0, .int .i64 C]) (by simp [results, Try.results34, go_sem, HZ0.out, HZ1.out]) rfl ⟨[.int .i64 0, .slice none 0 0], .slice none 0 0, w.heap.size, by rw [HE.out.1], Nat.le_refl _, ?_, ?_, ?_, res2_b (hB2.alloc (by omega) _) (by omega)⟩
    · simp [World.setCell]; omega
    · rw [HE.out.2.1]; exact fx_op0
    · rw [HE.out.2.2]; exact fr_nil
  · have hc0 : roC t r = 0 := by simpa using hc
    have HC0 := Lib.hid hc0
    have HLE := Lib.hid (ro_len hc0)
    have HSO := Lib.hid (relOk_sorted (ro_zero hc0).2.1)
    have hle := (ro_len hc0).2
    rw [hc0]
    clear hc hc0
    have HHT : Hid (rowsT.Rd w2 [.slice a2 (roV t r).2.length c2] (roV t r).2) := by
      obtain ⟨vx, hvx, -, hx⟩ := pair_ex HF2.out
      simp only [List.cons.injEq, and_true, true_and] at hvx
      rw [hvx]
      exact hx
    go_wp2_with fail
    generalize hW3 : World.alloc w2 _ = w3
    have hb3 : Below w2.heap.size w2 w3 := hW3 ▸ bA
    have hB3 := bthen hB2 hb3
    have hz3 := hb3.size
    replace d0 := (cellB hb3 (by omega)).trans d0
    replace d1 := (cellB hb3 (by omega)).trans d1
    replace r0 := (cellB hb3 (by omega)).trans r0
    replace r1 := (cellB hb3 (by omega)).trans r1
    replace q0 := (frozenB hb3 (by omega)).trans q0
    replace q1 := (frozenB hb3 (by omega)).trans q1
    have HH3 := Lib.hid (HHT.out.below hb3)
    have HO3 := Lib.hid (HO2.out.below hb3)
    clear hW3 x0' x1' y0' y1' HHT HO2 hb3
    go_loopw [26] (fun i wr => ∃ k : Nat, k ≤ (roV t r).2.length ∧ i = .int .i64 k ∧ (∀ v ∈ (roV t r).2.take k, tb (v ∈ r.2) = true) ∧ Below w3.heap.size w3 wr) (fun i _ => (roV t r).2.length - (intOf i).toNat)
    case atStart => exact ⟨0, Nat.zero_le _, rfl, fun v hv => by simp at hv, Below.refl _ _⟩
    case round =>
      obtain ⟨k, hk, rfl, hup, hbr⟩ := hrel
      have HUP := Lib.hid hup
      have hBr := bthen hB3 hbr
      have hzr := hbr.size
      obtain ⟨wv, rfl⟩ : ∃ wv : World, wv = wr := ⟨_, rfl⟩
      have e0 := (cellB hbr (show w.heap.size + 1 < w3.heap.size by omega)).trans d0
      have e1 := (cellB hbr (show w.heap.size + 1 < w3.heap.size by omega)).trans d1
      have x0 := (cellB hbr (show w.heap.size + 1 + 1 < w3.heap.size by omega)).trans r0
      have x1 := (cellB hbr (show w.heap.size + 1 + 1 < w3.heap.size by omega)).trans r1
      have y0 := (frozenB hbr (show w.heap.size + 1 + 1 < w3.heap.size by omega)).trans q0
      have y1 := (frozenB hbr (show w.heap.size + 1 + 1 < w3.heap.size by omega)).trans q1
      clear hup
      by_cases hkl : k < (roV t r).2.length
      · have hko : k < (roO t r).length := by have := HLE.out.1; omega
        obtain ⟨_, _, hx, -, -, hxe⟩ := slices_ex (HH3.out.below hbr)
        simp only [List.cons.injEq, Value.slice.injEq, and_true, true_and] at hx
        obtain ⟨rfl, rfl⟩ := hx
        obtain ⟨hb0, ho0, rfl, hhb, hce⟩ := hxe (by omega)
        obtain ⟨ux, hux, hck⟩ := hce k hkl
        obtain ⟨ka, kc, rfl⟩ := rd_slice hux
        have HX := Lib.hid hux
        obtain ⟨_, _, hx, -, -, hxo⟩ := pairs_ex (HO3.out.below hbr)
        simp only [List.cons.injEq, Value.slice.injEq, and_true, true_and] at hx
        obtain ⟨rfl, rfl⟩ := hx
        obtain ⟨pb, po, rfl, hpb, hpe⟩ := hxo (by omega)
        obtain ⟨uo, huo, hIo, hp0, hp1⟩ := hpe k hko
        obtain ⟨pa, pc, rfl⟩ := rd_slice huo
        have HOX := Lib.hid huo
        have hat := ro_at HC0.out hkl hko
        have HAT := Lib.hid hat
        have hlx : ((roV t r).2[k]).length ≤ 1000000 := by
          rw [hat.1]
          have := (hu_ok (ro_zero HC0.out).2.2.1).2.2.1
          omega
        have hlo := hat.2.2.2.2
        have HSM := Lib.hid (fun h1 => bo_some HC0.out hkl hko HUP.out h1)
        have HTK : Hid (tb ((roV t r).2[k] ∈ r.2) = true → ∀ v ∈ (roV t r).2.take (k + 1), tb (v ∈ r.2) = true) := fun h1 v hv => by
          rw [List.take_succ_eq_append_getElem hkl, List.mem_append] at hv
          rcases hv with hv | hv
          · exact HUP.out v hv
          · simp only [List.mem_singleton] at hv; rw [hv]; exact h1
        generalize hV : (roV t r).2[k] = V at *
        generalize hO : (roO t r)[k] = O at *
        clear hxe hce hux hxo hpe huo hat hV hO
        go_wp2_with fail
        refine (has_any _ (HR.out.below hBr) HX.out HSO.out).mono ?_
        rintro e w4 ⟨rfl, hb4⟩
        have hB4 := bthen hBr hb4
        have hz4 := hb4.size
        replace x0 := (cellB hb4 (by omega)).trans x0
        replace x1 := (cellB hb4 (by omega)).trans x1
        replace y0 := (frozenB hb4 (by omega)).trans y0
        replace y1 := (frozenB hb4 (by omega)).trans y1
        replace hp0 := (cellB hb4 hpb).trans hp0
        replace hp1 := (cellB hb4 hpb).trans hp1
        clear hck
        cases hh : tb (V ∈ r.2)
        · have HE := Lib.hid (HSM.out hh)
          clear hh
          go_wp2_with fail
          refine (ownOp_any _ (cs := #[.int .i64 O.1, .slice pa O.2.length pc]) (pair_mk hIo (HOX.out.below hb4)) (show O.2.length ≤ 1000000 by omega)).mono ?_
          rintro e w5 ⟨cs5, rfl, hf5, hb5⟩
          obtain ⟨a5, c5, rfl⟩ := fr_pair hf5
          have HF5 := Lib.hid hf5
          have hB5 := bthen hB4 hb5
          have hz5 := hb5.size
          replace x0 := (cellB hb5 (by omega)).trans x0
          replace x1 := (cellB hb5 (by omega)).trans x1
          replace y0 := (frozenB hb5 (by omega)).trans y0
          replace y1 := (frozenB hb5 (by omega)).trans y1
          clear hf5 hp0 hp1
          go_wp2_with fail
          refine (Clone_any _ (HX.out.below (bthen hb4 hb5)) hlx).mono ?_
          rintro e w6 ⟨u6, rfl, hf6, hb6⟩
          obtain ⟨a6, c6, rfl⟩ := fr_slice hf6
          have HF6 := Lib.hid hf6
          have hB6 := bthen hB5 hb6
          have hz6 := hb6.size
          replace x0 := (cellB hb6 (by omega)).trans x0
          replace x1 := (cellB hb6 (by omega)).trans x1
          replace y0 := (frozenB hb6 (by omega)).trans y0
          replace y1 := (frozenB hb6 (by omega)).trans y1
          have hl6 : w.heap.size + 1 + 1 < w6.heap.size := by omega
          have HZ0 := Lib.hid (fun (x y : Value) => res2_0 (x := x) (y := y) x0)
          have HZ1 := Lib.hid (fun (x y : Value) => res2_1 (x := x) (y := y) x1)
          clear hf6
          go_wp2_with fail
          refine bodyPost_ret (v := .tuple #[.agg #[.int .i64 O.1, .slice a5 O.2.length c5], .slice a6 V.length c6, .int .i64 0]) (by simp [results, Try.results34, go_sem, HZ0.out, HZ1.out]) rfl ⟨[.int .i64 O.1, .slice a5 O.2.length c5], .slice a6 V.length c6, w5.heap.size, by rw [HE.out.1], by omega, by simp [World.setCell]; omega, ?_, ?_, res2_b hB6 (by omega)⟩
          · rw [HE.out.2.1]
            have h1 := ((HF5.out.fx.below hb6).fx_set (a := ⟨w.heap.size + 1 + 1, 0, none⟩) (u := .int .i64 O.1) (show w.heap.size + 1 + 1 < w4.heap.size by omega)).fx_set (a := ⟨w.heap.size + 1 + 1, 1, none⟩) (u := .slice a5 O.2.length c5) (show w.heap.size + 1 + 1 < w4.heap.size by omega)
            exact h1.fx_lo (by omega)
          · rw [HE.out.2.2]
            exact (HF6.out.set (a := ⟨w.heap.size + 1 + 1, 0, none⟩) (show w.heap.size + 1 + 1 < w5.heap.size by omega)).set (a := ⟨w.heap.size + 1 + 1, 1, none⟩) (show w.heap.size + 1 + 1 < w5.heap.size by omega)
        · have HE := Lib.hid (HTK.out hh)
          clear hh
          go_wp2_with fail
          go_roundw
          case rel => exact ⟨k + 1, by omega, by go_num, HE.out, bthen hbr hb4⟩
          case measure => simp [intOf]; omega
      · obtain rfl : k = (roV t r).2.length := by omega
        have HE := Lib.hid (bo_none HC0.out (fun v hv => HUP.out v (by rw [List.take_length]; exact hv)))
        have HZ0 := Lib.hid (fun (x y : Value) => res2_0 (x := x) (y := y) x0)
        have HZ1 := Lib.hid (fun (x y : Value) => res2_1 (x := x) (y := y) x1)
        have hlw : w.heap.size + 1 + 1 < wv.heap.size := by omega
        go_wp2_with fail
        refine bodyPost_ret (v := .tuple #[.agg #[.int .i64 0, .slice none 0 0], .slice none 0 0, .int .i64 6]) (by simp [results, Try.results34, go_sem, HZ0.out, HZ1.out]) rfl ⟨[.int .i64 0, .slice none 0 0], .slice none 0 0, w.heap.size, by rw [HE.out.1], Nat.le_refl _, ?_, ?_, ?_, res2_b hBr (by omega)⟩
        · simp [World.setCell]; omega
        · rw [HE.out.2.1]; exact fx_op0
        · rw [HE.out.2.2]; exact fr_nil
end Go.Proofs.Ytccobadobklbpaa
namespace Go.Proofs.Ytccobadobklbpaa
open Go.RowKit

/-- a predicate of a value, told which block is the box -/
abbrev OP := Option Nat → VP
inductive Tag | plain | alloc | store
  deriving DecidableEq

/-- all blocks but one are as before -/
structure Bx (b : Nat) (w w' : World) : Prop where
  os : w'.os = w.os
  tape : w'.tape = w.tape
  output : w'.output = w.output
  size : w.heap.size ≤ w'.heap.size
  block : ∀ k, k < w.heap.size → k ≠ b → w'.heap[k]? = w.heap[k]?
  cells : ∀ j, (∃ u, w.cell? ⟨b, j, none⟩ = some u) → ∃ u, w'.cell? ⟨b, j, none⟩ = some u
  frozen : ∀ j, w'.frozen? ⟨b, j, none⟩ = w.frozen? ⟨b, j, none⟩
theorem Bx.setCell (b o : Nat) (w : World) (u : Value) : Bx b w (w.setCell ⟨b, o, none⟩ u) :=
  ⟨rfl, rfl, rfl, by simp [World.setCell], fun k _ hk => Below.heap_setCell _ _ _ _ hk, fun _ ⟨_, h⟩ => cell?_setCell_some h, fun _ => World.frozen?_setCell _ _ _ _⟩
theorem Bx.trans {b : Nat} {w w' w'' : World} (h : Bx b w w') (k : Bx b w' w'') : Bx b w w'' :=
  ⟨k.os.trans h.os, k.tape.trans h.tape, k.output.trans h.output, Nat.le_trans h.size k.size, fun i hi hb => (k.block i (Nat.lt_of_lt_of_le hi h.size) hb).trans (h.block i hi hb), fun j hj => k.cells j (h.cells j hj), fun j => (k.frozen j).trans (h.frozen j)⟩
theorem Bx.refl (b : Nat) (w : World) : Bx b w w := ⟨rfl, rfl, rfl, Nat.le_refl _, fun _ _ _ => rfl, fun _ h => h, fun _ => rfl⟩

/-- what an operation of a kind may do -/
def StepT : Tag → Option Nat → World → Option Nat → World → Prop
  | .plain, o, w, o', w' => o' = o ∧ Below w.heap.size w w'
  | .alloc, _, w, o', w' => o' = some w.heap.size ∧ w.heap.size < w'.heap.size ∧ Below w.heap.size w w'
  | .store, o, w, o', w' => ∃ b, o = some b ∧ o' = some b ∧ Bx b w w'

def boxUpon (P : Program) (g : Tag) (o : Option Nat) (w : World) (Φ : OP) : Result Next → Prop
  | .ok (.value v) w' => ∃ o', StepT g o w o' w' ∧ Φ o' v w'
  | .ok .skip w' => ∃ o', StepT g o w o' w' ∧ Φ o' undef w'
  | .ok (.enter f args) w' => g = .plain ∧ Below w.heap.size w w' ∧ Calls P f args w' fun e w'' => ∃ v, e = .returned v ∧ Below w'.heap.size w' w'' ∧ Φ o v w''
  | _ => False

def writer2 : List Oper → List (Tag × OP) → Tmp → Option OP
  | o :: l, Φ :: Φs, t => if o.dst = some t then some Φ.2 else writer2 l Φs t
  | _, _, _ => none

def slotP2 (l : List Oper) (Φs : List (Tag × OP)) (a : Act) (t : Tmp) : OP := match writer2 l Φs t with
  | some Φ => Φ
  | none => fun _ v _ => v = a.eval (.tmp t)

def JAt2 (P : Program) (l : List Oper) (Φs : List (Tag × OP)) (a : Act) (w : World) (q : Oper) (Φ : Tag × OP) : Prop :=
  ∀ (a' : Act) (w' : World) (o : Option Nat), Below w.heap.size w w' → (∀ b, o = some b → w.heap.size ≤ b ∧ b < w'.heap.size) → (Φ.1 = .alloc → o = none) →
    (∀ t, readsB q t = true → slotP2 l Φs a t o (a'.eval (.tmp t)) w') → boxUpon P Φ.1 o w' Φ.2 ((execOp a'.eval q).run P w')

def JAll2 (P : Program) (l : List Oper) (Φs : List (Tag × OP)) (a : Act) (w : World) : List Oper → List (Tag × OP) → Prop
  | o :: r, Φ :: Φr => JAt2 P l Φs a w o Φ ∧ JAll2 P l Φs a w r Φr
  | [], [] => True
  | _, _ => False

def HAll2 (w : World) (b : Option Nat) : List Oper → List (Tag × OP) → List Value → Prop
  | _ :: l, Φ :: Φs, v :: vs => Φ.2 b v w ∧ HAll2 w b l Φs vs
  | [], [], [] => True
  | _, _, _ => False

/-- predicates that outlast new memory, and the box's being made -/
def StabO (Φ : OP) : Prop := (∀ o v w1 w2, Φ o v w1 → Below w1.heap.size w1 w2 → Φ o v w2) ∧ (∀ v w1 w2, Φ none v w1 → Below w1.heap.size w1 w2 → Φ (some w1.heap.size) v w2)
/-- .. and a store into the box -/
def StabS (Φ : OP) : Prop := ∀ b v w1 w2, Φ (some b) v w1 → Bx b w1 w2 → Φ (some b) v w2
def Indep (Φ : OP) : Prop := ∀ o v v' w, Φ o v w → Φ o v' w
def StG : Tag → OP → Prop
  | .store, Φ => StabO Φ ∧ Indep Φ
  | _, Φ => StabO Φ ∧ StabS Φ
def SAll2 : List (Tag × OP) → Prop
  | Φ :: Φs => StG Φ.1 Φ.2 ∧ SAll2 Φs
  | [] => True
theorem SAll2_mem : ∀ {Φs : List (Tag × OP)}, SAll2 Φs → ∀ Φ ∈ Φs, StG Φ.1 Φ.2
  | _ :: _, h, Φ, hm => by
    rcases List.mem_cons.1 hm with rfl | hm
    · exact h.1
    · exact SAll2_mem h.2 Φ hm
theorem StG.o {g : Tag} {Φ : OP} (h : StG g Φ) : StabO Φ := by cases g <;> exact h.1
theorem StG.s {g : Tag} {Φ : OP} (h : StG g Φ) (hg : g ≠ .store) : StabS Φ := by
  cases g
  · exact h.2
  · exact h.2
  · exact absurd rfl hg

def oneTag (g : Tag) : List Tag → Bool
  | [] => true
  | x :: r => if x = g then r.all (fun y => decide (y ≠ g)) else oneTag g r
theorem oneTag_spec {g : Tag} : ∀ {l : List Tag}, oneTag g l = true → ∀ i j : Nat, l[i]? = some g → l[j]? = some g → i = j
  | [], _, i, j, h, _ => by simp at h
  | x :: r, h, i, j, hi, hj => by
    unfold oneTag at h
    split at h
    · rename_i hx
      have hno : ∀ k : Nat, r[k]? = some g → False := fun k hk => by
        have := List.all_eq_true.1 h g (List.mem_of_getElem? hk)
        simp at this
      match i, j with
      | 0, 0 => rfl
      | 0, j + 1 => exact (hno j (by simpa using hj)).elim
      | i + 1, _ => exact (hno i (by simpa using hi)).elim
    · rename_i hx
      match i, j with
      | 0, _ => simp at hi; exact absurd hi hx
      | _ + 1, 0 => simp at hj; exact absurd hj hx
      | i + 1, j + 1 => rw [oneTag_spec h i j (by simpa using hi) (by simpa using hj)]
/-- what holds of the region's form -/
def boxB (l : List Oper) (gs : List Tag) (n : Nat) : Bool :=
  looseB l n && oneTag .alloc gs && oneTag .store gs && (l.zip gs).all (fun x => x.1.dst.isSome || decide (x.2 = .store))

theorem writer2_some {l : List Oper} {Φs : List (Tag × OP)} {t : Tmp} {Φ : OP} (h : writer2 l Φs t = some Φ) : ∃ (j : Nat) (o : Oper) (g : Tag), l[j]? = some o ∧ o.dst = some t ∧ Φs[j]? = some (g, Φ) := by
  induction l generalizing Φs with
  | nil => simp [writer2] at h
  | cons o l ih =>
    cases Φs with
    | nil => simp [writer2] at h
    | cons Φ' Φs =>
      simp only [writer2] at h
      split at h
      · rename_i hd
        obtain rfl : Φ'.2 = Φ := by simpa using h
        exact ⟨0, o, Φ'.1, rfl, hd, rfl⟩
      · obtain ⟨j, o', g, h1, h2, h3⟩ := ih h
        exact ⟨j + 1, o', g, h1, h2, h3⟩
theorem writer2_none {l : List Oper} {Φs : List (Tag × OP)} {t : Tmp} (hl : l.length = Φs.length) (h : writer2 l Φs t = none) : ∀ (j : Nat) (o : Oper), l[j]? = some o → o.dst ≠ some t := by
  induction l generalizing Φs with
  | nil => intro j o h; simp at h
  | cons q l ih =>
    cases Φs with
    | nil => simp at hl
    | cons Φ' Φs =>
      simp only [writer2] at h
      split at h
      · cases h
      · rename_i hd
        intro j o ho
        match j with
        | 0 => simp at ho; subst ho; exact hd
        | j + 1 => exact ih (by simpa using hl) h j o (by simpa using ho)
theorem JAll2_len {P : Program} {l : List Oper} {Φs : List (Tag × OP)} {a : Act} {w : World} : ∀ {r : List Oper} {Φr : List (Tag × OP)}, JAll2 P l Φs a w r Φr → r.length = Φr.length
  | [], [], _ => rfl
  | _ :: _, _ :: _, h => by simp [JAll2_len h.2]
  | [], _ :: _, h => by cases h
  | _ :: _, [], h => by cases h
theorem JAll2_get {P : Program} {l : List Oper} {Φs : List (Tag × OP)} {a : Act} {w : World} : ∀ {r : List Oper} {Φr : List (Tag × OP)}, JAll2 P l Φs a w r Φr → ∀ {i : Nat} {o : Oper} {Φ : Tag × OP}, r[i]? = some o → Φr[i]? = some Φ → JAt2 P l Φs a w o Φ
  | [], _, _, i, o, Φ, h, _ => by simp at h
  | q :: r, [], h, _, _, _, _, _ => by cases h
  | q :: r, Φ' :: Φr, hj, i, o, Φ, h, h' => by
    match i with
    | 0 => simp at h h'; subst h; subst h'; exact hj.1
    | i + 1 => exact JAll2_get hj.2 (by simpa using h) (by simpa using h')

/-- the value that an operation left, undef if it names no slot -/
def valD (a : Act) (q : Oper) : Value := match q.dst with | some d => a.eval (.tmp d) | none => undef

/-- where the region stands -/
structure BInv (l : List Oper) (Φs : List (Tag × OP)) (a : Act) (w : World) (listed : Array Bool) (a' : Act) (w' : World) (b : Option Nat) : Prop where
  below : Below w.heap.size w w'
  size : listed.size = l.length
  defers : a'.defers = a.defers
  tsize : a'.tmps.size = a.tmps.size
  old : ∀ t, (∀ (j : Nat) (o : Oper), l[j]? = some o → o.dst = some t → listed.getD j false = false) → a'.tmps[t]? = a.tmps[t]?
  new : ∀ (j : Nat) (o : Oper) (Φ : Tag × OP), l[j]? = some o → Φs[j]? = some Φ → listed.getD j false = true → Φ.2 b (valD a' o) w'
  box : ∀ k, b = some k → w.heap.size ≤ k ∧ k < w'.heap.size
  nob : ∀ (j : Nat) (Φ : Tag × OP), Φs[j]? = some Φ → Φ.1 = .alloc → listed.getD j false = false → b = none

theorem getD_set_self {listed : Array Bool} {i : Nat} (h : i < listed.size) : (listed.setIfInBounds i true).getD i false = true := by
  rw [Array.getD_eq_getD_getElem?, Array.getElem?_setIfInBounds_self_of_lt h]; rfl

theorem tag_get {Φs : List (Tag × OP)} {i : Nat} {Φ : Tag × OP} (h : Φs[i]? = some Φ) : (Φs.map Prod.fst)[i]? = some Φ.1 := by simp [h]

theorem boxB_spec {l : List Oper} {gs : List Tag} {n : Nat} (h : boxB l gs n = true) :
    looseB l n = true ∧ (∀ i j : Nat, gs[i]? = some Tag.alloc → gs[j]? = some Tag.alloc → i = j) ∧ (∀ i j : Nat, gs[i]? = some Tag.store → gs[j]? = some Tag.store → i = j) ∧
      ∀ (i : Nat) (q : Oper) (g : Tag), l[i]? = some q → gs[i]? = some g → q.dst = none → g = .store := by
  simp only [boxB, Bool.and_eq_true] at h
  obtain ⟨⟨⟨h1, h2⟩, h3⟩, h4⟩ := h
  refine ⟨h1, oneTag_spec h2, oneTag_spec h3, fun i q g hq hg hd => ?_⟩
  have hm : (q, g) ∈ l.zip gs := by
    apply List.mem_of_getElem? (i := i)
    rw [List.getElem?_zip_eq_some]
    exact ⟨hq, hg⟩
  have := List.all_eq_true.1 h4 _ hm
  simpa [hd] using this

theorem StepT.below {g : Tag} {w w' w'' : World} {o o' : Option Nat} (h : StepT g o w' o' w'') (hb : Below w.heap.size w w') (hk : ∀ k, o = some k → w.heap.size ≤ k ∧ k < w'.heap.size) : Below w.heap.size w w'' ∧ ∀ k, o' = some k → w.heap.size ≤ k ∧ k < w''.heap.size := by
  cases g with
  | plain =>
    obtain ⟨rfl, h⟩ := h
    exact ⟨bthen hb h, fun k he => ⟨(hk k he).1, Nat.lt_of_lt_of_le (hk k he).2 h.size⟩⟩
  | alloc =>
    obtain ⟨rfl, hs, h⟩ := h
    exact ⟨bthen hb h, fun k he => by simp at he; subst he; exact ⟨hb.size, hs⟩⟩
  | store =>
    obtain ⟨b, rfl, rfl, h⟩ := h
    have := hk b rfl
    exact ⟨hb.trans ⟨h.os, h.tape, h.output, h.size, fun k hlt => h.block k (Nat.lt_of_lt_of_le hlt hb.size) (by omega)⟩, fun k he => by simp at he; subst he; exact ⟨this.1, Nat.lt_of_lt_of_le this.2 h.size⟩⟩

theorem BInv.step {l : List Oper} {Φs : List (Tag × OP)} {a : Act} {w : World} {listed : Array Bool} {a' : Act} {w' w'' : World} {b b' : Option Nat} (hB : boxB l (Φs.map Prod.fst) a.tmps.size = true)
    (hst : SAll2 Φs) (h : BInv l Φs a w listed a' w' b) {i : Nat} {o : Oper} {Φ : Tag × OP} (hi : l[i]? = some o) (hΦ : Φs[i]? = some Φ) (hni : listed.getD i true = false) {v : Value} (hs : StepT Φ.1 b w' b' w'') (hv : Φ.2 b' v w'') :
    BInv l Φs a w (listed.setIfInBounds i true) (a'.put o.dst v) w'' b' := by
  have hlt : i < listed.size := by rw [h.size]; exact (List.getElem?_eq_some_iff.1 hi).1
  obtain ⟨hL, hone, hone', hdst⟩ := boxB_spec hB
  obtain ⟨_, _, hdn, hall⟩ := looseB_spec hL hi
  obtain ⟨hb1, hb2⟩ := hs.below h.below h.box
  refine ⟨hb1, by simpa using h.size, put_defers.trans h.defers, put_size.trans h.tsize, fun t ht => ?_, fun j q Ψ hj hΨ hl => ?_, hb2, fun j Ψ hΨ hg hl => ?_⟩
  · have hne : o.dst ≠ some t := fun e => by
      have := ht i o hi e
      rw [getD_set_self hlt] at this
      cases this
    rw [put_other hne]
    refine h.old t fun j q hj hd => ?_
    have := ht j q hj hd
    by_cases e : i = j
    · subst e; rw [getD_set_self hlt] at this; cases this
    · rwa [getD_set_ne false e] at this
  · by_cases e : i = j
    · subst e
      rw [hi] at hj
      cases hj
      rw [hΦ] at hΨ
      cases hΨ
      cases hd : o.dst with
      | none =>
        have hg := hdst i o Φ.1 hi (tag_get hΦ) hd
        have hS := SAll2_mem hst Φ (List.mem_of_getElem? hΦ)
        rw [hg] at hS
        exact hS.2 _ v _ _ hv
      | some d =>
        simp only [valD, hd]
        rw [eval_put_self (by rw [h.tsize]; exact hdn d hd)]
        exact hv
    · rw [getD_set_ne false e] at hl
      have hnew := h.new j q Ψ hj hΨ hl
      have hval : valD (a'.put o.dst v) q = valD a' q := by
        cases hd : q.dst with
        | none => simp [valD, hd]
        | some d => simp only [valD, hd]; exact eval_put_ne ((hall j q d hj hd).2 e)
      rw [hval]
      have hS := SAll2_mem hst Ψ (List.mem_of_getElem? hΨ)
      cases hg : Φ.1 with
      | plain =>
        rw [hg] at hs
        obtain ⟨rfl, hs⟩ := hs
        exact hS.o.1 _ _ _ _ hnew hs
      | alloc =>
        have hbn : b = none := h.nob i Φ hΦ hg (by
          rw [Array.getD_eq_getD_getElem?, Array.getElem?_eq_getElem hlt] at hni ⊢
          exact hni)
        rw [hg] at hs
        obtain ⟨rfl, _, hs⟩ := hs
        subst hbn
        exact hS.o.2 _ _ _ hnew hs
      | store =>
        rw [hg] at hs
        obtain ⟨k, rfl, rfl, hs⟩ := hs
        refine hS.s (fun hg' => e (hone' i j ?_ ?_)) _ _ _ _ hnew hs
        · rw [← hg]; exact tag_get hΦ
        · rw [← hg']; exact tag_get hΨ
  · by_cases e : i = j
    · subst e; rw [getD_set_self hlt] at hl; cases hl
    · rw [getD_set_ne false e] at hl
      have hbn := h.nob j Ψ hΨ hg hl
      cases hg2 : Φ.1 with
      | plain => rw [hg2] at hs; obtain ⟨rfl, _⟩ := hs; exact hbn
      | alloc =>
        exfalso
        refine e (hone i j ?_ ?_)
        · rw [← hg2]; exact tag_get hΦ
        · rw [← hg]; exact tag_get hΨ
      | store => rw [hg2] at hs; obtain ⟨k, rfl, _⟩ := hs; cases hbn

theorem HAll2_of {w : World} {b : Option Nat} {f : Oper → Value} : ∀ {l : List Oper} {Φs : List (Tag × OP)}, l.length = Φs.length → (∀ (j : Nat) (o : Oper) (Φ : Tag × OP), l[j]? = some o → Φs[j]? = some Φ → Φ.2 b (f o) w) → HAll2 w b l Φs (l.map f)
  | [], [], _, _ => trivial
  | o :: l, Φ :: Φs, hl, h => ⟨h 0 o Φ rfl rfl, HAll2_of (by simpa using hl) fun j q Ψ hj hΨ => h (j + 1) q Ψ (by simpa using hj) (by simpa using hΨ)⟩
  | [], _ :: _, hl, _ => by simp at hl
  | _ :: _, [], hl, _ => by simp at hl

theorem wpAny_box {P : Program} {l : List Oper} {Φs : List (Tag × OP)} {a : Act} {w : World} {Q : Exit → Act → World → Prop} (hB : boxB l (Φs.map Prod.fst) a.tmps.size = true)
    (hst : SAll2 Φs) (hJ : JAll2 P l Φs a w l Φs)
    (hQ : ∀ vs w' b, Below w.heap.size w w' → (∀ k, b = some k → w.heap.size ≤ k ∧ k < w'.heap.size) → HAll2 w' b l Φs vs → Q .normal (putAll a l vs) w') :
    ∀ (fuel : Nat) (listed : Array Bool) (a' : Act) (w' : World) (b : Option Nat), (∃ s : List Nat, s.Nodup ∧ (∀ i ∈ s, i < l.length ∧ listed.getD i true = false) ∧ (∀ i, i < l.length → listed.getD i true = false → i ∈ s) ∧ s.length ≤ fuel) → BInv l Φs a w listed a' w' b → wpAny P .any l.toArray Q fuel listed a' w' := by
  have hlen := JAll2_len hJ
  have hBL := (boxB_spec hB).1
  have fin : ∀ (listed : Array Bool) (a' : Act) (w' : World) (b : Option Nat), BInv l Φs a w listed a' w' b → Region.ready .any l.toArray listed = [] → Q .normal a' w' := by
    intro listed a' w' b hI hr
    have hall := ready_nil hBL hI.size hr
    have hH : HAll2 w' b l Φs (l.map (valD a')) := HAll2_of hlen fun j o Φ hj hΦ =>
      hI.new j o Φ hj hΦ (hall j (List.getElem?_eq_some_iff.1 hj).1)
    have ha : a' = putAll a l (l.map (valD a')) := by
      obtain ⟨p1, p2, p3⟩ := putAll_frame (l := l) (vs := l.map (valD a')) (a := a)
      have e1 : a'.tmps = (putAll a l (l.map (valD a'))).tmps := by
        apply Array.ext_getElem?
        intro t
        by_cases ht : ∃ (j : Nat) (o : Oper), l[j]? = some o ∧ o.dst = some t
        · obtain ⟨j, o, hj, hd⟩ := ht
          obtain ⟨_, _, hdn, _⟩ := looseB_spec hBL hj
          have hlt := hdn t hd
          rw [putAll_get (valD a') hj hd hlt (fun i q hne hq => ((looseB_spec hBL hq).2.2.2 j o t hj hd).2 hne)]
          have hlt' : t < a'.tmps.size := by rw [hI.tsize]; exact hlt
          simp [valD, hd, Act.eval, Array.getElem?_eq_getElem hlt']
        · rw [p3 t (fun o ho hd => ?_)]
          · exact hI.old t fun j o hj hd => absurd ⟨j, o, hj, hd⟩ ht
          · obtain ⟨j, hj⟩ := List.getElem?_of_mem ho
            exact ht ⟨j, o, hj, hd⟩
      have e2 : a'.defers = (putAll a l (l.map (valD a'))).defers := hI.defers.trans p2.symm
      cases a'
      generalize putAll a l (l.map (valD _)) = q at e1 e2
      cases q
      simp only at e1 e2
      rw [e1, e2]
    rw [ha]
    exact hQ _ _ _ hI.below hI.box hH
  intro fuel
  induction fuel with
  | zero =>
    intro listed a' w' b ⟨s, _, _, hs2, hs3⟩ hI
    have hr : Region.ready .any l.toArray listed = [] := by
      rw [List.eq_nil_iff_forall_not_mem]
      intro i hi
      obtain ⟨h1, o, ho, _⟩ := mem_ready.1 hi
      have hlt : i < l.length := by simpa using (Array.getElem?_eq_some_iff.1 ho).1
      have := hs2 i hlt h1
      obtain rfl : s = [] := List.eq_nil_of_length_eq_zero (by omega)
      cases this
    exact ⟨hr, fin _ _ _ _ hI hr⟩
  | succ fuel ih =>
    intro listed a' w' b ⟨s, hs0, hs1, hs2, hs3⟩ hI
    refine ⟨fin _ _ _ _ hI, fun i hi => ?_⟩
    obtain ⟨h1, o, ho, hdeps⟩ := mem_ready.1 hi
    have hlt : i < l.length := by simpa using (Array.getElem?_eq_some_iff.1 ho).1
    have ho' : l[i]? = some o := by simpa using ho
    obtain ⟨Φ, hΦ⟩ : ∃ Φ, Φs[i]? = some Φ := ⟨_, List.getElem?_eq_getElem (by omega)⟩
    obtain ⟨hg, _, _, hall⟩ := looseB_spec hBL ho'
    have hJi : JAt2 P l Φs a w o Φ := JAll2_get hJ ho' hΦ
    have hlsz : i < listed.size := by rw [hI.size]; exact hlt
    have hj := hJi a' w' b hI.below hI.box (fun hga => hI.nob i Φ hΦ hga (by
        rw [Array.getD_eq_getD_getElem?, Array.getElem?_eq_getElem hlsz] at h1 ⊢
        exact h1)) (fun t ht0 => by
      have ht : Operand.tmp t ∈ o.op.operands.toList := by
        unfold readsB at ht0
        obtain ⟨x, hx, he⟩ := List.any_eq_true.1 ht0
        cases x <;> simp at he
        subst he
        exact hx
      unfold slotP2
      cases hwr : writer2 l Φs t with
      | some Ψ =>
        obtain ⟨j, q, g, hj, hd, hΨ⟩ := writer2_some hwr
        obtain ⟨e, he, hon, hbind⟩ := (hall j q t hj hd).1 ht
        have := hI.new j q (g, Ψ) hj hΨ (by rw [← hon]; exact hdeps e he hbind)
        simpa [valD, hd] using this
      | none =>
        have hno := writer2_none hlen hwr
        have := hI.old t fun j q hj hd => absurd hd (hno j q hj)
        simp [Act.eval, this])
    have hnext : ∀ v w'' b', StepT Φ.1 b w' b' w'' → Φ.2 b' v w'' → wpAny P .any l.toArray Q fuel (listed.setIfInBounds i true) (a'.put o.dst v) w'' := by
      intro v w'' b' hs hv
      refine ih _ _ _ _ ⟨s.erase i, hs0.erase i, fun j hj => ?_, fun j hj hl => ?_, ?_⟩ (hI.step hB hst ho' hΦ h1 hs hv)
      · have hj' := List.mem_of_mem_erase hj
        have hne : j ≠ i := fun e => by subst e; exact (hs0.not_mem_erase) hj
        exact ⟨(hs1 j hj').1, by rw [getD_set_ne true (Ne.symm hne)]; exact (hs1 j hj').2⟩
      · have hne : i ≠ j := fun e => by
          subst e
          rw [Array.getD_eq_getD_getElem?, Array.getElem?_setIfInBounds_self_of_lt hlsz] at hl
          cases hl
        rw [getD_set_ne true hne] at hl
        exact (List.mem_erase_of_ne (Ne.symm hne)).2 (hs2 j hj hl)
      · rw [List.length_erase_of_mem (hs2 i hlt h1)]; omega
    unfold wpOp
    rw [ho]
    simp only [Region.wanted, hg, if_true]
    left
    unfold Oper.wp
    generalize (execOp a'.eval o).run P w' = r at hj
    cases r with
    | ok n w1 =>
      cases n with
      | value v => exact hnext v w1 hj.choose hj.choose_spec.1 hj.choose_spec.2
      | skip => exact hnext undef w1 hj.choose hj.choose_spec.1 hj.choose_spec.2
      | enter f args =>
        refine hj.2.2.mono fun e w2 ⟨v, he, hb2, hv⟩ => ?_
        subst he
        refine hnext v w2 b ?_ hv
        rw [hj.1]
        exact ⟨rfl, bthen hj.2.1 hb2⟩
      | _ => exact hj.elim
    | halt x w1 => exact hj.elim

theorem wp_region_box {P : Program} {id : Nat} {l : List Oper} {a : Act} {w : World} {Q : Exit → Act → World → Prop} (Φs : List (Tag × OP)) (hm : P.follows .mixedOrders = true) (hB : boxB l (Φs.map Prod.fst) a.tmps.size = true)
    (hst : SAll2 Φs) (hJ : JAll2 P l Φs a w l Φs)
    (hQ : ∀ vs w' b, Below w.heap.size w w' → (∀ k, b = some k → w.heap.size ≤ k ∧ k < w'.heap.size) → HAll2 w' b l Φs vs → Q .normal (putAll a l vs) w') : (Code.region id l.toArray true).wp P Q a w := by
  refine wp_region_any hm (wpAny_box hB hst hJ hQ _ _ _ _ none ⟨List.range l.length, List.nodup_range, fun i hi => ⟨by simpa using hi, ?_⟩, fun i hi _ => by simpa using hi, by simp⟩ ⟨⟨rfl, rfl, rfl, Nat.le_refl _, fun _ _ => rfl⟩, by simp, rfl, rfl, fun _ _ => rfl, fun j o Φ hj _ hl => ?_, fun k hk => (by simp at hk), fun _ _ _ _ _ => rfl⟩)
  · simp at hi
    simp [hi]
  · have hjl := (List.getElem?_eq_some_iff.1 hj).1
    simp [hjl] at hl

/-! the usual predicates -/
def exO (c : Value) : OP := fun _ v _ => v = c
/-- reads so, not through the box -/
def rdAO {α : Type} (E : Ty α) (x : α) : OP := fun o v W => ∃ (cs : List Value) (fp : List Nat), v = .agg cs.toArray ∧ E.rd W cs x fp ∧ ∀ k ∈ fp, o ≠ some k
def rdSO {α : Type} (E : Ty α) (x : α) : OP := fun o v W => ∃ fp, E.rd W [v] x fp ∧ ∀ k ∈ fp, o ≠ some k
/-- new memory that reads so -/
def frAO {α : Type} (E : Ty α) (base : Nat) (x : α) : OP := fun o v W => ∃ (cs : List Value) (fp : List Nat), v = .agg cs.toArray ∧ E.rd W cs x fp ∧ fp.Nodup ∧ (∀ k ∈ fp, base ≤ k) ∧ Unf W fp ∧ ∀ k ∈ fp, o ≠ some k
/-- a struct and a number: the results of a call -/
def frTO {α : Type} (E : Ty α) (base : Nat) (x : α) (n : Value) : OP := fun o v W => ∃ cs : List Value, v = .tuple #[.agg cs.toArray, n] ∧ frAO E base x o (.agg cs.toArray) W
def boxO (n : Nat) : OP := fun o v W => ∃ b, o = some b ∧ v = .pointer (some ⟨b, 0, none⟩) ∧ b < W.heap.size ∧ ∀ j, j < n → (∃ u, W.cell? ⟨b, j, none⟩ = some u) ∧ W.frozen? ⟨b, j, none⟩ = false
/-- the box holds it -/
def heldO {α : Type} (E : Ty α) (base : Nat) (x : α) : OP := fun o _ W => ∃ (b : Nat) (cs : List Value) (fp : List Nat), o = some b ∧ E.rd W cs x fp ∧ fp.Nodup ∧ (∀ k ∈ fp, base ≤ k) ∧ Unf W fp ∧ (∀ k ∈ fp, some b ≠ some k) ∧ ∀ j (hj : j < cs.length), W.cell? ⟨b, j, none⟩ = some cs[j]
theorem some_ne {a : Nat} {fp : List Nat} (h : ∀ k ∈ fp, k < a) : ∀ k ∈ fp, (some a : Option Nat) ≠ some k := fun k hk e => by have := h k hk; simp at e; omega
theorem Bx.same {b : Nat} {w w' : World} {fp : List Nat} (h : Bx b w w') (hl : ∀ k ∈ fp, k < w.heap.size) (hn : ∀ k ∈ fp, (some b : Option Nat) ≠ some k) : Same fp w w' := fun k hk => h.block k (hl k hk) fun e => hn k hk (by rw [e])
theorem st_exO {c : Value} : StG .plain (exO c) := ⟨⟨fun _ _ _ _ h _ => h, fun _ _ _ h _ => h⟩, fun _ _ _ _ h _ => h⟩
theorem st_rdAO {α : Type} {E : Ty α} {x : α} : StG .plain (rdAO E x) :=
  ⟨⟨fun _ _ _ _ ⟨cs, fp, h1, h2, h3⟩ hb => ⟨cs, fp, h1, E.same h2 (Same.below hb (E.lt h2)), h3⟩, fun _ _ _ ⟨cs, fp, h1, h2, _⟩ hb => ⟨cs, fp, h1, E.same h2 (Same.below hb (E.lt h2)), some_ne (E.lt h2)⟩⟩,
    fun _ _ _ _ ⟨cs, fp, h1, h2, h3⟩ hb => ⟨cs, fp, h1, E.same h2 (hb.same (E.lt h2) h3), h3⟩⟩
theorem st_rdSO {α : Type} {E : Ty α} {x : α} : StG .plain (rdSO E x) :=
  ⟨⟨fun _ _ _ _ ⟨fp, h2, h3⟩ hb => ⟨fp, E.same h2 (Same.below hb (E.lt h2)), h3⟩, fun _ _ _ ⟨fp, h2, _⟩ hb => ⟨fp, E.same h2 (Same.below hb (E.lt h2)), some_ne (E.lt h2)⟩⟩,
    fun _ _ _ _ ⟨fp, h2, h3⟩ hb => ⟨fp, E.same h2 (hb.same (E.lt h2) h3), h3⟩⟩
theorem st_frAO {α : Type} {E : Ty α} {base : Nat} {x : α} : StG .plain (frAO E base x) :=
  ⟨⟨fun _ _ _ _ ⟨cs, fp, h1, h2, h4, h5, h6, h3⟩ hb => ⟨cs, fp, h1, E.same h2 (Same.below hb (E.lt h2)), h4, h5, h6.same (Same.below hb (E.lt h2)), h3⟩,
    fun _ _ _ ⟨cs, fp, h1, h2, h4, h5, h6, _⟩ hb => ⟨cs, fp, h1, E.same h2 (Same.below hb (E.lt h2)), h4, h5, h6.same (Same.below hb (E.lt h2)), some_ne (E.lt h2)⟩⟩,
    fun _ _ _ _ ⟨cs, fp, h1, h2, h4, h5, h6, h3⟩ hb => ⟨cs, fp, h1, E.same h2 (hb.same (E.lt h2) h3), h4, h5, h6.same (hb.same (E.lt h2) h3), h3⟩⟩
theorem st_frTO {α : Type} {E : Ty α} {base : Nat} {x : α} {n : Value} : StG .plain (frTO E base x n) :=
  ⟨⟨fun _ _ _ _ ⟨cs, h1, h2⟩ hb => ⟨cs, h1, st_frAO.1.1 _ _ _ _ h2 hb⟩, fun _ _ _ ⟨cs, h1, h2⟩ hb => ⟨cs, h1, st_frAO.1.2 _ _ _ h2 hb⟩⟩, fun _ _ _ _ ⟨cs, h1, h2⟩ hb => ⟨cs, h1, st_frAO.2 _ _ _ _ h2 hb⟩⟩
theorem st_boxO {n : Nat} : StG .alloc (boxO n) :=
  ⟨⟨fun _ _ _ _ ⟨b, h1, h2, h3, h4⟩ hb => ⟨b, h1, h2, Nat.lt_of_lt_of_le h3 hb.size, fun j hj => ⟨let ⟨u, hu⟩ := (h4 j hj).1; ⟨u, (hb.cell (p := ⟨b, j, none⟩) h3).trans hu⟩, (hb.frozen (p := ⟨b, j, none⟩) h3).trans (h4 j hj).2⟩⟩, fun _ _ _ ⟨b, h1, _⟩ _ => by cases h1⟩,
    fun b' _ _ _ ⟨b, h1, h2, h3, h4⟩ hb => by
      obtain rfl : b' = b := by simpa using h1
      exact ⟨_, rfl, h2, Nat.lt_of_lt_of_le h3 hb.size, fun j hj => ⟨hb.cells j (h4 j hj).1, (hb.frozen j).trans (h4 j hj).2⟩⟩⟩
theorem st_heldO {α : Type} {E : Ty α} {base : Nat} {x : α} : StG .store (heldO E base x) :=
  ⟨⟨fun _ _ _ _ ⟨b, cs, fp, h1, h2, h4, h5, h6, h3, h7⟩ hb => ⟨b, cs, fp, h1, E.same h2 (Same.below hb (E.lt h2)), h4, h5, h6.same (Same.below hb (E.lt h2)), h3, fun j hj => (hb.cell (p := ⟨b, j, none⟩) (cell_lt (h7 j hj))).trans (h7 j hj)⟩, fun _ _ _ ⟨b, _, _, h1, _⟩ _ => by cases h1⟩, fun _ _ _ _ h => h⟩
theorem HAll2_cons {w : World} {b : Option Nat} {o : Oper} {l : List Oper} {Φ : Tag × OP} {Φs : List (Tag × OP)} {vs : List Value} (h : HAll2 w b (o :: l) (Φ :: Φs) vs) : ∃ v r, vs = v :: r ∧ Φ.2 b v w ∧ HAll2 w b l Φs r := by
  cases vs with
  | nil => cases h
  | cons v r => exact ⟨v, r, rfl, h.1, h.2⟩
theorem HAll2_nil {w : World} {b : Option Nat} {vs : List Value} (h : HAll2 w b [] [] vs) : vs = [] := by
  cases vs with
  | nil => rfl
  | cons v r => cases h
theorem slot_w2 {l : List Oper} {Φs : List (Tag × OP)} {a a' : Act} {w' : World} {o : Oper} {b : Option Nat} (hd : ∀ t, readsB o t = true → slotP2 l Φs a t b (a'.eval (.tmp t)) w') (t : Tmp) (Φ : OP) (hr : readsB o t = true) (hw : writer2 l Φs t = some Φ) : Φ b (a'.eval (.tmp t)) w' := by
  have h := hd t hr
  unfold slotP2 at h
  rw [hw] at h
  exact h
theorem slot_o2 {l : List Oper} {Φs : List (Tag × OP)} {a a' : Act} {w' : World} {o : Oper} {b : Option Nat} (hd : ∀ t, readsB o t = true → slotP2 l Φs a t b (a'.eval (.tmp t)) w') (t : Tmp) (hr : readsB o t = true) (hw : writer2 l Φs t = none) : a'.eval (.tmp t) = a.eval (.tmp t) := by
  have h := hd t hr
  unfold slotP2 at h
  rw [hw] at h
  exact h
theorem rdAO_mk {α : Type} {E : Ty α} {x : α} {W : World} {cs : List Value} {o : Option Nat} {B L : Nat} (hf : E.Fr B W cs x) (hbo : ∀ k, o = some k → L ≤ k ∧ k < B) : rdAO E x o (.agg cs.toArray) W :=
  let ⟨fp, h1, _, h3, _⟩ := hf; ⟨cs, fp, rfl, h1, fun k hk e => by have := hbo k e; have := h3 k hk; omega⟩
theorem rdSO_mk {α : Type} {E : Ty α} {x : α} {W : World} {u : Value} {o : Option Nat} {B L : Nat} (hf : E.Fr B W [u] x) (hbo : ∀ k, o = some k → L ≤ k ∧ k < B) : rdSO E x o u W :=
  let ⟨fp, h1, _, h3, _⟩ := hf; ⟨fp, h1, fun k hk e => by have := hbo k e; have := h3 k hk; omega⟩
theorem rdSO_val {α : Type} {E : Ty α} {x : List α} {W : World} {u : Value} {o : Option Nat} (h : rdSO (Ty.slice E) x o u W) : ∃ ad cap, u = .slice ad x.length cap := let ⟨fp, h, _⟩ := h; rd_slice ⟨fp, h⟩
theorem rdSO.rd {α : Type} {E : Ty α} {x : α} {W : World} {u : Value} {o : Option Nat} (h : rdSO E x o u W) : E.Rd W [u] x := let ⟨fp, h, _⟩ := h; ⟨fp, h⟩
theorem frTO_mk {α : Type} {E : Ty α} {x : α} {W : World} {cs : List Value} {o : Option Nat} {B L base : Nat} {n : Value} (hB : base ≤ B) (hf : E.Fr B W cs x) (hbo : ∀ k, o = some k → L ≤ k ∧ k < B) : frTO E base x n o (.tuple #[.agg cs.toArray, n]) W :=
  let ⟨fp, h1, h2, h3, h4⟩ := hf; ⟨cs, rfl, cs, fp, rfl, h1, h2, fun k hk => Nat.le_trans hB (h3 k hk), h4, fun k hk e => by have := hbo k e; have := h3 k hk; omega⟩
theorem exO_eqB {α : Type} [DecidableEq α] {x : α} {o : Option Nat} {w : World} : exO (.bool true) o (.bool (eqB x x)) w := congrArg Value.bool (eqB_true rfl)
theorem set3_bx {b : Nat} {w : World} {x y z : Value} : Bx b w (((w.setCell ⟨b, 0, none⟩ x).setCell ⟨b, 1, none⟩ y).setCell ⟨b, 2, none⟩ z) := ((Bx.setCell _ _ _ _).trans (Bx.setCell _ _ _ _)).trans (Bx.setCell _ _ _ _)
theorem set2_bx {b : Nat} {w : World} {x y : Value} : Bx b w ((w.setCell ⟨b, 0, none⟩ x).setCell ⟨b, 1, none⟩ y) := (Bx.setCell _ _ _ _).trans (Bx.setCell _ _ _ _)
theorem held3 {α : Type} {E : Ty α} {base : Nat} {x : α} {b : Nat} {w : World} {v0 v1 v2 y0 y1 y2 : Value} (h0 : w.cell? ⟨b, 0, none⟩ = some y0) (h1 : w.cell? ⟨b, 1, none⟩ = some y1) (h2 : w.cell? ⟨b, 2, none⟩ = some y2) {fp : List Nat} (hr : E.rd w [v0, v1, v2] x fp)
    (hn : fp.Nodup) (hb : ∀ k ∈ fp, base ≤ k) (hu : Unf w fp) (ho : ∀ k ∈ fp, (some b : Option Nat) ≠ some k) (v : Value) :
    ∃ o', StepT .store (some b) w o' (((w.setCell ⟨b, 0, none⟩ v0).setCell ⟨b, 1, none⟩ v1).setCell ⟨b, 2, none⟩ v2) ∧ heldO E base x o' v (((w.setCell ⟨b, 0, none⟩ v0).setCell ⟨b, 1, none⟩ v1).setCell ⟨b, 2, none⟩ v2) := by
  have hs := set3_bx (b := b) (w := w) (x := v0) (y := v1) (z := v2)
  have e1 : (w.setCell ⟨b, 0, none⟩ v0).cell? ⟨b, 1, none⟩ = some y1 := (World.cell?_setCell_other _ _ _ _ (by simp)).trans h1
  have e2 : ((w.setCell ⟨b, 0, none⟩ v0).setCell ⟨b, 1, none⟩ v1).cell? ⟨b, 2, none⟩ = some y2 := (World.cell?_setCell_other _ _ _ _ (by simp)).trans ((World.cell?_setCell_other _ _ _ _ (by simp)).trans h2)
  refine ⟨some b, ⟨b, rfl, rfl, hs⟩, b, [v0, v1, v2], fp, rfl, E.same hr (hs.same (E.lt hr) ho), hn, hb, hu.same (hs.same (E.lt hr) ho), ho, fun j hj => ?_⟩
  rcases (show j = 0 ∨ j = 1 ∨ j = 2 by simp at hj; omega) with rfl | rfl | rfl
  · exact (World.cell?_setCell_other _ _ _ _ (by simp)).trans ((World.cell?_setCell_other _ _ _ _ (by simp)).trans (World.cell?_setCell_same _ _ _ h0))
  · exact (World.cell?_setCell_other _ _ _ _ (by simp)).trans (World.cell?_setCell_same _ _ _ e1)
  · exact World.cell?_setCell_same _ _ _ e2
theorem held2 {α : Type} {E : Ty α} {base : Nat} {x : α} {b : Nat} {w : World} {v0 v1 y0 y1 : Value} (h0 : w.cell? ⟨b, 0, none⟩ = some y0) (h1 : w.cell? ⟨b, 1, none⟩ = some y1) {fp : List Nat} (hr : E.rd w [v0, v1] x fp)
    (hn : fp.Nodup) (hb : ∀ k ∈ fp, base ≤ k) (hu : Unf w fp) (ho : ∀ k ∈ fp, (some b : Option Nat) ≠ some k) (v : Value) :
    ∃ o', StepT .store (some b) w o' ((w.setCell ⟨b, 0, none⟩ v0).setCell ⟨b, 1, none⟩ v1) ∧ heldO E base x o' v ((w.setCell ⟨b, 0, none⟩ v0).setCell ⟨b, 1, none⟩ v1) := by
  have hs := set2_bx (b := b) (w := w) (x := v0) (y := v1)
  have e1 : (w.setCell ⟨b, 0, none⟩ v0).cell? ⟨b, 1, none⟩ = some y1 := (World.cell?_setCell_other _ _ _ _ (by simp)).trans h1
  refine ⟨some b, ⟨b, rfl, rfl, hs⟩, b, [v0, v1], fp, rfl, E.same hr (hs.same (E.lt hr) ho), hn, hb, hu.same (hs.same (E.lt hr) ho), ho, fun j hj => ?_⟩
  rcases (show j = 0 ∨ j = 1 by simp at hj; omega) with rfl | rfl
  · exact (World.cell?_setCell_other _ _ _ _ (by simp)).trans (World.cell?_setCell_same _ _ _ h0)
  · exact World.cell?_setCell_same _ _ _ e1
theorem box3 {w : World} {x y z : Value} {T : TypeId} : ∀ j, j < 3 → (∃ u, (w.alloc (.cells #[x, y, z] T)).cell? ⟨w.heap.size, j, none⟩ = some u) ∧ (w.alloc (.cells #[x, y, z] T)).frozen? ⟨w.heap.size, j, none⟩ = false := fun j hj => by
  rcases (show j = 0 ∨ j = 1 ∨ j = 2 by omega) with rfl | rfl | rfl <;> exact ⟨by simp, by simp⟩
theorem box2n {w : World} {x y : Value} {T : TypeId} : ∀ j, j < 2 → (∃ u, (w.alloc (.cells #[x, y] T)).cell? ⟨w.heap.size, j, none⟩ = some u) ∧ (w.alloc (.cells #[x, y] T)).frozen? ⟨w.heap.size, j, none⟩ = false := fun j hj => by
  rcases (show j = 0 ∨ j = 1 by omega) with rfl | rfl <;> exact ⟨by simp, by simp⟩
end Go.Proofs.Ytccobadobklbpaa
namespace Go.Proofs.Ytccobadobklbpaa
open Go.RowKit Go.Sort
theorem fr_empty {α : Type} {E : Ty α} {base : Nat} {w : World} {ad : Option Addr} {cap : Nat} : (Ty.slice E).Fr base w [.slice ad 0 cap] [] :=
  ⟨[], ⟨ad, cap, rfl, Nat.zero_le _, Nat.zero_le _, .inl ⟨rfl, rfl⟩⟩, List.nodup_nil, (fun b hb => by cases hb), (fun b hb => by cases hb)⟩
set_option maxHeartbeats 6400000 in
set_option maxRecDepth 100000 in
theorem specBreakingOp_any (w : World) {cs cr : Array Value} {t : Tpl} {r : RelV} (h : tplT.Rd w cs.toList t) (hr : relT.Rd w cr.toList r) :
    Calls Try.prog 33 #[.agg cs, .agg cr] w (RetASC opT intsT w (boO t r) (boT t r) (boC t r)) := by
  have p0 : tplT.Pt (w.alloc (.cells cs 35)) (.pointer (some ⟨w.heap.size, 0, none⟩)) t := pt_box h
  have p1 : relT.Pt ((w.alloc (.cells cs 35)).alloc (.cells cr 48)) (.pointer (some ⟨(w.alloc (.cells cs 35)).heap.size, 0, none⟩)) r := pt_box (hr.below bA)
  replace p0 := p0.below (bA (o := .cells cr 48))
  rw [show (w.alloc (.cells cs 35)).heap.size = w.heap.size + 1 by simp] at p1
  obtain ⟨v1, hv1, -, -⟩ := pair_ex h
  obtain rfl := agg_of hv1
  obtain ⟨v2, hv2, -, hx⟩ := pair_ex hr
  obtain rfl := agg_of hv2
  obtain ⟨la, lc, rfl⟩ := rd_slice hx
  have HX0 := Lib.hid hx
  clear h hr hv1 hv2 hx
  go_enter Try.func33, Try.ntmps33
  go_wp2_with fail
  replace p0 : ∀ o, tplT.Pt (World.alloc ((w.alloc (.cells #[.int .i64 t.1, v1] 35)).alloc (.cells #[.int .i64 r.1, .slice la r.2.length lc] 48)) o) (.pointer (some ⟨w.heap.size, 0, none⟩)) t := fun o => p0.below bA
  replace p1 : ∀ o, relT.Pt (World.alloc ((w.alloc (.cells #[.int .i64 t.1, v1] 35)).alloc (.cells #[.int .i64 r.1, .slice la r.2.length lc] 48)) o) (.pointer (some ⟨w.heap.size + 1, 0, none⟩)) r := fun o => p1.below bA
  generalize hW : World.alloc (World.alloc (World.alloc w _) _) _ = W
  have hbW : Below w.heap.size w W := hW ▸ bthen bAA bA
  have hsW : w.heap.size + 3 ≤ W.heap.size := by rw [← hW]; simp
  have HP : Hid (tplT.Pt W (.pointer (some ⟨w.heap.size, 0, none⟩)) t) := hW ▸ p0 _
  have HR : Hid (relT.Pt W (.pointer (some ⟨w.heap.size + 1, 0, none⟩)) r) := hW ▸ p1 _
  have d1 : W.cell? ⟨w.heap.size + 1, 1, none⟩ = some (.slice la r.2.length lc) := by rw [← hW]; simp [go_sem]
  have r0 : W.cell? ⟨w.heap.size + 1 + 1, 0, none⟩ = some (.int .i64 0) := by rw [← hW]; simp [go_sem]
  have r1 : W.cell? ⟨w.heap.size + 1 + 1, 1, none⟩ = some (.slice none 0 0) := by rw [← hW]; simp [go_sem]
  have q0 : W.frozen? ⟨w.heap.size + 1 + 1, 0, none⟩ = false := by rw [← hW]; simp [go_sem]
  have q1 : W.frozen? ⟨w.heap.size + 1 + 1, 1, none⟩ = false := by rw [← hW]; simp [go_sem]
  clear hW p0 p1
  refine (l04Own_any _ HP.out HR.out).mono ?_
  rintro e w2 ⟨cs2, rfl, hf2, hb2⟩
  obtain ⟨a2, c2, rfl⟩ := fr_pair hf2
  have HF2 := Lib.hid hf2.rd
  have hB2 := bthen hbW hb2
  have hz2 := hb2.size
  replace d1 := (cellB hb2 (by omega)).trans d1
  replace r0 := (cellB hb2 (by omega)).trans r0
  replace r1 := (cellB hb2 (by omega)).trans r1
  replace q0 := (frozenB hb2 (by omega)).trans q0
  replace q1 := (frozenB hb2 (by omega)).trans q1
  have hl2 : w.heap.size + 3 ≤ w2.heap.size := by omega
  clear hf2
  cases hc : (roC t r == 0)
  · have HE := Lib.hid (bo_no hc)
    have hc1 : (roC t r != 0) = true := by simpa using hc
    have x0' : ∀ q q', ((w2.alloc q).alloc q').cell? ⟨w.heap.size + 1 + 1, 0, none⟩ = some (.int .i64 0) := fun q q' => (cellB (bthen (bA (w := w2)) bA) (show w.heap.size + 1 + 1 < w2.heap.size by omega)).trans r0
    have x1' : ∀ q q', ((w2.alloc q).alloc q').cell? ⟨w.heap.size + 1 + 1, 1, none⟩ = some (.slice none 0 0) := fun q q' => (cellB (bthen (bA (w := w2)) bA) (show w.heap.size + 1 + 1 < w2.heap.size by omega)).trans r1
    have y0' : ∀ q q', ((w2.alloc q).alloc q').frozen? ⟨w.heap.size + 1 + 1, 0, none⟩ = false := fun q q' => (frozenB (bthen (bA (w := w2)) bA) (show w.heap.size + 1 + 1 < w2.heap.size by omega)).trans q0
    have y1' : ∀ q q', ((w2.alloc q).alloc q').frozen? ⟨w.heap.size + 1 + 1, 1, none⟩ = false := fun q q' => (frozenB (bthen (bA (w := w2)) bA) (show w.heap.size + 1 + 1 < w2.heap.size by omega)).trans q1
    have HZ0 := Lib.hid (fun (x y : Value) (q q' : Obj) => res2_0 (x := x) (y := y) (x0' q q'))
    have HZ1 := Lib.hid (fun (x y : Value) (q q' : Obj) => res2_1 (x := x) (y := y) (x1' q q'))
    clear hc
    generalize roC t r = C at *
    go_wp2_with fail
    refine bodyPost_ret (v := .tuple #[.agg #[.int .i64 0, .slice none 0 0], .slice (some ⟨w2.heap.size + 1, 0, none⟩) 0 0, .int .i64 C]) (by simp [results, Try.results33, go_sem, HZ0.out, HZ1.out]) rfl ⟨[.int .i64 0, .slice none 0 0], .slice (some ⟨w2.heap.size + 1, 0, none⟩) 0 0, w.heap.size, by rw [HE.out.1], Nat.le_refl _, ?_, ?_, ?_, res2_b ((hB2.alloc (by omega) _).alloc (by simp; omega) _) (by omega)⟩
    · simp [World.setCell]; omega
    · rw [HE.out.2.1]; exact fx_op0
    · rw [HE.out.2.2]; exact fr_empty
  · have hc0 : roC t r = 0 := by simpa using hc
    have HC0 := Lib.hid hc0
    have HLE := Lib.hid (ro_len hc0)
    have hle := (ro_len hc0).2
    rw [hc0]
    clear hc hc0
    have HHT : Hid (rowsT.Rd w2 [.slice a2 (roV t r).2.length c2] (roV t r).2) := by
      obtain ⟨vx, hvx, -, hx⟩ := pair_ex HF2.out
      simp only [List.cons.injEq, and_true, true_and] at hvx
      rw [hvx]
      exact hx
    go_wp2_with fail
    generalize hW3 : World.alloc w2 _ = w3
    have hb3 : Below w2.heap.size w2 w3 := hW3 ▸ bA
    have hB3 := bthen hB2 hb3
    have hz3 : w2.heap.size + 1 ≤ w3.heap.size := by rw [← hW3]; simp
    obtain ⟨hb', hhb'⟩ : ∃ hb', w2.heap.size = hb' := ⟨_, rfl⟩
    have g1 : w3.cell? ⟨hb', 1, none⟩ = some (.slice a2 (roV t r).2.length c2) := by rw [← hW3, ← hhb']; simp [go_sem]
    replace d1 := (cellB hb3 (by omega)).trans d1
    replace r0 := (cellB hb3 (by omega)).trans r0
    replace r1 := (cellB hb3 (by omega)).trans r1
    replace q0 := (frozenB hb3 (by omega)).trans q0
    replace q1 := (frozenB hb3 (by omega)).trans q1
    have HH3 := Lib.hid (HHT.out.below hb3)
    have HP3 := Lib.hid (HP.out.below (bthen hb2 hb3))
    have HR3 := Lib.hid (HR.out.below (bthen hb2 hb3))
    clear hW3 HHT hb3
    rw [hhb']
    have hbl : hb' < w3.heap.size := by omega
    have hwb : w.heap.size + 3 ≤ hb' := by omega
    clear hhb'
    go_loopw [9] (fun i wr => ∃ k : Nat, k ≤ (roV t r).2.length ∧ i = .int .i64 k ∧ (∀ v ∈ (roV t r).2.take k, tb (v ∈ r.2) = true) ∧ Below w3.heap.size w3 wr) (fun i _ => (roV t r).2.length - (intOf i).toNat)
    case atStart => exact ⟨0, Nat.zero_le _, rfl, fun v hv => by simp at hv, Below.refl _ _⟩
    case round =>
      obtain ⟨k, hk, rfl, hup, hbr⟩ := hrel
      have HUP := Lib.hid hup
      have hBr := bthen hB3 hbr
      have hzr := hbr.size
      obtain ⟨wv, rfl⟩ : ∃ wv : World, wv = wr := ⟨_, rfl⟩
      have e1 := (cellB hbr (show w.heap.size + 1 < w3.heap.size by omega)).trans d1
      have e2 := (cellB hbr (show hb' < w3.heap.size by omega)).trans g1
      have x0 := (cellB hbr (show w.heap.size + 1 + 1 < w3.heap.size by omega)).trans r0
      have x1 := (cellB hbr (show w.heap.size + 1 + 1 < w3.heap.size by omega)).trans r1
      have y0 := (frozenB hbr (show w.heap.size + 1 + 1 < w3.heap.size by omega)).trans q0
      have y1 := (frozenB hbr (show w.heap.size + 1 + 1 < w3.heap.size by omega)).trans q1
      clear hup
      by_cases hkl : k < (roV t r).2.length
      · have hko : k < (roO t r).length := by have := HLE.out.1; omega
        obtain ⟨_, _, hx, -, -, hxe⟩ := slices_ex (HH3.out.below hbr)
        simp only [List.cons.injEq, Value.slice.injEq, and_true, true_and] at hx
        obtain ⟨rfl, rfl⟩ := hx
        obtain ⟨hb0, ho0, rfl, hhb, hce⟩ := hxe (by omega)
        obtain ⟨ux, hux, hck⟩ := hce k hkl
        obtain ⟨ka, kc, rfl⟩ := rd_slice hux
        have HX := Lib.hid hux
        have hat := ro_at HC0.out hkl hko
        have HAT := Lib.hid hat
        have hlx : ((roV t r).2[k]).length ≤ 1000000 := by
          rw [hat.1]
          have := (hu_ok (ro_zero HC0.out).2.2.1).2.2.1
          omega
        have HSM := Lib.hid (fun h1 => bo_some HC0.out hkl hko HUP.out h1)
        have HTK : Hid (tb ((roV t r).2[k] ∈ r.2) = true → ∀ v ∈ (roV t r).2.take (k + 1), tb (v ∈ r.2) = true) := fun h1 v hv => by
          rw [List.take_succ_eq_append_getElem hkl, List.mem_append] at hv
          rcases hv with hv | hv
          · exact HUP.out v hv
          · simp only [List.mem_singleton] at hv; rw [hv]; exact h1
        generalize hV : (roV t r).2[k] = V at *
        generalize hO : (roO t r)[k] = O at *
        clear hxe hce hux hat hV hO
        go_wp2_with fail
        refine (l01Has_quiet _ (HR3.out.below hbr) HX.out).mono ?_
        rintro e w4 ⟨rfl, hq4⟩
        have hb4 := hq4.below
        have hB4 := bthen hBr hb4
        have hz4 := hb4.size
        replace x0 := (cellB hb4 (by omega)).trans x0
        replace x1 := (cellB hb4 (by omega)).trans x1
        replace y0 := (frozenB hb4 (by omega)).trans y0
        replace y1 := (frozenB hb4 (by omega)).trans y1
        replace e1 := (cellB hb4 (show w.heap.size + 1 < wv.heap.size by omega)).trans e1
        replace e2 := (cellB hb4 (show hb' < wv.heap.size by omega)).trans e2
        replace hck := (cellB hb4 hhb).trans hck
        clear hq4
        cases hh : tb (V ∈ r.2)
        · have HE := Lib.hid (HSM.out hh)
          clear hh
          have HXR : Hid (rowsT.Rd w4 [.slice la r.2.length lc] r.2) := HX0.out.below hB4
          have HUO : Hid (0 < r.2.length ∧ r.2.length ≤ 1000 ∧ (∀ l ∈ r.2, l.length = huM r.2) ∧ huM r.2 ≤ 1000) := by
            obtain ⟨-, h2, h3, h4, -⟩ := hu_ok (ro_zero HC0.out).2.2.1
            exact ⟨by omega, by omega, h4, by omega⟩
          have HLW : Hid (∀ (w' : World) (lv : Value), Below w4.heap.size w4 w' → rowsT.Rd w' [lv] (colsL r.2 (huM r.2)) → Calls Try.prog 46 #[.pointer (some ⟨w.heap.size, 0, none⟩), .int .i64 (r.2.length : Int), lv, .slice ka V.length kc] w' (RetAC opT w' O 0)) := fun w' lv hb hlv => by
            obtain ⟨h1, -, h3, h5, -, -⟩ := ro_zero HC0.out
            obtain ⟨-, h2, h3', h4, h6⟩ := hu_ok h3
            have := l04With_any w' (HP3.out.below (bthen hbr (bthen hb4 hb))) hlv (HX.out.below (bthen hb4 hb)) h1 (ar := (r.2.length : Int)) (by omega) (cols_in h4 h6) (by rw [colsL_len]; exact HAT.out.1.symm) HAT.out.2.1 (by rw [colsL_len]; omega)
            rw [(lw_ph (by rw [Int.toNat_natCast]; exact h5)).1, (lw_ph (by rw [Int.toNat_natCast]; exact h5)).2, ← HAT.out.2.2.1, HAT.out.2.2.2.1] at this
            exact this
          go_wp2_with fail
          refine wp_region_box [(.plain, exO (.pointer (some ⟨w.heap.size + 1, 1, none⟩))), (.plain, exO (.slice la r.2.length lc)), (.plain, exO (.int .i64 (r.2.length : Int))), (.plain, exO (.pointer (some ⟨w.heap.size + 1, 1, none⟩))), (.plain, exO (.slice la r.2.length lc)), (.plain, rdSO rowsT (colsL r.2 (huM r.2))), (.plain, exO (.pointer (some ⟨hb', 1, none⟩))), (.plain, exO (.slice (some ⟨hb0, ho0, none⟩) (roV t r).2.length c2)), (.plain, exO (.int .i64 (k : Int))), (.plain, exO (.pointer (some ⟨hb0, ho0 + k, none⟩))), (.plain, exO (.slice ka V.length kc)), (.plain, frTO opT w4.heap.size O (.int .i64 0)), (.plain, frTO opT w4.heap.size O (.int .i64 0)), (.plain, frAO opT w4.heap.size O), (.plain, exO (.int .i64 0)), (.alloc, boxO 2), (.store, heldO opT w4.heap.size O), (.plain, exO (.int .i64 0))] (by kernel_rfl) (by kernel_rfl) ⟨st_exO, st_exO, st_exO, st_exO, st_exO, st_rdSO, st_exO, st_exO, st_exO, st_exO, st_exO, st_frTO, st_frTO, st_frAO, st_exO, st_boxO, st_heldO, st_exO, trivial⟩ ⟨?j8_0, ?j8_1, ?j8_2, ?j8_3, ?j8_4, ?j8_5, ?j8_6, ?j8_7, ?j8_8, ?j8_9, ?j8_10, ?j8_11, ?j8_12, ?j8_13, ?j8_14, ?j8_15, ?j8_16, ?j8_17, trivial⟩ ?hQ8
          case j8_0 =>
            intro a' w' ob hb hbo hal hd
            have e0 : a'.tmps[3]?.getD undef = .pointer (some ⟨w.heap.size + 1, 0, none⟩) := ev (slot_o2 hd 3 rfl rfl)
            go_simp
            exact ⟨_, ⟨rfl, Below.refl _ _⟩, rfl⟩
          case j8_1 =>
            intro a' w' ob hb hbo hal hd
            have e0 := ev (slot_w2 hd 35 (exO (.pointer (some ⟨w.heap.size + 1, 1, none⟩))) rfl rfl)
            have q := (cellB hb (show w.heap.size + 1 < w4.heap.size by omega)).trans e1
            go_simp
            exact ⟨_, ⟨rfl, Below.refl _ _⟩, rfl⟩
          case j8_2 =>
            intro a' w' ob hb hbo hal hd
            have e0 := ev (slot_w2 hd 36 (exO (.slice la r.2.length lc)) rfl rfl)
            go_simp
            exact ⟨_, ⟨rfl, Below.refl _ _⟩, rfl⟩
          case j8_3 =>
            intro a' w' ob hb hbo hal hd
            have e0 : a'.tmps[3]?.getD undef = .pointer (some ⟨w.heap.size + 1, 0, none⟩) := ev (slot_o2 hd 3 rfl rfl)
            go_simp
            exact ⟨_, ⟨rfl, Below.refl _ _⟩, rfl⟩
          case j8_4 =>
            intro a' w' ob hb hbo hal hd
            have e0 := ev (slot_w2 hd 38 (exO (.pointer (some ⟨w.heap.size + 1, 1, none⟩))) rfl rfl)
            have q := (cellB hb (show w.heap.size + 1 < w4.heap.size by omega)).trans e1
            go_simp
            exact ⟨_, ⟨rfl, Below.refl _ _⟩, rfl⟩
          case j8_5 =>
            intro a' w' ob hb hbo hal hd
            have e0 := ev (slot_w2 hd 39 (exO (.slice la r.2.length lc)) rfl rfl)
            go_simp
            exact ⟨rfl, Below.refl _ _, (l04Lists_any w' (HXR.out.below hb) HUO.out.1 HUO.out.2.1 HUO.out.2.2.1 HUO.out.2.2.2).mono fun e w'' ⟨u, he, hf, hb2⟩ => ⟨_, he, hb2, rdSO_mk hf hbo⟩⟩
          case j8_6 =>
            intro a' w' ob hb hbo hal hd
            have e0 : a'.tmps[7]?.getD undef = .pointer (some ⟨hb', 0, none⟩) := ev (slot_o2 hd 7 rfl rfl)
            go_simp
            exact ⟨_, ⟨rfl, Below.refl _ _⟩, rfl⟩
          case j8_7 =>
            intro a' w' ob hb hbo hal hd
            have e0 := ev (slot_w2 hd 41 (exO (.pointer (some ⟨hb', 1, none⟩))) rfl rfl)
            have q := (cellB hb (show hb' < w4.heap.size by omega)).trans e2
            go_simp
            exact ⟨_, ⟨rfl, Below.refl _ _⟩, rfl⟩
          case j8_8 =>
            intro a' w' ob hb hbo hal hd
            have e0 : a'.tmps[9]?.getD undef = .int .i64 (k : Int) := ev (slot_o2 hd 9 rfl rfl)
            go_simp
            exact ⟨_, ⟨rfl, Below.refl _ _⟩, rfl⟩
          case j8_9 =>
            intro a' w' ob hb hbo hal hd
            have e0 := ev (slot_w2 hd 42 (exO (.slice (some ⟨hb0, ho0, none⟩) (roV t r).2.length c2)) rfl rfl)
            have e1 := ev (slot_w2 hd 43 (exO (.int .i64 (k : Int))) rfl rfl)
            go_simp
            exact ⟨_, ⟨rfl, Below.refl _ _⟩, rfl⟩
          case j8_10 =>
            intro a' w' ob hb hbo hal hd
            have e0 := ev (slot_w2 hd 44 (exO (.pointer (some ⟨hb0, ho0 + k, none⟩))) rfl rfl)
            have q := (cellB hb (show hb0 < w4.heap.size by omega)).trans hck
            go_simp
            exact ⟨_, ⟨rfl, Below.refl _ _⟩, rfl⟩
          case j8_11 =>
            intro a' w' ob hb hbo hal hd
            have e0 : a'.tmps[2]?.getD undef = .pointer (some ⟨w.heap.size, 0, none⟩) := ev (slot_o2 hd 2 rfl rfl)
            have e1 := ev (slot_w2 hd 37 (exO (.int .i64 (r.2.length : Int))) rfl rfl)
            have e2 := ev (slot_w2 hd 45 (exO (.slice ka V.length kc)) rfl rfl)
            have d40 := slot_w2 hd 40 (rdSO rowsT (colsL r.2 (huM r.2))) rfl rfl
            obtain ⟨ad40, cap40, e40⟩ := rdSO_val d40
            rw [e40] at d40
            have rd40 := d40.rd
            have e40' := ev e40
            go_simp
            exact ⟨rfl, Below.refl _ _, (HLW.out w' _ hb rd40).mono fun e w'' ⟨cs, he, hf, hb2⟩ => ⟨_, he, hb2, frTO_mk hb.size hf hbo⟩⟩
          case j8_12 =>
            intro a' w' ob hb hbo hal hd
            have d46 := slot_w2 hd 46 (frTO opT w4.heap.size O (.int .i64 0)) rfl rfl
            obtain ⟨cs46, e46, hf46⟩ := d46
            have e46' := ev e46
            go_simp
            exact ⟨_, ⟨rfl, Below.refl _ _⟩, cs46, rfl, hf46⟩
          case j8_13 =>
            intro a' w' ob hb hbo hal hd
            have d34 := slot_w2 hd 34 (frTO opT w4.heap.size O (.int .i64 0)) rfl rfl
            obtain ⟨cs34, e34, hf34⟩ := d34
            have e34' := ev e34
            go_simp
            exact ⟨_, ⟨rfl, Below.refl _ _⟩, hf34⟩
          case j8_14 =>
            intro a' w' ob hb hbo hal hd
            have d34 := slot_w2 hd 34 (frTO opT w4.heap.size O (.int .i64 0)) rfl rfl
            obtain ⟨cs34, e34, hf34⟩ := d34
            have e34' := ev e34
            go_simp
            exact ⟨_, ⟨rfl, Below.refl _ _⟩, rfl⟩
          case j8_15 =>
            intro a' w' ob hb hbo hal hd
            obtain rfl := hal rfl
            go_simp
            exact ⟨_, ⟨rfl, by simp, bA⟩, _, rfl, rfl, by simp, box2n⟩
          case j8_16 =>
            intro a' w' ob hb hbo hal hd
            obtain ⟨bb, rfl, e10, hbb, hcl⟩ := slot_w2 hd 10 (boxO 2) rfl rfl
            have e10' := ev e10
            have d47 := slot_w2 hd 47 (frAO opT w4.heap.size O) rfl rfl
            obtain ⟨cs47, fp47, e47, hr47, hn47, hg47, hu47, ho47⟩ := d47
            obtain ⟨u47, rfl, hr47', -⟩ := rd_pair hr47
            obtain ⟨ad47', cap47', rfl⟩ := rd_slice ⟨_, hr47'⟩
            have e47' := ev e47
            obtain ⟨⟨y0, c0⟩, f0⟩ := hcl 0 (by decide)
            obtain ⟨⟨y1, c1⟩, f1⟩ := hcl 1 (by decide)
            go_simp
            exact held2 c0 c1 hr47 hn47 hg47 hu47 ho47 _
          case j8_17 =>
            intro a' w' ob hb hbo hal hd
            have e0 := ev (slot_w2 hd 48 (exO (.int .i64 0)) rfl rfl)
            go_simp
            exact ⟨_, ⟨rfl, Below.refl _ _⟩, rfl⟩
          intro vs8 w5 ob8 hb5 hbo8 H0
          obtain ⟨v8_0, _, rfl, p0, H1⟩ := HAll2_cons H0
          obtain ⟨v8_1, _, rfl, p1, H2⟩ := HAll2_cons H1
          obtain ⟨v8_2, _, rfl, p2, H3⟩ := HAll2_cons H2
          obtain ⟨v8_3, _, rfl, p3, H4⟩ := HAll2_cons H3
          obtain ⟨v8_4, _, rfl, p4, H5⟩ := HAll2_cons H4
          obtain ⟨v8_5, _, rfl, p5, H6⟩ := HAll2_cons H5
          obtain ⟨v8_6, _, rfl, p6, H7⟩ := HAll2_cons H6
          obtain ⟨v8_7, _, rfl, p7, H8⟩ := HAll2_cons H7
          obtain ⟨v8_8, _, rfl, p8, H9⟩ := HAll2_cons H8
          obtain ⟨v8_9, _, rfl, p9, H10⟩ := HAll2_cons H9
          obtain ⟨v8_10, _, rfl, p10, H11⟩ := HAll2_cons H10
          obtain ⟨v8_11, _, rfl, p11, H12⟩ := HAll2_cons H11
          obtain ⟨v8_12, _, rfl, p12, H13⟩ := HAll2_cons H12
          obtain ⟨v8_13, _, rfl, p13, H14⟩ := HAll2_cons H13
          obtain ⟨v8_14, _, rfl, p14, H15⟩ := HAll2_cons H14
          obtain ⟨v8_15, _, rfl, p15, H16⟩ := HAll2_cons H15
          obtain ⟨v8_16, _, rfl, p16, H17⟩ := HAll2_cons H16
          obtain ⟨v8_17, _, rfl, p17, H18⟩ := HAll2_cons H17
          obtain rfl := HAll2_nil H18
          obtain rfl := id p0
          obtain rfl := id p1
          obtain rfl := id p2
          obtain rfl := id p3
          obtain rfl := id p4
          obtain rfl := id p6
          obtain rfl := id p7
          obtain rfl := id p8
          obtain rfl := id p9
          obtain rfl := id p10
          obtain rfl := id p14
          obtain rfl := id p17
          obtain ⟨bb, rfl, rfl, hltbb, -⟩ := id p15
          obtain ⟨_, cs, fpx, hob, hr1, hr2, hr3, hr4, -, cc⟩ := id p16
          simp only [Option.some.injEq] at hob
          subst hob
          have hc : opT.Fr w4.heap.size w5 cs O := ⟨fpx, hr1, hr2, hr3, hr4⟩
          have hlob : w4.heap.size ≤ bb := (hbo8 bb rfl).1
          obtain ⟨a5, c5, rfl⟩ := fr_pair hc
          have z0 : w5.cell? ⟨bb, 0, none⟩ = some (.int .i64 O.1) := cc 0 (by simp)
          have z1 : w5.cell? ⟨bb, 1, none⟩ = some (.slice a5 O.2.length c5) := cc 1 (by simp)
          have HF5 := Lib.hid hc
          have hB5 := bthen hB4 hb5
          have hz5 := hb5.size
          replace x0 := (cellB hb5 (by omega)).trans x0
          replace x1 := (cellB hb5 (by omega)).trans x1
          replace e2 := (cellB hb5 (by omega)).trans e2
          replace y0 := (frozenB hb5 (by omega)).trans y0
          replace y1 := (frozenB hb5 (by omega)).trans y1
          replace hck := (cellB hb5 (show hb0 < w4.heap.size by omega)).trans hck
          have HX5 := Lib.hid (HX.out.below (bthen hb4 hb5))
          clear cc hr1 hr2 hr3 hr4 hc p5 p11 p12 p13 p15 p16
          simp only [putAll, Act.put]
          go_simp
          go_wp2_with fail
          refine wp_region_T (fun w' => w'.cell? ⟨bb, 0, none⟩ = some (.int .i64 O.1) ∧ w'.cell? ⟨bb, 1, none⟩ = some (.slice a5 O.2.length c5) ∧ w'.cell? ⟨hb', 1, none⟩ = some (.slice (some ⟨hb0, ho0, none⟩) (roV t r).2.length c2) ∧ w'.cell? ⟨hb0, ho0 + k, none⟩ = some (.slice ka V.length kc)) [8, 9, 10] (by kernel_rfl) ⟨z0, z1, e2, hck⟩ (fun hHeld => ?_)
          refine wpAnyT_take (i := 0) (v := ?_) rfl (by kernel_rfl) (fun _ _ _ h => h) (Or.inl ⟨by rfl, ?_⟩) (by assumption) ?_
          rotate_left
          · (intro w hSw; (try dsimp only at hSw); go_simp <;> with_reducible rfl)
          go_simp
          refine wpAnyT_take (i := 1) (v := ?_) rfl (by kernel_rfl) (fun _ _ _ h => h) (Or.inl ⟨by rfl, ?_⟩) (by assumption) ?_
          rotate_left
          · (intro w hSw; (try dsimp only at hSw); go_simp <;> with_reducible rfl)
          go_simp
          refine wpAnyT_take (i := 2) (v := ?_) rfl (by kernel_rfl) (fun _ _ _ h => h) (Or.inl ⟨by rfl, ?_⟩) (by assumption) ?_
          rotate_left
          · (intro w hSw; (try dsimp only at hSw); go_simp <;> with_reducible rfl)
          go_simp
          refine wpAnyT_take (i := 3) (v := ?_) rfl (by kernel_rfl) (fun _ _ _ h => h) (Or.inl ⟨by rfl, ?_⟩) (by assumption) ?_
          rotate_left
          · (intro w hSw; (try dsimp only at hSw); go_simp <;> with_reducible rfl)
          go_simp
          refine wpAnyT_take (i := 4) (v := ?_) rfl (by kernel_rfl) (fun _ _ _ h => h) (Or.inl ⟨by rfl, ?_⟩) (by assumption) ?_
          rotate_left
          · (intro w hSw; (try dsimp only at hSw); go_simp <;> with_reducible rfl)
          go_simp
          refine wpAnyT_take (i := 5) (v := ?_) rfl (by kernel_rfl) (fun _ _ _ h => h) (Or.inl ⟨by rfl, ?_⟩) (by assumption) ?_
          rotate_left
          · (intro w hSw; (try dsimp only at hSw); go_simp <;> with_reducible rfl)
          go_simp
          refine wpAnyT_any (i := 7) (v := ?_) rfl (by kernel_rfl) (fun _ _ _ h => h) (Or.inl ⟨by rfl, ?_⟩) (by first | exact fun _ => by assumption | (intro hp; exact absurd hp (by rw [show pastB _ _ = true by kernel_rfl]; simp))) ?_
          rotate_left
          · (intro w hSw; (try dsimp only at hSw); go_simp <;> with_reducible rfl)
          try simp only [Act.put]
          go_simp
          refine wpAnyT_one (i := 6) rfl (by kernel_rfl) (fun K hK => ?_)
          go_simp
          go_at_call 69
          refine (l00Own_any _ (HX5.out.below bD) hlx).mono ?_
          rintro e w6 ⟨u6, rfl, hBl6, hb6⟩
          have hb6' : Below w5.heap.size w5 w6 := bthen bD hb6
          have hB6 := bthen hB5 hb6'
          have hf6 : intsT.Fr w5.heap.size w6 [u6] V := (hBl6.fr (by unfold capMax; omega)).mono (by simp)
          obtain ⟨a6, c6, rfl⟩ := fr_slice hf6
          have HF6 := Lib.hid hf6
          have hz6 := hb6'.size
          replace x0 := (cellB hb6' (by omega)).trans x0
          replace x1 := (cellB hb6' (by omega)).trans x1
          replace z0 := (cellB hb6' (by omega)).trans z0
          replace z1 := (cellB hb6' (by omega)).trans z1
          replace e2 := (cellB hb6' (by omega)).trans e2
          replace y0 := (frozenB hb6' (by omega)).trans y0
          replace y1 := (frozenB hb6' (by omega)).trans y1
          replace hck := (cellB hb6' (show hb0 < w5.heap.size by omega)).trans hck
          have HFB := Lib.hid (HF5.out.fx.below hb6')
          clear hf6 hBl6 hb6
          dsimp only
          refine hK.out _ _ ⟨z0, z1, e2, hck⟩ (fun hHeld => ?_)
          clear hK K
          refine wpAnyT_last (i := 8) rfl (by kernel_rfl) (by kernel_rfl) (fun K hK => ?_)
          go_simp
          have k0 := res2_0 (x := .int .i64 O.1) (y := .slice a5 O.2.length c5) x0
          have k1 := res2_1 (x := .int .i64 O.1) (y := .slice a5 O.2.length c5) x1
          have HFX := Lib.hid ((HFB.out.fx_set (a := ⟨w.heap.size + 1 + 1, 0, none⟩) (u := .int .i64 O.1) (show w.heap.size + 1 + 1 < w4.heap.size by omega)).fx_set (a := ⟨w.heap.size + 1 + 1, 1, none⟩) (u := .slice a5 O.2.length c5) (show w.heap.size + 1 + 1 < w4.heap.size by omega))
          have HFY := Lib.hid ((HF6.out.set (a := ⟨w.heap.size + 1 + 1, 0, none⟩) (u := .int .i64 O.1) (show w.heap.size + 1 + 1 < w5.heap.size by omega)).set (a := ⟨w.heap.size + 1 + 1, 1, none⟩) (u := .slice a5 O.2.length c5) (show w.heap.size + 1 + 1 < w5.heap.size by omega))
          have hB7 := res2_b (x := .int .i64 O.1) (y := .slice a5 O.2.length c5) hB6 (show w.heap.size ≤ w.heap.size + 1 + 1 by omega)
          have hz7 : ((w6.setCell ⟨w.heap.size + 1 + 1, 0, none⟩ (.int .i64 O.1)).setCell ⟨w.heap.size + 1 + 1, 1, none⟩ (.slice a5 O.2.length c5)).heap.size = w6.heap.size := by simp [World.setCell]
          generalize (w6.setCell ⟨w.heap.size + 1 + 1, 0, none⟩ (.int .i64 O.1)).setCell ⟨w.heap.size + 1 + 1, 1, none⟩ (.slice a5 O.2.length c5) = wz at *
          refine hK.out _ _ ?_
          clear hK K
          refine wpAnyT_last (i := 9) rfl (by kernel_rfl) (by kernel_rfl) (fun K hK => ?_)
          go_simp
          refine hK.out _ _ ?_
          clear hK K
          refine wpAnyT_last (i := 10) rfl (by kernel_rfl) (by kernel_rfl) (fun K hK => ?_)
          go_simp
          refine hK.out _ _ ?_
          clear hK K
          refine wpAnyT_done (by kernel_rfl) ?_ _
          go_simp
          go_wp2_with fail
          refine bodyPost_ret (v := .tuple #[.agg #[.int .i64 O.1, .slice a5 O.2.length c5], .slice a6 V.length c6, .int .i64 0]) (by simp [results, Try.results33, go_sem, k0, k1]) rfl ⟨[.int .i64 O.1, .slice a5 O.2.length c5], .slice a6 V.length c6, w5.heap.size, by rw [HE.out.1], by omega, by omega, ?_, ?_, hB7⟩
          · rw [HE.out.2.1]
            exact HFX.out.fx_lo (by omega)
          · rw [HE.out.2.2]
            exact HFY.out
        · have HE := Lib.hid (HTK.out hh)
          clear hh
          go_wp2_with fail
          go_roundw
          case rel => exact ⟨k + 1, by omega, by go_num, HE.out, bthen hbr hb4⟩
          case measure => simp [intOf]; omega
      · obtain rfl : k = (roV t r).2.length := by omega
        have HE := Lib.hid (bo_none HC0.out (fun v hv => HUP.out v (by rw [List.take_length]; exact hv)))
        have hlw0 : w.heap.size + 1 + 1 < wv.heap.size := by omega
        have HZ0 := Lib.hid (fun (x y : Value) (q : Obj) => (cellB (bA (w := (wv.setCell ⟨w.heap.size + 1 + 1, 0, none⟩ x).setCell ⟨w.heap.size + 1 + 1, 1, none⟩ y) (o := q)) (show w.heap.size + 1 + 1 < _ by simpa [World.setCell] using hlw0)).trans (res2_0 (x := x) (y := y) x0))
        have HZ1 := Lib.hid (fun (x y : Value) (q : Obj) => (cellB (bA (w := (wv.setCell ⟨w.heap.size + 1 + 1, 0, none⟩ x).setCell ⟨w.heap.size + 1 + 1, 1, none⟩ y) (o := q)) (show w.heap.size + 1 + 1 < _ by simpa [World.setCell] using hlw0)).trans (res2_1 (x := x) (y := y) x1))
        have hlw : w.heap.size + 1 + 1 < wv.heap.size := by omega
        go_wp2_with fail
        refine bodyPost_ret (v := .tuple #[.agg #[.int .i64 0, .slice none 0 0], .slice (some ⟨wv.heap.size, 0, none⟩) 0 0, .int .i64 6]) (by simp [results, Try.results33, go_sem, HZ0.out, HZ1.out]) rfl ⟨[.int .i64 0, .slice none 0 0], .slice (some ⟨wv.heap.size, 0, none⟩) 0 0, w.heap.size, by rw [HE.out.1], Nat.le_refl _, ?_, ?_, ?_, (res2_b hBr (by omega)).alloc (by simp [World.setCell]; omega) _⟩
        · simp [World.setCell]; omega
        · rw [HE.out.2.1]; exact fx_op0
        · rw [HE.out.2.2]; exact fr_empty
theorem bo_small {t : Tpl} {r : RelV} : (boO t r).2.length ≤ 64 ∧ (boT t r).length ≤ 4 := by
  cases hc : (roC t r == 0)
  · obtain ⟨-, e2, e3⟩ := bo_no hc
    rw [e2, e3]; exact ⟨Nat.zero_le _, Nat.zero_le _⟩
  · have h0 : roC t r = 0 := by simpa using hc
    cases hi : boI t r with
    | none =>
      have h1 : boO t r = (0, []) := by simp [boO, h0, hi]
      have h2 : boT t r = [] := by simp [boT, h0, hi]
      rw [h1, h2]; exact ⟨Nat.zero_le _, Nat.zero_le _⟩
    | some k =>
      have h1 : boO t r = (roO t r).getD k (0, []) := by simp [boO, h0, hi]
      have h2 : boT t r = (roV t r).2.getD k [] := by simp [boT, h0, hi]
      have hk : k < (roV t r).2.length := by
        unfold boI at hi
        rw [List.findIdx?_eq_some_iff_getElem] at hi
        exact hi.1
      have hko : k < (roO t r).length := by have := (ro_len h0).1; omega
      have hat := ro_at h0 hk hko
      have hm := (hu_ok (ro_zero h0).2.2.1).2.2.1
      rw [h1, h2, List.getD_eq_getElem?_getD, List.getD_eq_getElem?_getD, List.getElem?_eq_getElem hk, List.getElem?_eq_getElem hko]
      exact ⟨hat.2.2.2.2, by show ((roV t r).2[k]).length ≤ 4; rw [hat.1]; omega⟩
theorem bo_cnt {t : Tpl} {r : RelV} : cntOp (boO t r) ≤ 1000000 := by
  have := (bo_small (t := t) (r := r)).1
  unfold cntOp cntI
  omega
theorem bt_cnt {t : Tpl} {r : RelV} : cntI (boT t r) ≤ 1000000 := by
  have := (bo_small (t := t) (r := r)).2
  unfold cntI
  omega
end Go.Proofs.Ytccobadobklbpaa
