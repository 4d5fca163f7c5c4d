/-
  Contracts: a template in new memory; a template extended by a formula: plain parts, the program's copies.
-/
import Derived.Test.YtbpjejhjlmpcjaaGreatS16
namespace Go.Proofs.YtbpjejhjlmpcjaaGreat
open Go.RowKit Go.Sort
theorem idx_of_lt {s : Int} (hs : 1 ≤ s) : ∀ {xs ys : List Int} {a : Int}, xs.length = ys.length → (∀ x ∈ xs, 0 ≤ x ∧ x ≤ s - 1) → (∀ y ∈ ys, 0 ≤ y ∧ y ≤ s - 1) → ltL xs ys → idxL s a xs < idxL s a ys
  | [], [], _, _, _, _, h => by simp [ltL, cmpL] at h
  | [], _ :: _, _, hl, _, _, _ => by simp at hl
  | _ :: _, [], _, hl, _, _, _ => by simp at hl
  | x :: xs, y :: ys, a, hl, hx, hy, h => by
    simp only [idxL]
    have hx' := fun z hz => hx z (List.mem_cons_of_mem x hz)
    have hy' := fun z hz => hy z (List.mem_cons_of_mem y hz)
    unfold ltL at h
    rcases Int.lt_trichotomy x y with hc | hc | hc
    · exact idx_mono hs (by simpa using hl) hx' hy' (by omega)
    · subst hc
      rw [cmpL, if_pos rfl] at h
      exact idx_of_lt hs (by simpa using hl) hx' hy' h
    · rw [cmpL, if_neg (by omega), cmpI_gt hc] at h
      omega
theorem rel_bd {s : Int} {r : Int × List (List Int)} (h : relOk s r) : r.2.length ≤ 256 ∧ ∀ y ∈ r.2, y.length ≤ 4 := by
  obtain ⟨⟨h1, h2⟩, ⟨h3, h4⟩, h5⟩ := h
  refine ⟨?_, fun y hy => ?_⟩
  · have key : ∀ i (hi : i < r.2.length), (i : Int) ≤ idxL s 0 r.2[i] := by
      intro i
      induction i with
      | zero =>
        intro hi
        obtain ⟨⟨e1, e2⟩, -⟩ := h5 0 hi
        have := idx_bd h1 e2 _ (Nat.le_refl _)
        rw [List.take_length] at this
        omega
      | succ i ih =>
        intro hi
        have h6 := ih (by omega)
        obtain ⟨⟨e1, e2⟩, e3⟩ := h5 (i + 1) hi
        obtain ⟨⟨d1, d2⟩, -⟩ := h5 i (by omega)
        have := idx_of_lt h1 (a := 0) (by omega) d2 e2 (e3 (by omega))
        omega
    rcases Nat.eq_zero_or_pos r.2.length with h0 | h0
    · omega
    · have hi : r.2.length - 1 < r.2.length := by omega
      have h6 := key _ hi
      obtain ⟨⟨e1, e2⟩, -⟩ := h5 _ hi
      have h7 := idx_bd h1 e2 _ (Nat.le_refl _)
      rw [List.take_length] at h7
      have h8 := pow_mono' (s := s) (c := 4) (by omega) (by omega) (r.2[r.2.length - 1]).length
      have h9 : (4 : Int) ^ (r.2[r.2.length - 1]).length ≤ 256 := by
        generalize (r.2[r.2.length - 1]).length = m at e1 ⊢
        rcases (show m = 0 ∨ m = 1 ∨ m = 2 ∨ m = 3 ∨ m = 4 by omega) with e | e | e | e | e <;> rw [e] <;> decide
      omega
  · obtain ⟨i, hi, rfl⟩ := List.mem_iff_getElem.1 hy
    obtain ⟨⟨e1, -⟩, -⟩ := h5 i hi
    omega
theorem rel_cnt {s : Int} {r : Int × List (List Int)} (h : relOk s r) : cntRel1 r ≤ 1300 := by
  obtain ⟨h1, h2⟩ := rel_bd h
  have h4 := sumL_bd (f := cntI) (c := 5) (xs := r.2) (fun y hy => by have := h2 y hy; unfold cntI; omega)
  unfold cntRel1 cntRows
  omega
section
variable (t : Int × List (Int × List (List Int))) (f : Int × Int × List (Int × List Int))
noncomputable def xtV : Int × List (Int × List (List Int)) := match tb (frmOk t f), ((t.2.length : Int) == 6) with
  | true, false => (t.1, t.2 ++ [vaR t f])
  | _, _ => (0, [])
noncomputable def xtC : Int := match tb (frmOk t f), ((t.2.length : Int) == 6) with
  | true, false => 0
  | true, true => 3
  | false, _ => 1
end
section
variable {t : Int × List (Int × List (List Int))} {f : Int × Int × List (Int × List Int)}
theorem xt_1 (h : tb (frmOk t f) = false) : xtV t f = (0, []) ∧ xtC t f = 1 := by simp [xtV, xtC, h]
theorem xt_3 (h : tb (frmOk t f) = true) (h2 : ((t.2.length : Int) == 6) = true) : xtV t f = (0, []) ∧ xtC t f = 3 := by simp only [xtV, xtC, h, h2, and_self]
theorem xt_0 (h : tb (frmOk t f) = true) (h2 : ((t.2.length : Int) == 6) = false) : xtV t f = (t.1, t.2 ++ [vaR t f]) ∧ xtC t f = 0 := by simp only [xtV, xtC, h, h2, and_self]
theorem tpl_bds (h : tplOk t) : t.2.length ≤ 6 ∧ ∀ c ∈ t.2, c.2.length ≤ 1000000 ∧ ∀ y ∈ c.2, y.length ≤ 1000000 := by
  refine ⟨h.2.1, fun c hc => ?_⟩
  obtain ⟨h1, h2⟩ := rel_bd (h.2.2 c hc)
  exact ⟨by omega, fun y hy => by have := h2 y hy; omega⟩
theorem xt_cnt : cntTpl (xtV t f) ≤ 1000000 := by
  cases h : tb (frmOk t f)
  · rw [(xt_1 h).1]; simp [cntTpl, cntRels, sumL]
  cases h2 : ((t.2.length : Int) == 6)
  rotate_left
  · rw [(xt_3 h h2).1]; simp [cntTpl, cntRels, sumL]
  rw [(xt_0 h h2).1]
  have hok := tb_iff.1 h
  have h3 := hok.1.2.1
  have h4 := sumL_bd (f := cntRel1) (c := 1300) (xs := t.2 ++ [vaR t f]) (fun y hy => by
    rcases List.mem_append.1 hy with hm | hm
    · exact rel_cnt (hok.1.2.2 y hm)
    · obtain rfl := List.mem_singleton.1 hm
      have := va_cnt hok
      unfold cntRel1
      omega)
  rw [List.length_append] at h4
  simp only [List.length_singleton] at h4
  show sumL cntRel1 (t.2 ++ [vaR t f]) ≤ 1000000
  omega
end
theorem bl_off {α : Type} {E : Ty α} {bx e base top : Nat} {w : World} {v : Value} {ys : List α} (h : Bl E e base top w v ys) (hb : top ≤ bx) : Bl (E.off bx) e base top w v ys := by
  obtain ⟨L, fps, h1, h2, h3, h4, h5, h6⟩ := h
  refine ⟨L, fps, h1, fun i hi => ?_, h3, h4, h5, h6⟩
  obtain ⟨cs, h7, h8⟩ := h2 i hi
  refine ⟨cs, ⟨h7, fun hm => ?_⟩, h8⟩
  have := (h4 bx (List.mem_flatMap.2 ⟨i, by simpa using hi, hm⟩)).2.1
  omega
set_option maxHeartbeats 1600000 in
set_option maxRecDepth 100000 in
theorem ownLists_any (w : World) {v : Value} {xs : List (List Int)} (h : rowsT.Rd w [v] xs) (hl : xs.length ≤ 1000000) (hl2 : ∀ y ∈ xs, y.length ≤ 1000000) :
    Calls Tryz.prog 80 #[v] w (RetS rowsT w xs) := by
  obtain ⟨ad, cap, hv, -, -, hcell⟩ := slices_ex h
  obtain rfl : v = _ := by simpa using hv
  have HC := Lib.hid hcell
  have HL2 := Lib.hid hl2
  clear h hv hcell hl2
  go_enter Tryz.func80, Tryz.ntmps80
  go_wp2_with fail
  generalize hW : World.alloc w _ = W
  have hbW : Below w.heap.size w W := hW ▸ bA
  have HB0 : Hid (Bl intsT 50 w.heap.size W.heap.size W (.slice (some ⟨w.heap.size, 0, none⟩) 0 0) []) := by
    unfold Hid
    rw [← hW]
    simpa using Bl.lit0 (E := intsT) (e := 50) (base := w.heap.size) (w := w) (Nat.le_refl _)
  clear hW
  go_loopw [9, 3] (fun i o wr => ∃ k : Nat, k ≤ xs.length ∧ i = .int .i64 k ∧ Bl intsT 50 w.heap.size wr.heap.size wr o (xs.take k) ∧ Below w.heap.size w wr) (fun i _ _ => xs.length - (intOf i).toNat)
  case atStart => exact ⟨0, Nat.zero_le _, rfl, by simpa using HB0.out, hbW⟩
  case round =>
    obtain ⟨k, hk, rfl, hBl, hbe⟩ := hrel
    have HB := Lib.hid hBl
    have hse := hbe.size
    clear hBl HB0
    by_cases hkl : k < xs.length
    · obtain ⟨b, o, rfl, hb, hce⟩ := HC.out (by omega)
      obtain ⟨uk, huk, g0⟩ := hce k hkl
      obtain ⟨ak, nk, ck, rfl⟩ := rd_sl huk
      have d0 := (hbe.cell hb).trans g0
      have HU := Lib.hid (huk.below hbe)
      have hlk := HL2.out _ (List.getElem_mem hkl)
      have HTK := Lib.hid (take_snoc hkl)
      clear hce huk g0
      go_wp2_with fail
      refine (Clone_any _ HU.out hlk).mono ?_
      rintro e w1 ⟨u2, rfl, hf, hb1⟩
      obtain ⟨a2, n2, c2, rfl⟩ := ex_slice hf
      have HF := Lib.hid hf
      have hz1 := hb1.size
      have HB1 : Hid (Bl intsT 50 w.heap.size wr.heap.size w1 _ (xs.take k)) := HB.out.below hb1 (Nat.le_refl _)
      clear hf HU d0
      go_wp2_with (refine wpList_push (E := intsT) _ rfl _ _ 30 50 rfl elInt64SS rfl (HB1.out.below (bA.mono (by omega)) (Nat.le_refl _)) rfl news1 (HF.out.below bA) (by rw [take_len hk]; omega) (by decide) (by omega) (by first | (simp; done) | (simp; omega)) ?_; intro v5 w5 hB5 hg5 _; have hb5 : Below w.heap.size w1 w5 := ((Below.refl _ w1).alloc (by omega) _).grown hg5 (by first | (simp; done) | (simp; omega)) (fun q hq => HB1.out.own hq))
      rw [HTK.out] at hB5
      have HB5 := Lib.hid hB5
      clear hB5 hg5
      go_roundw
      case rel => exact ⟨k + 1, by omega, by go_num, HB5.out, (bthen hbe hb1).trans hb5⟩
      case measure => simp [intOf]; omega
    · obtain rfl : k = xs.length := by omega
      rw [List.take_length] at HB
      have HFO := Lib.hid (HB.out.fr (by unfold capMax; omega))
      go_wp2_with fail
      go_ret
      exact ⟨_, rfl, HFO.out, hbe⟩
set_option maxHeartbeats 3200000 in
set_option maxRecDepth 100000 in
theorem ownTemplate_any (w : World) {cs : Array Value} {x : Int × List (Int × List (List Int))} (h : tplT.Rd w cs.toList x) (hl : x.2.length ≤ 1000000) (hl2 : ∀ c ∈ x.2, c.2.length ≤ 1000000 ∧ ∀ y ∈ c.2, y.length ≤ 1000000) :
    Calls Tryz.prog 52 #[.agg cs] w fun e w' => ∃ v, e = .returned (.agg #[.int .i64 x.1, v]) ∧ Bl relT 32 (w.heap.size + 3) w'.heap.size w' v x.2 ∧ Below w.heap.size w w' ∧ w.heap.size + 3 ≤ w'.heap.size := by
  obtain ⟨u, hv, hI, hx⟩ := pair_ex h
  obtain rfl := agg_of hv
  obtain ⟨ad, cap, hu, -, -, hcell⟩ := pairs_ex hx
  obtain rfl : u = _ := by simpa using hu
  have HC := Lib.hid hcell
  have HL2 := Lib.hid hl2
  clear h hv hx hu hcell hl2
  go_enter Tryz.func52, Tryz.ntmps52
  go_wp2_with fail
  generalize hW : World.alloc _ _ = W
  have hbW : Below w.heap.size w W := hW ▸ ((bAA (w := w)).alloc (by simp; omega) _)
  have hsW : W.heap.size = w.heap.size + 3 := by rw [← hW]; simp
  have y0 : W.cell? ⟨w.heap.size + 2, 0, none⟩ = some (.int .i64 x.1) := by rw [← hW]; simp [go_sem]
  have y1 : W.cell? ⟨w.heap.size + 2, 1, none⟩ = some (.slice none 0 0) := by rw [← hW]; simp [go_sem]
  have y2 : W.frozen? ⟨w.heap.size + 2, 1, none⟩ = false := by rw [← hW]; simp [go_sem]
  have r0 : W.cell? ⟨w.heap.size + 1, 0, none⟩ = some (.int .i64 0) := by rw [← hW]; simp [go_sem]
  have r1 : W.cell? ⟨w.heap.size + 1, 1, none⟩ = some (.slice none 0 0) := by rw [← hW]; simp [go_sem]
  have r2 : W.frozen? ⟨w.heap.size + 1, 0, none⟩ = false := by rw [← hW]; simp [go_sem]
  have r3 : W.frozen? ⟨w.heap.size + 1, 1, none⟩ = false := by rw [← hW]; simp [go_sem]
  clear hW
  go_loopw [12] (fun i wr => ∃ (k : Nat) (v : Value), k ≤ x.2.length ∧ i = .int .i64 k ∧ Bl relT 32 (w.heap.size + 3) wr.heap.size wr v (x.2.take k) ∧ wr.cell? ⟨w.heap.size + 2, 1, none⟩ = some v ∧ wr.cell? ⟨w.heap.size + 2, 0, none⟩ = some (.int .i64 x.1) ∧ wr.frozen? ⟨w.heap.size + 2, 1, none⟩ = false ∧ Below (w.heap.size + 2) W wr ∧ w.heap.size + 3 ≤ wr.heap.size) (fun i _ => x.2.length - (intOf i).toNat)
  case atStart => exact ⟨0, _, Nat.zero_le _, rfl, by simpa using Bl.nil, y1, y0, y2, Below.refl _ _, by omega⟩
  case round =>
    obtain ⟨k, v, hk, rfl, hBv, z1, z0, z2, hbe, hse⟩ := hrel
    have hbw : Below w.heap.size w wr := hbW.trans (hbe.mono (by omega))
    obtain ⟨av0, nv0, cv0, rfl⟩ := ex_slice (hBv.fr (by rw [take_len hk]; unfold capMax; omega))
    have HBv := Lib.hid hBv
    clear hBv y0 y1 y2
    by_cases hkl : k < x.2.length
    · obtain ⟨b, o, rfl, hb, hce⟩ := HC.out (by omega)
      obtain ⟨uk, huk, hIk, g0, g1⟩ := hce k hkl
      obtain ⟨ak, nk, ck, rfl⟩ := rd_sl huk
      have d0 := (hbw.cell hb).trans g0
      have d1 := (hbw.cell hb).trans g1
      have HU := Lib.hid (huk.below hbw)
      have hlk := HL2.out _ (List.getElem_mem hkl)
      have HTK := Lib.hid (take_snoc hkl)
      clear hce huk g0 g1
      go_wp2_with fail
      generalize hWa : World.alloc wr _ = wa
      have hba : Below wr.heap.size wr wa := hWa ▸ bA
      have hsa : wa.heap.size = wr.heap.size + 1 := by rw [← hWa]; simp
      have e0 : wa.cell? ⟨wr.heap.size, 0, none⟩ = some (.int .i64 (x.2[k]).1) := by rw [← hWa]; simp
      have e1 : wa.cell? ⟨wr.heap.size, 1, none⟩ = some (.slice ak nk ck) := by rw [← hWa]; simp
      have e2 := (cellB hba (by omega)).trans z1
      have e3 := (cellB hba (by omega)).trans z0
      have e4 := (frozenB hba (by omega)).trans z2
      have l0 : wr.heap.size < wa.heap.size := by omega
      have l1 : w.heap.size + 2 < wa.heap.size := by omega
      clear hWa d0 d1
      refine wp_region_T (fun w' => w'.cell? ⟨w.heap.size + 2, 1, none⟩ = some (.slice av0 nv0 cv0) ∧ w'.cell? ⟨wr.heap.size, 0, none⟩ = some (.int .i64 (x.2[k]).1) ∧ w'.cell? ⟨wr.heap.size, 1, none⟩ = some (.slice ak nk ck)) [9, 11] (by kernel_rfl) ⟨e2, e0, e1⟩ (fun hHeld => ?_)
      refine wpAnyT_take (i := 0) (v := ?_) rfl (by kernel_rfl) (fun _ _ _ h => h) (Or.inl ⟨by rfl, ?_⟩) (by assumption) ?_
      rotate_left
      · (intro w hSw; (try dsimp only at hSw); go_simp <;> with_reducible rfl)
      try simp only [Act.put]
      refine wpAnyT_take (i := 1) (v := ?_) rfl (by kernel_rfl) (fun _ _ _ h => h) (Or.inl ⟨by rfl, ?_⟩) (by assumption) ?_
      rotate_left
      · (intro w hSw; (try dsimp only at hSw); go_simp <;> with_reducible rfl)
      try simp only [Act.put]
      refine wpAnyT_take (i := 2) (v := ?_) rfl (by kernel_rfl) (fun _ _ _ h => h) (Or.inl ⟨by rfl, ?_⟩) (by assumption) ?_
      rotate_left
      · (intro w hSw; (try dsimp only at hSw); go_simp <;> with_reducible rfl)
      try simp only [Act.put]
      refine wpAnyT_take (i := 3) (v := ?_) rfl (by kernel_rfl) (fun _ _ _ h => h) (Or.inl ⟨by rfl, ?_⟩) (by assumption) ?_
      rotate_left
      · (intro w hSw; (try dsimp only at hSw); go_simp <;> with_reducible rfl)
      try simp only [Act.put]
      refine wpAnyT_take (i := 4) (v := ?_) rfl (by kernel_rfl) (fun _ _ _ h => h) (Or.inl ⟨by rfl, ?_⟩) (by assumption) ?_
      rotate_left
      · (intro w hSw; (try dsimp only at hSw); go_simp <;> with_reducible rfl)
      try simp only [Act.put]
      refine wpAnyT_take (i := 5) (v := ?_) rfl (by kernel_rfl) (fun _ _ _ h => h) (Or.inl ⟨by rfl, ?_⟩) (by assumption) ?_
      rotate_left
      · (intro w hSw; (try dsimp only at hSw); go_simp <;> with_reducible rfl)
      try simp only [Act.put]
      refine wpAnyT_one (i := 6) rfl (by kernel_rfl) (fun K hK => ?_)
      go_simp
      go_at_call 80
      refine (ownLists_any _ (HU.out.below (bthen hba bD)) hlk.1 hlk.2).mono ?_
      rintro e w1 ⟨u2, rfl, hf, hb1⟩
      obtain ⟨a2, n2, c2, rfl⟩ := ex_slice hf
      have HF := Lib.hid hf
      have hb2 : Below wa.heap.size wa w1 := bthen bD hb1
      have f0 := (hb2.cell l0).trans e0
      have f1 := (hb2.cell l0).trans e1
      have f2 := (hb2.cell l1).trans e2
      have f3 := (hb2.cell l1).trans e3
      have f4 := (frozenB hb2 l1).trans e4
      have hz1 := hb2.size
      clear hf hb1 e0 e1 e2 e3 e4
      dsimp only
      refine hK.out _ _ ⟨f2, f0, f1⟩ (fun hHeld => ?_)
      clear hK K
      refine wpAnyT_take (i := 7) (v := ?_) rfl (by kernel_rfl) (fun _ _ _ h => h) (Or.inl ⟨by rfl, ?_⟩) (by assumption) ?_
      rotate_left
      · (intro w hSw; (try dsimp only at hSw); go_simp <;> with_reducible rfl)
      try simp only [Act.put]
      refine wpAnyT_one (i := 8) rfl (by kernel_rfl) (fun K hK => ?_)
      go_simp
      refine hK.out _ _ ⟨by go_keep, by go_keep, by go_keep⟩ (fun hHeld => ?_)
      clear hK K
      refine wpAnyT_last (i := 9) rfl (by kernel_rfl) (by kernel_rfl) (fun K hK => ?_)
      refine step_push (E := relT) _ rfl _ _ 35 32 rfl elRelS rfl (HBv.out.below ((hba.trans (hb2.mono hba.size)).alloc (by omega) _) (Nat.le_refl _)) rfl news2 ((fr_cons hIk (HF.out.below bA)).mono (by have := (bD (w := wa)).size; omega)) (by rw [take_len hk]; omega) (by decide) hse (by simp; omega) ?_
      intro v1 w3 hB3 hg3 _
      have hB3' : Bl relT 32 (w.heap.size + 3) w3.heap.size w3 v1 (x.2.take k ++ [x.2[k]]) := hB3
      rw [HTK.out] at hB3'
      have hb3 : Below (w.heap.size + 3) w1 w3 := ((Below.refl _ w1).alloc (by omega) _).grown hg3 (by simp; omega) (fun q hq => HBv.out.own hq)
      have i2 := (cellB hb3 (by omega)).trans f2
      have i3 := (cellB hb3 (by omega)).trans f3
      have i4 := (frozenB hb3 (by omega)).trans f4
      have hz3 := hb3.size
      have HB3 := Lib.hid hB3'
      obtain ⟨a3, n3, c3, rfl⟩ := ex_slice (hB3'.fr (by rw [take_len hkl]; unfold capMax; omega))
      clear hB3 hB3' hg3 f0 f1 f2 f3 f4
      refine hK.out _ _ ?_
      clear hK K
      refine wpAnyT_any (i := 10) (v := ?_) rfl (by kernel_rfl) (fun _ _ _ h => h) (Or.inl ⟨by rfl, ?_⟩) (by first | exact fun _ => by assumption | (intro hp; exact absurd hp (by rw [show pastB _ _ = true by kernel_rfl]; simp))) ?_
      rotate_left
      · (intro w hSw; (try dsimp only at hSw); go_simp <;> with_reducible rfl)
      try simp only [Act.put]
      refine wpAnyT_last (i := 11) rfl (by kernel_rfl) (by kernel_rfl) (fun K hK => ?_)
      go_simp
      refine hK.out _ _ ?_
      clear hK K
      refine wpAnyT_done (by kernel_rfl) ?_ _
      go_simp
      go_wp2_with fail
      go_roundw
      case rel => exact ⟨k + 1, _, by omega, by go_num, by rw [size_set]; exact HB3.out.sameB (fun q hq1 hq2 => Below.heap_setCell _ _ _ _ (by simp; omega)), World.cell?_setCell_same _ _ _ i2, (World.cell?_setCell_other _ _ _ _ (by simp)).trans i3, (World.frozen?_setCell _ _ _ _).trans i4, (hbe.trans ((hba.mono (by omega)).trans ((hb2.mono (by omega)).trans (hb3.mono (by omega))))).setCell (by simp) _, by rw [size_set]; omega⟩
      case measure => simp [intOf]; omega
    · obtain rfl : k = x.2.length := by omega
      rw [List.take_length] at HBv
      have HF := Lib.hid (HBv.out.fr (by unfold capMax; omega))
      have s0 := (cellB hbe (by omega)).trans r0
      have s1 := (cellB hbe (by omega)).trans r1
      have s2 := (frozenB hbe (by omega)).trans r2
      have s3 := (frozenB hbe (by omega)).trans r3
      have hze : w.heap.size + 2 < wr.heap.size := by omega
      go_wp2_with fail
      obtain ⟨g0, g1⟩ := set2_cells (x := .int .i64 x.1) (y := .slice av0 nv0 cv0) s0 s1
      refine bodyPost_ret (v := .agg #[.int .i64 x.1, .slice av0 nv0 cv0]) (by simp [results, Tryz.results52, go_sem, g0, g1]) rfl ⟨.slice av0 nv0 cv0, rfl, ?_, ?_, by simp only [size_set]; omega⟩
      · simp only [size_set]
        exact HBv.out.sameB (fun q hq1 hq2 => (Below.heap_setCell _ _ _ _ (by simp; omega)).trans (Below.heap_setCell _ _ _ _ (by simp; omega)))
      · exact (hbw.setCell (by simp) _).setCell (by simp) _
end Go.Proofs.YtbpjejhjlmpcjaaGreat
