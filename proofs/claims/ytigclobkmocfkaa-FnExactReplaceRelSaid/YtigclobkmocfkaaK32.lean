/-
  Contracts: slices.Clone, an instance in new memory.
-/
import Derived.Test.YtigclobkmocfkaaK17
import Derived.Test.YtigclobkmocfkaaReg
import Derived.Deep.RegionLaw
namespace Go.Proofs.Ytigclobkmocfkaa
open Go.RowKit Go.Sort
set_option maxHeartbeats 800000 in
theorem Clone_any (w : World) {v : Value} {xs : List Int} (h : intsT.Rd w [v] xs) (hlen : xs.length ≤ 1000000) :
    Calls Try.prog 171 #[v] w (RetS intsT w xs) := by
  have hx := h
  obtain ⟨ad, cap, rfl⟩ := rd_slice h
  have HX := Lib.hid hx
  have hnil := fun w o m c => Lib.run_eql_slice_nil (P := Try.prog) w 25 2 o m c 0 0 Try.underlying25
  rcases Nat.eq_zero_or_pos xs.length with h0 | h0
  · obtain rfl := List.eq_nil_of_length_eq_zero h0
    clear h hx h0 HX
    cases ad
    · go_enter Try.func171, Try.ntmps171
      go_wp2_with fail
      go_ret
      exact ⟨_, rfl, fr_nil, Below.refl _ _⟩
    · go_enter Try.func171, Try.ntmps171
      go_wp2_with fail
      go_ret
      exact ⟨_, rfl, fr_nil, bA⟩
  · obtain ⟨_, _, e1, -, -, hc⟩ := ints_ex h
    simp only [List.cons.injEq, Value.slice.injEq, and_true, true_and] at e1
    obtain ⟨rfl, rfl⟩ := e1
    obtain ⟨b, o, rfl, -⟩ := hc h0
    clear h hx hc
    have HB := Lib.hid (Bl.lit0 (E := Ty.int) (e := 2) (base := w.heap.size) (w := w) (Nat.le_refl _))
    go_enter Try.func171, Try.ntmps171
    go_wp2_with (refine wpList_appI _ rfl _ _ 25 2 rfl elInt rfl HB.out rfl (HX.out.below bA) h0 (by simp; omega) (by decide) (by omega) (by simp) ?_; intro v1 w1 hB1 hg1 _)
    have HB1 := Lib.hid (hB1.fr (by unfold capMax; simp; omega))
    have hb1 : Below w.heap.size w w1 := (bA (w := w)).grown hg1 (by simp) (fun k hk => HB.out.own hk)
    clear hB1
    go_wp2_with fail
    go_ret
    exact ⟨_, rfl, HB1.out, hb1⟩
theorem news2' {w : World} {u u' : Value} {T : TypeId} {B : Nat} (hB : B = w.heap.size) : ∀ j x, [u, u'][j]? = some x → (w.alloc (.cells #[u, u'] T)).cell? ((⟨B, 0, none⟩ : Addr).add j) = some x := by subst hB; exact news2
theorem news1' {w : World} {u : Value} {T : TypeId} {B : Nat} (hB : B = w.heap.size) : ∀ j x, [u][j]? = some x → (w.alloc (.cells #[u] T)).cell? ((⟨B, 0, none⟩ : Addr).add j) = some x := by subst hB; exact news1
theorem set2_cells {w : World} {b : Nat} {x y u v : Value} (h0 : w.cell? ⟨b, 0, none⟩ = some u) (h1 : w.cell? ⟨b, 1, none⟩ = some v) :
    ((w.setCell ⟨b, 0, none⟩ x).setCell ⟨b, 1, none⟩ y).cell? ⟨b, 0, none⟩ = some x ∧ ((w.setCell ⟨b, 0, none⟩ x).setCell ⟨b, 1, none⟩ y).cell? ⟨b, 1, none⟩ = some y :=
  ⟨(World.cell?_setCell_other _ _ _ _ (by simp)).trans (World.cell?_setCell_same _ _ _ h0), World.cell?_setCell_same _ _ _ ((World.cell?_setCell_other _ _ _ _ (by simp)).trans h1)⟩
theorem fr_set2 {α : Type} {E : Ty α} {base : Nat} {w : World} {cs : List Value} {x : α} {b : Nat} {u v : Value} (h : E.Fr base w cs x) (ha : b < base) : E.Fr base ((w.setCell ⟨b, 0, none⟩ u).setCell ⟨b, 1, none⟩ v) cs x := (h.set (a := ⟨b, 0, none⟩) ha).set (a := ⟨b, 1, none⟩) ha
set_option maxHeartbeats 3200000 in
set_option maxRecDepth 100000 in
theorem ownInstance_any (w : World) {cs : Array Value} {x : Int × List (Int × List Int)} (h : instT.Rd w cs.toList x) (hl : x.2.length ≤ 1000000) (hl2 : ∀ c ∈ x.2, c.2.length ≤ 1000000) :
    Calls Try.prog 86 #[.agg cs] w (RetA instT w x) := by
  obtain ⟨u, hv, hI, hx⟩ := pair_ex h
  obtain rfl := agg_of hv
  obtain ⟨ad, cap, hu, -, -, hcell⟩ := pairs_ex hx
  obtain rfl : u = _ := by simpa using hu
  have HC := Lib.hid hcell
  have HL2 := Lib.hid hl2
  clear h hv hx hu hcell hl2
  go_enter Try.func86, Try.ntmps86
  go_wp2_with fail
  generalize hW : World.alloc _ _ = W
  have hbW : Below w.heap.size w W := hW ▸ ((bAA (w := w)).alloc (by simp; omega) _)
  have hsW : W.heap.size = w.heap.size + 3 := by rw [← hW]; simp
  have y0 : W.cell? ⟨w.heap.size + 2, 0, none⟩ = some (.int .i64 x.1) := by rw [← hW]; simp [go_sem]
  have y1 : W.cell? ⟨w.heap.size + 2, 1, none⟩ = some (.slice none 0 0) := by rw [← hW]; simp [go_sem]
  have y2 : W.frozen? ⟨w.heap.size + 2, 1, none⟩ = false := by rw [← hW]; simp [go_sem]
  have r0 : W.cell? ⟨w.heap.size + 1, 0, none⟩ = some (.int .i64 0) := by rw [← hW]; simp [go_sem]
  have r1 : W.cell? ⟨w.heap.size + 1, 1, none⟩ = some (.slice none 0 0) := by rw [← hW]; simp [go_sem]
  have r2 : W.frozen? ⟨w.heap.size + 1, 0, none⟩ = false := by rw [← hW]; simp [go_sem]
  have r3 : W.frozen? ⟨w.heap.size + 1, 1, none⟩ = false := by rw [← hW]; simp [go_sem]
  clear hW
  go_loopw [12] (fun i wr => ∃ (k : Nat) (v : Value), k ≤ x.2.length ∧ i = .int .i64 k ∧ Bl opT 116 (w.heap.size + 3) wr.heap.size wr v (x.2.take k) ∧ wr.cell? ⟨w.heap.size + 2, 1, none⟩ = some v ∧ wr.cell? ⟨w.heap.size + 2, 0, none⟩ = some (.int .i64 x.1) ∧ wr.frozen? ⟨w.heap.size + 2, 1, none⟩ = false ∧ Below (w.heap.size + 2) W wr ∧ w.heap.size + 3 ≤ wr.heap.size) (fun i _ => x.2.length - (intOf i).toNat)
  case atStart => exact ⟨0, _, Nat.zero_le _, rfl, by simpa using Bl.nil, y1, y0, y2, Below.refl _ _, by omega⟩
  case round =>
    obtain ⟨k, v, hk, rfl, hBv, z1, z0, z2, hbe, hse⟩ := hrel
    have hbw : Below w.heap.size w wr := hbW.trans (hbe.mono (by omega))
    obtain ⟨av0, nv0, cv0, rfl⟩ := ex_slice (hBv.fr (by rw [take_len hk]; unfold capMax; omega))
    have HBv := Lib.hid hBv
    clear hBv y0 y1 y2
    by_cases hkl : k < x.2.length
    · obtain ⟨b, o, rfl, hb, hce⟩ := HC.out (by omega)
      obtain ⟨uk, huk, hIk, g0, g1⟩ := hce k hkl
      obtain ⟨ak, nk, ck, rfl⟩ := rd_sl huk
      have d0 := (hbw.cell hb).trans g0
      have d1 := (hbw.cell hb).trans g1
      have HU := Lib.hid (huk.below hbw)
      have hlk := HL2.out _ (List.getElem_mem hkl)
      have HTK := Lib.hid (take_snoc hkl)
      clear hce huk g0 g1
      go_wp2_with fail
      generalize hWa : World.alloc wr _ = wa
      have hba : Below wr.heap.size wr wa := hWa ▸ bA
      have hsa : wa.heap.size = wr.heap.size + 1 := by rw [← hWa]; simp
      have e0 : wa.cell? ⟨wr.heap.size, 0, none⟩ = some (.int .i64 (x.2[k]).1) := by rw [← hWa]; simp
      have e1 : wa.cell? ⟨wr.heap.size, 1, none⟩ = some (.slice ak nk ck) := by rw [← hWa]; simp
      have e2 := (cellB hba (by omega)).trans z1
      have e3 := (cellB hba (by omega)).trans z0
      have e4 := (frozenB hba (by omega)).trans z2
      have l0 : wr.heap.size < wa.heap.size := by omega
      have l1 : w.heap.size + 2 < wa.heap.size := by omega
      clear hWa d0 d1
      refine wp_region_T (fun w' => w'.cell? ⟨w.heap.size + 2, 1, none⟩ = some (.slice av0 nv0 cv0) ∧ w'.cell? ⟨wr.heap.size, 0, none⟩ = some (.int .i64 (x.2[k]).1) ∧ w'.cell? ⟨wr.heap.size, 1, none⟩ = some (.slice ak nk ck)) [9, 11] (by kernel_rfl) ⟨e2, e0, e1⟩ (fun hHeld => ?_)
      refine wpAnyT_take (i := 0) (v := ?_) rfl (by kernel_rfl) (fun _ _ _ h => h) (Or.inl ⟨by rfl, ?_⟩) (by assumption) ?_
      rotate_left
      · (intro w hSw; (try dsimp only at hSw); go_simp <;> with_reducible rfl)
      try simp only [Act.put]
      refine wpAnyT_take (i := 1) (v := ?_) rfl (by kernel_rfl) (fun _ _ _ h => h) (Or.inl ⟨by rfl, ?_⟩) (by assumption) ?_
      rotate_left
      · (intro w hSw; (try dsimp only at hSw); go_simp <;> with_reducible rfl)
      try simp only [Act.put]
      refine wpAnyT_take (i := 2) (v := ?_) rfl (by kernel_rfl) (fun _ _ _ h => h) (Or.inl ⟨by rfl, ?_⟩) (by assumption) ?_
      rotate_left
      · (intro w hSw; (try dsimp only at hSw); go_simp <;> with_reducible rfl)
      try simp only [Act.put]
      refine wpAnyT_take (i := 3) (v := ?_) rfl (by kernel_rfl) (fun _ _ _ h => h) (Or.inl ⟨by rfl, ?_⟩) (by assumption) ?_
      rotate_left
      · (intro w hSw; (try dsimp only at hSw); go_simp <;> with_reducible rfl)
      try simp only [Act.put]
      refine wpAnyT_take (i := 4) (v := ?_) rfl (by kernel_rfl) (fun _ _ _ h => h) (Or.inl ⟨by rfl, ?_⟩) (by assumption) ?_
      rotate_left
      · (intro w hSw; (try dsimp only at hSw); go_simp <;> with_reducible rfl)
      try simp only [Act.put]
      refine wpAnyT_take (i := 5) (v := ?_) rfl (by kernel_rfl) (fun _ _ _ h => h) (Or.inl ⟨by rfl, ?_⟩) (by assumption) ?_
      rotate_left
      · (intro w hSw; (try dsimp only at hSw); go_simp <;> with_reducible rfl)
      try simp only [Act.put]
      refine wpAnyT_one (i := 6) rfl (by kernel_rfl) (fun K hK => ?_)
      go_simp
      go_at_call 171
      refine (Clone_any _ (HU.out.below (bthen hba bD)) hlk).mono ?_
      rintro e w1 ⟨u2, rfl, hf, hb1⟩
      obtain ⟨a2, n2, c2, rfl⟩ := ex_slice hf
      have HF := Lib.hid hf
      have hb2 : Below wa.heap.size wa w1 := bthen bD hb1
      have f0 := (hb2.cell l0).trans e0
      have f1 := (hb2.cell l0).trans e1
      have f2 := (hb2.cell l1).trans e2
      have f3 := (hb2.cell l1).trans e3
      have f4 := (frozenB hb2 l1).trans e4
      have hz1 := hb2.size
      clear hf hb1 e0 e1 e2 e3 e4
      dsimp only
      refine hK.out _ _ ⟨f2, f0, f1⟩ (fun hHeld => ?_)
      clear hK K
      refine wpAnyT_take (i := 7) (v := ?_) rfl (by kernel_rfl) (fun _ _ _ h => h) (Or.inl ⟨by rfl, ?_⟩) (by assumption) ?_
      rotate_left
      · (intro w hSw; (try dsimp only at hSw); go_simp <;> with_reducible rfl)
      try simp only [Act.put]
      refine wpAnyT_one (i := 8) rfl (by kernel_rfl) (fun K hK => ?_)
      go_simp
      refine hK.out _ _ ⟨by go_keep, by go_keep, by go_keep⟩ (fun hHeld => ?_)
      clear hK K
      refine wpAnyT_last (i := 9) rfl (by kernel_rfl) (by kernel_rfl) (fun K hK => ?_)
      refine step_push (E := opT) _ rfl _ _ 45 116 rfl elConS rfl (HBv.out.below ((hba.trans (hb2.mono hba.size)).alloc (by omega) _) (Nat.le_refl _)) rfl news2 ((fr_cons hIk (HF.out.below bA)).mono (by have := (bD (w := wa)).size; omega)) (by rw [take_len hk]; omega) (by decide) hse (by simp; omega) ?_
      intro v1 w3 hB3 hg3 _
      have hB3' : Bl opT 116 (w.heap.size + 3) w3.heap.size w3 v1 (x.2.take k ++ [x.2[k]]) := hB3
      rw [HTK.out] at hB3'
      have hb3 : Below (w.heap.size + 3) w1 w3 := ((Below.refl _ w1).alloc (by omega) _).grown hg3 (by simp; omega) (fun q hq => HBv.out.own hq)
      have i2 := (cellB hb3 (by omega)).trans f2
      have i3 := (cellB hb3 (by omega)).trans f3
      have i4 := (frozenB hb3 (by omega)).trans f4
      have hz3 := hb3.size
      have HB3 := Lib.hid hB3'
      obtain ⟨a3, n3, c3, rfl⟩ := ex_slice (hB3'.fr (by rw [take_len hkl]; unfold capMax; omega))
      clear hB3 hB3' hg3 f0 f1 f2 f3 f4
      refine hK.out _ _ ?_
      clear hK K
      refine wpAnyT_any (i := 10) (v := ?_) rfl (by kernel_rfl) (fun _ _ _ h => h) (Or.inl ⟨by rfl, ?_⟩) (by first | exact fun _ => by assumption | (intro hp; exact absurd hp (by rw [show pastB _ _ = true by kernel_rfl]; simp))) ?_
      rotate_left
      · (intro w hSw; (try dsimp only at hSw); go_simp <;> with_reducible rfl)
      try simp only [Act.put]
      refine wpAnyT_last (i := 11) rfl (by kernel_rfl) (by kernel_rfl) (fun K hK => ?_)
      go_simp
      refine hK.out _ _ ?_
      clear hK K
      refine wpAnyT_done (by kernel_rfl) ?_ _
      go_simp
      go_wp2_with fail
      go_roundw
      case rel => exact ⟨k + 1, _, by omega, by go_num, by rw [size_set]; exact HB3.out.sameB (fun q hq1 hq2 => Below.heap_setCell _ _ _ _ (by simp; omega)), World.cell?_setCell_same _ _ _ i2, (World.cell?_setCell_other _ _ _ _ (by simp)).trans i3, (World.frozen?_setCell _ _ _ _).trans i4, (hbe.trans ((hba.mono (by omega)).trans ((hb2.mono (by omega)).trans (hb3.mono (by omega))))).setCell (by simp) _, by rw [size_set]; omega⟩
      case measure => simp [intOf]; omega
    · obtain rfl : k = x.2.length := by omega
      rw [List.take_length] at HBv
      have HF := Lib.hid (HBv.out.fr (by unfold capMax; omega))
      have s0 := (cellB hbe (by omega)).trans r0
      have s1 := (cellB hbe (by omega)).trans r1
      have s2 := (frozenB hbe (by omega)).trans r2
      have s3 := (frozenB hbe (by omega)).trans r3
      have hze : w.heap.size + 2 < wr.heap.size := by omega
      go_wp2_with fail
      obtain ⟨g0, g1⟩ := set2_cells (x := .int .i64 x.1) (y := .slice av0 nv0 cv0) s0 s1
      refine bodyPost_ret (v := .agg #[.int .i64 x.1, .slice av0 nv0 cv0]) (by simp [results, Try.results86, go_sem, g0, g1]) rfl ⟨[.int .i64 x.1, .slice av0 nv0 cv0], rfl, ?_, ?_⟩
      · exact (fr_cons hI (fr_set2 HF.out (by omega))).mono (by omega)
      · exact (hbw.setCell (by simp) _).setCell (by simp) _
end Go.Proofs.Ytigclobkmocfkaa
