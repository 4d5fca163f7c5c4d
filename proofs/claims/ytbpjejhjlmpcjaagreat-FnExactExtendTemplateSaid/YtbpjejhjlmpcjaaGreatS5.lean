/-
  Contracts: a search's own data, made.
-/
import Derived.Test.YtbpjejhjlmpcjaaGreatS4
import Derived.Test.YtbpjejhjlmpcjaaGreatSv2
namespace Go.Proofs.YtbpjejhjlmpcjaaGreat
open Go.RowKit Go.Sort
/-- the atoms that are due at a variable; for all variables -/
def dueL (ats : List (Int × List Int)) (v : Nat) : List (Int × List Int) := ats.filter fun a => topI a.2 == (v : Int)
def duesL (ats : List (Int × List Int)) (n : Nat) : List (List (Int × List Int)) := (List.range n).map (dueL ats)
theorem duesL_len {ats : List (Int × List Int)} {n : Nat} : (duesL ats n).length = n := by simp [duesL]
theorem duesL_get {ats : List (Int × List Int)} {n k : Nat} (h : k < (duesL ats n).length) : (duesL ats n)[k] = dueL ats k := by simp [duesL]
theorem duesL_ok {t : Int × List (Int × List (List Int))} {n : Nat} {ats : List (Int × List Int)} (h : ∀ a ∈ ats, atomOk t n a) : dueOk t n (duesL ats n) := fun k hk a ha => by
  rw [duesL_get hk] at ha
  obtain ⟨ha, ht⟩ := List.mem_filter.1 ha
  have h1 := h a ha
  refine ⟨h1, fun p hp => ?_⟩
  have h2 := topI_ge hp
  have h3 := h1.2.2 p hp
  have : topI a.2 = (k : Int) := by simpa using ht
  omega
def zL (Z : List ((Int × List Int) × (Int × Value))) (k v : Nat) : List ((Int × List Int) × (Int × Value)) := (Z.take k).filter fun z => topI z.1.2 == (v : Int)
theorem zL_zero {Z : List ((Int × List Int) × (Int × Value))} {v : Nat} : zL Z 0 v = [] := by simp [zL]
theorem zL_mem {Z : List ((Int × List Int) × (Int × Value))} {k v : Nat} {z : (Int × List Int) × (Int × Value)} (h : z ∈ zL Z k v) : z ∈ Z := List.mem_of_mem_take (List.mem_filter.1 h).1
theorem zL_yes {Z : List ((Int × List Int) × (Int × Value))} {k v : Nat} (h : k < Z.length) (e : topI (Z[k]).1.2 = (v : Int)) : zL Z (k + 1) v = zL Z k v ++ [Z[k]] := by
  unfold zL
  rw [List.take_succ_eq_append_getElem h, List.filter_append]
  simp [e]
theorem zL_no {Z : List ((Int × List Int) × (Int × Value))} {k v : Nat} (h : k < Z.length) (e : topI (Z[k]).1.2 ≠ (v : Int)) : zL Z (k + 1) v = zL Z k v := by
  unfold zL
  rw [List.take_succ_eq_append_getElem h, List.filter_append]
  simp [e]
theorem zL_fst {Z : List ((Int × List Int) × (Int × Value))} {v : Nat} : (zL Z Z.length v).map (·.1) = dueL (Z.map (·.1)) v := by
  unfold zL dueL
  rw [List.take_length, List.filter_map]
  rfl
theorem zL_len {Z : List ((Int × List Int) × (Int × Value))} {k v : Nat} : (zL Z k v).length ≤ Z.length := by
  unfold zL
  exact Nat.le_trans (List.length_filter_le _ _) (by rw [List.length_take]; omega)
theorem infoAtomS : (Tryz.prog.info? 39).map (fun i => (i.zero, i.size, i.bytes)) = some (some (.slice none 0 0), 1, 24) := by kernel_rfl
set_option maxHeartbeats 6400000 in
set_option maxRecDepth 100000 in
theorem solverOf_any (w : World) {ok0 : Nat → Prop} {ct : Array Value} {t : Int × List (Int × List (List Int))} (ht : tplT.RdP ok0 w ct.toList t) {n : Nat} (hn : n ≤ 10) {va : Value} {ats : List (Int × List Int)} (ha : opsT.RdP ok0 w [va] ats) (hlen : ats.length ≤ 1000)
    (hA : ∀ a ∈ ats, 1 ≤ a.2.length ∧ ∀ p ∈ a.2, 0 ≤ p ∧ p < (n : Int)) :
    Calls Tryz.prog 69 #[.agg ct, .int .i64 n, va] w fun e w' => ∃ bs, e = .returned (.pointer (some ⟨bs, 0, none⟩)) ∧ Sv (fun k => ok0 k ∨ w.heap.size ≤ k) w' bs t n (duesL ats n) ∧ Below w.heap.size w w' := by
  have HT := Lib.hid ht
  obtain ⟨v1, hct, -, -⟩ := pair_ex ht.rd
  obtain rfl := agg_of hct
  obtain ⟨Z, hZ, hZr, hZl, aa, ac, rfl, hZc⟩ := vals_of ha
  have HZ := Lib.hid hZ
  have HZR := Lib.hid hZr
  have HZL := Lib.hid hZl
  have HZC := Lib.hid hZc
  have HAS : Hid (∀ k (h : k < Z.length), 1 ≤ (Z[k]).1.2.length ∧ ∀ p ∈ (Z[k]).1.2, 0 ≤ p ∧ p < (n : Int)) := fun k h => by
    have h1 : (Z[k]).1 ∈ ats := by rw [← hZ]; exact List.mem_map_of_mem (List.getElem_mem h)
    exact hA _ h1
  clear ht hct ha hA hZ hZr hZl hZc
  go_enter Tryz.func69, Tryz.ntmps69
  go_wp2_with fail
  generalize hW : World.alloc _ _ = W
  have hbW : Below w.heap.size w W := hW ▸ bA
  have hsW : w.heap.size + 1 ≤ W.heap.size := by rw [← hW]; simp
  have t0 : W.cell? ⟨w.heap.size, 0, none⟩ = some (.int .i64 t.1) := by rw [← hW]; simp
  have t1 : W.cell? ⟨w.heap.size, 1, none⟩ = some v1 := by rw [← hW]; simp
  clear hW
  refine wp_region_T (fun w' => w'.cell? ⟨w.heap.size, 0, none⟩ = some (.int .i64 t.1) ∧ w'.cell? ⟨w.heap.size, 1, none⟩ = some v1) [5, 6] (by kernel_rfl) ⟨t0, t1⟩ (fun hHeld => ?_)
  refine wpAnyT_take (i := 0) (v := ?_) rfl (by kernel_rfl) (fun _ _ _ h => h) (Or.inl ⟨by rfl, ?_⟩) (by assumption) ?_
  rotate_left
  · (intro w hSw; (try dsimp only at hSw); go_simp <;> with_reducible rfl)
  try simp only [Act.put]
  refine wpAnyT_take (i := 1) (v := ?_) rfl (by kernel_rfl) (fun _ _ _ h => h) (Or.inl ⟨by rfl, ?_⟩) (by assumption) ?_
  rotate_left
  · (intro w hSw; (try dsimp only at hSw); go_simp <;> with_reducible rfl)
  try simp only [Act.put]
  refine wpAnyT_take (i := 2) (v := ?_) rfl (by kernel_rfl) (fun _ _ _ h => h) (Or.inl ⟨by rfl, ?_⟩) (by assumption) ?_
  rotate_left
  · (intro w hSw; (try dsimp only at hSw); go_simp <;> with_reducible rfl)
  try simp only [Act.put]
  refine wpAnyT_one (i := 3) rfl (by kernel_rfl) (fun K hK => ?_)
  refine step_mkN _ rfl _ _ 122 39 rfl Tryz.underlying122 infoAtomS n rfl rfl (by omega) (by decide) ?_
  intro w1 hDU hb1 hs1
  have hb1' : Below W.heap.size W w1 := bthen bD hb1
  have hs1' : W.heap.size + 1 ≤ w1.heap.size := Nat.le_of_eq hs1.symm
  have HDU : Hid (DU 93 39 (w1.heap.size + 1) (w1.heap.size + 1) w1 W.heap.size n (fun _ => .slice none 0 0) (fun _ => [])) := hDU _ _ _ (by have : W.drew.heap.size = W.heap.size := rfl; omega)
  replace t0 := (cellB hb1' (by omega)).trans t0
  replace t1 := (cellB hb1' (by omega)).trans t1
  clear hDU hb1 hs1
  refine hK.out _ _ ⟨t0, t1⟩ (fun hHeld => ?_)
  clear hK K
  refine wpAnyT_take (i := 4) (v := ?_) rfl (by kernel_rfl) (fun _ _ _ h => h) (Or.inl ⟨by rfl, ?_⟩) (by assumption) ?_
  rotate_left
  · (intro w hSw; (try dsimp only at hSw); go_simp <;> with_reducible rfl)
  try simp only [Act.put]
  refine wpAnyT_last (i := 5) rfl (by kernel_rfl) (by kernel_rfl) (fun K hK => ?_)
  go_simp
  refine hK.out _ _ ?_
  clear hK K
  refine wpAnyT_last (i := 6) rfl (by kernel_rfl) (by kernel_rfl) (fun K hK => ?_)
  go_simp
  refine hK.out _ _ ?_
  clear hK K
  refine wpAnyT_done (by kernel_rfl) ?_ _
  go_simp
  go_wp2_with fail
  have hgD : W.drew.heap.size = W.heap.size := rfl
  generalize hWs : World.alloc w1 _ = ws
  have hbs : Below w1.heap.size w1 ws := hWs ▸ bA
  have hss : w1.heap.size + 1 ≤ ws.heap.size := by rw [← hWs]; simp
  have s0 : ws.cell? ⟨w1.heap.size, 0, none⟩ = some (.int .i64 t.1) := by rw [← hWs]; simp [go_sem]
  have s1 : ws.cell? ⟨w1.heap.size, 1, none⟩ = some v1 := by rw [← hWs]; simp [go_sem]
  have s2 : ws.cell? ⟨w1.heap.size, 2, none⟩ = some (.int .i64 n) := by rw [← hWs]; simp [go_sem]
  have s3 : ws.cell? ⟨w1.heap.size, 3, none⟩ = some (.slice (some ⟨W.heap.size, 0, none⟩) n n) := by rw [← hWs]; simp [go_sem]
  have hbww : Below w.heap.size w ws := bthen (bthen hbW hb1') hbs
  generalize hgB : w1.heap.size = bs at *
  generalize hgG : W.heap.size = g at *
  have hgbs : g + 1 ≤ bs := hs1'
  have hwg : w.heap.size + 1 ≤ g := hsW
  clear hWs hHeld t0 t1 hb1' hbW hgB hgG hgD hs1' hsW
  go_loopw [19] (fun i wr => ∃ (k : Nat) (us : Nat → Value), k ≤ ats.length ∧ i = .int .i64 k ∧ DU 93 39 (bs + 1) wr.heap.size wr g n us (fun v => (zL Z k v).map (·.2)) ∧ Below g ws wr ∧ wr.heap[bs]? = ws.heap[bs]? ∧ bs + 1 ≤ wr.heap.size) (fun i _ => ats.length - (intOf i).toNat)
  case atStart =>
    refine ⟨0, fun _ => .slice none 0 0, Nat.zero_le _, rfl, ?_, Below.refl _ _, rfl, hss⟩
    have h1 : DU 93 39 (bs + 1) ws.heap.size ws g n (fun _ => .slice none 0 0) (fun _ => []) := HDU.out.nils (by omega) (hbs.block g (by omega))
    simpa [zL_zero] using h1
  case round =>
    obtain ⟨k, us, hk, rfl, hdu, hbe, hbb, hse⟩ := hrel
    have HDK := Lib.hid hdu
    have HBB := Lib.hid hbb
    have hbw : Below w.heap.size w wr := hbww.trans (hbe.mono (by omega))
    clear hdu hbb HDU
    by_cases hkl : k < ats.length
    · obtain ⟨b, o, rfl, hb, hce⟩ := HZC.out (by omega)
      have hkz : k < Z.length := by rw [HZL.out]; exact hkl
      obtain ⟨g0, g1⟩ := hce k hkz
      obtain ⟨q1, q2, q3⟩ := HZR.out _ (List.getElem_mem hkz)
      obtain ⟨qa, qc, hqe⟩ := rdP_slice q3
      have hy : (Z[k]).2 = ((Z[k]).1.1, .slice qa (Z[k]).1.2.length qc) := by rw [← q1, ← hqe]
      rw [hqe] at g1 q3
      have HY := Lib.hid hy
      have hI := q2
      have d0 := (hbw.cell hb).trans g0
      have d1 := (hbw.cell hb).trans g1
      have HQ := Lib.hid (q3.rd.below hbw)
      obtain ⟨m1, m2⟩ := HAS.out k hkz
      obtain ⟨l, hl⟩ : ∃ l : Nat, topI (Z[k]).1.2 = l := ⟨(topI (Z[k]).1.2).toNat, by have := topI_nn (xs := (Z[k]).1.2); omega⟩
      have hln : l < n := by
        have h0 : (0 : Int) ≤ (n : Int) - 1 := by
          have := m2 _ (List.getElem_mem (show 0 < (Z[k]).1.2.length by omega))
          omega
        have := topI_le h0 (fun x hx => by have := m2 x hx; omega)
        omega
      have HM2 : Hid (∀ x ∈ (Z[k]).1.2, 0 ≤ x) := fun x hx => (m2 x hx).1
      have HL := Lib.hid hl
      obtain ⟨ua, un, uc, hul⟩ := ex_slice ((HDK.out.2.2.1 l hln).fr (by have := zL_len (Z := Z) (k := k) (v := l); have := HZL.out; rw [List.length_map]; unfold capMax; omega))
      have HUL := Lib.hid hul
      have hlz : (zL Z k l).length ≤ 1000 := by have := zL_len (Z := Z) (k := k) (v := l); have := HZL.out; omega
      generalize hz1 : (Z[k]).1.1 = c1 at *
      clear hce g0 g1 q1 q3 hqe m2 hy hl hul
      go_wp2_with fail
      generalize hWa : World.alloc wr _ = wa
      have hba : Below wr.heap.size wr wa := hWa ▸ bA
      have hsa : wr.heap.size + 1 ≤ wa.heap.size := by rw [← hWa]; simp
      have e0 : wa.cell? ⟨wr.heap.size, 0, none⟩ = some (.int .i64 c1) := by rw [← hWa]; simp
      have e1 : wa.cell? ⟨wr.heap.size, 1, none⟩ = some (.slice qa (Z[k]).1.2.length qc) := by rw [← hWa]; simp
      clear hWa
      refine (MaxI_any _ (HQ.out.below hba) m1 HM2.out).mono ?_
      rintro e _ ⟨rfl, rfl⟩
      rw [HL.out]
      have f3 := (World.cell?_of_block (a := ⟨bs, 3, none⟩) (HBB.out)).trans s3
      have f4 := HDK.out.cell hln
      rw [HUL.out] at f4
      have f5 := HDK.out.free l
      have hgw := HDK.out.lt
      have hbsw : bs < wr.heap.size := by omega
      replace f3 := (cellB hba (by omega)).trans f3
      replace f4 := (cellB hba (by omega)).trans f4
      replace f5 := (frozenB hba (by omega)).trans f5
      go_wp2_with fail
      refine wp_region_T (fun w' => w'.cell? ⟨bs, 3, none⟩ = some (.slice (some ⟨g, 0, none⟩) n n) ∧ w'.cell? ⟨g, l, none⟩ = some (.slice ua un uc) ∧ w'.cell? ⟨wr.heap.size, 0, none⟩ = some (.int .i64 c1) ∧ w'.cell? ⟨wr.heap.size, 1, none⟩ = some (.slice qa (Z[k]).1.2.length qc)) [16] (by kernel_rfl) ⟨f3, f4, e0, e1⟩ (fun hHeld => ?_)
      refine wpAnyT_take (i := 0) (v := ?_) rfl (by kernel_rfl) (fun _ _ _ h => h) (Or.inl ⟨by rfl, ?_⟩) (by assumption) ?_
      rotate_left
      · (intro w hSw; (try dsimp only at hSw); go_simp <;> with_reducible rfl)
      try simp only [Act.put]
      refine wpAnyT_take (i := 1) (v := ?_) rfl (by kernel_rfl) (fun _ _ _ h => h) (Or.inl ⟨by rfl, ?_⟩) (by assumption) ?_
      rotate_left
      · (intro w hSw; (try dsimp only at hSw); go_simp <;> with_reducible rfl)
      try simp only [Act.put]
      refine wpAnyT_take (i := 2) (v := ?_) rfl (by kernel_rfl) (fun _ _ _ h => h) (Or.inl ⟨by rfl, ?_⟩) (by assumption) ?_
      rotate_left
      · (intro w hSw; (try dsimp only at hSw); go_simp <;> with_reducible rfl)
      try simp only [Act.put]
      refine wpAnyT_take (i := 3) (v := ?_) rfl (by kernel_rfl) (fun _ _ _ h => h) (Or.inl ⟨by rfl, ?_⟩) (by assumption) ?_
      rotate_left
      · (intro w hSw; (try dsimp only at hSw); go_simp <;> with_reducible rfl)
      try simp only [Act.put]
      refine wpAnyT_take (i := 4) (v := ?_) rfl (by kernel_rfl) (fun _ _ _ h => h) (Or.inl ⟨by rfl, ?_⟩) (by assumption) ?_
      rotate_left
      · (intro w hSw; (try dsimp only at hSw); go_simp <;> with_reducible rfl)
      try simp only [Act.put]
      refine wpAnyT_take (i := 5) (v := ?_) rfl (by kernel_rfl) (fun _ _ _ h => h) (Or.inl ⟨by rfl, ?_⟩) (by assumption) ?_
      rotate_left
      · (intro w hSw; (try dsimp only at hSw); go_simp <;> with_reducible rfl)
      try simp only [Act.put]
      refine wpAnyT_take (i := 6) (v := ?_) rfl (by kernel_rfl) (fun _ _ _ h => h) (Or.inl ⟨by rfl, ?_⟩) (by assumption) ?_
      rotate_left
      · (intro w hSw; (try dsimp only at hSw); go_simp <;> with_reducible rfl)
      try simp only [Act.put]
      refine wpAnyT_take (i := 7) (v := ?_) rfl (by kernel_rfl) (fun _ _ _ h => h) (Or.inl ⟨by rfl, ?_⟩) (by assumption) ?_
      rotate_left
      · (intro w hSw; (try dsimp only at hSw); go_simp <;> with_reducible rfl)
      try simp only [Act.put]
      refine wpAnyT_take (i := 8) (v := ?_) rfl (by kernel_rfl) (fun _ _ _ h => h) (Or.inl ⟨by rfl, ?_⟩) (by assumption) ?_
      rotate_left
      · (intro w hSw; (try dsimp only at hSw); go_simp <;> with_reducible rfl)
      try simp only [Act.put]
      refine wpAnyT_take (i := 9) (v := ?_) rfl (by kernel_rfl) (fun _ _ _ h => h) (Or.inl ⟨by rfl, ?_⟩) (by assumption) ?_
      rotate_left
      · (intro w hSw; (try dsimp only at hSw); go_simp <;> with_reducible rfl)
      try simp only [Act.put]
      refine wpAnyT_take (i := 10) (v := ?_) rfl (by kernel_rfl) (fun _ _ _ h => h) (Or.inl ⟨by rfl, ?_⟩) (by assumption) ?_
      rotate_left
      · (intro w hSw; (try dsimp only at hSw); go_simp <;> with_reducible rfl)
      try simp only [Act.put]
      refine wpAnyT_take (i := 11) (v := ?_) rfl (by kernel_rfl) (fun _ _ _ h => h) (Or.inl ⟨by rfl, ?_⟩) (by assumption) ?_
      rotate_left
      · (intro w hSw; (try dsimp only at hSw); go_simp <;> with_reducible rfl)
      try simp only [Act.put]
      refine wpAnyT_take (i := 12) (v := ?_) rfl (by kernel_rfl) (fun _ _ _ h => h) (Or.inl ⟨by rfl, ?_⟩) (by assumption) ?_
      rotate_left
      · (intro w hSw; (try dsimp only at hSw); go_simp <;> with_reducible rfl)
      try simp only [Act.put]
      refine wpAnyT_one (i := 13) rfl (by kernel_rfl) (fun K hK => ?_)
      go_simp
      refine hK.out _ _ ⟨by go_keep, by go_keep, by go_keep, by go_keep⟩ (fun hHeld => ?_)
      clear hK K
      refine wpAnyT_one (i := 14) rfl (by kernel_rfl) (fun K hK => ?_)
      have HBl : Hid (Bl pvT 93 (bs + 1) wr.heap.size wr (.slice ua un uc) ((zL Z k l).map (·.2))) := by rw [← HUL.out]; exact HDK.out.2.2.1 l hln
      have hbX : ∀ o : Obj, Below wr.heap.size wr (wa.drew.alloc o) := fun o => bthen hba ((Below.refl _ wa).drew.alloc (by simp) o)
      refine step_push (E := pvT) _ rfl _ _ 39 93 rfl elAtomS rfl (HBl.out.below (hbX _) (Nat.le_refl _)) rfl news2 (fr_pv (x := .slice qa (Z[k]).1.2.length qc) hI rfl) (by rw [List.length_map]; omega) (by decide) (by omega) (by simp; omega) ?_
      intro v5 w5 hB5 hg5 hown
      obtain ⟨a5, n5, c5, rfl⟩ := ex_slice (hB5.fr (by rw [List.length_append, List.length_map]; unfold capMax; simp only [List.length_singleton]; omega))
      have hg6 : ((wa.alloc (.cells #[.int .i64 c1, .slice qa (Z[k]).1.2.length qc] 93)).drew).grownBy w5 (Value.slice ua un uc).ownBlock := hg5
      have hown6 : (Value.slice a5 n5 c5).ownBlock = (Value.slice ua un uc).ownBlock ∨ (Value.slice a5 n5 c5).ownBlock = some ((wa.alloc (.cells #[.int .i64 c1, .slice qa (Z[k]).1.2.length qc] 93)).drew).heap.size := hown
      have hbX2 : Below wr.heap.size wr ((wa.alloc (.cells #[.int .i64 c1, .slice qa (Z[k]).1.2.length qc] 93)).drew) := hbX _
      generalize hWX : (wa.alloc (.cells #[.int .i64 c1, .slice qa (Z[k]).1.2.length qc] 93)).drew = wx at hg6 hown6 hbX2
      have hax : Below wa.heap.size wa wx := by rw [← hWX]; exact (Below.refl _ wa).drew.alloc (by simp) _
      have hxs := hax.size
      have hown0 : ∀ q, (Value.slice ua un uc).ownBlock = some q → q < wr.heap.size := fun q hq => HBl.out.lt_top hq
      have HD5 := Lib.hid (DU.push (y := (c1, .slice qa (Z[k]).1.2.length qc)) (HDK.out.below hbX2 (Nat.le_refl _) hse) hln hB5 (by rw [HUL.out]; exact hg6) (by rw [HUL.out]; exact hown6) hbX2.size)
      have HLS : Hid ((fun v => if v = l then (zL Z k l).map (·.2) ++ [(c1, Value.slice qa (Z[k]).1.2.length qc)] else (zL Z k v).map (·.2)) = fun v => (zL Z (k + 1) v).map (·.2)) := by
        unfold Hid
        funext v
        by_cases e : v = l
        · subst e
          rw [if_pos rfl, zL_yes hkz HL.out, List.map_append, List.map_cons, List.map_nil, HY.out]
        · rw [if_neg e, zL_no hkz (by rw [HL.out]; intro h; exact e (by omega))]
      rw [HLS.out] at HD5
      have hb5 : Below (bs + 1) wr w5 := (hbX2.mono (by omega)).grown hg6 (by omega) (fun q hq => HBl.out.ge hq)
      have i3 := (cellB (hb5) (by omega)).trans ((World.cell?_of_block (a := ⟨bs, 3, none⟩) (HBB.out)).trans s3)
      have i4 := (cellB hb5 (show g < bs + 1 by omega)).trans (HDK.out.cell hln)
      rw [HUL.out] at i4
      have i5 := (frozenB hb5 (show g < bs + 1 by omega)).trans (HDK.out.free l)
      have j0 := ((grown_cell' (i := 0) hg6 (show wr.heap.size < wx.heap.size by omega) (fun e => by have := hown0 _ e; omega)).trans (cellB hax (show wr.heap.size < wa.heap.size by omega))).trans e0
      have j1 := ((grown_cell' (i := 1) hg6 (show wr.heap.size < wx.heap.size by omega) (fun e => by have := hown0 _ e; omega)).trans (cellB hax (show wr.heap.size < wa.heap.size by omega))).trans e1
      have hz5 := hb5.size
      have hbs5 : w5.heap[bs]? = ws.heap[bs]? := (hb5.block bs (by omega)).trans HBB.out
      have HBS5 := Lib.hid hbs5
      have hbe5 : Below g ws w5 := hbe.trans (hb5.mono (by omega))
      clear hB5 hg5 hown hg6 hown6 hWX hbs5 hown0
      refine hK.out _ _ ⟨i3, i4, j0, j1⟩ (fun hHeld => ?_)
      clear hK K
      refine wpAnyT_take (i := 15) (v := ?_) rfl (by kernel_rfl) (fun _ _ _ h => h) (Or.inl ⟨by rfl, ?_⟩) (by assumption) ?_
      rotate_left
      · (intro w hSw; (try dsimp only at hSw); go_simp <;> with_reducible rfl)
      try simp only [Act.put]
      refine wpAnyT_last (i := 16) rfl (by kernel_rfl) (by kernel_rfl) (fun K hK => ?_)
      go_simp
      refine hK.out _ _ ?_
      clear hK K
      refine wpAnyT_done (by kernel_rfl) ?_ _
      go_simp
      go_wp2_with fail
      go_roundw
      case rel => exact ⟨k + 1, _, by omega, by go_num, by rw [size_set]; exact HD5.out, hbe5.setCell (Nat.le_refl _) _, (Below.heap_setCell _ _ _ _ (by simp; omega)).trans HBS5.out, by rw [size_set]; omega⟩
      case measure => simp [intOf]; omega
    · obtain rfl : k = ats.length := by omega
      have hzl : ats.length = Z.length := HZL.out.symm
      have HSV : Hid (Sv (fun k => ok0 k ∨ w.heap.size ≤ k) wr bs t n (duesL ats n)) := by
        refine ⟨by omega, .inr (by omega), v1, _, (World.cell?_of_block (a := ⟨bs, 0, none⟩) HBB.out).trans s0, (World.cell?_of_block (a := ⟨bs, 1, none⟩) HBB.out).trans s1, (World.cell?_of_block (a := ⟨bs, 2, none⟩) HBB.out).trans s2, (World.cell?_of_block (a := ⟨bs, 3, none⟩) HBB.out).trans s3, (HT.out.below hbw).mono (fun _ _ h => .inl h), ?_⟩
        have h1 := dues_of (ok := fun k => ok0 k ∨ w.heap.size ≤ k) HDK.out (by unfold capMax; omega) (fun v _ => by have := zL_len (Z := Z) (k := ats.length) (v := v); unfold capMax; omega) (fun v _ z hz => ((HZR.out z (zL_mem hz)).below hbw).mono (fun _ _ h => .inl h)) (.inr (by omega)) (fun q hq _ => .inr (by omega))
        have h2 : (fun v => (zL Z ats.length v).map (·.1)) = dueL ats := by
          funext v
          rw [hzl, zL_fst, HZ.out]
        rw [h2] at h1
        exact h1
      clear HZC
      go_wp2_with fail
      go_ret
      exact ⟨bs, rfl, HSV.out, hbw⟩
end Go.Proofs.YtbpjejhjlmpcjaaGreat
