/-
Contracts: a search's own data, made.
Contracts: a search for an instance; the first values.
Contracts: full domains.
Contracts: the solutions of an instance, counted, listed, the first; the program's.
Contracts: the solutions of an instance, the reference's.
Contracts: the first values for which all atoms hold, the reference's.
Contracts: whether a formula holds at a tuple, and where; both sides.
Contracts: the relation of all tuples for which something is so.
Contracts: the value of a formula, both sides.
Plain mathematics: lists of digits in order; the tuples of a relation made by number are in order.
Contracts: placing a formula: the program's.
Contracts: the formula of an instance, both sides.
-/
import Derived.Test.YtajmjfbejfiipaaGreatQAD
import Derived.Test.YtajmjfbejfiipaaGreatQAC
import Derived.Test.YtajmjfbejfiipaaGreatQAB
namespace Go.Proofs.YtajmjfbejfiipaaGreat
open Go.RowKit Go.Sort
/-- the atoms that are due at a variable; for all variables -/
def dueL (ats : List (Int × List Int)) (v : Nat) : List (Int × List Int) := ats.filter fun a => topI a.2 == (v : Int)
def duesL (ats : List (Int × List Int)) (n : Nat) : List (List (Int × List Int)) := (List.range n).map (dueL ats)
theorem duesL_len {ats : List (Int × List Int)} {n : Nat} : (duesL ats n).length = n := by simp [duesL]
theorem duesL_get {ats : List (Int × List Int)} {n k : Nat} (h : k < (duesL ats n).length) : (duesL ats n)[k] = dueL ats k := by simp [duesL]
theorem duesL_ok {t : Int × List (Int × List (List Int))} {n : Nat} {ats : List (Int × List Int)} (h : ∀ a ∈ ats, atomOk t n a) : dueOk t n (duesL ats n) := fun k hk a ha => by
 rw [duesL_get hk] at ha
 obtain ⟨ha, ht⟩ := List.mem_filter.1 ha
 have h1 := h a ha
 refine ⟨h1, fun p hp => ?_⟩
 have h2 := topI_ge hp
 have h3 := h1.2.2 p hp
 have : topI a.2 = (k : Int) := by simpa using ht
 omega
def zL (Z : List ((Int × List Int) × (Int × Value))) (k v : Nat) : List ((Int × List Int) × (Int × Value)) := (Z.take k).filter fun z => topI z.1.2 == (v : Int)
theorem zL_zero {Z : List ((Int × List Int) × (Int × Value))} {v : Nat} : zL Z 0 v = [] := by simp [zL]
theorem zL_mem {Z : List ((Int × List Int) × (Int × Value))} {k v : Nat} {z : (Int × List Int) × (Int × Value)} (h : z ∈ zL Z k v) : z ∈ Z := List.mem_of_mem_take (List.mem_filter.1 h).1
theorem zL_yes {Z : List ((Int × List Int) × (Int × Value))} {k v : Nat} (h : k < Z.length) (e : topI (Z[k]).1.2 = (v : Int)) : zL Z (k + 1) v = zL Z k v ++ [Z[k]] := by
 unfold zL
 rw [List.take_succ_eq_append_getElem h, List.filter_append]
 simp [e]
theorem zL_no {Z : List ((Int × List Int) × (Int × Value))} {k v : Nat} (h : k < Z.length) (e : topI (Z[k]).1.2 ≠ (v : Int)) : zL Z (k + 1) v = zL Z k v := by
 unfold zL
 rw [List.take_succ_eq_append_getElem h, List.filter_append]
 simp [e]
theorem zL_fst {Z : List ((Int × List Int) × (Int × Value))} {v : Nat} : (zL Z Z.length v).map (·.1) = dueL (Z.map (·.1)) v := by
 unfold zL dueL
 rw [List.take_length, List.filter_map]
 rfl
theorem zL_len {Z : List ((Int × List Int) × (Int × Value))} {k v : Nat} : (zL Z k v).length ≤ Z.length := by
 unfold zL
 exact Nat.le_trans (List.length_filter_le _ _) (by rw [List.length_take]; omega)
theorem infoAtomS : (Tryz.prog.info? 45).map (fun i => (i.zero, i.size, i.bytes)) = some (some (.slice none 0 0), 1, 24) := by kernel_rfl
set_option maxHeartbeats 6400000 in
set_option maxRecDepth 100000 in
theorem solverOf_any (w : World) {ok0 : Nat → Prop} {ct : Array Value} {t : Int × List (Int × List (List Int))} (ht : tplT.RdP ok0 w ct.toList t) {n : Nat} (hn : n ≤ 10) {va : Value} {ats : List (Int × List Int)} (ha : opsT.RdP ok0 w [va] ats) (hlen : ats.length ≤ 1000)
  (hA : ∀ a ∈ ats, 1 ≤ a.2.length ∧ ∀ p ∈ a.2, 0 ≤ p ∧ p < (n : Int)) :
  Calls Tryz.prog 155 #[.agg ct, .int .i64 n, va] w fun e w' => ∃ bs, e = .returned (.pointer (some ⟨bs, 0, none⟩)) ∧ Sv (fun k => ok0 k ∨ w.heap.size ≤ k) w' bs t n (duesL ats n) ∧ Below w.heap.size w w' := by
 have HT := Lib.hid ht
 obtain ⟨v1, hct, -, -⟩ := pair_ex ht.rd
 obtain rfl := agg_of hct
 obtain ⟨Z, hZ, hZr, hZl, aa, ac, rfl, hZc⟩ := vals_of ha
 have HZ := Lib.hid hZ
 have HZR := Lib.hid hZr
 have HZL := Lib.hid hZl
 have HZC := Lib.hid hZc
 have HAS : Hid (∀ k (h : k < Z.length), 1 ≤ (Z[k]).1.2.length ∧ ∀ p ∈ (Z[k]).1.2, 0 ≤ p ∧ p < (n : Int)) := fun k h => by
  have h1 : (Z[k]).1 ∈ ats := by rw [← hZ]; exact List.mem_map_of_mem (List.getElem_mem h)
  exact hA _ h1
 clear ht hct ha hA hZ hZr hZl hZc
 go_enter Tryz.func155, Tryz.ntmps155
 go_wp2_with fail
 generalize hW : World.alloc _ _ = W
 have hbW : Below w.heap.size w W := hW ▸ bA
 have hsW : w.heap.size + 1 ≤ W.heap.size := by rw [← hW]; simp
 have t0 : W.cell? ⟨w.heap.size, 0, none⟩ = some (.int .i64 t.1) := by rw [← hW]; simp
 have t1 : W.cell? ⟨w.heap.size, 1, none⟩ = some v1 := by rw [← hW]; simp
 clear hW
 refine wp_region_T (fun w' => w'.cell? ⟨w.heap.size, 0, none⟩ = some (.int .i64 t.1) ∧ w'.cell? ⟨w.heap.size, 1, none⟩ = some v1) [5, 6] (by kernel_rfl) ⟨t0, t1⟩ (fun hHeld => ?_)
 refine wpAnyT_take (i := 0) (v := ?_) rfl (by kernel_rfl) (fun _ _ _ h => h) (Or.inl ⟨by rfl, ?_⟩) (by assumption) ?_
 rotate_left
 ·(intro w hSw; (try dsimp only at hSw); go_simp <;> with_reducible rfl)
 try simp only [Act.put]
 refine wpAnyT_take (i := 1) (v := ?_) rfl (by kernel_rfl) (fun _ _ _ h => h) (Or.inl ⟨by rfl, ?_⟩) (by assumption) ?_
 rotate_left
 ·(intro w hSw; (try dsimp only at hSw); go_simp <;> with_reducible rfl)
 try simp only [Act.put]
 refine wpAnyT_take (i := 2) (v := ?_) rfl (by kernel_rfl) (fun _ _ _ h => h) (Or.inl ⟨by rfl, ?_⟩) (by assumption) ?_
 rotate_left
 ·(intro w hSw; (try dsimp only at hSw); go_simp <;> with_reducible rfl)
 try simp only [Act.put]
 refine wpAnyT_one (i := 3) rfl (by kernel_rfl) (fun K hK => ?_)
 refine step_mkN _ rfl _ _ 251 45 rfl Tryz.underlying251 infoAtomS n rfl rfl (by omega) (by decide) ?_
 intro w1 hDU hb1 hs1
 have hb1' : Below W.heap.size W w1 := bthen bD hb1
 have hs1' : W.heap.size + 1 ≤ w1.heap.size := Nat.le_of_eq hs1.symm
 have HDU : Hid (DU 69 45 (w1.heap.size + 1) (w1.heap.size + 1) w1 W.heap.size n (fun _ => .slice none 0 0) (fun _ => [])) := hDU _ _ _ (by have : W.drew.heap.size = W.heap.size := rfl; omega)
 replace t0 := (cellB hb1' (by omega)).trans t0
 replace t1 := (cellB hb1' (by omega)).trans t1
 clear hDU hb1 hs1
 refine hK.out _ _ ⟨t0, t1⟩ (fun hHeld => ?_)
 clear hK K
 refine wpAnyT_take (i := 4) (v := ?_) rfl (by kernel_rfl) (fun _ _ _ h => h) (Or.inl ⟨by rfl, ?_⟩) (by assumption) ?_
 rotate_left
 ·(intro w hSw; (try dsimp only at hSw); go_simp <;> with_reducible rfl)
 try simp only [Act.put]
 refine wpAnyT_last (i := 5) rfl (by kernel_rfl) (by kernel_rfl) (fun K hK => ?_)
 go_simp
 refine hK.out _ _ ?_
 clear hK K
 refine wpAnyT_last (i := 6) rfl (by kernel_rfl) (by kernel_rfl) (fun K hK => ?_)
 go_simp
 refine hK.out _ _ ?_
 clear hK K
 refine wpAnyT_done (by kernel_rfl) ?_ _
 go_simp
 go_wp2_with fail
 have hgD : W.drew.heap.size = W.heap.size := rfl
 generalize hWs : World.alloc w1 _ = ws
 have hbs : Below w1.heap.size w1 ws := hWs ▸ bA
 have hss : w1.heap.size + 1 ≤ ws.heap.size := by rw [← hWs]; simp
 have s0 : ws.cell? ⟨w1.heap.size, 0, none⟩ = some (.int .i64 t.1) := by rw [← hWs]; simp [go_sem]
 have s1 : ws.cell? ⟨w1.heap.size, 1, none⟩ = some v1 := by rw [← hWs]; simp [go_sem]
 have s2 : ws.cell? ⟨w1.heap.size, 2, none⟩ = some (.int .i64 n) := by rw [← hWs]; simp [go_sem]
 have s3 : ws.cell? ⟨w1.heap.size, 3, none⟩ = some (.slice (some ⟨W.heap.size, 0, none⟩) n n) := by rw [← hWs]; simp [go_sem]
 have hbww : Below w.heap.size w ws := bthen (bthen hbW hb1') hbs
 generalize hgB : w1.heap.size = bs at *
 generalize hgG : W.heap.size = g at *
 have hgbs : g + 1 ≤ bs := hs1'
 have hwg : w.heap.size + 1 ≤ g := hsW
 clear hWs hHeld t0 t1 hb1' hbW hgB hgG hgD hs1' hsW
 go_loopw [19] (fun i wr => ∃ (k : Nat) (us : Nat → Value), k ≤ ats.length ∧ i = .int .i64 k ∧ DU 69 45 (bs + 1) wr.heap.size wr g n us (fun v => (zL Z k v).map (·.2)) ∧ Below g ws wr ∧ wr.heap[bs]? = ws.heap[bs]? ∧ bs + 1 ≤ wr.heap.size) (fun i _ => ats.length - (intOf i).toNat)
 case atStart =>
  refine ⟨0, fun _ => .slice none 0 0, Nat.zero_le _, rfl, ?_, Below.refl _ _, rfl, hss⟩
  have h1 : DU 69 45 (bs + 1) ws.heap.size ws g n (fun _ => .slice none 0 0) (fun _ => []) := HDU.out.nils (by omega) (hbs.block g (by omega))
  simpa [zL_zero] using h1
 case round =>
  obtain ⟨k, us, hk, rfl, hdu, hbe, hbb, hse⟩ := hrel
  have HDK := Lib.hid hdu
  have HBB := Lib.hid hbb
  have hbw : Below w.heap.size w wr := hbww.trans (hbe.mono (by omega))
  clear hdu hbb HDU
  by_cases hkl : k < ats.length
  ·obtain ⟨b, o, rfl, hb, hce⟩ := HZC.out (by omega)
   have hkz : k < Z.length := by rw [HZL.out]; exact hkl
   obtain ⟨g0, g1⟩ := hce k hkz
   obtain ⟨q1, q2, q3⟩ := HZR.out _ (List.getElem_mem hkz)
   obtain ⟨qa, qc, hqe⟩ := rdP_slice q3
   have hy : (Z[k]).2 = ((Z[k]).1.1, .slice qa (Z[k]).1.2.length qc) := by rw [← q1, ← hqe]
   rw [hqe] at g1 q3
   have HY := Lib.hid hy
   have hI := q2
   have d0 := (hbw.cell hb).trans g0
   have d1 := (hbw.cell hb).trans g1
   have HQ := Lib.hid (q3.rd.below hbw)
   obtain ⟨m1, m2⟩ := HAS.out k hkz
   obtain ⟨l, hl⟩ : ∃ l : Nat, topI (Z[k]).1.2 = l := ⟨(topI (Z[k]).1.2).toNat, by have := topI_nn (xs := (Z[k]).1.2); omega⟩
   have hln : l < n := by
    have h0 : (0 : Int) ≤ (n : Int) - 1 := by
     have := m2 _ (List.getElem_mem (show 0 < (Z[k]).1.2.length by omega))
     omega
    have := topI_le h0 (fun x hx => by have := m2 x hx; omega)
    omega
   have HM2 : Hid (∀ x ∈ (Z[k]).1.2, 0 ≤ x) := fun x hx => (m2 x hx).1
   have HL := Lib.hid hl
   obtain ⟨ua, un, uc, hul⟩ := ex_slice ((HDK.out.2.2.1 l hln).fr (by have := zL_len (Z := Z) (k := k) (v := l); have := HZL.out; rw [List.length_map]; unfold capMax; omega))
   have HUL := Lib.hid hul
   have hlz : (zL Z k l).length ≤ 1000 := by have := zL_len (Z := Z) (k := k) (v := l); have := HZL.out; omega
   generalize hz1 : (Z[k]).1.1 = c1 at *
   clear hce g0 g1 q1 q3 hqe m2 hy hl hul
   go_wp2_with fail
   generalize hWa : World.alloc wr _ = wa
   have hba : Below wr.heap.size wr wa := hWa ▸ bA
   have hsa : wr.heap.size + 1 ≤ wa.heap.size := by rw [← hWa]; simp
   have e0 : wa.cell? ⟨wr.heap.size, 0, none⟩ = some (.int .i64 c1) := by rw [← hWa]; simp
   have e1 : wa.cell? ⟨wr.heap.size, 1, none⟩ = some (.slice qa (Z[k]).1.2.length qc) := by rw [← hWa]; simp
   clear hWa
   refine (MaxI_any _ (HQ.out.below hba) m1 HM2.out).mono ?_
   rintro e _ ⟨rfl, rfl⟩
   rw [HL.out]
   have f3 := (World.cell?_of_block (a := ⟨bs, 3, none⟩) (HBB.out)).trans s3
   have f4 := HDK.out.cell hln
   rw [HUL.out] at f4
   have f5 := HDK.out.free l
   have hgw := HDK.out.lt
   have hbsw : bs < wr.heap.size := by omega
   replace f3 := (cellB hba (by omega)).trans f3
   replace f4 := (cellB hba (by omega)).trans f4
   replace f5 := (frozenB hba (by omega)).trans f5
   go_wp2_with fail
   refine wp_region_T (fun w' => w'.cell? ⟨bs, 3, none⟩ = some (.slice (some ⟨g, 0, none⟩) n n) ∧ w'.cell? ⟨g, l, none⟩ = some (.slice ua un uc) ∧ w'.cell? ⟨wr.heap.size, 0, none⟩ = some (.int .i64 c1) ∧ w'.cell? ⟨wr.heap.size, 1, none⟩ = some (.slice qa (Z[k]).1.2.length qc)) [16] (by kernel_rfl) ⟨f3, f4, e0, e1⟩ (fun hHeld => ?_)
   refine wpAnyT_take (i := 0) (v := ?_) rfl (by kernel_rfl) (fun _ _ _ h => h) (Or.inl ⟨by rfl, ?_⟩) (by assumption) ?_
   rotate_left
   ·(intro w hSw; (try dsimp only at hSw); go_simp <;> with_reducible rfl)
   try simp only [Act.put]
   refine wpAnyT_take (i := 1) (v := ?_) rfl (by kernel_rfl) (fun _ _ _ h => h) (Or.inl ⟨by rfl, ?_⟩) (by assumption) ?_
   rotate_left
   ·(intro w hSw; (try dsimp only at hSw); go_simp <;> with_reducible rfl)
   try simp only [Act.put]
   refine wpAnyT_take (i := 2) (v := ?_) rfl (by kernel_rfl) (fun _ _ _ h => h) (Or.inl ⟨by rfl, ?_⟩) (by assumption) ?_
   rotate_left
   ·(intro w hSw; (try dsimp only at hSw); go_simp <;> with_reducible rfl)
   try simp only [Act.put]
   refine wpAnyT_take (i := 3) (v := ?_) rfl (by kernel_rfl) (fun _ _ _ h => h) (Or.inl ⟨by rfl, ?_⟩) (by assumption) ?_
   rotate_left
   ·(intro w hSw; (try dsimp only at hSw); go_simp <;> with_reducible rfl)
   try simp only [Act.put]
   refine wpAnyT_take (i := 4) (v := ?_) rfl (by kernel_rfl) (fun _ _ _ h => h) (Or.inl ⟨by rfl, ?_⟩) (by assumption) ?_
   rotate_left
   ·(intro w hSw; (try dsimp only at hSw); go_simp <;> with_reducible rfl)
   try simp only [Act.put]
   refine wpAnyT_take (i := 5) (v := ?_) rfl (by kernel_rfl) (fun _ _ _ h => h) (Or.inl ⟨by rfl, ?_⟩) (by assumption) ?_
   rotate_left
   ·(intro w hSw; (try dsimp only at hSw); go_simp <;> with_reducible rfl)
   try simp only [Act.put]
   refine wpAnyT_take (i := 6) (v := ?_) rfl (by kernel_rfl) (fun _ _ _ h => h) (Or.inl ⟨by rfl, ?_⟩) (by assumption) ?_
   rotate_left
   ·(intro w hSw; (try dsimp only at hSw); go_simp <;> with_reducible rfl)
   try simp only [Act.put]
   refine wpAnyT_take (i := 7) (v := ?_) rfl (by kernel_rfl) (fun _ _ _ h => h) (Or.inl ⟨by rfl, ?_⟩) (by assumption) ?_
   rotate_left
   ·(intro w hSw; (try dsimp only at hSw); go_simp <;> with_reducible rfl)
   try simp only [Act.put]
   refine wpAnyT_take (i := 8) (v := ?_) rfl (by kernel_rfl) (fun _ _ _ h => h) (Or.inl ⟨by rfl, ?_⟩) (by assumption) ?_
   rotate_left
   ·(intro w hSw; (try dsimp only at hSw); go_simp <;> with_reducible rfl)
   try simp only [Act.put]
   refine wpAnyT_take (i := 9) (v := ?_) rfl (by kernel_rfl) (fun _ _ _ h => h) (Or.inl ⟨by rfl, ?_⟩) (by assumption) ?_
   rotate_left
   ·(intro w hSw; (try dsimp only at hSw); go_simp <;> with_reducible rfl)
   try simp only [Act.put]
   refine wpAnyT_take (i := 10) (v := ?_) rfl (by kernel_rfl) (fun _ _ _ h => h) (Or.inl ⟨by rfl, ?_⟩) (by assumption) ?_
   rotate_left
   ·(intro w hSw; (try dsimp only at hSw); go_simp <;> with_reducible rfl)
   try simp only [Act.put]
   refine wpAnyT_take (i := 11) (v := ?_) rfl (by kernel_rfl) (fun _ _ _ h => h) (Or.inl ⟨by rfl, ?_⟩) (by assumption) ?_
   rotate_left
   ·(intro w hSw; (try dsimp only at hSw); go_simp <;> with_reducible rfl)
   try simp only [Act.put]
   refine wpAnyT_take (i := 12) (v := ?_) rfl (by kernel_rfl) (fun _ _ _ h => h) (Or.inl ⟨by rfl, ?_⟩) (by assumption) ?_
   rotate_left
   ·(intro w hSw; (try dsimp only at hSw); go_simp <;> with_reducible rfl)
   try simp only [Act.put]
   refine wpAnyT_one (i := 13) rfl (by kernel_rfl) (fun K hK => ?_)
   go_simp
   refine hK.out _ _ ⟨by go_keep, by go_keep, by go_keep, by go_keep⟩ (fun hHeld => ?_)
   clear hK K
   refine wpAnyT_one (i := 14) rfl (by kernel_rfl) (fun K hK => ?_)
   have HBl : Hid (Bl pvT 69 (bs + 1) wr.heap.size wr (.slice ua un uc) ((zL Z k l).map (·.2))) := by rw [← HUL.out]; exact HDK.out.2.2.1 l hln
   have hbX : ∀ o : Obj, Below wr.heap.size wr (wa.drew.alloc o) := fun o => bthen hba ((Below.refl _ wa).drew.alloc (by simp) o)
   refine step_push (E := pvT) _ rfl _ _ 45 69 rfl elAtomS rfl (HBl.out.below (hbX _) (Nat.le_refl _)) rfl news2 (fr_pv (x := .slice qa (Z[k]).1.2.length qc) hI rfl) (by rw [List.length_map]; omega) (by decide) (by omega) (by simp; omega) ?_
   intro v5 w5 hB5 hg5 hown
   obtain ⟨a5, n5, c5, rfl⟩ := ex_slice (hB5.fr (by rw [List.length_append, List.length_map]; unfold capMax; simp only [List.length_singleton]; omega))
   have hg6 : ((wa.alloc (.cells #[.int .i64 c1, .slice qa (Z[k]).1.2.length qc] 69)).drew).grownBy w5 (Value.slice ua un uc).ownBlock := hg5
   have hown6 : (Value.slice a5 n5 c5).ownBlock = (Value.slice ua un uc).ownBlock ∨ (Value.slice a5 n5 c5).ownBlock = some ((wa.alloc (.cells #[.int .i64 c1, .slice qa (Z[k]).1.2.length qc] 69)).drew).heap.size := hown
   have hbX2 : Below wr.heap.size wr ((wa.alloc (.cells #[.int .i64 c1, .slice qa (Z[k]).1.2.length qc] 69)).drew) := hbX _
   generalize hWX : (wa.alloc (.cells #[.int .i64 c1, .slice qa (Z[k]).1.2.length qc] 69)).drew = wx at hg6 hown6 hbX2
   have hax : Below wa.heap.size wa wx := by rw [← hWX]; exact (Below.refl _ wa).drew.alloc (by simp) _
   have hxs := hax.size
   have hown0 : ∀ q, (Value.slice ua un uc).ownBlock = some q → q < wr.heap.size := fun q hq => HBl.out.lt_top hq
   have HD5 := Lib.hid (DU.push (y := (c1, .slice qa (Z[k]).1.2.length qc)) (HDK.out.below hbX2 (Nat.le_refl _) hse) hln hB5 (by rw [HUL.out]; exact hg6) (by rw [HUL.out]; exact hown6) hbX2.size)
   have HLS : Hid ((fun v => if v = l then (zL Z k l).map (·.2) ++ [(c1, Value.slice qa (Z[k]).1.2.length qc)] else (zL Z k v).map (·.2)) = fun v => (zL Z (k + 1) v).map (·.2)) := by
    unfold Hid
    funext v
    by_cases e : v = l
    ·subst e
     rw [if_pos rfl, zL_yes hkz HL.out, List.map_append, List.map_cons, List.map_nil, HY.out]
    ·rw [if_neg e, zL_no hkz (by rw [HL.out]; intro h; exact e (by omega))]
   rw [HLS.out] at HD5
   have hb5 : Below (bs + 1) wr w5 := (hbX2.mono (by omega)).grown hg6 (by omega) (fun q hq => HBl.out.ge hq)
   have i3 := (cellB (hb5) (by omega)).trans ((World.cell?_of_block (a := ⟨bs, 3, none⟩) (HBB.out)).trans s3)
   have i4 := (cellB hb5 (show g < bs + 1 by omega)).trans (HDK.out.cell hln)
   rw [HUL.out] at i4
   have i5 := (frozenB hb5 (show g < bs + 1 by omega)).trans (HDK.out.free l)
   have j0 := ((grown_cell' (i := 0) hg6 (show wr.heap.size < wx.heap.size by omega) (fun e => by have := hown0 _ e; omega)).trans (cellB hax (show wr.heap.size < wa.heap.size by omega))).trans e0
   have j1 := ((grown_cell' (i := 1) hg6 (show wr.heap.size < wx.heap.size by omega) (fun e => by have := hown0 _ e; omega)).trans (cellB hax (show wr.heap.size < wa.heap.size by omega))).trans e1
   have hz5 := hb5.size
   have hbs5 : w5.heap[bs]? = ws.heap[bs]? := (hb5.block bs (by omega)).trans HBB.out
   have HBS5 := Lib.hid hbs5
   have hbe5 : Below g ws w5 := hbe.trans (hb5.mono (by omega))
   clear hB5 hg5 hown hg6 hown6 hWX hbs5 hown0
   refine hK.out _ _ ⟨i3, i4, j0, j1⟩ (fun hHeld => ?_)
   clear hK K
   refine wpAnyT_take (i := 15) (v := ?_) rfl (by kernel_rfl) (fun _ _ _ h => h) (Or.inl ⟨by rfl, ?_⟩) (by assumption) ?_
   rotate_left
   ·(intro w hSw; (try dsimp only at hSw); go_simp <;> with_reducible rfl)
   try simp only [Act.put]
   refine wpAnyT_last (i := 16) rfl (by kernel_rfl) (by kernel_rfl) (fun K hK => ?_)
   go_simp
   refine hK.out _ _ ?_
   clear hK K
   refine wpAnyT_done (by kernel_rfl) ?_ _
   go_simp
   go_wp2_with fail
   go_roundw
   case rel => exact ⟨k + 1, _, by omega, by go_num, by rw [size_set]; exact HD5.out, hbe5.setCell (Nat.le_refl _) _, (Below.heap_setCell _ _ _ _ (by simp; omega)).trans HBS5.out, by rw [size_set]; omega⟩
   case measure => simp [intOf]; omega
  ·obtain rfl : k = ats.length := by omega
   have hzl : ats.length = Z.length := HZL.out.symm
   have HSV : Hid (Sv (fun k => ok0 k ∨ w.heap.size ≤ k) wr bs t n (duesL ats n)) := by
    refine ⟨by omega, .inr (by omega), v1, _, (World.cell?_of_block (a := ⟨bs, 0, none⟩) HBB.out).trans s0, (World.cell?_of_block (a := ⟨bs, 1, none⟩) HBB.out).trans s1, (World.cell?_of_block (a := ⟨bs, 2, none⟩) HBB.out).trans s2, (World.cell?_of_block (a := ⟨bs, 3, none⟩) HBB.out).trans s3, (HT.out.below hbw).mono (fun _ _ h => .inl h), ?_⟩
    have h1 := dues_of (ok := fun k => ok0 k ∨ w.heap.size ≤ k) HDK.out (by unfold capMax; omega) (fun v _ => by have := zL_len (Z := Z) (k := ats.length) (v := v); unfold capMax; omega) (fun v _ z hz => ((HZR.out z (zL_mem hz)).below hbw).mono (fun _ _ h => .inl h)) (.inr (by omega)) (fun q hq _ => .inr (by omega))
    have h2 : (fun v => (zL Z ats.length v).map (·.1)) = dueL ats := by
     funext v
     rw [hzl, zL_fst, HZ.out]
    rw [h2] at h1
    exact h1
   clear HZC
   go_wp2_with fail
   go_ret
   exact ⟨bs, rfl, HSV.out, hbw⟩
end Go.Proofs.YtajmjfbejfiipaaGreat
namespace Go.Proofs.YtajmjfbejfiipaaGreat
open Go.RowKit Go.Sort
theorem Ty.Fr.P {α : Type} {E : Ty α} {base : Nat} {w : World} {cs : List Value} {x : α} (h : E.Fr base w cs x) : E.RdP (fun k => base ≤ k) w cs x := let ⟨fp, h1, _, h3, _⟩ := h; ⟨fp, h1, h3⟩
theorem rd_prefix {w : World} {ad : Option Addr} {n c k : Nat} {xs : List Int} (h : intsT.Rd w [.slice ad n c] xs) (hk : k ≤ xs.length) : intsT.Rd w [.slice ad k c] (xs.take k) := by
 obtain ⟨fp, ad', cap, hv, h1, h2, h3⟩ := h
 simp only [List.cons.injEq, Value.slice.injEq, and_true] at hv
 obtain ⟨rfl, rfl, rfl⟩ := hv
 have hl : (xs.take k).length = k := List.length_take_of_le hk
 rcases Nat.eq_zero_or_pos k with h0 | h0
 ·subst h0
  exact ⟨[], ad, c, by simp, by simp, by simp, .inl ⟨by simp, rfl⟩⟩
 ·rcases h3 with ⟨h3, _⟩ | ⟨h3, b, o, fps, rfl, hb, rfl, h4⟩
  ·omega
  ·refine ⟨_, some ⟨b, o, none⟩, c, by rw [hl], by rw [hl]; omega, by rw [hl]; unfold capMax at *; omega, .inr ⟨by rw [hl]; exact h0, b, o, fps, rfl, hb, rfl, fun i hi => ?_⟩⟩
   rw [hl] at hi
   obtain ⟨cs, h5, h6⟩ := h4 i (by omega)
   exact ⟨cs, by rw [List.getElem_take]; exact h5, h6⟩
/-- the beginnings go, as far as k of them -/
def preTo (sure : List Int → Bool) (b : List Int) (k : Nat) : Prop := ∀ j, j < k → sure (b.take (j + 1)) = true
theorem preTo_zero {sure : List Int → Bool} {b : List Int} : preTo sure b 0 := fun _ h => absurd h (Nat.not_lt_zero _)
theorem preTo_succ {sure : List Int → Bool} {b : List Int} {k : Nat} (h : preTo sure b k) (h' : sure (b.take (k + 1)) = true) : preTo sure b (k + 1) := fun j hj => by
 by_cases e : j = k
 ·subst e; exact h'
 ·exact h j (by omega)
/-- all lists of values that begin with some -/
noncomputable def witL (s : Nat) (sure : List Int → Bool) (n : Nat) (b : List Int) : List (List Int) := match tb (preTo sure b b.length) with
 | true => solsL s sure (n - b.length) b
 | false => []
theorem witL_no {s : Nat} {sure : List Int → Bool} {n : Nat} {b : List Int} {k : Nat} (hk : k < b.length) (h : sure (b.take (k + 1)) = false) : witL s sure n b = [] := by
 have : tb (preTo sure b b.length) = false := tb_false (fun hh => by have := hh k hk; rw [h] at this; cases this)
 simp only [witL, this]
theorem witL_yes {s : Nat} {sure : List Int → Bool} {n : Nat} {b : List Int} (h : preTo sure b b.length) : witL s sure n b = solsL s sure (n - b.length) b := by simp only [witL, tb_true h]
def headV (l : List (List Int)) : List Int := match l with
 | [] => []
 | x :: _ => x
def headB (l : List (List Int)) : Bool := match l with
 | [] => false
 | _ :: _ => true
/-- a box that keeps the last that was told -/
def lastI (bx : Nat) (told : List (List Int)) (O : List Nat) (w : World) : Prop :=
 O = [bx] ∧ bx < w.heap.size ∧ w.frozen? ⟨bx, 0, none⟩ = false ∧ ((told = [] ∧ w.cell? ⟨bx, 0, none⟩ = some (.slice none 0 0)) ∨ ∃ x u, told.getLast? = some x ∧ w.cell? ⟨bx, 0, none⟩ = some u ∧ intsT.Fr (bx + 1) w [u] x)
set_option maxHeartbeats 800000 in
theorem first1_yl (bx : Nat) : Yl Tryz.prog 208 #[.pointer (some ⟨bx, 0, none⟩)] (fun _ => false) (lastI bx) := by
 refine ⟨?_, ?_, ?_⟩
 ·rintro told O w w' ⟨rfl, h1, h2, h3⟩ hb
  refine ⟨rfl, Nat.lt_of_lt_of_le h1 hb.size, (frozenB hb h1).trans h2, ?_⟩
  rcases h3 with ⟨h3, h4⟩ | ⟨x, u, h3, h4, h5⟩
  ·exact .inl ⟨h3, (cellB hb h1).trans h4⟩
  ·exact .inr ⟨x, u, h3, (cellB hb h1).trans h4, h5.below hb⟩
 ·rintro told O w ⟨rfl, h1, -, -⟩ k hk
  obtain rfl : k = bx := by simpa using hk
  exact h1
 ·rintro told O w0 w u x ⟨rfl, h1, h2, h3⟩ hb hf hlx -
  obtain ⟨a, c, rfl⟩ := fr_slice hf
  have HF := Lib.hid hf
  have hz := hb.size
  have f0 := (frozenB hb h1).trans h2
  obtain ⟨u0, c0⟩ : ∃ u0, w.cell? ⟨bx, 0, none⟩ = some u0 := by
   rcases h3 with ⟨-, h4⟩ | ⟨x, u, -, h4, -⟩
   ·exact ⟨_, (cellB hb h1).trans h4⟩
   ·exact ⟨_, (cellB hb h1).trans h4⟩
  clear h3 hf h2
  show Calls Tryz.prog 208 #[.slice a x.length c, .pointer (some ⟨bx, 0, none⟩)] w _
  go_enter Tryz.func208, Tryz.ntmps208
  go_wp2_with fail
  go_ret
  refine ⟨rfl, [bx], ⟨rfl, by rw [size_set]; omega, (World.frozen?_setCell _ _ _ _).trans f0, .inr ⟨x, _, by simp, World.cell?_setCell_same _ _ _ c0, (HF.out.mono (by omega)).set (by simp)⟩⟩, TchF.setCell (List.mem_singleton.2 rfl) _ _ _, fun k hk => .inl hk⟩
set_option maxHeartbeats 3200000 in
set_option maxRecDepth 100000 in
theorem first_any (w : World) {t : Int × List (Int × List (List Int))} {n : Nat} {due : List (List (Int × List Int))} (hT : tplOk t) {s : Nat} (hs : t.1 = s) (hn : n ≤ 10) (hdl : due.length = n) (hD : dueOk t n due) {ok : Nat → Prop} {bs : Nat} (hS : Sv ok w bs t n due) {v : Value} {b : List Int} (hv : intsT.Rd w [v] b) (hl : b.length ≤ n) :
  Calls Tryz.prog 158 #[.pointer (some ⟨bs, 0, none⟩), v] w fun e w' => ∃ u, e = .returned (.tuple #[u, .bool (headB (witL s (goesB t due) n b))]) ∧ intsT.Fr w.heap.size w' [u] (headV (witL s (goesB t due) n b)) ∧ Below w.heap.size w w' := by
 have HT := Lib.hid hT
 have HD := Lib.hid hD
 have HS := Lib.hid hS
 have HV := Lib.hid hv
 obtain ⟨va, vc, rfl⟩ := rd_slice hv
 have hvc : b.length ≤ vc := by obtain ⟨_, _, he, h, _⟩ := ints_ex hv; simp at he; omega
 have hs4 := hT.1
 unfold sizeOk at hs4
 clear hT hD hS hv
 go_enter Tryz.func158, Tryz.ntmps158
 go_wp2_with fail
 go_loopw [11] (fun i wr => ∃ k : Nat, k ≤ b.length ∧ i = .int .i64 k ∧ preTo (goesB t due) b k ∧ Below w.heap.size w wr) (fun i _ => b.length - (intOf i).toNat)
 case atStart => exact ⟨0, Nat.zero_le _, rfl, preTo_zero, Below.refl _ _⟩
 case round =>
  obtain ⟨k, hk, rfl, hpre, hbe⟩ := hrel
  have HP := Lib.hid hpre
  clear hpre
  by_cases hkl : k < b.length
  ·have hk1 : k + 1 ≤ vc := by omega
   go_wp2_with fail
   refine (goes_any _ (HS.out.below hbe) (rd_prefix (HV.out.below hbe) (show k + 1 ≤ b.length by omega)) HT.out HD.out (by rw [take_len (show k + 1 ≤ b.length by omega)]; omega) (by rw [take_len (show k + 1 ≤ b.length by omega)]; omega)).mono ?_
   rintro e w1 ⟨rfl, hb1⟩
   have hbw1 := bthen hbe hb1
   cases hg : goesB t due (b.take (k + 1))
   ·have HW := Lib.hid (witL_no (s := s) (n := n) hkl hg)
    clear hg
    go_wp2_with fail
    go_ret2
    exact ⟨.slice none 0 0, by rw [HW.out]; rfl, by rw [HW.out]; exact fr_nil, hbw1⟩
   ·have HP1 := Lib.hid (preTo_succ HP.out hg)
    clear hg
    go_wp2_with fail
    go_roundw
    case rel => exact ⟨k + 1, by omega, by go_num, HP1.out, hbw1⟩
    case measure => simp [intOf]; omega
  ·obtain rfl : k = b.length := by omega
   have HW := Lib.hid (witL_yes (s := s) (n := n) HP.out)
   go_wp2_with fail
   generalize hWa : World.alloc wr _ = wa
   have hba : Below wr.heap.size wr wa := hWa ▸ bA
   have hsa : wr.heap.size + 1 ≤ wa.heap.size := by rw [← hWa]; simp
   have hI0 : lastI wr.heap.size [] [wr.heap.size] wa := ⟨rfl, by omega, by rw [← hWa]; simp, .inl ⟨rfl, by rw [← hWa]; simp⟩⟩
   have HI0 := Lib.hid hI0
   have hbwa := bthen hbe hba
   have hSa : Sv (fun q => q < wr.heap.size) wa bs t n due := ((HS.out.below hbe).mono (ok' := fun q => q < wr.heap.size) (fun q hq _ => hq)).below hba
   have HSA := Lib.hid hSa
   obtain ⟨fpv, hrv⟩ := HV.out.below hbe
   have HRV := Lib.hid hrv
   have hfl : ∀ q ∈ fpv, q < wr.heap.size := Ty.lt _ hrv
   have HFL := Lib.hid hfl
   have hsl := solsL_len (s := s) (sure := goesB t due) (m := n - b.length) (vals := b)
   have hpow : s ^ (n - b.length) ≤ 4 ^ 10 := Nat.le_trans (Nat.pow_le_pow_left (by omega) _) (Nat.pow_le_pow_right (by omega) (by omega))
   have HBD : Hid (([] : List (List Int)).length + (solsL s (goesB t due) (n - b.length) b).length ≤ 2000000) := by
    unfold Hid
    have : (4 : Nat) ^ 10 = 1048576 := by decide
    simp only [List.length_nil]
    omega
   clear hWa hI0 hSa hrv hfl hsl hpow
   refine (walk_any HT.out hs hn hdl HD.out 208 #[.pointer (some ⟨wr.heap.size, 0, none⟩)] (enters Tryz.func208 (by kernel_rfl) rfl) (fun _ => false) (lastI wr.heap.size) (first1_yl _) bs (fun q => q < wr.heap.size) (n - b.length) wa _ b fpv [] [wr.heap.size] (by omega) HSA.out (fun q hq => ⟨by omega, fun hm => by simp at hm; omega⟩) (HRV.out.below hba) (fun q hq hm => by have := HFL.out q hq; simp at hm; omega) HI0.out HBD.out).mono ?_
   rintro e w2 ⟨rfl, O', hI, ht, hO⟩
   have hbw2 : Below w.heap.size w w2 := hbwa.trans (ht.below hbwa.size (fun q hq => by simp at hq; have := hbe.size; omega))
   have hse := hbe.size
   clear ht hO HI0 HSA HRV HFL HBD
   generalize solsL s (goesB t due) (n - b.length) b = L at hI HW ⊢
   rcases L with _ | ⟨x, r⟩
   ·obtain ⟨rfl, h1, h2, h3⟩ := hI
    have c0 : w2.cell? ⟨wr.heap.size, 0, none⟩ = some (.slice none 0 0) := by
     rcases h3 with ⟨-, h3⟩ | ⟨x, u, h3, -, -⟩
     ·exact h3
     ·simp [tellL] at h3
    clear h3
    rw [tellL_nil]
    go_wp2_with fail
    go_ret2
    exact ⟨.slice none 0 0, by rw [HW.out]; rfl, by rw [HW.out]; exact fr_nil, hbw2⟩
   ·rw [tellL_first] at hI ⊢
    obtain ⟨rfl, h1, h2, h3⟩ := hI
    obtain ⟨u, c0, hf⟩ : ∃ u, w2.cell? ⟨wr.heap.size, 0, none⟩ = some u ∧ intsT.Fr (wr.heap.size + 1) w2 [u] x := by
     rcases h3 with ⟨h3, -⟩ | ⟨y, u, h3, h4, h5⟩
     ·simp at h3
     ·obtain rfl : x = y := by simpa using h3
      exact ⟨u, h4, h5⟩
    obtain ⟨ua, uc, rfl⟩ := fr_slice hf
    have HF := Lib.hid hf
    clear h3 hf
    go_wp2_with fail
    go_ret2
    exact ⟨.slice ua x.length uc, by rw [HW.out]; rfl, by rw [HW.out]; exact HF.out.mono (by omega), hbw2⟩
end Go.Proofs.YtajmjfbejfiipaaGreat
namespace Go.Proofs.YtajmjfbejfiipaaGreat
open Go.RowKit Go.Sort
section
variable {t : Int × List (Int × List (List Int))} {x : Int × List (Int × List Int)}
end
end Go.Proofs.YtajmjfbejfiipaaGreat
namespace Go.Proofs.YtajmjfbejfiipaaGreat
open Go.RowKit Go.Sort
section
variable {t : Int × List (Int × List (List Int))} {x : Int × List (Int × List Int)}
end
end Go.Proofs.YtajmjfbejfiipaaGreat
namespace Go.Proofs.YtajmjfbejfiipaaGreat
open Go.RowKit Go.Sort
/-- an atom that is due at k and does not hold -/
noncomputable def badB (t : Int × List (Int × List (List Int))) (k : Nat) (vals : List Int) (a : Int × List Int) : Bool := (topI a.2 == (k : Int)) && !holdsA t vals a
theorem goes_bad {t : Int × List (Int × List (List Int))} {n k : Nat} {ats : List (Int × List Int)} {vals : List Int} (h : vals.length = k + 1) (hk : k < n) : goesB t (duesL ats n) vals = !anyB (badB t k vals) ats := by
 rw [goesB_at h (by rw [duesL_len]; exact hk), duesL_get]
 unfold anyB dueL badB
 rw [List.any_filter]
theorem bad_no {t : Int × List (Int × List (List Int))} {k : Nat} {vals : List Int} {a : Int × List Int} (h : (topI a.2 == (k : Int)) = false) : badB t k vals a = false := by simp only [badB, h, Bool.false_and]
theorem bad_hold {t : Int × List (Int × List (List Int))} {k : Nat} {vals : List Int} {a : Int × List Int} (h : (topI a.2 == (k : Int)) = true) : badB t k vals a = !holdsA t vals a := by simp only [badB, h, Bool.true_and]
theorem anyB_none {α : Type} {p : α → Bool} {xs : List α} (h : noneB p xs) : anyB p xs = false := by
 unfold anyB
 rw [List.any_eq_false]
 intro x hx
 simp [h x hx]
theorem anyB_some {α : Type} {p : α → Bool} {xs : List α} {k : Nat} (h : k < xs.length) (hp : p xs[k] = true) : anyB p xs = true := by
 unfold anyB
 rw [List.any_eq_true]
 exact ⟨_, List.getElem_mem h, hp⟩
/-- a pointer to a datum in blocks below B -/
def Ty.PtB {α : Type} (E : Ty α) (B : Nat) (w : World) (v : Value) (x : α) : Prop := ∃ b o cs, v = .pointer (some ⟨b, o, none⟩) ∧ b < B ∧ b < w.heap.size ∧ E.RdB B w cs x ∧ ∀ j (hj : j < cs.length), w.cell? ⟨b, o + j, none⟩ = some cs[j]
theorem Ty.PtB.below {α : Type} {E : Ty α} {B : Nat} {w w' : World} {v : Value} {x : α} (h : E.PtB B w v x) (hb : Below B w w') : E.PtB B w' v x :=
 let ⟨b, o, cs, h1, h2, h3, h4, h5⟩ := h
 ⟨b, o, cs, h1, h2, Nat.lt_of_lt_of_le h3 hb.size, h4.below hb (Nat.le_refl _), fun j hj => (cellB hb h2).trans (h5 j hj)⟩
theorem Ty.Pt.B {α : Type} {E : Ty α} {w : World} {v : Value} {x : α} (h : E.Pt w v x) : E.PtB w.heap.size w v x := let ⟨b, o, cs, h1, h2, h3, h4⟩ := h; ⟨b, o, cs, h1, h2, h2, h3.B, h4⟩
/-- a search in progress, at block bf: what it was told so far -/
def Fnd (e bf most : Nat) (vt vx : Value) (told : List (List Int)) (O : List Nat) (w : World) : Prop :=
 ∃ v, O = bf :: v.ownBlock.toList ∧ bf < w.heap.size ∧ w.cell? ⟨bf, 0, none⟩ = some vt ∧ w.cell? ⟨bf, 1, none⟩ = some vx ∧ w.cell? ⟨bf, 2, none⟩ = some (.int .i64 most) ∧ w.cell? ⟨bf, 3, none⟩ = some v ∧ w.cell? ⟨bf, 4, none⟩ = some (.int .i64 told.length) ∧
  w.frozen? ⟨bf, 3, none⟩ = false ∧ w.frozen? ⟨bf, 4, none⟩ = false ∧ Bl intsT e (bf + 1) w.heap.size w v (told.take most)
theorem Fnd.below {e bf most : Nat} {vt vx : Value} {told : List (List Int)} {O : List Nat} {w w' : World} (h : Fnd e bf most vt vx told O w) (hb : Below w.heap.size w w') : Fnd e bf most vt vx told O w' := by
 obtain ⟨v, h0, h1, c0, c1, c2, c3, c4, m3, m4, hB⟩ := h
 exact ⟨v, h0, Nat.lt_of_lt_of_le h1 hb.size, (cellB hb h1).trans c0, (cellB hb h1).trans c1, (cellB hb h1).trans c2, (cellB hb h1).trans c3, (cellB hb h1).trans c4, (frozenB hb h1).trans m3, (frozenB hb h1).trans m4, (hB.below hb (Nat.le_refl _)).mono hb.size⟩
theorem Fnd.ge {e bf most : Nat} {vt vx : Value} {told : List (List Int)} {O : List Nat} {w : World} (h : Fnd e bf most vt vx told O w) : ∀ k ∈ O, bf ≤ k := by
 obtain ⟨v, rfl, h1, c0, c1, c2, c3, c4, m3, m4, hB⟩ := h
 intro k hk
 rcases List.mem_cons.1 hk with rfl | hk
 ·exact Nat.le_refl _
 ·have := hB.ge (show v.ownBlock = some k by simpa using hk)
  omega
theorem Fnd.lt {e bf most : Nat} {vt vx : Value} {told : List (List Int)} {O : List Nat} {w : World} (h : Fnd e bf most vt vx told O w) : ∀ k ∈ O, k < w.heap.size := by
 obtain ⟨v, rfl, h1, c0, c1, c2, c3, c4, m3, m4, hB⟩ := h
 intro k hk
 rcases List.mem_cons.1 hk with rfl | hk
 ·exact h1
 ·exact hB.lt_top (show v.ownBlock = some k by simpa using hk)
end Go.Proofs.YtajmjfbejfiipaaGreat
namespace Go.Proofs.YtajmjfbejfiipaaGreat
open Go.RowKit Go.Sort
set_option maxHeartbeats 1600000 in
set_option maxRecDepth 100000 in
theorem l03Atom_any (w : World) {vt va v : Value} {t : Int × List (Int × List (List Int))} {a : Int × List Int} {vals : List Int} (ht : tplT.Pt w vt t) (ha : opT.Pt w va a) (hv : intsT.Rd w [v] vals)
  (hT : tplOk t) {vars : Int} (hA : atomOk t vars a) (hin : ∀ p ∈ a.2, 0 ≤ p ∧ p < (vals.length : Int)) :
  Calls Tryz.prog 250 #[vt, va, v] w fun e w' => e = .returned (.bool (holdsA t vals a)) ∧ Below w.heap.size w w' := by
 obtain ⟨h1, h4, h5, h6⟩ := atom_len hT hA
 obtain ⟨bt, ot, at0, ct, rfl, hbt, -, -, t1, htx⟩ := pt_pair ht
 obtain ⟨ba, oa, aa, ca, rfl, hba, -, a0, a1, hax⟩ := pt_pair ha
 have HT := Lib.hid htx
 have HX := Lib.hid hax
 have HV := Lib.hid hv
 have HIN := Lib.hid hin
 have HTO := Lib.hid hT
 clear ht ha htx hax hv hin hT hA
 go_enter Tryz.func250, Tryz.ntmps250
 go_wp2_with fail
 refine (l01At_any _ HV.out HX.out HIN.out (by omega)).mono ?_
 rintro e w1 ⟨u, rfl, hf, hb1⟩
 obtain ⟨ua, uc, rfl⟩ := fr_slice hf
 have HF := Lib.hid hf.rd
 replace t1 := (cellB hb1 (by omega)).trans t1
 replace a0 := (cellB hb1 (by omega)).trans a0
 replace a1 := (cellB hb1 (by omega)).trans a1
 have hz1 := hb1.size
 clear hf
 cases hq : (a.1 == -1)
 ·have hne : a.1 ≠ -1 := by simpa using hq
  obtain ⟨h7, h8⟩ := h6 hne
  obtain ⟨k, hk⟩ : ∃ k : Nat, a.1 = k := ⟨a.1.toNat, by omega⟩
  have hkl : k < t.2.length := by omega
  obtain ⟨ra, ro, rfl, hp⟩ := rd_elem HT.out hkl
  have hp' : relT.Pt w (.pointer (some ⟨ra, ro + k * 2, none⟩)) t.2[k] := hp
  have HE : Hid (tb (atL vals a.2 ∈ (t.2[k]).2) = holdsA t vals a) := by
   unfold Hid
   rw [holdsA_rel hq]
   unfold holdsC
   rw [hk, relAt_nat hkl]
  have cL : ∀ n, Calls Tryz.prog 128 #[.pointer (some ⟨ra, ro + k * 2, none⟩), .slice ua (atL vals a.2).length uc] (w1.drewN n) fun e w'' => e = .returned (.bool (tb (atL vals a.2 ∈ (t.2[k]).2))) ∧ ∃ m, w'' = w1.drewN m := fun n => quiet_call (l01Has_quiet _ ((hp'.below hb1).below (Quiet.drewN w1 n).below) (HF.out.below (Quiet.drewN w1 n).below))
  rw [hk] at a0 hq
  clear hp hp' hk hne h5 h6
  go_wp2_with fail
  go_quiet (exact cL _)
  go_wp2_with fail
  go_ret
  exact ⟨ret_bool HE.out, bthen hb1 (Quiet.drewN _ _).below⟩
 ·have he : a.1 = -1 := by simpa using hq
  have h7 := h5 he
  obtain ⟨_, _, e1, -, -, hce⟩ := ints_ex HF.out
  simp only [List.cons.injEq, Value.slice.injEq, and_true, true_and] at e1
  obtain ⟨rfl, rfl⟩ := e1
  have hal : (atL vals a.2).length = 2 := by rw [atL_len]; exact h7
  obtain ⟨b, o, rfl, hb, hcc⟩ := hce (by omega)
  have i0 := (hcc 0 (by omega)).2
  have i1 := (hcc 1 (by omega)).2
  rw [Nat.add_zero] at i0
  have HE : Hid (((atL vals a.2)[0]'(by omega) == (atL vals a.2)[1]'(by omega)) = holdsA t vals a) := by
   unfold Hid
   rw [holdsA_eq hq]
   simp [List.getD_eq_getElem?_getD, hal]
  clear hcc hce h5 h6 he
  rw [hal]
  go_wp2_with fail
  go_quiet (fail)
  go_wp2_with fail
  go_ret
  exact ⟨ret_bool HE.out, bthen hb1 (Quiet.drewN _ _).below⟩
set_option maxHeartbeats 3200000 in
set_option maxRecDepth 100000 in
theorem l03Sure_any (w : World) {vt vf v : Value} {t : Int × List (Int × List (List Int))} {f : Int × Int × List (Int × List Int)} {vals : List Int} (ht : tplT.Pt w vt t) (hf : frmT.Pt w vf f) (hvr : intsT.Rd w [v] vals) (hok : frmOk t f) {k : Nat} (hl : vals.length = k + 1) (hk : (k : Int) < f.2.1) :
  Calls Tryz.prog 215 #[vt, vf, v] w fun e w' => e = .returned (.bool (goesB t (duesL f.2.2 f.2.1.toNat) vals)) ∧ Below w.heap.size w w' := by
 obtain ⟨b, o, ad, cap, rfl, hb, -, -, -, -, c2, hx⟩ := pt_trip hf
 obtain ⟨b2, o2, _, _, rfl, hb2, -, -, -, -⟩ := pt_pair ht
 obtain ⟨av, capv, rfl⟩ := rd_slice hvr
 obtain ⟨_, _, e1, hle', hle2', hcell⟩ := pairs_ex hx
 simp only [List.cons.injEq, Value.slice.injEq, and_true, true_and] at e1
 obtain ⟨rfl, rfl⟩ := e1
 have HOK := Lib.hid hok
 have HL := Lib.hid hl
 have HTP := Lib.hid ht
 have HV := Lib.hid hvr
 have HX := Lib.hid hx
 have hk10 : k ≤ 10 := by have := hok.2.1.2.1.2; omega
 have HG := Lib.hid (goes_bad (t := t) (ats := f.2.2) (n := f.2.1.toNat) hl (by omega))
 rw [hl]
 clear hf hok hl ht hvr hcell hx
 go_enter Tryz.func215, Tryz.ntmps215
 go_wp2_with fail
 go_loopw [8] (fun i wr => ∃ q : Nat, q ≤ f.2.2.length ∧ i = .int .i64 q ∧ noneB (badB t k vals) (f.2.2.take q) ∧ Below w.heap.size w wr) (fun i _ => f.2.2.length - (intOf i).toNat)
 case atStart => exact ⟨0, Nat.zero_le _, rfl, noneB_zero _ _, Below.refl _ _⟩
 case round =>
  obtain ⟨q, hq, rfl, hne, hbel⟩ := hrel
  have HN := Lib.hid hne
  have d1 := (hbel.cell hb).trans c2
  clear hne
  by_cases hql : q < f.2.2.length
  ·obtain ⟨a, r, rfl, hp⟩ := rd_elem HX.out hql
   have hp' : opT.Pt w (.pointer (some ⟨a, r + q * 2, none⟩)) f.2.2[q] := hp
   have HP2 := Lib.hid (hp'.below hbel)
   obtain ⟨_, _, sa, sc, hpe, hpb, -, p0, p1, hps⟩ := pt_pair (hp'.below hbel)
   simp only [Value.pointer.injEq, Option.some.injEq, Addr.mk.injEq, and_true] at hpe
   obtain ⟨rfl, rfl⟩ := hpe
   have hatom := HOK.out.2.2 _ (List.getElem_mem hql)
   have hsh := (atom_len HOK.out.1 hatom).2.1
   have HC := Lib.hid hatom
   obtain ⟨_, _, he, -, -, hsce⟩ := ints_ex hps
   simp only [List.cons.injEq, Value.slice.injEq, and_true, true_and] at he
   obtain ⟨rfl, rfl⟩ := he
   have HSC := Lib.hid hsce
   have HPS := Lib.hid hps
   clear hp hp' hatom hps hsce
   go_wp2_with fail
   obtain ⟨wo, rfl⟩ : ∃ wo : World, wo = wr := ⟨_, rfl⟩
   go_loopw [10, 9] (fun i m wi => ∃ j : Nat, j ≤ (f.2.2[q]).2.length ∧ i = .int .i64 j ∧ m = .int .i64 (topI ((f.2.2[q]).2.take j)) ∧ wi = wo) (fun i _ _ => (f.2.2[q]).2.length - (intOf i).toNat)
   case atStart => exact ⟨0, Nat.zero_le _, rfl, by simp [topI], by first | trivial | rfl⟩
   case round =>
    obtain ⟨j, hj, rfl, rfl, rfl⟩ := hrel
    by_cases hjl : j < (f.2.2[q]).2.length
    ·obtain ⟨sb, so, rfl, hsb, hse⟩ := HSC.out (by omega)
     have s0 := (hse j hjl).2
     have HTK := Lib.hid (topI_take hjl)
     clear hse
     go_wp2_with fail
     refine (l00Max_any _ _ _).mono ?_
     rintro e _ ⟨rfl, rfl⟩
     go_wp2_with fail
     go_roundw
     case rel => exact ⟨j + 1, by omega, by go_num, by rw [HTK.out], by first | trivial | rfl⟩
     case measure => simp [intOf]; omega
    ·obtain rfl : j = (f.2.2[q]).2.length := by omega
     rw [List.take_length]
     cases htop : (topI (f.2.2[q]).2 == (k : Int))
     ·have HN1 := Lib.hid (noneB_succ hql HN.out (bad_no (t := t) (vals := vals) htop))
      go_wp2_with fail
      go_roundw
      case rel => exact ⟨q + 1, by omega, by go_num, HN1.out, hbel⟩
      case measure => simp [intOf]; omega
     ·have HBH := Lib.hid (bad_hold (t := t) (vals := vals) htop)
      have htk : topI (f.2.2[q]).2 = (k : Int) := by simpa using htop
      have HIN : Hid (∀ p ∈ (f.2.2[q]).2, 0 ≤ p ∧ p < (vals.length : Int)) := fun p hp => by
       have h1 := topI_ge hp
       have h2 := HC.out.2.2 p hp
       have := HL.out
       omega
      clear htk
      go_wp2_with fail
      refine (l03Atom_any _ (HTP.out.below hbel) HP2.out (by have := HV.out.below hbel; rw [HL.out] at this; exact this) HOK.out.1 HC.out HIN.out).mono ?_
      rintro e w1 ⟨rfl, hb1⟩
      have hbw1 := bthen hbel hb1
      cases hh : holdsA t vals f.2.2[q]
      ·have HE : Hid (goesB t (duesL f.2.2 f.2.1.toNat) vals = false) := by
        unfold Hid
        rw [HG.out, anyB_some hql (by rw [HBH.out, hh]; rfl)]
        rfl
       clear hh
       go_wp2_with fail
       go_ret
       exact ⟨ret_bool HE.out.symm, hbw1⟩
      ·have HN1 := Lib.hid (noneB_succ hql HN.out (by rw [HBH.out, hh]; rfl))
       clear hh
       go_wp2_with fail
       go_roundw
       case rel => exact ⟨q + 1, by omega, by go_num, HN1.out, hbw1⟩
       case measure => simp [intOf]; omega
  ·obtain rfl : q = f.2.2.length := by omega
   have HE : Hid (goesB t (duesL f.2.2 f.2.1.toNat) vals = true) := by
    unfold Hid
    rw [HG.out, anyB_none (by have := HN.out; rwa [List.take_length] at this)]
    rfl
   go_wp2_with fail
   go_ret
   exact ⟨ret_bool HE.out.symm, hbel⟩
theorem head_app {a b : List (List Int)} (h : headB a = true) : headV (a ++ b) = headV a ∧ headB (a ++ b) = true := by
 cases a with
 | nil => cases h
 | cons x r => exact ⟨rfl, rfl⟩
theorem head_no {a : List (List Int)} (h : headB a = false) : a = [] := by
 cases a with
 | nil => rfl
 | cons x r => cases h
set_option maxHeartbeats 6400000 in
set_option maxRecDepth 100000 in
theorem l03Search_any {t : Int × List (Int × List (List Int))} {f : Int × Int × List (Int × List Int)} (hok : frmOk t f) {n s : Nat} (hn : f.2.1 = n) (hs : t.1 = s) (B : Nat) (vt vf : Value) :
  ∀ (m : Nat) (w : World) (v : Value) (vals : List Int), vals.length + m = n → B ≤ w.heap.size → tplT.Pt w vt t → frmT.Pt w vf f → intsT.Fr B w [v] vals →
   Calls Tryz.prog 216 #[vt, vf, v] w fun e w' => ∃ u, e = .returned (.tuple #[u, .bool (headB (solsL s (goesB t (duesL f.2.2 n)) m vals))]) ∧ intsT.Fr B w' [u] (headV (solsL s (goesB t (duesL f.2.2 n)) m vals)) ∧ Below w.heap.size w w' := by
 have HOK := Lib.hid hok
 have hs4 := hok.1.1
 unfold sizeOk at hs4
 have hn1 := hok.2.1
 have hs41 : 1 ≤ s ∧ s ≤ 4 := by omega
 have hn10 : 1 ≤ n ∧ n ≤ 10 := by unfold frameOk at hn1; omega
 have HN := Lib.hid hn
 have HS := Lib.hid hs
 clear hok hs4 hn1 hn hs
 intro m
 induction m with
 | zero =>
  intro w v vals hlen hB ht hf hv
  obtain ⟨bf, of, _, _, rfl, hbf, -, -, -, f1, -, -⟩ := pt_trip hf
  obtain ⟨va, vc, rfl⟩ := fr_slice hv
  have HV := Lib.hid hv
  have hl : vals.length = n := by omega
  have hnw : ((n : Int) == (n : Int)) = true := by simp
  rw [HN.out] at f1
  rw [solsL_zero]
  clear hv
  rw [hl] at HV ⊢
  go_enter Tryz.func216, Tryz.ntmps216
  go_wp2_with fail
  go_ret2
  exact ⟨.slice va n vc, rfl, HV.out, Below.refl _ _⟩
 | succ m ih =>
  intro w v vals hlen hB ht hf hv
  have HTP := Lib.hid ht
  have HFP := Lib.hid hf
  obtain ⟨bf, of, _, _, rfl, hbf, -, -, -, f1, -, -⟩ := pt_trip hf
  obtain ⟨bt, ot, _, _, rfl, hbt, -, t0, -, -⟩ := pt_pair ht
  obtain ⟨va, vc, rfl⟩ := fr_slice hv
  have HV := Lib.hid hv.rd
  have HIH := Lib.hid ih
  have hl : vals.length < n := by omega
  have hne : ((vals.length : Int) == (n : Int)) = false := by simp; omega
  rw [HN.out] at f1
  rw [HS.out] at t0
  rw [solsL_succ]
  clear ht hf hv ih
  go_enter Tryz.func216, Tryz.ntmps216
  go_wp2_with fail
  go_loopw [8] (fun i wr => ∃ k : Nat, k ≤ s ∧ i = .int .i64 k ∧ solsTo s (goesB t (duesL f.2.2 n)) m vals k = [] ∧ Below w.heap.size w wr) (fun i _ => s - (intOf i).toNat)
  case atStart => exact ⟨0, Nat.zero_le _, rfl, solsTo_zero, Below.refl _ _⟩
  case round =>
   obtain ⟨k, hk, rfl, hnil, hbe⟩ := hrel
   have HNIL := Lib.hid hnil
   have hz := hbe.size
   have y0 := (cellB hbe hbt).trans t0
   clear hnil
   by_cases hkl : k < s
   ·go_wp2_with fail
    refine (l00Own_any _ (HV.out.below hbe) (by omega)).mono ?_
    rintro e w2 ⟨u2, rfl, hB2, hb2⟩
    obtain ⟨a2, n2, c2, rfl⟩ := ex_slice (hB2.fr (by unfold capMax; omega))
    have HB2 := Lib.hid hB2
    have hz2 := hb2.size
    replace y0 := (cellB hb2 (by omega)).trans y0
    clear hB2
    go_wp2_with (refine wpList_push (E := Ty.int) _ rfl _ _ 38 2 rfl elInt rfl (HB2.out.below bA (Nat.le_refl _)) rfl news1 (fr_int (I64.small (by omega) (by omega))) (by omega) (by decide) hz2 (by simp) ?_; intro v5 w5 hB5 hg5 _; have hb5 : Below wr.heap.size w2 w5 := ((bA (w := w2)).mono hz2).grown hg5 (by simp; omega) (fun q hq => HB2.out.own hq); obtain ⟨a5, n5, c5, rfl⟩ := ex_slice (hB5.fr (by rw [List.length_append]; unfold capMax; simp only [List.length_singleton]; omega)))
    have hf5 := hB5.fr (by rw [List.length_append]; unfold capMax; simp only [List.length_singleton]; omega)
    have HF5 := Lib.hid hf5
    have hbr5 : Below wr.heap.size wr w5 := hb2.trans hb5
    have hbw5 := bthen hbe hbr5
    have hz5 := hbr5.size
    replace y0 := (cellB hb5 (by omega)).trans y0
    clear hB5 hg5 hf5
    have hNN := HN.out
    refine (l03Sure_any w5 (HTP.out.below hbw5) (HFP.out.below hbw5) HF5.out.rd HOK.out (k := vals.length) (by simp) (by omega)).mono ?_
    rintro e w6 ⟨rfl, hb6⟩
    rw [show f.2.1.toNat = n by omega]
    have hbw6 := bthen hbw5 hb6
    have hz6 := hbw6.size
    replace y0 := (cellB hb6 (by omega)).trans y0
    clear hNN
    cases hg : goesB t (duesL f.2.2 n) (vals ++ [(k : Int)])
    ·have HNO : Hid (solsTo s (goesB t (duesL f.2.2 n)) m vals (k + 1) = []) := by unfold Hid; rw [solsTo_no hg]; exact HNIL.out
     clear hg
     go_wp2_with fail
     go_roundw
     case rel => exact ⟨k + 1, by omega, by go_num, HNO.out, hbw6⟩
     case measure => simp [intOf]; omega
    ·have HYES := Lib.hid (solsTo_yes (s := s) (m := m) hg)
     clear hg
     go_wp2_with fail
     refine (HIH.out w6 (.slice a5 n5 c5) (vals ++ [(k : Int)]) (by rw [List.length_append, List.length_singleton]; omega) (by omega) (HTP.out.below hbw6) (HFP.out.below hbw6) ((HF5.out.below hb6).mono (by omega))).mono ?_
     rintro e w7 ⟨u7, rfl, hf7, hb7⟩
     obtain ⟨a7, n7, c7, rfl⟩ := ex_slice hf7
     have hbw7 := bthen hbw6 hb7
     cases hh : headB (solsL s (goesB t (duesL f.2.2 n)) m (vals ++ [(k : Int)]))
     ·have HNO : Hid (solsTo s (goesB t (duesL f.2.2 n)) m vals (k + 1) = []) := by unfold Hid; rw [HYES.out, HNIL.out, head_no hh]; rfl
      clear hh hf7 y0
      go_wp2_with fail
      go_roundw
      case rel => exact ⟨k + 1, by omega, by go_num, HNO.out, hbw7⟩
      case measure => simp [intOf]; omega
     ·have HRES : Hid (headV (solsTo s (goesB t (duesL f.2.2 n)) m vals s) = headV (solsL s (goesB t (duesL f.2.2 n)) m (vals ++ [(k : Int)])) ∧ headB (solsTo s (goesB t (duesL f.2.2 n)) m vals s) = true) := by
       unfold Hid
       obtain ⟨r, hr⟩ := solsTo_append (s := s) (m := m) (sure := goesB t (duesL f.2.2 n)) (vals := vals) (k := k + 1) (j := s) (by omega)
       rw [hr, HYES.out, HNIL.out, List.nil_append]
       exact head_app hh
      have HF7 := Lib.hid hf7
      clear hh hf7 y0
      go_wp2_with fail
      go_ret2
      exact ⟨.slice a7 n7 c7, by rw [HRES.out.2]; rfl, by rw [HRES.out.1]; exact HF7.out, hbw7⟩
   ·obtain rfl : k = s := by omega
    go_wp2_with fail
    go_ret2
    exact ⟨.slice (some ⟨wr.heap.size, 0, none⟩) 0 0, by rw [HNIL.out]; rfl, by rw [HNIL.out]; exact fr_nil, hbe.alloc hbe.size _⟩
end Go.Proofs.YtajmjfbejfiipaaGreat
namespace Go.Proofs.YtajmjfbejfiipaaGreat
open Go.RowKit Go.Sort
set_option maxHeartbeats 3200000 in
set_option maxRecDepth 100000 in
theorem l03Witness_any (w : World) {t : Int × List (Int × List (List Int))} {f : Int × Int × List (Int × List Int)} (hok : frmOk t f) {n s : Nat} (hn : f.2.1 = n) (hs : t.1 = s) {vt vf v : Value} {tu : List Int} (ht : tplT.Pt w vt t) (hf : frmT.Pt w vf f) (hv : intsT.Rd w [v] tu) (hl : tu.length ≤ n) :
  Calls Tryz.prog 182 #[vt, vf, v] w fun e w' => ∃ u, e = .returned (.tuple #[u, .bool (headB (witL s (goesB t (duesL f.2.2 n)) n tu))]) ∧ intsT.Fr w.heap.size w' [u] (headV (witL s (goesB t (duesL f.2.2 n)) n tu)) ∧ Below w.heap.size w w' := by
 have HOK := Lib.hid hok
 have HTP := Lib.hid ht
 have HFP := Lib.hid hf
 have HV := Lib.hid hv
 have hn1 := hok.2.1
 have hn10 : n ≤ 10 := by unfold frameOk at hn1; omega
 have HN := Lib.hid hn
 have HS := Lib.hid hs
 obtain ⟨va, vc, rfl⟩ := rd_slice hv
 have hvc : tu.length ≤ vc := by obtain ⟨_, _, he, h, _⟩ := ints_ex hv; simp at he; omega
 clear hok ht hf hv hn1 hn hs
 go_enter Tryz.func182, Tryz.ntmps182
 go_wp2_with fail
 go_loopw [8] (fun i wr => ∃ k : Nat, k ≤ tu.length ∧ i = .int .i64 ((k : Int) + 1) ∧ preTo (goesB t (duesL f.2.2 n)) tu k ∧ Below w.heap.size w wr) (fun i _ => tu.length + 1 - (intOf i).toNat)
 case atStart => exact ⟨0, Nat.zero_le _, rfl, preTo_zero, Below.refl _ _⟩
 case round =>
  obtain ⟨k, hk, rfl, hpre, hbe⟩ := hrel
  have HP := Lib.hid hpre
  have hz := hbe.size
  clear hpre
  by_cases hkl : k < tu.length
  ·have hk1 : k + 1 ≤ vc := by omega
   have hNN := HN.out
   have hle : (k : Int) + 1 ≤ (tu.length : Int) := by omega
   go_wp2_with fail
   refine (l03Sure_any _ (HTP.out.below hbe) (HFP.out.below hbe) (rd_prefix (HV.out.below hbe) (show k + 1 ≤ tu.length by omega)) HOK.out (k := k) (take_len (show k + 1 ≤ tu.length by omega)) (by omega)).mono ?_
   rintro e w1 ⟨rfl, hb1⟩
   rw [show f.2.1.toNat = n by omega]
   have hbw1 := bthen hbe hb1
   clear hNN
   cases hg : goesB t (duesL f.2.2 n) (tu.take (k + 1))
   ·have HW := Lib.hid (witL_no (s := s) (n := n) hkl hg)
    clear hg
    go_wp2_with fail
    go_ret2
    exact ⟨.slice (some ⟨w1.heap.size, 0, none⟩) 0 0, by rw [HW.out]; rfl, by rw [HW.out]; exact fr_nil, hbw1.alloc hbw1.size _⟩
   ·have HP1 := Lib.hid (preTo_succ HP.out hg)
    clear hg
    go_wp2_with fail
    go_roundw
    case rel => exact ⟨k + 1, by omega, by go_num, HP1.out, hbw1⟩
    case measure => simp [intOf]; omega
  ·obtain rfl : k = tu.length := by omega
   have HW := Lib.hid (witL_yes (s := s) (n := n) HP.out)
   go_wp2_with fail
   refine (l00Own_any _ (HV.out.below hbe) (by omega)).mono ?_
   rintro e w2 ⟨u2, rfl, hB2, hb2⟩
   have hf2 := hB2.fr (by unfold capMax; omega)
   obtain ⟨a2, n2, c2, rfl⟩ := ex_slice hf2
   have HF2 := Lib.hid hf2
   have hz2 := hb2.size
   have hbw2 := bthen hbe hb2
   clear hB2 hf2
   go_wp2_with fail
   refine (l03Search_any HOK.out HN.out HS.out w.heap.size _ _ (n - tu.length) w2 _ tu (by omega) (by omega) (HTP.out.below hbw2) (HFP.out.below hbw2) (HF2.out.mono hz)).mono ?_
   rintro e w3 ⟨u3, rfl, hf3, hb3⟩
   obtain ⟨a3, n3, c3, rfl⟩ := ex_slice hf3
   rw [← HW.out] at hf3 ⊢
   have HF3 := Lib.hid hf3
   clear hf3
   go_wp2_with fail
   go_ret2
   exact ⟨.slice a3 n3 c3, rfl, HF3.out, bthen hbw2 hb3⟩
noncomputable def witX (t : Int × List (Int × List (List Int))) (f : Int × Int × List (Int × List Int)) (tu : List Int) : List (List Int) := witL t.1.toNat (goesB t (duesL f.2.2 f.2.1.toNat)) f.2.1.toNat tu
section
variable {t : Int × List (Int × List (List Int))} {f : Int × Int × List (Int × List Int)} {tu : List Int}
theorem frm_nums (h : frmOk t f) : 1 ≤ t.1 ∧ t.1 ≤ 4 ∧ 1 ≤ f.1 ∧ f.1 ≤ 4 ∧ f.1 ≤ f.2.1 ∧ f.2.1 ≤ 8 ∧ f.2.2.length ≤ 16 := by
 have h1 := h.1.1
 have h2 := h.2.1
 unfold sizeOk at h1
 unfold frameOk at h2
 omega
end
end Go.Proofs.YtajmjfbejfiipaaGreat
namespace Go.Proofs.YtajmjfbejfiipaaGreat
open Go.RowKit Go.Sort
/-- the tuples for which it is so, of the first k ones -/
def relL (s : Int) (ar : Nat) (p : List Int → Bool) (k : Nat) : List (List Int) := ((List.range k).map fun i : Nat => digL s i ar).filter p
theorem relL_zero {s : Int} {ar : Nat} {p : List Int → Bool} : relL s ar p 0 = [] := by simp [relL]
theorem relL_yes {s : Int} {ar : Nat} {p : List Int → Bool} {k : Nat} (h : p (digL s k ar) = true) : relL s ar p k ++ [digL s k ar] = relL s ar p (k + 1) := by simp [relL, List.range_succ, h]
theorem relL_no {s : Int} {ar : Nat} {p : List Int → Bool} {k : Nat} (h : p (digL s k ar) = false) : relL s ar p k = relL s ar p (k + 1) := by simp [relL, List.range_succ, h]
theorem relL_len {s : Int} {ar : Nat} {p : List Int → Bool} {k : Nat} : (relL s ar p k).length ≤ k := by
 unfold relL
 exact Nat.le_trans (List.length_filter_le _ _) (by simp)
set_option maxHeartbeats 3200000 in
set_option maxRecDepth 100000 in
theorem relOf_any (w : World) (s : Int) (ar : Nat) (hs : 1 ≤ s ∧ s ≤ 4) (har : ar ≤ 4) (g : Nat) (caps : Array Value) (eg : ∀ args w, (callFunc g args).run Tryz.prog w = .ok (.enter g args) w) (p : List Int → Bool) (N : Nat) (hN : s ^ ar = N)
  (hto : Hid (∀ W u (k : Nat), Below w.heap.size w W → k < N → intsT.Rd W [u] (digL s k ar) → Calls Tryz.prog g (#[u] ++ caps) W fun e w' => e = .returned (.bool (p (digL s k ar))) ∧ Below W.heap.size W w')) :
  Calls Tryz.prog 156 #[.int .i64 s, .int .i64 ar, .func (.func g) #[] caps] w (RetA relT w ((ar : Int), relL s ar p N)) := by
 have hNle : N ≤ 1000000 := by
  have h1 : s ^ ar ≤ 1000000 := by
   refine Int.le_trans (pow_mono' (by omega) (show s ≤ 4 by omega) ar) ?_
   rcases (show ar = 0 ∨ ar = 1 ∨ ar = 2 ∨ ar = 3 ∨ ar = 4 by omega) with e | e | e | e | e <;> rw [e] <;> decide
  omega
 have HN : Hid (s ^ ((ar : Int)).toNat = N) := by unfold Hid; rw [Int.toNat_natCast]; exact hN
 clear hN
 go_enter Tryz.func156, Tryz.ntmps156
 go_wp2_with fail
 generalize hW : World.alloc _ _ = W
 have hbW : Below w.heap.size w W := hW ▸ bAA
 have hsW : W.heap.size = w.heap.size + 2 := by rw [← hW]; simp
 have r0 : W.cell? ⟨w.heap.size, 0, none⟩ = some (.int .i64 0) := by rw [← hW]; simp [go_sem]
 have r1 : W.cell? ⟨w.heap.size, 1, none⟩ = some (.slice none 0 0) := by rw [← hW]; simp [go_sem]
 have m0 : W.frozen? ⟨w.heap.size, 0, none⟩ = false := by rw [← hW]; simp [go_sem]
 have m1 : W.frozen? ⟨w.heap.size, 1, none⟩ = false := by rw [← hW]; simp [go_sem]
 have y0 : W.cell? ⟨w.heap.size + 1, 0, none⟩ = some (.int .i64 (ar : Int)) := by rw [← hW]; simp [go_sem]
 have y1 : W.cell? ⟨w.heap.size + 1, 1, none⟩ = some (.slice none 0 0) := by rw [← hW]; simp [go_sem]
 have n1 : W.frozen? ⟨w.heap.size + 1, 1, none⟩ = false := by rw [← hW]; simp [go_sem]
 clear hW
 refine (power_any _ s (ar : Int) (by omega) (by omega) (by omega)).mono ?_
 rintro e _ ⟨rfl, rfl⟩
 rw [HN.out]
 go_wp2_with fail
 go_loopw [15] (fun i wr => ∃ (k : Nat) (v : Value), k ≤ N ∧ i = .int .i64 k ∧ Bl intsT 38 (w.heap.size + 2) wr.heap.size wr v (relL s ar p k) ∧ wr.cell? ⟨w.heap.size + 1, 1, none⟩ = some v ∧ wr.cell? ⟨w.heap.size + 1, 0, none⟩ = some (.int .i64 (ar : Int)) ∧ wr.frozen? ⟨w.heap.size + 1, 1, none⟩ = false ∧ Below (w.heap.size + 1) W wr ∧ w.heap.size + 2 ≤ wr.heap.size) (fun i _ => N - (intOf i).toNat)
 case atStart => exact ⟨0, _, Nat.zero_le _, rfl, by rw [relL_zero]; simpa using Bl.nil, y1, y0, n1, Below.refl _ _, by omega⟩
 case round =>
  obtain ⟨k, v, hk, rfl, hBv, z1, z0, zn, hbe, hse⟩ := hrel
  have hlr := relL_len (s := s) (ar := ar) (p := p) (k := k)
  obtain ⟨av0, nv0, cv0, rfl⟩ := ex_slice (hBv.fr (by unfold capMax; omega))
  have HBv := Lib.hid hBv
  have hbw : Below w.heap.size w wr := hbW.trans (hbe.mono (by omega))
  clear hBv y0 y1 n1
  by_cases hkl : k < N
  ·go_wp2_with fail
   refine (listOf_any _ s (k : Int) ar (by omega) (by omega) (by omega) (by omega) (by omega)).mono ?_
   rintro e w2 ⟨u, rfl, hf, hb2⟩
   obtain ⟨a2, n2, c2, rfl⟩ := ex_slice hf
   have HF := Lib.hid hf
   have hz2 := hb2.size
   replace z0 := (cellB hb2 (by omega)).trans z0
   replace z1 := (cellB hb2 (by omega)).trans z1
   replace zn := (frozenB hb2 (by omega)).trans zn
   clear hf
   go_wp2_with fail
   refine (hto.out _ _ k (bthen hbw hb2) hkl HF.out.rd).mono ?_
   rintro e w3 ⟨rfl, hb3⟩
   have hz3 := hb3.size
   replace z0 := (cellB hb3 (by omega)).trans z0
   replace z1 := (cellB hb3 (by omega)).trans z1
   replace zn := (frozenB hb3 (by omega)).trans zn
   have hb23 : Below wr.heap.size wr w3 := bthen hb2 hb3
   cases hp : p (digL s k ar)
   ·have HNO := Lib.hid (relL_no hp)
    clear hp
    go_wp2_with fail
    go_roundw
    case rel => exact ⟨k + 1, _, by omega, by go_num, by rw [← HNO.out]; exact (HBv.out.below hb23 (Nat.le_refl _)).mono (by omega), z1, z0, zn, hbe.trans (hb23.mono (by omega)), by omega⟩
    case measure => simp [intOf]; omega
   ·have HYES := Lib.hid (relL_yes hp)
    have HF3 := Lib.hid (HF.out.below hb3)
    clear hp
    go_wp2_with (refine wpList_push (E := intsT) _ rfl _ _ 29 38 rfl elInt64SS rfl (HBv.out.below (hb23.alloc hb23.size _) (Nat.le_refl _)) rfl news1 (HF3.out.below bA) (by omega) (by decide) hse (by first | (simp; done) | (simp; omega)) ?_; intro v5 w5 hB5 hg5 _; obtain ⟨a5, n5, c5, rfl⟩ := ex_slice (hB5.fr (by rw [List.length_append]; unfold capMax; simp only [List.length_singleton]; omega)); have hb5 : Below (w.heap.size + 2) w3 w5 := ((Below.refl _ w3).alloc (by omega) _).grown hg5 (by first | (simp; done) | (simp; omega)) (fun q hq => HBv.out.own hq); have i1 := (cellB hb5 (by omega)).trans z1; have i0 := (cellB hb5 (by omega)).trans z0; have i2 := (frozenB hb5 (by omega)).trans zn)
    have hz5 := hb5.size
    rw [HYES.out] at hB5
    have HB5 := Lib.hid hB5
    clear hB5 hg5
    go_wp2_with fail
    go_roundw
    case rel => exact ⟨k + 1, _, by omega, by go_num, by rw [size_set]; exact HB5.out.sameB (fun q hq1 hq2 => Below.heap_setCell _ _ _ _ (by simp; omega)), World.cell?_setCell_same _ _ _ i1, (World.cell?_setCell_other _ _ _ _ (by simp)).trans i0, (World.frozen?_setCell _ _ _ _).trans i2, (hbe.trans ((hb23.mono (by omega)).trans (hb5.mono (by omega)))).setCell (by simp) _, by rw [size_set]; omega⟩
    case measure => simp [intOf]; omega
  ·obtain rfl : k = N := by omega
   have HFO := Lib.hid (HBv.out.fr (by unfold capMax; omega))
   replace r0 := (cellB hbe (by omega)).trans r0
   replace r1 := (cellB hbe (by omega)).trans r1
   replace m0 := (frozenB hbe (by omega)).trans m0
   replace m1 := (frozenB hbe (by omega)).trans m1
   obtain ⟨q0, q1⟩ := set2_cells (x := .int .i64 (ar : Int)) (y := .slice av0 nv0 cv0) r0 r1
   have hl1 : w.heap.size + 1 < wr.heap.size := by omega
   go_wp2_with fail
   refine bodyPost_ret (v := .agg #[.int .i64 (ar : Int), .slice av0 nv0 cv0]) (by simp [results, Tryz.results156, go_sem, q0, q1]) rfl ⟨[.int .i64 (ar : Int), .slice av0 nv0 cv0], rfl, ?_, ?_⟩
   ·exact (fr_cons (I64.small (by omega) (by omega)) (fr_set2 HFO.out (by omega))).mono (by omega)
   ·exact (hbw.setCell (by simp) _).setCell (by simp) _
end Go.Proofs.YtajmjfbejfiipaaGreat
namespace Go.Proofs.YtajmjfbejfiipaaGreat
open Go.RowKit Go.Sort
noncomputable def vaP (t : Int × List (Int × List (List Int))) (f : Int × Int × List (Int × List Int)) (tu : List Int) : Bool := headB (witX t f tu)
/-- the value of a formula -/
noncomputable def vaR (t : Int × List (Int × List (List Int))) (f : Int × Int × List (Int × List Int)) : Int × List (List Int) := (f.1, relL t.1 f.1.toNat (vaP t f) (t.1 ^ f.1.toNat).toNat)
set_option maxHeartbeats 1600000 in
set_option maxRecDepth 100000 in
theorem valueOf1_any (w : World) {b1 bs : Nat} {v : Value} {tu : List Int} {t : Int × List (Int × List (List Int))} {f : Int × Int × List (Int × List Int)} (hok : frmOk t f) {n s : Nat} (hn : f.2.1 = n) (hs : t.1 = s) {ok : Nat → Prop} (hS : Sv ok w bs t n (duesL f.2.2 n)) (c0 : w.cell? ⟨b1, 0, none⟩ = some (.pointer (some ⟨bs, 0, none⟩))) (hv : intsT.Rd w [v] tu) (hl : tu.length ≤ n) :
  Calls Tryz.prog 157 #[v, .pointer (some ⟨b1, 0, none⟩)] w fun e w' => e = .returned (.bool (vaP t f tu)) ∧ Below w.heap.size w w' := by
 have HS := Lib.hid hS
 have HV := Lib.hid hv
 have HOK := Lib.hid hok
 have hn8 : n ≤ 8 := by have := frm_nums hok; omega
 have HWX : Hid (witL s (goesB t (duesL f.2.2 n)) n tu = witX t f tu) := by
  unfold Hid witX
  rw [show f.2.1.toNat = n by omega, show t.1.toNat = s by omega]
 have HDU : Hid (dueOk t n (duesL f.2.2 n)) := duesL_ok (fun a ha => by have := hok.2.2 a ha; rwa [hn] at this)
 have HSM := Lib.hid hs
 obtain ⟨va, vc, rfl⟩ := rd_slice hv
 clear hS hv hok hn hs
 go_enter Tryz.func157, Tryz.ntmps157
 go_wp2_with fail
 refine (first_any (n := n) (s := s) w HOK.out.1 HSM.out (by omega) duesL_len HDU.out HS.out HV.out hl).mono ?_
 rintro e w1 ⟨u, rfl, hf, hb1⟩
 rw [HWX.out]
 obtain ⟨ua, un, uc, rfl⟩ := ex_slice hf
 clear hf
 go_wp2_with fail
 go_ret
 exact ⟨rfl, hb1⟩
set_option maxHeartbeats 3200000 in
set_option maxRecDepth 100000 in
theorem valueOf_any (w : World) {cs cf : Array Value} {t : Int × List (Int × List (List Int))} {f : Int × Int × List (Int × List Int)} (h : tplT.Rd w cs.toList t) (hf : frmT.Rd w cf.toList f) (hok : frmOk t f) :
  Calls Tryz.prog 79 #[.agg cs, .agg cf] w (RetA relT w (vaR t f)) := by
 have HT := Lib.hid h
 have HF := Lib.hid hf
 have HOK := Lib.hid hok
 obtain ⟨v1, hv1, hI, -⟩ := pair_ex h
 obtain rfl := agg_of hv1
 obtain ⟨v2, hv2, hIf, hIf2, hfx⟩ := trip_ex hf
 obtain rfl := agg_of hv2
 obtain ⟨fa, fn, fc, rfl⟩ := rd_sl hfx
 have HFX := Lib.hid hfx
 have hnum := frm_nums hok
 obtain ⟨n, hn⟩ : ∃ n : Nat, f.2.1 = n := ⟨f.2.1.toNat, by omega⟩
 obtain ⟨s, hs⟩ : ∃ s : Nat, t.1 = s := ⟨t.1.toNat, by omega⟩
 obtain ⟨ar, har⟩ : ∃ ar : Nat, f.1 = ar := ⟨f.1.toNat, by omega⟩
 have HN := Lib.hid hn
 have HS := Lib.hid hs
 have HAR := Lib.hid har
 have hn8 : n ≤ 8 := by omega
 have har4 : ar ≤ 4 := by omega
 have harn : ar ≤ n := by omega
 have ht4 : 1 ≤ t.1 ∧ t.1 ≤ 4 := by omega
 have hfl : f.2.2.length ≤ 16 := hnum.2.2.2.2.2.2
 have HP : Hid (t.1 ^ ar = ((t.1 ^ ar).toNat : Int)) := by
  unfold Hid
  have := pow_nn (s := t.1) (by omega) ar
  omega
 clear h hv1 hf hv2 hfx hok hnum
 go_enter Tryz.func79, Tryz.ntmps79
 rw [hn, har]
 clear hn har hs
 go_wp2_with fail
 generalize hW : World.alloc _ _ = W
 have hbW : Below w.heap.size w W := hW ▸ ((bAA (w := w)).alloc (by simp; omega) _)
 have hsW : w.heap.size + 3 ≤ W.heap.size := by rw [← hW]; simp
 have t0 : W.cell? ⟨w.heap.size, 0, none⟩ = some (.int .i64 t.1) := by rw [← hW]; simp [go_sem]
 have t1 : W.cell? ⟨w.heap.size, 1, none⟩ = some v1 := by rw [← hW]; simp [go_sem]
 have f0 : W.cell? ⟨w.heap.size + 1, 0, none⟩ = some (.int .i64 ar) := by rw [← hW]; simp [go_sem]
 have f1 : W.cell? ⟨w.heap.size + 1, 1, none⟩ = some (.int .i64 n) := by rw [← hW]; simp [go_sem]
 have f2 : W.cell? ⟨w.heap.size + 1, 2, none⟩ = some (.slice fa fn fc) := by rw [← hW]; simp [go_sem]
 have r0 : W.cell? ⟨w.heap.size + 2, 0, none⟩ = some (.int .i64 0) := by rw [← hW]; simp [go_sem]
 have r1 : W.cell? ⟨w.heap.size + 2, 1, none⟩ = some (.slice none 0 0) := by rw [← hW]; simp [go_sem]
 have m0 : W.frozen? ⟨w.heap.size + 2, 0, none⟩ = false := by rw [← hW]; simp [go_sem]
 have m1 : W.frozen? ⟨w.heap.size + 2, 1, none⟩ = false := by rw [← hW]; simp [go_sem]
 clear hW
 refine (solverOf_any (ct := #[.int .i64 t.1, v1]) _ ((HT.out.below hbW).P) (n := n) (by omega) ((HFX.out.below hbW).P) (by omega) (fun a ha => by
  have h1 := HOK.out.2.2 a ha
  have h2 := atom_len HOK.out.1 h1
  exact ⟨h2.1, fun p hp => by have := h1.2.2 p hp; have := HN.out; omega⟩)).mono ?_
 rintro e w1 ⟨bs, rfl, hsv, hb1⟩
 have hB1 := bthen hbW hb1
 have hz1 := hb1.size
 replace t0 := (cellB hb1 (by omega)).trans t0
 replace f0 := (cellB hb1 (by omega)).trans f0
 replace r0 := (cellB hb1 (by omega)).trans r0
 replace r1 := (cellB hb1 (by omega)).trans r1
 replace m0 := (frozenB hb1 (by omega)).trans m0
 replace m1 := (frozenB hb1 (by omega)).trans m1
 have HSV := Lib.hid hsv
 have hl1 : w.heap.size + 2 < w1.heap.size := by omega
 have hl0 : w.heap.size + 1 < w1.heap.size := by omega
 have hl2 : w.heap.size < w1.heap.size := by omega
 clear hsv t1 f1 f2
 go_wp2_with fail
 generalize hWa : World.alloc w1 _ = wa
 have hba : Below w1.heap.size w1 wa := hWa ▸ bA
 have hsa : w1.heap.size + 1 ≤ wa.heap.size := by rw [← hWa]; simp
 have y0 : wa.cell? ⟨w1.heap.size, 0, none⟩ = some (.pointer (some ⟨bs, 0, none⟩)) := by rw [← hWa]; simp
 replace t0 := (cellB hba (by omega)).trans t0
 replace f0 := (cellB hba (by omega)).trans f0
 replace r0 := (cellB hba (by omega)).trans r0
 replace r1 := (cellB hba (by omega)).trans r1
 replace m0 := (frozenB hba (by omega)).trans m0
 replace m1 := (frozenB hba (by omega)).trans m1
 have hBa := bthen hB1 hba
 clear hWa
 refine (relOf_any _ t.1 ar ht4 har4 157 #[.pointer (some ⟨w1.heap.size, 0, none⟩)] (enters Tryz.func157 (by kernel_rfl) rfl) (vaP t f) _ HP.out (Lib.hid (fun W' u k hW' hk hu => valueOf1_any W' HOK.out HN.out HS.out ((HSV.out.below hba).below hW') ((cellB hW' (by omega)).trans y0) hu (by rw [digL_len]; exact harn)))).mono ?_
 rintro e w2 ⟨cs2, rfl, hf2, hb2⟩
 obtain ⟨a2, c2, rfl⟩ := fr_pair hf2
 have HF2 := Lib.hid hf2
 have hB2 := bthen hBa hb2
 have hz2 := hb2.size
 replace r0 := (cellB hb2 (by omega)).trans r0
 replace r1 := (cellB hb2 (by omega)).trans r1
 replace m0 := (frozenB hb2 (by omega)).trans m0
 replace m1 := (frozenB hb2 (by omega)).trans m1
 obtain ⟨g0, g1⟩ := set2_cells (x := .int .i64 (ar : Int)) (y := .slice a2 (relL t.1 ar (vaP t f) (t.1 ^ ar).toNat).length c2) r0 r1
 have hl3 : w.heap.size + 2 < w2.heap.size := by omega
 clear hf2 y0 t0 f0
 go_wp2_with fail
 refine bodyPost_ret (v := .agg #[.int .i64 (ar : Int), .slice a2 (relL t.1 ar (vaP t f) (t.1 ^ ar).toNat).length c2]) (by simp [results, Tryz.results79, go_sem, g0, g1]) rfl ⟨[.int .i64 (ar : Int), .slice a2 (relL t.1 ar (vaP t f) (t.1 ^ ar).toNat).length c2], rfl, ?_, ?_⟩
 ·have e : vaR t f = ((ar : Int), relL t.1 ar (vaP t f) (t.1 ^ ar).toNat) := by unfold vaR; rw [HAR.out, Int.toNat_natCast]
  rw [e]
  exact (fr_set2 HF2.out (by omega)).mono (by omega)
 ·exact (hB2.setCell (show w.heap.size ≤ w.heap.size + 2 by omega) _).setCell (show w.heap.size ≤ w.heap.size + 2 by omega) _
set_option maxHeartbeats 6400000 in
set_option maxRecDepth 100000 in
theorem l03Value_any (w : World) {vt vf : Value} {t : Int × List (Int × List (List Int))} {f : Int × Int × List (Int × List Int)} (ht : tplT.Pt w vt t) (hf : frmT.Pt w vf f) (hok : frmOk t f) :
  Calls Tryz.prog 102 #[vt, vf] w (RetA relT w (vaR t f)) := by
 have HTP := Lib.hid ht
 have HFP := Lib.hid hf
 have HOK := Lib.hid hok
 obtain ⟨bt, ot, _, _, rfl, hbt, -, t0, -, -⟩ := pt_pair ht
 obtain ⟨bf, of, _, _, rfl, hbf, -, -, f0, -, -, -⟩ := pt_trip hf
 have hnum := frm_nums hok
 obtain ⟨n, hn⟩ : ∃ n : Nat, f.2.1 = n := ⟨f.2.1.toNat, by omega⟩
 obtain ⟨s, hs⟩ : ∃ s : Nat, t.1 = s := ⟨t.1.toNat, by omega⟩
 obtain ⟨ar, har⟩ : ∃ ar : Nat, f.1 = ar := ⟨f.1.toNat, by omega⟩
 have HN := Lib.hid hn
 have HS := Lib.hid hs
 have HAR := Lib.hid har
 have har4 : ar ≤ 4 := by omega
 have harn : ar ≤ n := by omega
 have ht4 : 1 ≤ t.1 ∧ t.1 ≤ 4 := by omega
 obtain ⟨N, hN⟩ : ∃ N : Nat, t.1 ^ ar = N := ⟨(t.1 ^ ar).toNat, by have := pow_nn (s := t.1) (by omega) ar; omega⟩
 have hNle : N ≤ 1000000 := by
  have h1 : t.1 ^ ar ≤ 1000000 := by
   refine Int.le_trans (pow_mono' (by omega) (show t.1 ≤ 4 by omega) ar) ?_
   rcases (show ar = 0 ∨ ar = 1 ∨ ar = 2 ∨ ar = 3 ∨ ar = 4 by omega) with e | e | e | e | e <;> rw [e] <;> decide
  omega
 have HRES : Hid (vaR t f = ((ar : Int), relL t.1 ar (vaP t f) N)) := by unfold Hid vaR; rw [har, Int.toNat_natCast, hN]; simp
 have HP : Hid (t.1 ^ ((ar : Int)).toNat = N) := by unfold Hid; rw [Int.toNat_natCast]; exact hN
 have HWX : Hid (∀ tu, witL s (goesB t (duesL f.2.2 n)) n tu = witX t f tu) := fun tu => by
  unfold witX
  rw [show f.2.1.toNat = n by omega, show t.1.toNat = s by omega]
 rw [har] at f0
 clear ht hf hok hnum hn hs har hN
 go_enter Tryz.func102, Tryz.ntmps102
 go_wp2_with fail
 generalize hW : World.alloc _ _ = W
 have hbW : Below w.heap.size w W := hW ▸ bAA
 have hsW : w.heap.size + 2 ≤ W.heap.size := by rw [← hW]; simp
 have r0 : W.cell? ⟨w.heap.size, 0, none⟩ = some (.int .i64 0) := by rw [← hW]; simp [go_sem]
 have r1 : W.cell? ⟨w.heap.size, 1, none⟩ = some (.slice none 0 0) := by rw [← hW]; simp [go_sem]
 have m0 : W.frozen? ⟨w.heap.size, 0, none⟩ = false := by rw [← hW]; simp [go_sem]
 have m1 : W.frozen? ⟨w.heap.size, 1, none⟩ = false := by rw [← hW]; simp [go_sem]
 have y0 : W.cell? ⟨w.heap.size + 1, 0, none⟩ = some (.int .i64 ar) := by rw [← hW]; simp [go_sem]
 have y1 : W.cell? ⟨w.heap.size + 1, 1, none⟩ = some (.slice none 0 0) := by rw [← hW]; simp [go_sem]
 have n1 : W.frozen? ⟨w.heap.size + 1, 1, none⟩ = false := by rw [← hW]; simp [go_sem]
 clear hW
 go_loopw [6] (fun i wr => ∃ (k : Nat) (v : Value), k ≤ N ∧ i = .int .i64 k ∧ Bl intsT 38 (w.heap.size + 2) wr.heap.size wr v (relL t.1 ar (vaP t f) k) ∧ wr.cell? ⟨w.heap.size + 1, 1, none⟩ = some v ∧ wr.cell? ⟨w.heap.size + 1, 0, none⟩ = some (.int .i64 (ar : Int)) ∧ wr.frozen? ⟨w.heap.size + 1, 1, none⟩ = false ∧ Below (w.heap.size + 1) W wr ∧ w.heap.size + 2 ≤ wr.heap.size) (fun i _ => N - (intOf i).toNat)
 case atStart => exact ⟨0, _, Nat.zero_le _, rfl, by rw [relL_zero]; simpa using Bl.nil, y1, y0, n1, Below.refl _ _, hsW⟩
 case round =>
  obtain ⟨k, v, hk, rfl, hBv, z1, z0, zn, hbe, hse⟩ := hrel
  have hlr := relL_len (s := t.1) (ar := ar) (p := vaP t f) (k := k)
  obtain ⟨av0, nv0, cv0, rfl⟩ := ex_slice (hBv.fr (by unfold capMax; omega))
  have HBv := Lib.hid hBv
  have hbw : Below w.heap.size w wr := hbW.trans (hbe.mono (by omega))
  have e0 := (cellB hbw hbt).trans t0
  have e1 := (cellB hbw hbf).trans f0
  have cP : ∀ q, Calls Tryz.prog 139 #[.int .i64 t.1, .int .i64 (ar : Int)] (wr.drewN q) fun e w'' => e = .returned (.int .i64 N) ∧ ∃ m, w'' = wr.drewN m := fun q => by
   have h1 := l01Power_any (wr.drewN q) t.1 (ar : Int) (by omega) (by omega) (by omega)
   rw [HP.out] at h1
   exact pure_drawn h1
  clear hBv y0 y1 n1
  by_cases hkl : k < N
  ·go_wp2_with fail
   go_quiet (exact cP _)
   rename_i nq
   generalize hWq : wr.drewN nq = wq
   have hbdq : Below wr.heap.size wr wq := hWq ▸ bDN (Below.refl _ _)
   have hzq := hbdq.size
   replace z1 := (cellB hbdq (by omega)).trans z1
   replace z0 := (cellB hbdq (by omega)).trans z0
   replace e0 := (cellB hbdq (by omega)).trans e0
   replace e1 := (cellB hbdq (by omega)).trans e1
   replace zn := (frozenB hbdq (by omega)).trans zn
   have HBq := Lib.hid ((HBv.out.below hbdq (Nat.le_refl _)).mono hzq)
   have hbwq := bthen hbw hbdq
   clear hWq cP HBv
   go_wp2_with fail
   refine wp_region_T (fun w' => w'.cell? ⟨bt, ot, none⟩ = some (.int .i64 t.1) ∧ w'.cell? ⟨bf, of, none⟩ = some (.int .i64 ar)) [9, 10] (by kernel_rfl) ⟨e0, e1⟩ (fun hHeld => ?_)
   refine wpAnyT_take (i := 0) (v := ?_) rfl (by kernel_rfl) (fun _ _ _ h => h) (Or.inl ⟨by rfl, ?_⟩) (by assumption) ?_
   rotate_left
   ·(intro w hSw; (try dsimp only at hSw); go_simp <;> with_reducible rfl)
   try simp only [Act.put]
   refine wpAnyT_take (i := 1) (v := ?_) rfl (by kernel_rfl) (fun _ _ _ h => h) (Or.inl ⟨by rfl, ?_⟩) (by assumption) ?_
   rotate_left
   ·(intro w hSw; (try dsimp only at hSw); go_simp <;> with_reducible rfl)
   try simp only [Act.put]
   refine wpAnyT_take (i := 2) (v := ?_) rfl (by kernel_rfl) (fun _ _ _ h => h) (Or.inl ⟨by rfl, ?_⟩) (by assumption) ?_
   rotate_left
   ·(intro w hSw; (try dsimp only at hSw); go_simp <;> with_reducible rfl)
   try simp only [Act.put]
   refine wpAnyT_take (i := 3) (v := ?_) rfl (by kernel_rfl) (fun _ _ _ h => h) (Or.inl ⟨by rfl, ?_⟩) (by assumption) ?_
   rotate_left
   ·(intro w hSw; (try dsimp only at hSw); go_simp <;> with_reducible rfl)
   try simp only [Act.put]
   refine wpAnyT_take (i := 4) (v := ?_) rfl (by kernel_rfl) (fun _ _ _ h => h) (Or.inl ⟨by rfl, ?_⟩) (by assumption) ?_
   rotate_left
   ·(intro w hSw; (try dsimp only at hSw); go_simp <;> with_reducible rfl)
   try simp only [Act.put]
   refine wpAnyT_take (i := 5) (v := ?_) rfl (by kernel_rfl) (fun _ _ _ h => h) (Or.inl ⟨by rfl, ?_⟩) (by assumption) ?_
   rotate_left
   ·(intro w hSw; (try dsimp only at hSw); go_simp <;> with_reducible rfl)
   try simp only [Act.put]
   refine wpAnyT_take (i := 6) (v := ?_) rfl (by kernel_rfl) (fun _ _ _ h => h) (Or.inl ⟨by rfl, ?_⟩) (by assumption) ?_
   rotate_left
   ·(intro w hSw; (try dsimp only at hSw); go_simp <;> with_reducible rfl)
   try simp only [Act.put]
   refine wpAnyT_take (i := 7) (v := ?_) rfl (by kernel_rfl) (fun _ _ _ h => h) (Or.inl ⟨by rfl, ?_⟩) (by assumption) ?_
   rotate_left
   ·(intro w hSw; (try dsimp only at hSw); go_simp <;> with_reducible rfl)
   try simp only [Act.put]
   refine wpAnyT_take (i := 8) (v := ?_) rfl (by kernel_rfl) (fun _ _ _ h => h) (Or.inl ⟨by rfl, ?_⟩) (by assumption) ?_
   rotate_left
   ·(intro w hSw; (try dsimp only at hSw); go_simp <;> with_reducible rfl)
   try simp only [Act.put]
   refine wpAnyT_last (i := 9) rfl (by kernel_rfl) (by kernel_rfl) (fun K hK => ?_)
   go_simp
   go_at_call 140
   refine (l01Digits_any _ t.1 (k : Int) ar (by omega) (by omega) (by omega) (by omega) (by omega)).mono ?_
   rintro e w2 ⟨u, rfl, hf2, hb2⟩
   obtain ⟨a2, n2, c2, rfl⟩ := ex_slice hf2
   have hb2' : Below wq.heap.size wq w2 := bthen bD hb2
   have HF2 : Hid (intsT.Fr wq.heap.size w2 [.slice a2 n2 c2] (digL t.1 k ar)) := hf2
   replace z1 := (cellB hb2' (by omega)).trans z1
   replace z0 := (cellB hb2' (by omega)).trans z0
   replace e0 := (cellB hb2' (by omega)).trans e0
   replace e1 := (cellB hb2' (by omega)).trans e1
   replace zn := (frozenB hb2' (by omega)).trans zn
   have hz2 := hb2'.size
   have hbw2 := bthen hbwq hb2'
   clear hf2 hb2 hHeld
   dsimp only
   refine hK.out _ _ ?_
   clear hK K
   refine wpAnyT_last (i := 10) rfl (by kernel_rfl) (by kernel_rfl) (fun K hK => ?_)
   go_simp
   refine hK.out _ _ ?_
   clear hK K
   refine wpAnyT_done (by kernel_rfl) ?_ _
   go_simp
   go_wp2_with fail
   refine (l03Witness_any w2 HOK.out HN.out HS.out (HTP.out.below hbw2) (HFP.out.below hbw2) HF2.out.rd (by rw [digL_len]; exact harn)).mono ?_
   rintro e w3 ⟨u3, rfl, hf3, hb3⟩
   obtain ⟨a3, n3, c3, rfl⟩ := ex_slice hf3
   rw [HWX.out, show headB (witX t f (digL t.1 (k : Int) ar)) = vaP t f (digL t.1 (k : Int) ar) from rfl]
   replace z1 := (cellB hb3 (by omega)).trans z1
   replace z0 := (cellB hb3 (by omega)).trans z0
   replace e0 := (cellB hb3 (by omega)).trans e0
   replace e1 := (cellB hb3 (by omega)).trans e1
   replace zn := (frozenB hb3 (by omega)).trans zn
   have hz3 := hb3.size
   have hb23 : Below wq.heap.size wq w3 := bthen hb2' hb3
   have HB3 := Lib.hid (HBq.out.below hb23 (Nat.le_refl _))
   have HF3 := Lib.hid (HF2.out.below hb3)
   have hbe3 : Below (w.heap.size + 1) W w3 := hbe.trans ((hbdq.mono (by omega)).trans (hb23.mono (by omega)))
   clear hf3 HF2 HBq
   cases hp : vaP t f (digL t.1 (k : Int) ar)
   ·have HNO := Lib.hid (relL_no hp)
    clear hp
    go_wp2_with fail
    go_roundw
    case rel => exact ⟨k + 1, _, by omega, by go_num, by rw [← HNO.out]; exact HB3.out.mono hb23.size, z1, z0, zn, hbe3, by omega⟩
    case measure => simp [intOf]; omega
   ·have HYES := Lib.hid (relL_yes hp)
    clear hp
    go_wp2_with (refine wpList_push (E := intsT) _ rfl _ _ 29 38 rfl elInt64SS rfl (HB3.out.below (bA.mono (by omega)) (Nat.le_refl _)) rfl news1 (HF3.out.below bA) (by omega) (by decide) (by omega) (by first | (simp; done) | (simp; omega)) ?_; intro v5 w5 hB5 hg5 _; obtain ⟨a5, n5, c5, rfl⟩ := ex_slice (hB5.fr (by rw [List.length_append]; unfold capMax; simp only [List.length_singleton]; omega)); have hb5 : Below (w.heap.size + 2) w3 w5 := ((Below.refl _ w3).alloc (by omega) _).grown hg5 (by first | (simp; done) | (simp; omega)) (fun q hq => HB3.out.own hq); have i1 := (cellB hb5 (by omega)).trans z1; have i0 := (cellB hb5 (by omega)).trans z0; have i2 := (frozenB hb5 (by omega)).trans zn)
    have hz5 := hb5.size
    rw [HYES.out] at hB5
    have HB5 := Lib.hid hB5
    clear hB5 hg5
    go_wp2_with fail
    go_roundw
    case rel => exact ⟨k + 1, _, by omega, by go_num, by rw [size_set]; exact HB5.out.sameB (fun q hq1 hq2 => Below.heap_setCell _ _ _ _ (by simp; omega)), World.cell?_setCell_same _ _ _ i1, (World.cell?_setCell_other _ _ _ _ (by simp)).trans i0, (World.frozen?_setCell _ _ _ _).trans i2, (hbe3.trans (hb5.mono (by omega))).setCell (by simp) _, by rw [size_set]; omega⟩
    case measure => simp [intOf]; omega
  ·obtain rfl : k = N := by omega
   have HFO := Lib.hid (HBv.out.fr (by unfold capMax; omega))
   replace r0 := (cellB hbe (by omega)).trans r0
   replace r1 := (cellB hbe (by omega)).trans r1
   replace m0 := (frozenB hbe (by omega)).trans m0
   replace m1 := (frozenB hbe (by omega)).trans m1
   go_wp2_with fail
   go_quiet (exact cP _)
   rename_i nq
   generalize hWq : wr.drewN nq = wq
   have hbdq : Below wr.heap.size wr wq := hWq ▸ bDN (Below.refl _ _)
   have hzq := hbdq.size
   replace z1 := (cellB hbdq (by omega)).trans z1
   replace z0 := (cellB hbdq (by omega)).trans z0
   replace r0 := (cellB hbdq (by omega)).trans r0
   replace r1 := (cellB hbdq (by omega)).trans r1
   replace m0 := (frozenB hbdq (by omega)).trans m0
   replace m1 := (frozenB hbdq (by omega)).trans m1
   have HFQ := Lib.hid (HFO.out.below hbdq)
   have hbwq := bthen hbw hbdq
   obtain ⟨q0, q1⟩ := set2_cells (x := .int .i64 (ar : Int)) (y := .slice av0 nv0 cv0) r0 r1
   have hl1 : w.heap.size + 1 < wq.heap.size := by omega
   clear hWq cP HFO e0 e1
   go_wp2_with fail
   refine bodyPost_ret (v := .agg #[.int .i64 (ar : Int), .slice av0 nv0 cv0]) (by simp [results, Tryz.results102, go_sem, q0, q1]) rfl ⟨[.int .i64 (ar : Int), .slice av0 nv0 cv0], rfl, ?_, ?_⟩
   ·rw [HRES.out]
    exact (fr_cons (I64.small (by omega) (by omega)) (fr_set2 HFQ.out (by omega))).mono (by omega)
   ·exact (hbwq.setCell (by simp) _).setCell (by simp) _
end Go.Proofs.YtajmjfbejfiipaaGreat
namespace Go.Proofs.YtajmjfbejfiipaaGreat
open Go.RowKit Go.Sort
theorem dig_idx {s idx : Int} {n : Nat} (hs : 1 ≤ s) (h0 : 0 ≤ idx) (h : idx < s ^ n) : ∀ k, k ≤ n → idxL s 0 ((digL s idx n).take k) = idx / s ^ (n - k)
 | 0, _ => by
  rw [List.take_zero, Nat.sub_zero, Int.ediv_eq_zero_of_lt h0 h]
  rfl
 | k + 1, hk => by
  have hl : k < (digL s idx n).length := by rw [digL_len]; omega
  rw [idxL_take hl, dig_idx hs h0 h k (by omega)]
  have hg : (digL s idx n)[k] = dig s idx (n - 1 - k) := by simp [digL]
  rw [hg, show n - k = (n - (k + 1)) + 1 by omega, show n - 1 - k = n - (k + 1) by omega, ← quo_succ hs]
  unfold dig
  have h1 := Int.ediv_mul_add_emod (idx / s ^ (n - (k + 1))) s
  exact h1
theorem digL_in {s idx : Int} {n : Nat} (hs : 1 ≤ s) : ∀ a ∈ digL s idx n, 0 ≤ a ∧ a ≤ s - 1 := fun a ha => by
 obtain ⟨i, -, rfl⟩ := List.mem_map.1 ha
 have := dig_nn (idx := idx) hs (n - 1 - i)
 omega
theorem idx_mono {s : Int} (hs : 1 ≤ s) : ∀ {xs ys : List Int} {a b : Int}, xs.length = ys.length → (∀ x ∈ xs, 0 ≤ x ∧ x ≤ s - 1) → (∀ y ∈ ys, 0 ≤ y ∧ y ≤ s - 1) → a < b → idxL s a xs < idxL s b ys
 | [], [], _, _, _, _, _, h => h
 | [], _ :: _, _, _, hl, _, _, _ => by simp at hl
 | _ :: _, [], _, _, hl, _, _, _ => by simp at hl
 | x :: xs, y :: ys, a, b, hl, hx, hy, h => by
  simp only [idxL]
  refine idx_mono hs (by simpa using hl) (fun z hz => hx z (List.mem_cons_of_mem _ hz)) (fun z hz => hy z (List.mem_cons_of_mem _ hz)) ?_
  have h1 := hx x (List.mem_cons_self ..)
  have h2 := hy y (List.mem_cons_self ..)
  have h3 := Int.mul_le_mul_of_nonneg_right (show a + 1 ≤ b by omega) (show (0 : Int) ≤ s by omega)
  rw [Int.add_mul, Int.one_mul] at h3
  omega
theorem lt_of_idx {s : Int} (hs : 1 ≤ s) : ∀ {xs ys : List Int} {a : Int}, xs.length = ys.length → (∀ x ∈ xs, 0 ≤ x ∧ x ≤ s - 1) → (∀ y ∈ ys, 0 ≤ y ∧ y ≤ s - 1) → idxL s a xs < idxL s a ys → ltL xs ys
 | [], [], _, _, _, _, h => absurd h (Int.lt_irrefl _)
 | [], _ :: _, _, hl, _, _, _ => by simp at hl
 | _ :: _, [], _, hl, _, _, _ => by simp at hl
 | x :: xs, y :: ys, a, hl, hx, hy, h => by
  simp only [idxL] at h
  have hx' := fun z hz => hx z (List.mem_cons_of_mem x hz)
  have hy' := fun z hz => hy z (List.mem_cons_of_mem y hz)
  unfold ltL
  rcases Int.lt_trichotomy x y with hc | hc | hc
  ·rw [cmpL, if_neg (by omega), cmpI_lt hc]
   decide
  ·subst hc
   rw [cmpL, if_pos rfl]
   exact lt_of_idx hs (by simpa using hl) hx' hy' h
  ·have := idx_mono hs (a := a * s + y) (b := a * s + x) (show ys.length = xs.length by simpa using hl.symm) hy' hx' (by omega)
   omega
theorem dig_lt {s : Int} {n : Nat} {k j : Int} (hs : 1 ≤ s) (h0 : 0 ≤ k) (h : k < j) (hj : j < s ^ n) : ltL (digL s k n) (digL s j n) := by
 refine lt_of_idx hs (a := 0) (by rw [digL_len, digL_len]) (digL_in hs) (digL_in hs) ?_
 have h1 := dig_idx (n := n) hs h0 (by omega) n (Nat.le_refl _)
 have h2 := dig_idx (n := n) hs (show 0 ≤ j by omega) hj n (Nat.le_refl _)
 rw [Nat.sub_self, Int.pow_zero, Int.ediv_one, List.take_of_length_le (by rw [digL_len]; exact Nat.le_refl _)] at h1 h2
 rw [h1, h2]
 exact h
theorem relL_sorted {s : Int} {n N : Nat} {p : List Int → Bool} (hs : 1 ≤ s) (hN : s ^ n = N) : sortedL (relL s n p N) := by
 have h1 : ((List.range N).map fun i : Nat => digL s i n).Pairwise ltL := by
  rw [List.pairwise_map]
  refine List.Pairwise.imp_of_mem ?_ (List.pairwise_lt_range (n := N))
  intro a b _ hb hab
  have : b < N := by simpa using hb
  exact dig_lt hs (by omega) (by omega) (by omega)
 have h2 := h1.filter p
 intro i hi h0
 exact (List.pairwise_iff_getElem.1 h2) (i - 1) i (by unfold relL at hi; omega) hi (by omega)
/-- what is in such a relation -/
theorem relL_mem {s : Int} {n N : Nat} {p : List Int → Bool} {k : Nat} (hk : k < N) : tb (digL s k n ∈ relL s n p N) = p (digL s k n) := by
 cases h : p (digL s k n)
 ·refine tb_false fun hm => ?_
  have := (List.mem_filter.1 hm).2
  rw [h] at this
  cases this
 ·exact tb_true (List.mem_filter.2 ⟨List.mem_map.2 ⟨k, by simpa using hk, rfl⟩, h⟩)
theorem idx_of_lt {s : Int} (hs : 1 ≤ s) : ∀ {xs ys : List Int} {a : Int}, xs.length = ys.length → (∀ x ∈ xs, 0 ≤ x ∧ x ≤ s - 1) → (∀ y ∈ ys, 0 ≤ y ∧ y ≤ s - 1) → ltL xs ys → idxL s a xs < idxL s a ys
 | [], [], _, _, _, _, h => by simp [ltL, cmpL] at h
 | [], _ :: _, _, hl, _, _, _ => by simp at hl
 | _ :: _, [], _, hl, _, _, _ => by simp at hl
 | x :: xs, y :: ys, a, hl, hx, hy, h => by
  simp only [idxL]
  have hx' := fun z hz => hx z (List.mem_cons_of_mem x hz)
  have hy' := fun z hz => hy z (List.mem_cons_of_mem y hz)
  unfold ltL at h
  rcases Int.lt_trichotomy x y with hc | hc | hc
  ·exact idx_mono hs (by simpa using hl) hx' hy' (by omega)
  ·subst hc
   rw [cmpL, if_pos rfl] at h
   exact idx_of_lt hs (by simpa using hl) hx' hy' h
  ·rw [cmpL, if_neg (by omega), cmpI_gt hc] at h
   omega
theorem rel_bd {s : Int} {r : Int × List (List Int)} (h : relOk s r) : r.2.length ≤ 256 ∧ ∀ y ∈ r.2, y.length ≤ 4 := by
 obtain ⟨⟨h1, h2⟩, ⟨h3, h4⟩, h5⟩ := h
 refine ⟨?_, fun y hy => ?_⟩
 ·have key : ∀ i (hi : i < r.2.length), (i : Int) ≤ idxL s 0 r.2[i] := by
   intro i
   induction i with
   | zero =>
    intro hi
    obtain ⟨⟨e1, e2⟩, -⟩ := h5 0 hi
    have := idx_bd h1 e2 _ (Nat.le_refl _)
    rw [List.take_length] at this
    omega
   | succ i ih =>
    intro hi
    have h6 := ih (by omega)
    obtain ⟨⟨e1, e2⟩, e3⟩ := h5 (i + 1) hi
    obtain ⟨⟨d1, d2⟩, -⟩ := h5 i (by omega)
    have := idx_of_lt h1 (a := 0) (by omega) d2 e2 (e3 (by omega))
    omega
  rcases Nat.eq_zero_or_pos r.2.length with h0 | h0
  ·omega
  ·have hi : r.2.length - 1 < r.2.length := by omega
   have h6 := key _ hi
   obtain ⟨⟨e1, e2⟩, -⟩ := h5 _ hi
   have h7 := idx_bd h1 e2 _ (Nat.le_refl _)
   rw [List.take_length] at h7
   have h8 := pow_mono' (s := s) (c := 4) (by omega) (by omega) (r.2[r.2.length - 1]).length
   have h9 : (4 : Int) ^ (r.2[r.2.length - 1]).length ≤ 256 := by
    generalize (r.2[r.2.length - 1]).length = m at e1 ⊢
    rcases (show m = 0 ∨ m = 1 ∨ m = 2 ∨ m = 3 ∨ m = 4 by omega) with e | e | e | e | e <;> rw [e] <;> decide
   omega
 ·obtain ⟨i, hi, rfl⟩ := List.mem_iff_getElem.1 hy
  obtain ⟨⟨e1, -⟩, -⟩ := h5 i hi
  omega
end Go.Proofs.YtajmjfbejfiipaaGreat
namespace Go.Proofs.YtajmjfbejfiipaaGreat
open Go.RowKit Go.Sort
section
variable (t : Int × List (Int × List (List Int))) (f : Int × Int × List (Int × List Int)) (free : Int) (places : List Int)
end
section
variable {t : Int × List (Int × List (List Int))} {f : Int × Int × List (Int × List Int)} {free : Int} {places : List Int}
end
end Go.Proofs.YtajmjfbejfiipaaGreat
namespace Go.Proofs.YtajmjfbejfiipaaGreat
open Go.RowKit Go.Sort
section
variable {t : Int × List (Int × List (List Int))} {x : Int × List (Int × List Int)} {n : Int}
end
end Go.Proofs.YtajmjfbejfiipaaGreat
