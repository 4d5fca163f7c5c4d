/-
  Contracts: the solutions of an instance, counted, listed, the first; the program's.
-/
import Derived.Test.YtbpjejhjlmpcjaaS6
import Derived.Test.YtbpjejhjlmpcjaaK12
namespace Go.Proofs.Ytbpjejhjlmpcjaa
open Go.RowKit Go.Sort
/-- the solutions, in order -/
noncomputable def solsX (t : Int × List (Int × List (List Int))) (x : Int × List (Int × List Int)) : List (List Int) := solsL t.1.toNat (goesB t (duesL x.2 x.1.toNat)) x.1.toNat []
theorem solsX_len {t : Int × List (Int × List (List Int))} {x : Int × List (Int × List Int)} (h : instOk t x) : (solsX t x).length ≤ 1048576 := by
  have h1 := solsL_len (s := t.1.toNat) (sure := goesB t (duesL x.2 x.1.toNat)) (m := x.1.toNat) (vals := [])
  have h2 := h.1.1
  have h3 := h.2.1
  unfold sizeOk at h2
  have hpow : t.1.toNat ^ x.1.toNat ≤ 4 ^ 10 := Nat.le_trans (Nat.pow_le_pow_left (by omega) _) (Nat.pow_le_pow_right (by omega) (by omega))
  have : (4 : Nat) ^ 10 = 1048576 := by decide
  unfold solsX
  omega
noncomputable def csV (t : Int × List (Int × List (List Int))) (x : Int × List (Int × List Int)) : Int := match tb (instOk t x) with
  | true => (solsX t x).length
  | false => 0
noncomputable def csC (t : Int × List (Int × List (List Int))) (x : Int × List (Int × List Int)) : Int := match tb (instOk t x) with
  | true => 0
  | false => 1
noncomputable def asV (t : Int × List (Int × List (List Int))) (x : Int × List (Int × List Int)) : List (List Int) := match tb (instOk t x), decide ((solsX t x).length ≤ 200) with
  | true, true => solsX t x
  | _, _ => []
noncomputable def asC (t : Int × List (Int × List (List Int))) (x : Int × List (Int × List Int)) : Int := match tb (instOk t x), decide ((solsX t x).length ≤ 200) with
  | true, true => 0
  | true, false => 3
  | false, _ => 1
noncomputable def fsV (t : Int × List (Int × List (List Int))) (x : Int × List (Int × List Int)) : List Int := match tb (instOk t x) with
  | true => headV (solsX t x)
  | false => []
noncomputable def fsC (t : Int × List (Int × List (List Int))) (x : Int × List (Int × List Int)) : Int := match tb (instOk t x), headB (solsX t x) with
  | true, true => 0
  | true, false => 6
  | false, _ => 1
section
variable {t : Int × List (Int × List (List Int))} {x : Int × List (Int × List Int)}
theorem cs_no (h : tb (instOk t x) = false) : csV t x = 0 ∧ csC t x = 1 := by simp [csV, csC, h]
theorem cs_yes (h : tb (instOk t x) = true) : csV t x = (solsX t x).length ∧ csC t x = 0 := by simp [csV, csC, h]
theorem as_no (h : tb (instOk t x) = false) : asV t x = [] ∧ asC t x = 1 := by simp [asV, asC, h]
theorem as_more (h : tb (instOk t x) = true) (h2 : decide ((solsX t x).length ≤ 200) = false) : asV t x = [] ∧ asC t x = 3 := by simp only [asV, asC, h, h2]; exact ⟨trivial, trivial⟩
theorem as_yes (h : tb (instOk t x) = true) (h2 : decide ((solsX t x).length ≤ 200) = true) : asV t x = solsX t x ∧ asC t x = 0 := by simp only [asV, asC, h, h2]; exact ⟨trivial, trivial⟩
theorem fs_no (h : tb (instOk t x) = false) : fsV t x = [] ∧ fsC t x = 1 := by simp [fsV, fsC, h]
theorem fs_none (h : tb (instOk t x) = true) (h2 : headB (solsX t x) = false) : fsV t x = [] ∧ fsC t x = 6 := by
  simp only [fsV, fsC, h, h2]
  refine ⟨?_, trivial⟩
  cases hs : solsX t x
  · rfl
  · rw [hs] at h2; cases h2
theorem fs_yes (h : tb (instOk t x) = true) (h2 : headB (solsX t x) = true) : fsV t x = headV (solsX t x) ∧ fsC t x = 0 := by simp only [fsV, fsC, h, h2]; exact ⟨trivial, trivial⟩
theorem witL_nil : witL t.1.toNat (goesB t (duesL x.2 x.1.toNat)) x.1.toNat [] = solsX t x := by
  rw [witL_yes (by simpa using preTo_zero)]
  rfl
end
/-- a counter -/
def countI (bx : Nat) (told : List (List Int)) (O : List Nat) (w : World) : Prop := O = [bx] ∧ bx < w.heap.size ∧ w.frozen? ⟨bx, 0, none⟩ = false ∧ w.cell? ⟨bx, 0, none⟩ = some (.int .i64 told.length)
set_option maxHeartbeats 800000 in
theorem count1_yl (bx : Nat) : Yl Try.prog 60 #[.pointer (some ⟨bx, 0, none⟩)] (fun _ => true) (countI bx) := by
  refine ⟨?_, ?_, ?_⟩
  · rintro told O w w' ⟨rfl, h1, h2, h3⟩ hb
    exact ⟨rfl, Nat.lt_of_lt_of_le h1 hb.size, (frozenB hb h1).trans h2, (cellB hb h1).trans h3⟩
  · rintro told O w ⟨rfl, h1, -, -⟩ k hk
    obtain rfl : k = bx := by simpa using hk
    exact h1
  · rintro told O w0 w u x ⟨rfl, h1, h2, h3⟩ hb hf hlx hln
    have hz := hb.size
    have f0 := (frozenB hb h1).trans h2
    have c0 := (cellB hb h1).trans h3
    clear h3 hf h2
    show Calls Try.prog 60 #[u, .pointer (some ⟨bx, 0, none⟩)] w _
    go_enter Try.func60, Try.ntmps60
    go_wp2_with fail
    go_ret
    refine ⟨rfl, [bx], ⟨rfl, by rw [size_set]; omega, (World.frozen?_setCell _ _ _ _).trans f0, ?_⟩, TchF.setCell (List.mem_singleton.2 rfl) _ _ _, fun k hk => .inl hk⟩
    rw [World.cell?_setCell_same _ _ _ c0, List.length_append, List.length_singleton]
    rfl
set_option maxHeartbeats 3200000 in
set_option maxRecDepth 100000 in
theorem CountSolutions_any (w : World) {cs cs' : Array Value} {t : Int × List (Int × List (List Int))} {x : Int × List (Int × List Int)} (h : tplT.Rd w cs.toList t) (h' : instT.Rd w cs'.toList x) :
    Calls Try.prog 24 #[.agg cs, .agg cs'] w fun e w' => e = .returned (.tuple #[.int .i64 (csV t x), .int .i64 (csC t x)]) ∧ Below w.heap.size w w' := by
  have HT := Lib.hid h
  have HX := Lib.hid h'
  obtain ⟨v1, hv, hI, -⟩ := pair_ex h
  obtain rfl := agg_of hv
  obtain ⟨v2, hv', hI', -⟩ := pair_ex h'
  obtain rfl := agg_of hv'
  clear h hv h' hv'
  go_enter Try.func24, Try.ntmps24
  go_wp2_with fail
  generalize hW : World.alloc _ _ = W
  have hbW : Below w.heap.size w W := hW ▸ bAA
  have hsW : w.heap.size + 2 ≤ W.heap.size := by rw [← hW]; simp
  have t0 : W.cell? ⟨w.heap.size, 0, none⟩ = some (.int .i64 t.1) := by rw [← hW]; simp [go_sem]
  have t1 : W.cell? ⟨w.heap.size, 1, none⟩ = some v1 := by rw [← hW]; simp [go_sem]
  have x0 : W.cell? ⟨w.heap.size + 1, 0, none⟩ = some (.int .i64 x.1) := by rw [← hW]; simp [go_sem]
  have x1 : W.cell? ⟨w.heap.size + 1, 1, none⟩ = some v2 := by rw [← hW]; simp [go_sem]
  clear hW
  refine (ValidInstance_any _ (HT.out.below hbW) (HX.out.below hbW)).mono ?_
  rintro e w1 ⟨rfl, hb1⟩
  have hB1 := bthen hbW hb1
  have hz1 := hb1.size
  replace t0 := (cellB hb1 (by omega)).trans t0
  replace t1 := (cellB hb1 (by omega)).trans t1
  replace x0 := (cellB hb1 (by omega)).trans x0
  replace x1 := (cellB hb1 (by omega)).trans x1
  cases hok : tb (instOk t x)
  · have HR := Lib.hid (cs_no hok)
    clear hok
    go_wp2_with fail
    go_ret2
    exact ⟨by rw [HR.out.1, HR.out.2]; rfl, hB1⟩
  · have HR := Lib.hid (cs_yes hok)
    have HOK := Lib.hid (tb_iff.1 hok)
    have hs := (tb_iff.1 hok).1.1
    have hx1 := (tb_iff.1 hok).2.1
    unfold sizeOk at hs
    have hsl := solsX_len (tb_iff.1 hok)
    have hl0 : w.heap.size < w1.heap.size := by omega
    have hl1 : w.heap.size + 1 < w1.heap.size := by omega
    clear hok
    go_wp2_with fail
    generalize hWa : World.alloc w1 _ = wa
    have hba : Below w1.heap.size w1 wa := hWa ▸ bA
    have hsa : w1.heap.size + 1 ≤ wa.heap.size := by rw [← hWa]; simp
    have y0 : wa.cell? ⟨w1.heap.size, 0, none⟩ = some (.int .i64 0) := by rw [← hWa]; simp
    have y1 : wa.frozen? ⟨w1.heap.size, 0, none⟩ = false := by rw [← hWa]; simp
    replace t0 := (cellB hba (by omega)).trans t0
    replace t1 := (cellB hba (by omega)).trans t1
    replace x0 := (cellB hba (by omega)).trans x0
    replace x1 := (cellB hba (by omega)).trans x1
    have hBa := bthen hB1 hba
    have HTA : Hid (tplT.RdP (fun k => k < w.heap.size) wa [.int .i64 t.1, v1] t) := HT.out.P.below hBa
    have HXA : Hid (instT.RdP (fun k => k < w.heap.size) wa [.int .i64 x.1, v2] x) := HX.out.P.below hBa
    clear hWa
    refine (solverFor_any (ct := #[.int .i64 t.1, v1]) (cx := #[.int .i64 x.1, v2]) _ HTA.out HXA.out HOK.out (n := x.1.toNat) (by omega)).mono ?_
    rintro e w2 ⟨bs, rfl, hsv, hb2⟩
    have hB2 := bthen hBa hb2
    have hz2 := hb2.size
    have HI2 : Hid (countI w1.heap.size [] [w1.heap.size] w2) := ⟨rfl, by omega, (frozenB hb2 (by omega)).trans y1, (cellB hb2 (by omega)).trans y0⟩
    have HSV : Hid (Sv (fun k => k < w2.heap.size ∧ (k < w.heap.size ∨ wa.heap.size ≤ k)) w2 bs t x.1.toNat (duesL x.2 x.1.toNat)) := hsv.mono (fun q h1 h2 => ⟨h1, h2⟩)
    have HDU : Hid (dueOk t x.1.toNat (duesL x.2 x.1.toNat)) := duesL_ok (fun a ha => con_atom HOK.out.1 (by have := HOK.out.2.2.2 a ha; rwa [show ((x.1.toNat : Nat) : Int) = x.1 by omega]))
    clear hsv y0 y1
    go_wp2_with fail
    refine (walk_any (vars := x.1.toNat) (s := t.1.toNat) HOK.out.1 (by omega) (by omega) duesL_len HDU.out 60 #[.pointer (some ⟨w1.heap.size, 0, none⟩)] (enters Try.func60 (by kernel_rfl) rfl) (fun _ => true) (countI w1.heap.size) (count1_yl _) bs _ x.1.toNat w2 _ [] [] [] [w1.heap.size] (by simp) HSV.out (fun q hq => ⟨hq.1, fun hm => by simp at hm; omega⟩) ⟨none, 0, rfl, Nat.le_refl _, Nat.zero_le _, .inl ⟨rfl, rfl⟩⟩ (fun q hq => by cases hq) HI2.out (by simp only [List.length_nil]; unfold solsX at hsl; omega)).mono ?_
    rintro e w3 ⟨rfl, O', hI3, ht3, hO3⟩
    rw [tellL_all] at hI3 ⊢
    obtain ⟨rfl, h1, -, h3⟩ := hI3
    have hb3 : Below w.heap.size w w3 := hB2.trans (ht3.below hB2.size (fun q hq => by simp at hq; omega))
    rw [List.nil_append] at h3
    have c3 : w3.cell? ⟨w1.heap.size, 0, none⟩ = some (.int .i64 (csV t x)) := by rw [h3, HR.out.1]; rfl
    clear h3 ht3 hO3
    go_wp2_with fail
    go_ret2
    exact ⟨by rw [HR.out.2]; rfl, hb3⟩
/-- a list of all that was told -/
def listI (e bx base : Nat) (told : List (List Int)) (O : List Nat) (w : World) : Prop :=
  ∃ v, O = bx :: v.ownBlock.toList ∧ bx < w.heap.size ∧ w.frozen? ⟨bx, 0, none⟩ = false ∧ w.cell? ⟨bx, 0, none⟩ = some v ∧ Bl (intsT.off bx) e base w.heap.size w v told ∧ v.ownBlock ≠ some bx ∧ base ≤ bx
set_option maxHeartbeats 1600000 in
set_option maxRecDepth 100000 in
theorem all1_yl (bx base : Nat) : Yl Try.prog 62 #[.pointer (some ⟨bx, 0, none⟩)] (fun l => decide (l.length ≤ 200)) (listI 54 bx base) := by
  refine ⟨?_, ?_, ?_⟩
  · rintro told O w w' ⟨v, rfl, h1, h2, h3, h4, h5⟩ hb
    exact ⟨v, rfl, Nat.lt_of_lt_of_le h1 hb.size, (frozenB hb h1).trans h2, (cellB hb h1).trans h3, (h4.below hb (Nat.le_refl _)).mono hb.size, h5⟩
  · rintro told O w ⟨v, rfl, h1, -, -, h4, -⟩ k hk
    rcases List.mem_cons.1 hk with rfl | hk
    · exact h1
    · exact h4.lt_top (by simpa using hk)
  · rintro told O w0 w u x ⟨v, rfl, h1, h2, h3, h4, hob, hbb⟩ hb hf hlx hln
    obtain ⟨a, n, c, rfl⟩ := ex_slice (h4.fr (by unfold capMax; omega))
    obtain ⟨ua, uc, rfl⟩ := fr_slice hf
    have HF := Lib.hid hf
    have HB := Lib.hid (h4.below hb (Nat.le_refl _))
    have hz := hb.size
    have f0 := (frozenB hb h1).trans h2
    have c0 := (cellB hb h1).trans h3
    have hlt : bx < w.heap.size := by omega
    have HOL : Hid (∀ q, (Value.slice a n c).ownBlock = some q → q < w0.heap.size) := fun q hq => h4.lt_top hq
    have HOG : Hid ((Value.slice a n c).ownBlock ≠ some bx) := hob
    clear h3 hf h2 h4 hob
    show Calls Try.prog 62 #[.slice ua x.length uc, .pointer (some ⟨bx, 0, none⟩)] w _
    go_enter Try.func62, Try.ntmps62
    go_wp2_with (refine wpList_push (E := intsT.off bx) _ rfl _ _ 49 54 rfl elInt64SS rfl (HB.out.below (bA.mono hz) (Nat.le_refl _)) rfl news1 (fr_off (HF.out.below bA) h1) (by omega) (by decide) (by omega) (by simp; omega) ?_; intro v5 w5 hB5 hg5 hown; obtain ⟨a5, n5, c5, rfl⟩ := ex_slice (hB5.fr (by rw [List.length_append]; unfold capMax; simp only [List.length_singleton]; omega)); have i0 := (grown_cell' (i := 0) hg5 (show bx < _ by simp; omega) HOG.out).trans ((cellB (bA (w := w)) hlt).trans c0); have i1 := (World.frozen?_of_block (a := ⟨bx, 0, none⟩) (hg5.block bx (by simp; omega) (fun e => HOG.out e.symm))).trans ((frozenB (bA (w := w)) hlt).trans f0); have hn5 : n5 = (told ++ [x]).length := (by obtain ⟨_, _, he⟩ := rd_slice (hB5.fr (by rw [List.length_append]; unfold capMax; simp only [List.length_singleton]; omega)).rd; simpa using (Value.slice.inj he).2.1))
    have hn6 : n5 = told.length + 1 := by rw [hn5, List.length_append, List.length_singleton]
    subst hn6
    have hown6 : (Value.slice a5 (told.length + 1) c5).ownBlock = (Value.slice a n c).ownBlock ∨ (Value.slice a5 (told.length + 1) c5).ownBlock = some (w.alloc (.cells #[.slice ua x.length uc] 54)).heap.size := hown
    have hg6 : (w.alloc (.cells #[.slice ua x.length uc] 54)).grownBy w5 (Value.slice a n c).ownBlock := hg5
    have ht5 : TchF (bx :: (Value.slice a n c).ownBlock.toList) w w5 := ((Below.tchF bA _).then (grown_tchF hg6) (fun k hk => .inl (List.mem_cons_of_mem _ hk)))
    have hz5 : w.heap.size ≤ w5.heap.size := ht5.size
    have HB5 := Lib.hid hB5
    have hown7 : ∀ q, (Value.slice a5 (told.length + 1) c5).ownBlock = some q → (Value.slice a n c).ownBlock = some q ∨ w.heap.size ≤ q := fun q hq => by
      rcases hown6 with h | h
      · exact .inl (by rw [← h]; exact hq)
      · rw [h] at hq
        simp at hq
        exact .inr (by omega)
    have hge5 : (Value.slice a5 (told.length + 1) c5).ownBlock ≠ some bx := fun e => by
      rcases hown7 bx e with h | h
      · exact HOG.out h
      · omega
    clear hB5 hown hown6 hg5 hg6
    go_ret
    refine ⟨?_, bx :: (Value.slice a5 (told.length + 1) c5).ownBlock.toList, ⟨_, rfl, by rw [size_set]; omega, (World.frozen?_setCell _ _ _ _).trans i1, World.cell?_setCell_same _ _ _ i0, ?_, hge5, hbb⟩, ?_, ?_⟩
    · refine ret_bool ?_
      rw [List.length_append, List.length_singleton]
      exact decide_eq_decide.2 (by omega)
    · rw [size_set]
      exact off_same HB5.out hge5 (fun q hq => Below.heap_setCell _ _ _ _ hq)
    · exact ht5.trans (TchF.setCell (List.mem_cons_self ..) _ _ _)
    · intro k hk
      rcases List.mem_cons.1 hk with rfl | hk
      · exact .inl (List.mem_cons_self ..)
      · rcases hown7 k (by simpa using hk) with h | h
        · exact .inl (List.mem_cons_of_mem _ (by simpa using h))
        · exact .inr (by omega)
set_option maxHeartbeats 3200000 in
set_option maxRecDepth 100000 in
theorem AllSolutions_any (w : World) {cs cs' : Array Value} {t : Int × List (Int × List (List Int))} {x : Int × List (Int × List Int)} (h : tplT.Rd w cs.toList t) (h' : instT.Rd w cs'.toList x) :
    Calls Try.prog 26 #[.agg cs, .agg cs'] w (RetSC rowsT w (asV t x) (asC t x)) := by
  have HT := Lib.hid h
  have HX := Lib.hid h'
  obtain ⟨v1, hv, hI, -⟩ := pair_ex h
  obtain rfl := agg_of hv
  obtain ⟨v2, hv', hI', -⟩ := pair_ex h'
  obtain rfl := agg_of hv'
  clear h hv h' hv'
  go_enter Try.func26, Try.ntmps26
  go_wp2_with fail
  generalize hW : World.alloc _ _ = W
  have hbW : Below w.heap.size w W := hW ▸ bAA
  have hsW : w.heap.size + 2 ≤ W.heap.size := by rw [← hW]; simp
  have t0 : W.cell? ⟨w.heap.size, 0, none⟩ = some (.int .i64 t.1) := by rw [← hW]; simp [go_sem]
  have t1 : W.cell? ⟨w.heap.size, 1, none⟩ = some v1 := by rw [← hW]; simp [go_sem]
  have x0 : W.cell? ⟨w.heap.size + 1, 0, none⟩ = some (.int .i64 x.1) := by rw [← hW]; simp [go_sem]
  have x1 : W.cell? ⟨w.heap.size + 1, 1, none⟩ = some v2 := by rw [← hW]; simp [go_sem]
  clear hW
  refine (ValidInstance_any _ (HT.out.below hbW) (HX.out.below hbW)).mono ?_
  rintro e w1 ⟨rfl, hb1⟩
  have hB1 := bthen hbW hb1
  have hz1 := hb1.size
  replace t0 := (cellB hb1 (by omega)).trans t0
  replace t1 := (cellB hb1 (by omega)).trans t1
  replace x0 := (cellB hb1 (by omega)).trans x0
  replace x1 := (cellB hb1 (by omega)).trans x1
  cases hok : tb (instOk t x)
  · have HR := Lib.hid (as_no hok)
    clear hok
    go_wp2_with fail
    go_ret2
    exact ⟨.slice none 0 0, by rw [HR.out.2]; rfl, by rw [HR.out.1]; exact fr_nil, hB1⟩
  · have HRM := Lib.hid (fun h => as_more hok h)
    have HRY := Lib.hid (fun h => as_yes hok h)
    have HOK := Lib.hid (tb_iff.1 hok)
    have hs := (tb_iff.1 hok).1.1
    have hx1 := (tb_iff.1 hok).2.1
    unfold sizeOk at hs
    have hsl := solsX_len (tb_iff.1 hok)
    have hl0 : w.heap.size < w1.heap.size := by omega
    have hl1 : w.heap.size + 1 < w1.heap.size := by omega
    clear hok
    go_wp2_with fail
    generalize hWa : World.alloc (World.alloc w1 _) _ = wa
    have hba : Below w1.heap.size w1 wa := hWa ▸ bAA
    have hsa : w1.heap.size + 2 ≤ wa.heap.size := by rw [← hWa]; simp
    have y0 : wa.cell? ⟨w1.heap.size + 1, 0, none⟩ = some (.slice (some ⟨w1.heap.size, 0, none⟩) 0 0) := by rw [← hWa]; simp [go_sem]
    have y1 : wa.frozen? ⟨w1.heap.size + 1, 0, none⟩ = false := by rw [← hWa]; simp [go_sem]
    have HBL : Hid (Bl (intsT.off (w1.heap.size + 1)) 54 w1.heap.size (w1.heap.size + 1) wa (.slice (some ⟨w1.heap.size, 0, none⟩) 0 0) []) := by
      unfold Hid
      rw [← hWa]
      exact (Bl.lit0 (E := intsT.off (w1.heap.size + 1)) (e := 54) (base := w1.heap.size) (w := w1) (Nat.le_refl _)).below (bA (w := w1.alloc (.cells #[] 54))) (by simp)
    replace t0 := (cellB hba (by omega)).trans t0
    replace t1 := (cellB hba (by omega)).trans t1
    replace x0 := (cellB hba (by omega)).trans x0
    replace x1 := (cellB hba (by omega)).trans x1
    have hBa := bthen hB1 hba
    have HTA : Hid (tplT.RdP (fun k => k < w.heap.size) wa [.int .i64 t.1, v1] t) := HT.out.P.below hBa
    have HXA : Hid (instT.RdP (fun k => k < w.heap.size) wa [.int .i64 x.1, v2] x) := HX.out.P.below hBa
    clear hWa
    refine (solverFor_any (ct := #[.int .i64 t.1, v1]) (cx := #[.int .i64 x.1, v2]) _ HTA.out HXA.out HOK.out (n := x.1.toNat) (by omega)).mono ?_
    rintro e w2 ⟨bs, rfl, hsv, hb2⟩
    have hB2 := bthen hBa hb2
    have hz2 := hb2.size
    have HI2 : Hid (listI 54 (w1.heap.size + 1) w1.heap.size [] [w1.heap.size + 1, w1.heap.size] w2) := ⟨_, rfl, by omega, (frozenB hb2 (by omega)).trans y1, (cellB hb2 (by omega)).trans y0, (HBL.out.below hb2 (by omega)).mono (by omega), by simp [Value.ownBlock], by omega⟩
    have HSV : Hid (Sv (fun k => k < w2.heap.size ∧ (k < w.heap.size ∨ wa.heap.size ≤ k)) w2 bs t x.1.toNat (duesL x.2 x.1.toNat)) := hsv.mono (fun q h1 h2 => ⟨h1, h2⟩)
    have HDU : Hid (dueOk t x.1.toNat (duesL x.2 x.1.toNat)) := duesL_ok (fun a ha => con_atom HOK.out.1 (by have := HOK.out.2.2.2 a ha; rwa [show ((x.1.toNat : Nat) : Int) = x.1 by omega]))
    clear hsv y0 y1 HBL
    go_wp2_with fail
    refine (walk_any (vars := x.1.toNat) (s := t.1.toNat) HOK.out.1 (by omega) (by omega) duesL_len HDU.out 62 #[.pointer (some ⟨w1.heap.size + 1, 0, none⟩)] (enters Try.func62 (by kernel_rfl) rfl) (fun l => decide (l.length ≤ 200)) (listI 54 (w1.heap.size + 1) w1.heap.size) (all1_yl _ _) bs _ x.1.toNat w2 _ [] [] [] [w1.heap.size + 1, w1.heap.size] (by simp) HSV.out (fun q hq => ⟨hq.1, fun hm => by simp at hm; omega⟩) ⟨none, 0, rfl, Nat.le_refl _, Nat.zero_le _, .inl ⟨rfl, rfl⟩⟩ (fun q hq => by cases hq) HI2.out (by simp only [List.length_nil]; unfold solsX at hsl; omega)).mono ?_
    rintro e w3 ⟨rfl, O', hI3, ht3, hO3⟩
    rw [tellL_most (by simp), List.nil_append] at hI3 ⊢
    have hLs : solsL t.1.toNat (goesB t (duesL x.2 x.1.toNat)) x.1.toNat [] = solsX t x := rfl
    rw [hLs] at hI3 ⊢
    have hb3 : Below w.heap.size w w3 := hB2.trans (ht3.below hB2.size (fun q hq => by simp at hq; omega))
    obtain ⟨v3, rfl, h1, -, c3, hB3, -, -⟩ := hI3
    have hf3 := off_fr (hB3.fr (by rw [List.length_take]; unfold capMax; omega))
    obtain ⟨a3, n3, cc3, rfl⟩ := ex_slice hf3
    have HF3 := Lib.hid hf3
    clear hB3 hf3 ht3 hO3 hLs
    cases hle : decide ((solsX t x).length ≤ 200)
    · have HR := Lib.hid (HRM.out hle)
      clear hle
      go_wp2_with fail
      go_ret2
      exact ⟨.slice none 0 0, by rw [HR.out.2]; rfl, by rw [HR.out.1]; exact fr_nil, hb3⟩
    · have HR := Lib.hid (HRY.out hle)
      have HTK : Hid ((solsX t x).take (200 + 1) = solsX t x) := List.take_of_length_le (by have := of_decide_eq_true hle; omega)
      clear hle
      go_wp2_with fail
      go_ret2
      exact ⟨.slice a3 n3 cc3, by rw [HR.out.2]; rfl, by rw [HR.out.1, ← HTK.out]; exact HF3.out.mono (by omega), hb3⟩
set_option maxHeartbeats 3200000 in
set_option maxRecDepth 100000 in
theorem FirstSolution_any (w : World) {cs cs' : Array Value} {t : Int × List (Int × List (List Int))} {x : Int × List (Int × List Int)} (h : tplT.Rd w cs.toList t) (h' : instT.Rd w cs'.toList x) :
    Calls Try.prog 31 #[.agg cs, .agg cs'] w (RetSC intsT w (fsV t x) (fsC t x)) := by
  have HT := Lib.hid h
  have HX := Lib.hid h'
  obtain ⟨v1, hv, hI, -⟩ := pair_ex h
  obtain rfl := agg_of hv
  obtain ⟨v2, hv', hI', -⟩ := pair_ex h'
  obtain rfl := agg_of hv'
  clear h hv h' hv'
  go_enter Try.func31, Try.ntmps31
  go_wp2_with fail
  generalize hW : World.alloc _ _ = W
  have hbW : Below w.heap.size w W := hW ▸ bAA
  have hsW : w.heap.size + 2 ≤ W.heap.size := by rw [← hW]; simp
  have t0 : W.cell? ⟨w.heap.size, 0, none⟩ = some (.int .i64 t.1) := by rw [← hW]; simp [go_sem]
  have t1 : W.cell? ⟨w.heap.size, 1, none⟩ = some v1 := by rw [← hW]; simp [go_sem]
  have x0 : W.cell? ⟨w.heap.size + 1, 0, none⟩ = some (.int .i64 x.1) := by rw [← hW]; simp [go_sem]
  have x1 : W.cell? ⟨w.heap.size + 1, 1, none⟩ = some v2 := by rw [← hW]; simp [go_sem]
  clear hW
  refine (ValidInstance_any _ (HT.out.below hbW) (HX.out.below hbW)).mono ?_
  rintro e w1 ⟨rfl, hb1⟩
  have hB1 := bthen hbW hb1
  have hz1 := hb1.size
  replace t0 := (cellB hb1 (by omega)).trans t0
  replace t1 := (cellB hb1 (by omega)).trans t1
  replace x0 := (cellB hb1 (by omega)).trans x0
  replace x1 := (cellB hb1 (by omega)).trans x1
  cases hok : tb (instOk t x)
  · have HR := Lib.hid (fs_no hok)
    clear hok
    go_wp2_with fail
    go_ret2
    exact ⟨.slice none 0 0, by rw [HR.out.2]; rfl, by rw [HR.out.1]; exact fr_nil, hB1⟩
  · have HRN := Lib.hid (fun h => fs_none hok h)
    have HRY := Lib.hid (fun h => fs_yes hok h)
    have HOK := Lib.hid (tb_iff.1 hok)
    have hs := (tb_iff.1 hok).1.1
    have hx1 := (tb_iff.1 hok).2.1
    unfold sizeOk at hs
    have HTA : Hid (tplT.RdP (fun k => k < w.heap.size) w1 [.int .i64 t.1, v1] t) := HT.out.P.below hB1
    have HXA : Hid (instT.RdP (fun k => k < w.heap.size) w1 [.int .i64 x.1, v2] x) := HX.out.P.below hB1
    clear hok
    go_wp2_with fail
    refine (solverFor_any (ct := #[.int .i64 t.1, v1]) (cx := #[.int .i64 x.1, v2]) _ HTA.out HXA.out HOK.out (n := x.1.toNat) (by omega)).mono ?_
    rintro e w2 ⟨bs, rfl, hsv, hb2⟩
    have hB2 := bthen hB1 hb2
    have HSV := Lib.hid hsv
    have HDU : Hid (dueOk t x.1.toNat (duesL x.2 x.1.toNat)) := duesL_ok (fun a ha => con_atom HOK.out.1 (by have := HOK.out.2.2.2 a ha; rwa [show ((x.1.toNat : Nat) : Int) = x.1 by omega]))
    clear hsv
    go_wp2_with fail
    refine (first_any (n := x.1.toNat) (s := t.1.toNat) w2 HOK.out.1 (by omega) (by omega) duesL_len HDU.out HSV.out (b := []) ⟨[], none, 0, rfl, Nat.le_refl _, Nat.zero_le _, .inl ⟨rfl, rfl⟩⟩ (by simp)).mono ?_
    rintro e w3 ⟨u, rfl, hf, hb3⟩
    rw [witL_nil] at hf ⊢
    obtain ⟨ua, un, uc, rfl⟩ := ex_slice hf
    have HF := Lib.hid hf
    have hz2 := hB2.size
    clear hf
    cases hh : headB (solsX t x)
    · have HR := Lib.hid (HRN.out hh)
      clear hh
      go_wp2_with fail
      go_ret2
      exact ⟨.slice none 0 0, by rw [HR.out.2]; rfl, by rw [HR.out.1]; exact fr_nil, bthen hB2 hb3⟩
    · have HR := Lib.hid (HRY.out hh)
      clear hh
      go_wp2_with fail
      go_ret2
      exact ⟨.slice ua un uc, by rw [HR.out.2]; rfl, by rw [HR.out.1]; exact HF.out.mono hz2, bthen hB2 hb3⟩
end Go.Proofs.Ytbpjejhjlmpcjaa
