/-
The hull of tuples: what it is; the relation of all tuples; contracts: the reference's hull.
Contracts: the hull of tuples, the reference's.
Contracts: the hull of tuples, the program's.
Contracts: the hull of tuples, whole, both sides.
Plain: the hull of tuples: what polymorphisms make of them.
Plain: the hull is a relation, and operations that keep the template keep it.
Contracts: the hull of a relation; whether a relation is definable; both sides.
Contracts: whether a relation is definable, both sides.
-/
import Derived.Test.YtajmjfbejfiipaaGreatQBB
import Derived.Test.YtajmjfbejfiipaaGreatQAJ
namespace Go.Proofs.YtajmjfbejfiipaaGreat
open Go.RowKit Go.Sort
noncomputable def hulP (t : Tpl) (u : List (List Int)) : List Int → Bool := fun v => phC t u.length (colsL u (huM u)) v == 0
noncomputable def hulX (t : Tpl) (u : List (List Int)) : List Int → Bool := fun v => phC t u.length (colsL u (huM u)) v == 7
def hulD (t : Tpl) (u : List (List Int)) (i : Nat) : List Int := digL t.1 i (huM u)
def hulN (t : Tpl) (u : List (List Int)) : Nat := (t.1 ^ huM u).toNat
/-- the first k lists: those that are in the hull; whether the budget ran out -/
noncomputable def hulJ (t : Tpl) (u : List (List Int)) (k : Nat) : List Nat := (List.range k).filter fun j => hulP t u (hulD t u j)
noncomputable def hulB (t : Tpl) (u : List (List Int)) (k : Nat) : Bool := (List.range k).any fun j => hulX t u (hulD t u j)
noncomputable def hulR (t : Tpl) (u : List (List Int)) (k : Nat) : List (List Int) := (hulJ t u k).map (hulD t u)
noncomputable def hulO (t : Tpl) (u : List (List Int)) (k : Nat) : List (Int × List Int) := (hulJ t u k).map fun j => phV t u.length (colsL u (huM u)) (hulD t u j)
noncomputable def hlC (t : Tpl) (u : List (List Int)) : Int := match limF t u.length, hulB t u (hulN t u) with
 | true, _ => 3
 | false, true => 7
 | false, false => 0
noncomputable def hlV (t : Tpl) (u : List (List Int)) : Int × List (List Int) := match limF t u.length, hulB t u (hulN t u) with
 | false, false => ((huM u : Int), hulR t u (hulN t u))
 | _, _ => (0, [])
noncomputable def hlO (t : Tpl) (u : List (List Int)) : List (Int × List Int) := match limF t u.length, hulB t u (hulN t u) with
 | false, false => hulO t u (hulN t u)
 | _, _ => []
section
variable {t : Tpl} {u : List (List Int)} {k : Nat}
theorem hl_lim (h : limF t u.length = true) : hlC t u = 3 ∧ hlV t u = (0, []) ∧ hlO t u = [] := by simp [hlC, hlV, hlO, h]
theorem hl_bad (h : limF t u.length = false) (h1 : hulB t u (hulN t u) = true) : hlC t u = 7 ∧ hlV t u = (0, []) ∧ hlO t u = [] := by simp [hlC, hlV, hlO, h, h1]
theorem hl_ok (h : limF t u.length = false) (h1 : hulB t u (hulN t u) = false) : hlC t u = 0 ∧ hlV t u = ((huM u : Int), hulR t u (hulN t u)) ∧ hlO t u = hulO t u (hulN t u) := by simp [hlC, hlV, hlO, h, h1]
theorem hulJ_yes (h : hulP t u (hulD t u k) = true) : hulJ t u k ++ [k] = hulJ t u (k + 1) := by simp [hulJ, List.range_succ, h]
theorem hulJ_no (h : hulP t u (hulD t u k) = false) : hulJ t u k = hulJ t u (k + 1) := by simp [hulJ, List.range_succ, h]
theorem hulB_no (h0 : hulB t u k = false) (h : hulX t u (hulD t u k) = false) : hulB t u (k + 1) = false := by
 unfold hulB at h0 ⊢
 rw [List.range_succ, List.any_append, h0]
 simp [h]
theorem hulB_yes {n : Nat} (h : hulX t u (hulD t u k) = true) (hk : k < n) : hulB t u n = true := by
 unfold hulB
 rw [List.any_eq_true]
 exact ⟨k, by simpa using hk, h⟩
theorem hulJ_nodup : (hulJ t u k).Nodup := by
 unfold hulJ
 exact List.Pairwise.filter _ List.nodup_range
theorem hulJ_lt {j : Nat} (h : j ∈ hulJ t u k) : j < k := by
 have := (List.mem_filter.1 h).1
 simpa using this
theorem hulJ_len : (hulJ t u k).length ≤ k := by
 unfold hulJ
 exact Nat.le_trans (List.length_filter_le _ _) (by simp)
theorem hulR_len : (hulR t u k).length ≤ k := by unfold hulR; rw [List.length_map]; exact hulJ_len
theorem hulO_len : (hulO t u k).length ≤ k := by unfold hulO; rw [List.length_map]; exact hulJ_len
theorem hulR_yes (h : hulP t u (hulD t u k) = true) : hulR t u k ++ [hulD t u k] = hulR t u (k + 1) := by unfold hulR; rw [← hulJ_yes h, List.map_append]; rfl
theorem hulR_no (h : hulP t u (hulD t u k) = false) : hulR t u k = hulR t u (k + 1) := by unfold hulR; rw [← hulJ_no h]
theorem hulO_yes (h : hulP t u (hulD t u k) = true) : hulO t u k ++ [phV t u.length (colsL u (huM u)) (hulD t u k)] = hulO t u (k + 1) := by unfold hulO; rw [← hulJ_yes h, List.map_append]; rfl
theorem hulO_no (h : hulP t u (hulD t u k) = false) : hulO t u k = hulO t u (k + 1) := by unfold hulO; rw [← hulJ_no h]
theorem hulR_zero : hulR t u 0 = [] := by simp [hulR, hulJ]
theorem hulO_zero : hulO t u 0 = [] := by simp [hulO, hulJ]
theorem hulJ_zero : hulJ t u 0 = [] := by simp [hulJ]
theorem hulN_of (hT : tplOk t) : t.1 ^ huM u = (hulN t u : Int) := by
 have := pow_nn (s := t.1) (by have := hT.1; unfold sizeOk at this; omega) (huM u)
 unfold hulN
 omega
theorem hulN_bd (hT : tplOk t) (h : 1 ≤ huM u ∧ huM u ≤ 4) : 1 ≤ hulN t u ∧ hulN t u ≤ 256 := by
 have h1 := hulN_of (u := u) hT
 have hs := hT.1
 unfold sizeOk at hs
 have h2 : 1 ≤ t.1 ^ huM u := by
  have : 0 < t.1 ^ huM u := Int.pow_pos (by omega)
  omega
 have h3 : t.1 ^ huM u ≤ 256 := by
  refine Int.le_trans (pow_mono' (by omega) (show t.1 ≤ 4 by omega) (huM u)) ?_
  rcases (show huM u = 1 ∨ huM u = 2 ∨ huM u = 3 ∨ huM u = 4 by omega) with e | e | e | e <;> rw [e] <;> decide
 omega
theorem hulD_len {j : Nat} : (hulD t u j).length = huM u := digL_len
theorem hulD_in {j : Nat} (hs : 1 ≤ t.1) : ∀ a ∈ hulD t u j, 0 ≤ a ∧ a ≤ t.1 - 1 := fun a ha => by
 have := dig_mem hs ha
 omega
/-- the first list tells 0 everywhere: no value comes twice with different values -/
theorem dig_zero {s : Int} {n : Nat} : digL s 0 n = List.replicate n 0 := by
 refine List.ext_getElem (by simp [digL_len]) fun i h h' => ?_
 simp [digL, dig]
theorem telK_zero {s : Int} {ls : List (List Int)} {f : List Int} (hf : ∀ a ∈ f, a = -1 ∨ a = 0) : ∀ k, ∃ g, telK s ls (List.replicate ls.length 0) f k = some g ∧ ∀ a ∈ g, a = -1 ∨ a = 0
 | 0 => ⟨f, rfl, hf⟩
 | k + 1 => by
  obtain ⟨g, h1, h2⟩ := telK_zero (s := s) (ls := ls) hf k
  have h0 : (List.replicate ls.length (0 : Int)).getD k 0 = 0 := by
   rw [List.getD_eq_getElem?_getD, List.getElem?_replicate]
   split <;> rfl
  have h3 : telK s ls (List.replicate ls.length 0) f (k + 1) = tellAt s (ls.getD k []) 0 g := by
   show (telK s ls (List.replicate ls.length 0) f k).bind _ = _
   rw [h1, h0]
   rfl
  have h4 : (decide (0 ≤ g.getD (idxL s 0 (ls.getD k [])).toNat 0) && (g.getD (idxL s 0 (ls.getD k [])).toNat 0 != 0)) = false := by
   rw [List.getD_eq_getElem?_getD]
   cases h5 : g[(idxL s 0 (ls.getD k [])).toNat]? with
   | none => rfl
   | some b =>
    rcases h2 b (List.mem_of_getElem? h5) with e | e <;> subst e <;> rfl
  refine ⟨g.set (idxL s 0 (ls.getD k [])).toNat 0, by rw [h3]; simp only [tellAt, h4], fun a ha => ?_⟩
  rcases List.mem_or_eq_of_mem_set ha with ha | rfl
  ·exact h2 a ha
  ·exact .inr rfl
theorem lw_zero (h : limF t u.length = true) : lwC t u.length (colsL u (huM u)) (hulD t u 0) = 3 := by
 obtain ⟨g, h1, -⟩ := telK_zero (s := t.1) (ls := colsL u (huM u)) (f := List.replicate (tabL t u.length) (-1)) (fun a ha => .inl (List.eq_of_mem_replicate ha)) (colsL u (huM u)).length
 have h2 : wF t u.length (colsL u (huM u)) (hulD t u 0) = some g := by
  unfold wF hulD
  rw [show ((0 : Nat) : Int) = 0 from rfl, dig_zero]
  rw [colsL_len] at h1 ⊢
  exact h1
 exact (lw_lim h2 (by rw [Int.toNat_natCast]; exact h)).2
end
theorem fullRel1_any (w : World) (u : Value) : Calls Tryz.prog 197 #[u] w fun e w' => e = .returned (.bool true) ∧ Below w.heap.size w w' := by
 go_enter Tryz.func197, Tryz.ntmps197
 go_wp2_with fail
 go_ret
 exact ⟨rfl, Below.refl _ _⟩
set_option maxHeartbeats 800000 in
theorem fullRel_any (w : World) (s : Int) (ar : Nat) (hs : 1 ≤ s ∧ s ≤ 4) (har : ar ≤ 4) (N : Nat) (hN : s ^ ar = N) :
  Calls Tryz.prog 133 #[.int .i64 s, .int .i64 ar] w (RetA relT w ((ar : Int), relL s ar (fun _ => true) N)) := by
 go_enter Tryz.func133, Tryz.ntmps133
 go_wp2_with fail
 generalize hW : World.alloc w _ = W
 have hbW : Below w.heap.size w W := hW ▸ bA
 have hsW : w.heap.size + 1 ≤ W.heap.size := by rw [← hW]; simp
 have r0 : W.cell? ⟨w.heap.size, 0, none⟩ = some (.int .i64 0) := by rw [← hW]; simp [go_sem]
 have r1 : W.cell? ⟨w.heap.size, 1, none⟩ = some (.slice none 0 0) := by rw [← hW]; simp [go_sem]
 have q0 : W.frozen? ⟨w.heap.size, 0, none⟩ = false := by rw [← hW]; simp [go_sem]
 have q1 : W.frozen? ⟨w.heap.size, 1, none⟩ = false := by rw [← hW]; simp [go_sem]
 clear hW
 refine (relOf_any W s ar hs har 197 #[] (enters Tryz.func197 (by kernel_rfl) rfl) (fun _ => true) N hN (fun W' u k _ _ _ => fullRel1_any W' u)).mono ?_
 rintro e w1 ⟨cs, rfl, hf, hb1⟩
 obtain ⟨ad, cap, rfl⟩ := fr_pair hf
 have HF := Lib.hid hf
 have hB1 := bthen hbW hb1
 have hz1 := hb1.size
 replace r0 := (cellB hb1 (by omega)).trans r0
 replace r1 := (cellB hb1 (by omega)).trans r1
 replace q0 := (frozenB hb1 (by omega)).trans q0
 replace q1 := (frozenB hb1 (by omega)).trans q1
 have hl1 : w.heap.size < w1.heap.size := by omega
 have HZ0 := Lib.hid (fun (x y : Value) => res2_0 (x := x) (y := y) r0)
 have HZ1 := Lib.hid (fun (x y : Value) => res2_1 (x := x) (y := y) r1)
 clear hf
 go_wp2_with fail
 refine bodyPost_ret (v := .agg #[.int .i64 (ar : Int), .slice ad (relL s ar (fun _ => true) N).length cap]) (by simp [results, Tryz.results133, go_sem, HZ0.out, HZ1.out]) rfl ⟨[.int .i64 (ar : Int), .slice ad (relL s ar (fun _ => true) N).length cap], rfl, ?_, res2_b hB1 (by omega)⟩
 exact ((HF.out.set (a := ⟨w.heap.size, 0, none⟩) (show w.heap.size < W.heap.size by omega)).set (a := ⟨w.heap.size, 1, none⟩) (show w.heap.size < W.heap.size by omega)).mono (by omega)
end Go.Proofs.YtajmjfbejfiipaaGreat
namespace Go.Proofs.YtajmjfbejfiipaaGreat
open Go.RowKit Go.Sort
theorem srch_c3 {s : Nat} {okT : List Int → Bool} {fx : List Int} : ∀ (m : Nat) (vals : List Int) (r : FR), (r.1 = 0 ∨ r.1 = 7 ∨ r.1 = -1) → ((srch s okT fx (fun _ => -1) m vals r).1 = 0 ∨ (srch s okT fx (fun _ => -1) m vals r).1 = 7 ∨ (srch s okT fx (fun _ => -1) m vals r).1 = -1)
 | 0, vals, r, _ => .inr (.inr rfl)
 | m + 1, vals, r, h => by
  have key : ∀ (l : List Nat) (q : FR), (q.1 = 0 ∨ q.1 = 7 ∨ q.1 = -1) → ((l.foldl (stepA (srch s okT fx (fun _ => -1) m) okT fx vals) q).1 = 0 ∨ (l.foldl (stepA (srch s okT fx (fun _ => -1) m) okT fx vals) q).1 = 7 ∨ (l.foldl (stepA (srch s okT fx (fun _ => -1) m) okT fx vals) q).1 = -1) := by
   intro l
   induction l with
   | nil => exact fun q h => h
   | cons a l ih =>
    intro q hq
    rw [List.foldl_cons]
    refine ih _ ?_
    by_cases h0 : q.1 = 0
    ·cases h1 : skipB fx vals.length a
     ·by_cases h2 : q.2.1 = 6000
      ·rw [step_bud h0 h1 h2]; exact .inr (.inl rfl)
      ·cases h3 : okT (vals ++ [(a : Int)])
       ·rw [step_no h0 h1 h2 h3]; exact .inl rfl
       ·rw [step_yes h0 h1 h2 h3]; exact srch_c3 m _ _ (.inl rfl)
     ·rw [step_skip h1]; exact hq
    ·rw [step_stop h0]; exact hq
  exact key _ r h
theorem phC_cases (t : Tpl) (ar : Int) (ls : List (List Int)) (vs : List Int) : phC t ar ls vs = 0 ∨ phC t ar ls vs = 4 ∨ phC t ar ls vs = 6 ∨ phC t ar ls vs = 7 := by
 unfold phC
 cases wF t ar ls vs with
 | none => exact .inr (.inl rfl)
 | some f =>
  show foC (polyF t ar f fun _ => -1) = 0 ∨ foC (polyF t ar f fun _ => -1) = 4 ∨ foC (polyF t ar f fun _ => -1) = 6 ∨ foC (polyF t ar f fun _ => -1) = 7
  rcases srch_c3 (s := t.1.toNat) (okT := okF t ar) (fx := f) (tabL t ar) [] (0, 0, []) (.inl rfl) with h | h | h
  ·exact .inr (.inr (.inl (fo_0 (ar := ar) (R := polyF t ar f fun _ => -1) h).2))
  ·exact .inr (.inr (.inr (fo_7 (ar := ar) (R := polyF t ar f fun _ => -1) h).2))
  ·refine .inl ?_
   have h' : (polyF t ar f fun _ => -1).1 = -1 := h
   simp [foC, h']
theorem TchP.thenB {O : Nat → Prop} {w w' w'' : World} (h : TchP O w w') (hb : Below w.heap.size w' w'') : TchP O w w'' := ⟨hb.os.trans h.os, hb.tape.trans h.tape, hb.output.trans h.output, Nat.le_trans h.size hb.size, fun k hk hn => (hb.block k hk).trans (h.block k hk hn)⟩
theorem fr_rel0 {base : Nat} {w : World} : relT.Fr base w [.int .i64 0, .slice none 0 0] (0, []) := fr_cons (I64.small (by omega) (by omega)) fr_nil
set_option maxHeartbeats 6400000 in
set_option maxRecDepth 100000 in
theorem l04Hull_any (w : World) {vt v : Value} {t : Tpl} {u : List (List Int)} (h : tplT.Pt w vt t) (hu : rowsT.Rd w [v] u) (hc : huC t u = 0) :
  Calls Tryz.prog 51 #[vt, v] w (RetAC relT w (hlV t u) (hlC t u)) := by
 have HP := Lib.hid h
 have HU := Lib.hid hu
 obtain ⟨hT, hul, hm, hml, hmi⟩ := hu_ok hc
 have HT := Lib.hid hT
 have HML := Lib.hid hml
 have HMI := Lib.hid hmi
 have hs4 := hT.1
 unfold sizeOk at hs4
 have hNb := hulN_bd (u := u) hT hm
 have HN := Lib.hid (hulN_of (u := u) hT)
 have HIN := Lib.hid (cols_in hml hmi)
 obtain ⟨tq, tf, ra, rc, rfl, htq, -, p0, p1, -⟩ := pt_pair h
 obtain ⟨la, lc, hv, -, -, hcell⟩ := slices_ex hu
 obtain rfl : v = _ := by simpa using hv
 have h0 : 0 < u.length := by omega
 obtain ⟨b, o, rfl, hb, hce⟩ := hcell h0
 obtain ⟨ux, hux, hc0⟩ := hce 0 h0
 obtain ⟨a0, k0, rfl⟩ := rd_slice hux
 rw [← huM_at h0, Nat.add_zero] at hc0
 have e0 : ∀ x, (w.alloc x).cell? ⟨b, o, none⟩ = some (.slice a0 (huM u) k0) := fun x => (cellB bA hb).trans hc0
 clear h hu hc hT hml hmi hv hcell hce hux
 go_enter Tryz.func51, Tryz.ntmps51
 go_wp2_with fail
 generalize hW : World.alloc w _ = W
 have hbW : Below w.heap.size w W := hW ▸ bA
 have hsW : w.heap.size + 1 ≤ W.heap.size := by rw [← hW]; simp
 have r0 : W.cell? ⟨w.heap.size, 0, none⟩ = some (.int .i64 0) := by rw [← hW]; simp [go_sem]
 have r1 : W.cell? ⟨w.heap.size, 1, none⟩ = some (.slice none 0 0) := by rw [← hW]; simp [go_sem]
 have q0 : W.frozen? ⟨w.heap.size, 0, none⟩ = false := by rw [← hW]; simp [go_sem]
 have q1 : W.frozen? ⟨w.heap.size, 1, none⟩ = false := by rw [← hW]; simp [go_sem]
 clear hW e0
 refine (l04Lists_any W (HU.out.below hbW) h0 (by omega) HML.out (by omega)).mono ?_
 rintro e w2 ⟨lv, rfl, hlf, hb2⟩
 have HLF := Lib.hid (rdP_lt (fr_rdP hlf))
 have hB2 := bthen hbW hb2
 have hz2 := hb2.size
 replace r0 := (cellB hb2 (by omega)).trans r0
 replace r1 := (cellB hb2 (by omega)).trans r1
 replace q0 := (frozenB hb2 (by omega)).trans q0
 replace q1 := (frozenB hb2 (by omega)).trans q1
 clear hlf
 go_wp2_with fail
 generalize hW3 : World.alloc w2 _ = w3
 have hb3 : Below w2.heap.size w2 w3 := hW3 ▸ bA
 have hB3 := bthen hB2 hb3
 obtain ⟨ob, hob⟩ : ∃ ob, w2.heap.size = ob := ⟨_, rfl⟩
 have hz3 : ob + 1 ≤ w3.heap.size := by rw [← hW3, ← hob]; simp
 have o0 : w3.cell? ⟨ob, 0, none⟩ = some (.int .i64 (huM u : Int)) := by rw [← hW3, ← hob]; simp
 have o1 : w3.cell? ⟨ob, 1, none⟩ = some (.slice none 0 0) := by rw [← hW3, ← hob]; simp
 have n1 : w3.frozen? ⟨ob, 1, none⟩ = false := by rw [← hW3, ← hob]; simp
 replace r0 := (cellB hb3 (by omega)).trans r0
 replace r1 := (cellB hb3 (by omega)).trans r1
 replace q0 := (frozenB hb3 (by omega)).trans q0
 replace q1 := (frozenB hb3 (by omega)).trans q1
 have HL3 := Lib.hid ((HLF.out.below hb3).mono (ok' := fun k => k ≠ ob) (fun k _ hk => by have := hk.2; omega))
 clear hW3 HLF
 rw [hob]
 have hwo : w.heap.size + 1 ≤ ob := by omega
 clear hz2 hsW
 go_loopw [9] (fun i wr => ∃ (k : Nat) (va : Value), k ≤ hulN t u ∧ i = .int .i64 k ∧ (limF t u.length = true → k = 0) ∧ hulB t u k = false ∧ Bl intsT 38 w3.heap.size wr.heap.size wr va (hulR t u k) ∧ wr.cell? ⟨ob, 1, none⟩ = some va ∧ wr.cell? ⟨ob, 0, none⟩ = some (.int .i64 (huM u : Int)) ∧ wr.frozen? ⟨ob, 1, none⟩ = false ∧ TchP (fun k => k = ob) w3 wr) (fun i _ => hulN t u - (intOf i).toNat)
 case atStart => exact ⟨0, _, Nat.zero_le _, rfl, fun _ => rfl, by simp [hulB], by rw [hulR_zero]; exact Bl.nil, o1, o0, n1, TchP.refl _ _⟩
 case round =>
  obtain ⟨k, va, hk, rfl, hlm, hbd, hBv, z1, z0, zn, htc⟩ := hrel
  have HBv := Lib.hid hBv
  have HTC := Lib.hid htc
  have HBD := Lib.hid hbd
  have hzr := htc.size
  have hBr : Below w.heap.size w wr := hB3.trans (htc.below (by omega) (fun q hq e => by omega))
  have c0 := (cellB hBr htq).trans p0
  have x0 := (htc.cell (i := 0) (show w.heap.size < w3.heap.size by omega) (by omega)).trans r0
  have x1 := (htc.cell (i := 1) (show w.heap.size < w3.heap.size by omega) (by omega)).trans r1
  have y0 := (htc.frozen (i := 0) (show w.heap.size < w3.heap.size by omega) (by omega)).trans q0
  have y1 := (htc.frozen (i := 1) (show w.heap.size < w3.heap.size by omega) (by omega)).trans q1
  have hrl := hulR_len (t := t) (u := u) (k := k)
  obtain ⟨av, nv, cv, rfl⟩ := ex_slice (hBv.fr (by unfold capMax; omega))
  have HLV := Lib.hid (HL3.out.tchP htc (fun q _ h e => h e))
  clear hBv htc hbd o0 o1 n1
  obtain ⟨wv, rfl⟩ : ∃ wv : World, wv = wr := ⟨_, rfl⟩
  go_wp2_with fail
  refine (l01Power_any _ t.1 (huM u : Int) (by omega) (by omega) (by omega)).mono ?_
  rintro e _ ⟨rfl, rfl⟩
  rw [Int.toNat_natCast, HN.out]
  by_cases hkl : k < hulN t u
  ·go_wp2_with fail
   refine (l01Digits_any wv t.1 (k : Int) (huM u) (by omega) (by omega) (by omega) (by omega) (by omega)).mono ?_
   rintro e w4 ⟨dv, rfl, hdf, hb4⟩
   obtain ⟨ad, nd, cd, rfl⟩ := ex_slice hdf
   have HD := Lib.hid (show intsT.Fr wv.heap.size w4 [.slice ad nd cd] (hulD t u k) from hdf)
   have hB4 := bthen hBr hb4
   have hz4 := hb4.size
   replace c0 := (cellB hb4 (by omega)).trans c0
   replace x0 := (cellB hb4 (by omega)).trans x0
   replace x1 := (cellB hb4 (by omega)).trans x1
   replace z0 := (cellB hb4 (by omega)).trans z0
   replace z1 := (cellB hb4 (by omega)).trans z1
   replace y0 := (frozenB hb4 (by omega)).trans y0
   replace y1 := (frozenB hb4 (by omega)).trans y1
   replace zn := (frozenB hb4 (by omega)).trans zn
   clear hdf
   go_wp2_with fail
   refine (l04With_any w4 (HP.out.below hB4) (HLV.out.rd.below hb4) HD.out.rd HT.out (ar := (u.length : Int)) (by omega) HIN.out (by rw [colsL_len, hulD_len]) (hulD_in (by omega)) (by rw [colsL_len]; omega)).mono ?_
   rintro e w5 ⟨cs5, rfl, hf5, hb5⟩
   obtain ⟨a5, c5, rfl⟩ := fr_pair hf5
   have hB5 := bthen hB4 hb5
   have hz5 := hb5.size
   replace c0 := (cellB hb5 (by omega)).trans c0
   replace x0 := (cellB hb5 (by omega)).trans x0
   replace x1 := (cellB hb5 (by omega)).trans x1
   replace z0 := (cellB hb5 (by omega)).trans z0
   replace z1 := (cellB hb5 (by omega)).trans z1
   replace y0 := (frozenB hb5 (by omega)).trans y0
   replace y1 := (frozenB hb5 (by omega)).trans y1
   replace zn := (frozenB hb5 (by omega)).trans zn
   have HD5 := Lib.hid (HD.out.below hb5)
   clear hf5 HD
   generalize hV : lwV t (u.length : Int) (colsL u (huM u)) (hulD t u k) = V
   generalize hC : lwC t (u.length : Int) (colsL u (huM u)) (hulD t u k) = C
   have x0' : ∀ q, (w5.alloc q).cell? ⟨w.heap.size, 0, none⟩ = some (.int .i64 0) := fun q => (cellB bA (show w.heap.size < w5.heap.size by omega)).trans x0
   have x1' : ∀ q, (w5.alloc q).cell? ⟨w.heap.size, 1, none⟩ = some (.slice none 0 0) := fun q => (cellB bA (show w.heap.size < w5.heap.size by omega)).trans x1
   have y0' : ∀ q, (w5.alloc q).frozen? ⟨w.heap.size, 0, none⟩ = false := fun q => (frozenB bA (show w.heap.size < w5.heap.size by omega)).trans y0
   have y1' : ∀ q, (w5.alloc q).frozen? ⟨w.heap.size, 1, none⟩ = false := fun q => (frozenB bA (show w.heap.size < w5.heap.size by omega)).trans y1
   have z1' : ∀ q, (w5.alloc q).cell? ⟨ob, 1, none⟩ = some (.slice av nv cv) := fun q => (cellB bA (show ob < w5.heap.size by omega)).trans z1
   clear hV
   cases hl : limF t u.length
   ·have HLM := Lib.hid hl
    have hP : C = phC t (u.length : Int) (colsL u (huM u)) (hulD t u k) := by
     rw [← hC]
     exact (lw_ph (by rw [Int.toNat_natCast]; exact hl)).2
    have hcs := phC_cases t (u.length : Int) (colsL u (huM u)) (hulD t u k)
    rw [← hP] at hcs
    clear hl hC
    rcases hcs with hc | hc | hc | hc
    ·have hyes : hulP t u (hulD t u k) = true := by unfold hulP; rw [← hP, hc]; rfl
     have hnx : hulX t u (hulD t u k) = false := by unfold hulX; rw [← hP, hc]; rfl
     have HYR := Lib.hid (hulR_yes hyes)
     have HNB := Lib.hid (hulB_no HBD.out hnx)
     subst hc
     clear hyes hnx hP
     have hbop : Below wv.heap.size wv w5 := bthen hb4 hb5
     go_wp2_with (at_builtin; go_loud (refine wpList_push (E := intsT) _ rfl _ _ 29 38 rfl elInt64SS rfl (HBv.out.below ((hbop.alloc hbop.size _).alloc (by simp; omega) _) (Nat.le_refl _)) rfl (news1' (by simp)) (HD5.out.below (bthen (bA (w := w5)) bA)) (by omega) (by decide) (by omega) (by first | (simp; done) | (simp; omega)) ?_; intro v6 w6 hB6 hg6 _; obtain ⟨a6, n6, c6, rfl⟩ := ex_slice (hB6.fr (by rw [List.length_append]; unfold capMax; simp only [List.length_singleton]; omega)); have hb6 : Below w3.heap.size w5 w6 := (((Below.refl _ w5).alloc (by omega) _).alloc (by simp; omega) _).grown hg6 (by first | (simp; done) | (simp; omega)) (fun q hq => HBv.out.own hq); have i1 := (cellB hb6 (by omega)).trans z1; have i0 := (cellB hb6 (by omega)).trans z0; have i2 := (frozenB hb6 (by omega)).trans zn))
     have hz6 := hb6.size
     rw [HYR.out] at hB6
     have HB6 := Lib.hid hB6
     clear hB6 hg6
     go_wp2_with fail
     go_roundw
     case rel => exact ⟨k + 1, _, by omega, by go_num, (fun h => by rw [HLM.out] at h; cases h), HNB.out, by rw [size_set]; exact HB6.out.sameB (fun q hq1 hq2 => Below.heap_setCell _ _ _ _ (by simp; omega)), World.cell?_setCell_same _ _ _ i1, (World.cell?_setCell_other _ _ _ _ (by simp)).trans i0, (World.frozen?_setCell _ _ _ _).trans i2, (HTC.out.thenB ((hbop.mono (by omega)).trans hb6)).then (TchP.set (O := fun q => q = ob) rfl) (fun q _ h => h)⟩
     case measure => simp [intOf]; omega
    ·have hno : hulP t u (hulD t u k) = false := by unfold hulP; rw [← hP, hc]; rfl
     have hnx : hulX t u (hulD t u k) = false := by unfold hulX; rw [← hP, hc]; rfl
     have HNR := Lib.hid (hulR_no hno)
     have HNB := Lib.hid (hulB_no HBD.out hnx)
     subst hc
     clear hno hnx hP
     go_wp2_with fail
     generalize hW6 : World.alloc w5 _ = w6
     have hb6 : Below w5.heap.size w5 w6 := hW6 ▸ bA
     have hb46 : Below wv.heap.size wv w6 := bthen (bthen hb4 hb5) hb6
     have hz6 := hb6.size
     replace z0 := (cellB hb6 (by omega)).trans z0
     replace z1 := (cellB hb6 (by omega)).trans z1
     replace zn := (frozenB hb6 (by omega)).trans zn
     clear hW6
     go_wp2_with fail
     go_roundw
     case rel => exact ⟨k + 1, _, by omega, by go_num, (fun h => by rw [HLM.out] at h; cases h), HNB.out, by rw [← HNR.out]; exact (HBv.out.below hb46 (Nat.le_refl _)).mono (by omega), z1, z0, zn, HTC.out.thenB (hb46.mono (by omega))⟩
     case measure => simp [intOf]; omega
    ·have hno : hulP t u (hulD t u k) = false := by unfold hulP; rw [← hP, hc]; rfl
     have hnx : hulX t u (hulD t u k) = false := by unfold hulX; rw [← hP, hc]; rfl
     have HNR := Lib.hid (hulR_no hno)
     have HNB := Lib.hid (hulB_no HBD.out hnx)
     subst hc
     clear hno hnx hP
     go_wp2_with fail
     generalize hW6 : World.alloc w5 _ = w6
     have hb6 : Below w5.heap.size w5 w6 := hW6 ▸ bA
     have hb46 : Below wv.heap.size wv w6 := bthen (bthen hb4 hb5) hb6
     have hz6 := hb6.size
     replace z0 := (cellB hb6 (by omega)).trans z0
     replace z1 := (cellB hb6 (by omega)).trans z1
     replace zn := (frozenB hb6 (by omega)).trans zn
     clear hW6
     go_wp2_with fail
     go_roundw
     case rel => exact ⟨k + 1, _, by omega, by go_num, (fun h => by rw [HLM.out] at h; cases h), HNB.out, by rw [← HNR.out]; exact (HBv.out.below hb46 (Nat.le_refl _)).mono (by omega), z1, z0, zn, HTC.out.thenB (hb46.mono (by omega))⟩
     case measure => simp [intOf]; omega
    ·have hbx : hulB t u (hulN t u) = true := hulB_yes (by unfold hulX; rw [← hP, hc]; rfl) hkl
     subst hc
     clear hP
     have HR := Lib.hid (hl_bad HLM.out hbx)
     have HZ0 := Lib.hid (fun (x y : Value) => res2_0 (x := x) (y := y) (x0' (.cells #[.int .i64 V.1, .slice a5 V.2.length c5] 44)))
     have HZ1 := Lib.hid (fun (x y : Value) => res2_1 (x := x) (y := y) (x1' (.cells #[.int .i64 V.1, .slice a5 V.2.length c5] 44)))
     go_wp2_with fail
     refine bodyPost_ret (v := .tuple #[.agg #[.int .i64 0, .slice none 0 0], .int .i64 7]) (by simp [results, Tryz.results51, go_sem, HZ0.out, HZ1.out]) rfl ⟨[.int .i64 0, .slice none 0 0], by rw [HR.out.1], ?_, res2_b (hB5.alloc (by omega) _) (by omega)⟩
     rw [HR.out.2.1]
     exact fr_rel0
   ·obtain rfl : k = 0 := hlm hl
    have h3 := lw_zero (u := u) hl
    rw [hC] at h3
    subst h3
    clear hC
    have HR := Lib.hid (hl_lim hl)
    have HZ0 := Lib.hid (fun (x y : Value) => res2_0 (x := x) (y := y) (x0' (.cells #[.int .i64 V.1, .slice a5 V.2.length c5] 44)))
    have HZ1 := Lib.hid (fun (x y : Value) => res2_1 (x := x) (y := y) (x1' (.cells #[.int .i64 V.1, .slice a5 V.2.length c5] 44)))
    go_wp2_with fail
    refine bodyPost_ret (v := .tuple #[.agg #[.int .i64 0, .slice none 0 0], .int .i64 3]) (by simp [results, Tryz.results51, go_sem, HZ0.out, HZ1.out]) rfl ⟨[.int .i64 0, .slice none 0 0], by rw [HR.out.1], ?_, res2_b (hB5.alloc (by omega) _) (by omega)⟩
    rw [HR.out.2.1]
    exact fr_rel0
  ·obtain rfl : k = hulN t u := by omega
   have HLM : Hid (limF t u.length = false) := by
    unfold Hid
    cases h : limF t u.length
    ·rfl
    ·have := hlm h; omega
   have HR := Lib.hid (hl_ok HLM.out HBD.out)
   have HFB := Lib.hid (HBv.out.fr (by unfold capMax; omega))
   have HZ0 := Lib.hid (fun (x y : Value) => res2_0 (x := x) (y := y) x0)
   have HZ1 := Lib.hid (fun (x y : Value) => res2_1 (x := x) (y := y) x1)
   have hlw : w.heap.size < wv.heap.size := by omega
   have how : ob < wv.heap.size := by omega
   go_wp2_with fail
   refine bodyPost_ret (v := .tuple #[.agg #[.int .i64 (huM u : Int), .slice av nv cv], .int .i64 0]) (by simp [results, Tryz.results51, go_sem, HZ0.out, HZ1.out]) rfl ⟨[.int .i64 (huM u : Int), .slice av nv cv], by rw [HR.out.1], ?_, res2_b hBr (by omega)⟩
   rw [HR.out.2.1]
   exact (fr_cons (I64.small (by omega) (by omega)) ((HFB.out.set (a := ⟨w.heap.size, 0, none⟩) (show w.heap.size < w3.heap.size by omega)).set (a := ⟨w.heap.size, 1, none⟩) (show w.heap.size < w3.heap.size by omega))).mono (by omega)
end Go.Proofs.YtajmjfbejfiipaaGreat
namespace Go.Proofs.YtajmjfbejfiipaaGreat
open Go.RowKit Go.Sort
/-- a hull, the operations by which its tuples are found, a code -/
def HuR (w : World) (x : Int × List (List Int)) (os : List (Int × List Int)) (c : Int) (e : Ending) (w' : World) : Prop :=
 ∃ (cs : List Value) (u : Value), e = .returned (.tuple #[.agg cs.toArray, u, .int .i64 c]) ∧ relT.Fr w.heap.size w' cs x ∧ opsT.RdP (fun k => w.heap.size ≤ k) w' [u] os ∧ Below w.heap.size w w'
theorem relL_all {s : Int} {m N : Nat} : relL s m (fun _ => true) N = (List.range N).map fun i : Nat => digL s i m := by simp [relL]
theorem fr_on2 {α : Type} {E : Ty α} {O : Nat → Prop} {base : Nat} {w w' : World} {cs : List Value} {x : α} (h : E.Fr base w cs x) (hs : ∀ k, base ≤ k → k < w.heap.size → w'.heap[k]? = w.heap[k]?) (hO : ∀ k, base ≤ k → k < w.heap.size → O k) : (E.on O).Fr base w' cs x := by
 obtain ⟨fp, h1, h2, h3, h4⟩ := h
 have hlt := E.lt h1
 have hS : Same fp w w' := fun k hk => hs k (h3 k hk) (hlt k hk)
 exact ⟨fp, ⟨E.same h1 hS, fun k hk => hO k (h3 k hk) (hlt k hk)⟩, h2, h3, h4.same hS⟩
theorem fr_on2' {α : Type} {E : Ty α} {base : Nat} {w : World} {o : Obj} {cs : List Value} {x : α} (h : E.Fr base w cs x) : E.Fr base (w.alloc o) cs x := h.below bA
theorem hul_same {OB : Nat → Prop} {wv w6 w7 : World} {o1 o2 : Obj} {row : Option Nat} {ob : Nat} {x : Value} (hz : wv.heap.size ≤ w6.heap.size) (hob : ob < wv.heap.size) (hg7 : ((w6.alloc o1).alloc o2).grownBy w7 row) (hOB : ∀ q, OB q → q ≠ ob ∧ q < wv.heap.size) (hrow : ∀ g, row = some g → ¬ OB g ∧ g < wv.heap.size) :
  ∀ q, OB q ∨ (wv.heap.size ≤ q ∧ q < w6.heap.size) → (w7.setCell ⟨ob, 1, none⟩ x).heap[q]? = w6.heap[q]? := fun q hq => by
 have h1 : q ≠ ob ∧ q < w6.heap.size ∧ row ≠ some q := by
  rcases hq with hq | hq
  ·have := hOB q hq
   exact ⟨this.1, by omega, fun e => (hrow q e).1 hq⟩
  ·exact ⟨by omega, hq.2, fun e => by have := (hrow q e).2; omega⟩
 refine (Below.heap_setCell _ _ _ _ (by simpa using h1.1)).trans ((hg7.block q (by simp; omega) (fun e => h1.2.2 e.symm)).trans ((bthen (bA (w := w6)) bA).block q h1.2.1))
theorem hul_own {v v' : Value} {n m top q : Nat} (hv : ∀ g, v.ownBlock = some g → g < n) (h : v'.ownBlock = v.ownBlock ∨ v'.ownBlock = some top) (ht : m ≤ top) (h1 : n ≤ q) (h2 : q < m) : v'.ownBlock ≠ some q := fun e => by
 rcases h with h | h
 ·rw [h] at e; have := hv q e; omega
 ·rw [h] at e; have := Option.some.inj e; omega
theorem frP_tail {α : Type} {E : Ty α} {base : Nat} {w : World} {x : Int} {v : Value} {xs : List α} (h : (Ty.cons (Ty.slice E)).Fr base w [.int .i64 x, v] (x, xs)) : (Ty.slice E).Fr base w [v] xs := by
 obtain ⟨fp, ⟨cs, he, -, hr⟩, h2, h3, h4⟩ := h
 obtain rfl : cs = [v] := by simpa using he.symm
 exact ⟨fp, hr, h2, h3, h4⟩
theorem pick_rows {t : Tpl} {u : List (List Int)} {N k : Nat} (hk : k ≤ N) : ((hulJ t u k).map fun j => (relL t.1 (huM u) (fun _ => true) N).getD j []) = hulR t u k := by
 unfold hulR
 refine List.map_congr_left fun j hj => ?_
 have hl := hulJ_lt hj
 rw [relL_all, List.getD_eq_getElem?_getD, List.getElem?_map, List.getElem?_range (by omega)]
 rfl
theorem fieldRel1 (w : World) (n : Int) (ad : Option Addr) (m c : Nat) : (Instr.field 32 (.agg #[.int .i64 n, .slice ad m c]) 1).run Tryz.prog w = .ok (.slice ad m c) w := by kernel_rfl
theorem elOp2 : ElT Tryz.prog 39 44 2 32 := .mk (z := .agg #[.int .i64 0, .slice none 0 0]) Tryz.underlying39 (by kernel_rfl) rfl (by decide)
set_option maxHeartbeats 6400000 in
set_option maxRecDepth 100000 in
theorem hullOf_any (w : World) {cs : Array Value} {v : Value} {t : Tpl} {u : List (List Int)} (h : tplT.Rd w cs.toList t) (hu : rowsT.Rd w [v] u) (hc : huC t u = 0) :
  Calls Tryz.prog 49 #[.agg cs, v] w (HuR w (hlV t u) (hlO t u) (hlC t u)) := by
 have HP := Lib.hid h
 have HU := Lib.hid hu
 obtain ⟨hT, hul, hm, hml, hmi⟩ := hu_ok hc
 have HT := Lib.hid hT
 have HML := Lib.hid hml
 have HMI := Lib.hid hmi
 have hs4 := hT.1
 unfold sizeOk at hs4
 have hNb := hulN_bd (u := u) hT hm
 have HN := Lib.hid (hulN_of (u := u) hT)
 have HIN := Lib.hid (cols_in hml hmi)
 obtain ⟨v1, hv1, -, -⟩ := pair_ex h
 obtain rfl := agg_of hv1
 obtain ⟨la, lc, hv, -, -, hcell⟩ := slices_ex hu
 obtain rfl : v = _ := by simpa using hv
 have h0 : 0 < u.length := by omega
 obtain ⟨b, o, rfl, hb, hce⟩ := hcell h0
 obtain ⟨ux, hux, hc0⟩ := hce 0 h0
 obtain ⟨a0, k0, rfl⟩ := rd_slice hux
 rw [← huM_at h0, Nat.add_zero] at hc0
 clear h hu hc hT hml hmi hv hcell hce hux hv1
 go_enter Tryz.func49, Tryz.ntmps49
 go_wp2_with fail
 generalize hW : World.alloc (World.alloc w _) _ = W
 have hbW : Below w.heap.size w W := hW ▸ bAA
 have hsW : w.heap.size + 2 ≤ W.heap.size := by rw [← hW]; simp
 have t0 : W.cell? ⟨w.heap.size, 0, none⟩ = some (.int .i64 t.1) := by rw [← hW]; simp [go_sem]
 have t1 : W.cell? ⟨w.heap.size, 1, none⟩ = some v1 := by rw [← hW]; simp [go_sem]
 have r0 : W.cell? ⟨w.heap.size + 1, 0, none⟩ = some (.int .i64 0) := by rw [← hW]; simp [go_sem]
 have r1 : W.cell? ⟨w.heap.size + 1, 1, none⟩ = some (.slice none 0 0) := by rw [← hW]; simp [go_sem]
 have q0 : W.frozen? ⟨w.heap.size + 1, 0, none⟩ = false := by rw [← hW]; simp [go_sem]
 have q1 : W.frozen? ⟨w.heap.size + 1, 1, none⟩ = false := by rw [← hW]; simp [go_sem]
 clear hW
 refine (manyLooks_any _ (HP.out.below hbW) HT.out (ar := (u.length : Int)) (by omega)).mono ?_
 rintro e w2 ⟨rfl, hb2⟩
 have hB2 := bthen hbW hb2
 have hz2 := hb2.size
 replace t0 := (cellB hb2 (by omega)).trans t0
 replace t1 := (cellB hb2 (by omega)).trans t1
 replace r0 := (cellB hb2 (by omega)).trans r0
 replace r1 := (cellB hb2 (by omega)).trans r1
 replace q0 := (frozenB hb2 (by omega)).trans q0
 replace q1 := (frozenB hb2 (by omega)).trans q1
 have c0 := (cellB hB2 hb).trans hc0
 have hl2 : w.heap.size + 1 < w2.heap.size := by omega
 rw [Int.toNat_natCast]
 have HLM : Hid (decide (4000 < sumL (minP u.length) t.2) = limF t u.length) := lim_min
 generalize sumL (minP u.length) t.2 = S at *
 cases hlm : decide (4000 < S)
 rotate_left
 ·have HR := Lib.hid (hl_lim (u := u) (by rw [← HLM.out]; exact hlm))
  have HZ0 := Lib.hid (fun (x y : Value) => res2_0 (x := x) (y := y) r0)
  have HZ1 := Lib.hid (fun (x y : Value) => res2_1 (x := x) (y := y) r1)
  clear c0
  go_wp2_with fail
  refine bodyPost_ret (v := .tuple #[.agg #[.int .i64 0, .slice none 0 0], .slice none 0 0, .int .i64 3]) (by simp [results, Tryz.results49, go_sem, HZ0.out, HZ1.out]) rfl ⟨[.int .i64 0, .slice none 0 0], .slice none 0 0, by rw [HR.out.1], ?_, ?_, res2_b hB2 (by omega)⟩
  ·rw [HR.out.2.1]; exact fr_rel0
  ·rw [HR.out.2.2]; exact fr_rdP fr_nil
 have HLF : Hid (limF t u.length = false) := by unfold Hid; rw [← HLM.out]; exact hlm
 clear HLM
 have e0 : ∀ x, (w2.alloc x).cell? ⟨b, o, none⟩ = some (.slice a0 (huM u) k0) := fun x => (cellB bA (by omega)).trans c0
 go_wp2_with fail
 clear hlm e0
 generalize hW3 : World.alloc (World.alloc w2 _) _ = w3
 have hb3 : Below w2.heap.size w2 w3 := hW3 ▸ bAA
 have hB3 := bthen hB2 hb3
 obtain ⟨ob, hob⟩ : ∃ ob, w2.heap.size = ob := ⟨_, rfl⟩
 have hz3 : ob + 2 ≤ w3.heap.size := by rw [← hW3, ← hob]; simp
 have o0 : w3.cell? ⟨ob, 0, none⟩ = some (.int .i64 (huM u : Int)) := by rw [← hW3, ← hob]; simp [go_sem]
 have o1 : w3.cell? ⟨ob, 1, none⟩ = some (.slice none 0 0) := by rw [← hW3, ← hob]; simp [go_sem]
 have n1 : w3.frozen? ⟨ob, 1, none⟩ = false := by rw [← hW3, ← hob]; simp [go_sem]
 have HB0 : Hid (∀ O, Bl (opT.on O) 44 (ob + 1) w3.heap.size w3 (.slice (some ⟨ob + 1, 0, none⟩) 0 0) []) := fun O => by
  have h := Bl.lit0 (E := opT.on O) (e := 44) (base := ob + 1) (w := w2.alloc (.cells #[.int .i64 (huM u : Int), .slice none 0 0] 32)) (by simp; omega)
  rw [hW3] at h
  have e1 : (w2.alloc (.cells #[.int .i64 (huM u : Int), .slice none 0 0] 32)).heap.size = ob + 1 := by simp [hob]
  rw [e1] at h
  exact h.mono (by omega)
 replace t0 := (cellB hb3 (by omega)).trans t0
 replace t1 := (cellB hb3 (by omega)).trans t1
 replace r0 := (cellB hb3 (by omega)).trans r0
 replace r1 := (cellB hb3 (by omega)).trans r1
 replace q0 := (frozenB hb3 (by omega)).trans q0
 replace q1 := (frozenB hb3 (by omega)).trans q1
 clear hW3 c0
 rw [hob]
 have hwo : w.heap.size + 2 ≤ ob := by omega
 clear hz2 hsW hb2 hb3 hob hl2
 refine (columns_any w3 (HU.out.below hB3) h0 (by omega) HML.out (by omega)).mono ?_
 rintro e w4 ⟨lv, rfl, hlf, hb4⟩
 have HLF := Lib.hid (fr_rdP hlf)
 have hB4 := bthen hB3 hb4
 have hz4 := hb4.size
 replace t0 := (cellB hb4 (by omega)).trans t0
 replace t1 := (cellB hb4 (by omega)).trans t1
 replace r0 := (cellB hb4 (by omega)).trans r0
 replace r1 := (cellB hb4 (by omega)).trans r1
 replace o0 := (cellB hb4 (by omega)).trans o0
 replace o1 := (cellB hb4 (by omega)).trans o1
 replace q0 := (frozenB hb4 (by omega)).trans q0
 replace q1 := (frozenB hb4 (by omega)).trans q1
 replace n1 := (frozenB hb4 (by omega)).trans n1
 have HB4 : Hid (∀ O, Bl (opT.on O) 44 (ob + 1) w4.heap.size w4 (.slice (some ⟨ob + 1, 0, none⟩) 0 0) []) := fun O => ((HB0.out O).below hb4 (Nat.le_refl _)).mono hz4
 clear hlf HB0
 go_wp2_with fail
 refine (fullRel_any w4 t.1 (huM u) (by omega) (by omega) (hulN t u) HN.out).mono ?_
 rintro e w5 ⟨cs5, rfl, hf5, hb5⟩
 obtain ⟨ad5, cap5, rfl⟩ := fr_pair hf5
 have hfr := frP_tail hf5
 obtain ⟨VS, hVl, hVg, ⟨ad, cap, hvu, hVc⟩, hpk⟩ := fr_pick hfr
 simp only [Value.slice.injEq, true_and] at hvu
 obtain ⟨rfl, rfl⟩ := hvu
 have hrl : (relL t.1 (huM u) (fun _ => true) (hulN t u)).length = hulN t u := by rw [relL_all]; simp
 rw [hrl] at hVl hVc hpk ⊢
 have HPK := Lib.hid hpk
 have HVG := Lib.hid hVg
 obtain ⟨rb, ro, rfl, hrb, hrbl, hrc⟩ := hVc (by omega)
 have HRC := Lib.hid hrc
 have hB5 := bthen hB4 hb5
 have hz5 := hb5.size
 replace t0 := (cellB hb5 (by omega)).trans t0
 replace t1 := (cellB hb5 (by omega)).trans t1
 replace r0 := (cellB hb5 (by omega)).trans r0
 replace r1 := (cellB hb5 (by omega)).trans r1
 replace o0 := (cellB hb5 (by omega)).trans o0
 replace o1 := (cellB hb5 (by omega)).trans o1
 replace q0 := (frozenB hb5 (by omega)).trans q0
 replace q1 := (frozenB hb5 (by omega)).trans q1
 replace n1 := (frozenB hb5 (by omega)).trans n1
 have HB5 : Hid (∀ O, Bl (opT.on O) 44 (ob + 1) w5.heap.size w5 (.slice (some ⟨ob + 1, 0, none⟩) 0 0) []) := fun O => ((HB4.out O).below hb5 (Nat.le_refl _)).mono hz5
 have HL5 := Lib.hid (HLF.out.below hb5)
 have hfld := fieldRel1
 clear hf5 hfr hpk hVg hVc hrc HB4 HLF hrl
 go_wp2_with fail
 clear hfld
 go_loopw [37, 9] (fun i vb wr => ∃ (k : Nat) (va : Value) (OB : Nat → Prop), k ≤ hulN t u ∧ i = .int .i64 k ∧ hulB t u k = false ∧ Bl Ty.val 38 w5.heap.size wr.heap.size wr va ((hulJ t u k).map fun j => VS.getD j undef) ∧ wr.cell? ⟨ob, 1, none⟩ = some va ∧ wr.cell? ⟨ob, 0, none⟩ = some (.int .i64 (huM u : Int)) ∧ wr.frozen? ⟨ob, 1, none⟩ = false ∧ Bl (opT.on OB) 44 (ob + 1) wr.heap.size wr vb (hulO t u k) ∧ (∀ q, OB q → (q = ob + 1 ∨ w5.heap.size ≤ q) ∧ q < wr.heap.size) ∧ (∀ g, vb.ownBlock = some g → OB g) ∧ (∀ g, va.ownBlock = some g → ¬ OB g) ∧ TchP (fun q => q = ob ∨ q = ob + 1) w5 wr) (fun i _ _ => hulN t u - (intOf i).toNat)
 case atStart => exact ⟨0, _, fun q => q = ob + 1, Nat.zero_le _, rfl, by simp [hulB], by rw [hulJ_zero]; exact Bl.nil, o1, o0, n1, by rw [hulO_zero]; exact HB5.out _, fun q hq => by omega, fun g hg => by simpa [Value.ownBlock] using hg.symm, fun g hg => by simp [Value.ownBlock] at hg, TchP.refl _ _⟩
 case round =>
  obtain ⟨k, va, OB, hk, rfl, hbd, hBa, z1, z0, zn, hBb, hOB, hOO, hOA, htc⟩ := hrel
  have HBA := Lib.hid hBa
  have HBB := Lib.hid hBb
  have HOB := Lib.hid hOB
  have HOO := Lib.hid hOO
  have HOA := Lib.hid hOA
  have HTC := Lib.hid htc
  have HBD := Lib.hid hbd
  have hzr := htc.size
  have hBr : Below w.heap.size w wr := hB5.trans (htc.below (by omega) (fun q hq e => by omega))
  have s0 := (htc.cell (i := 0) (show w.heap.size < w5.heap.size by omega) (by omega)).trans t0
  have s1 := (htc.cell (i := 1) (show w.heap.size < w5.heap.size by omega) (by omega)).trans t1
  have x0 := (htc.cell (i := 0) (show w.heap.size + 1 < w5.heap.size by omega) (by omega)).trans r0
  have x1 := (htc.cell (i := 1) (show w.heap.size + 1 < w5.heap.size by omega) (by omega)).trans r1
  have y0 := (htc.frozen (i := 0) (show w.heap.size + 1 < w5.heap.size by omega) (by omega)).trans q0
  have y1 := (htc.frozen (i := 1) (show w.heap.size + 1 < w5.heap.size by omega) (by omega)).trans q1
  have hjl := hulJ_len (t := t) (u := u) (k := k)
  have hol := hulO_len (t := t) (u := u) (k := k)
  obtain ⟨av, nv, cv, rfl⟩ := ex_slice (hBa.fr (by rw [List.length_map]; unfold capMax; omega))
  obtain ⟨bv, nbv, cbv, rfl⟩ := ex_slice (hBb.fr (by unfold capMax; omega))
  have HLV := Lib.hid (HL5.out.tchP htc (fun q _ h e => by omega))
  obtain ⟨wv, rfl⟩ : ∃ wv : World, wv = wr := ⟨_, rfl⟩
  clear hBa hBb hOB hOO hOA htc hbd o0 o1 n1
  by_cases hkl : k < hulN t u
  ·have hkv : k < VS.length := by omega
   obtain ⟨⟨ak, ck, hve⟩, hvr⟩ := HVG.out k hkv (by rw [relL_all]; simpa using hkl)
   have hrk : (relL t.1 (huM u) (fun _ => true) (hulN t u))[k]'(by rw [relL_all]; simpa using hkl) = hulD t u k := by simp [relL_all, hulD]
   rw [hrk] at hve hvr
   have dk := HRC.out k hkv
   have hvd : VS.getD k undef = VS[k] := by simp [List.getD_eq_getElem?_getD, hkv]
   rw [hve] at hvr dk hvd
   rw [hulD_len] at hve hvr dk hvd
   have HVR := Lib.hid ((hvr.tchP HTC.out (fun q _ h e => by omega)).rd)
   replace dk := (HTC.out.cell (show rb < w5.heap.size by omega) (by omega)).trans dk
   have HVD := Lib.hid hvd
   clear hve hvr hrk hvd
   go_wp2_with fail
   refine (polymorphismWith_any wv (HP.out.below hBr) HLV.out.rd HVR.out HT.out (ar := (u.length : Int)) (by omega) (by rw [Int.toNat_natCast]; exact HLF.out) HIN.out (by rw [colsL_len, hulD_len]) (hulD_in (by omega)) (by rw [colsL_len]; omega)).mono ?_
   rintro e w6 ⟨cs6, rfl, hf6, hb6⟩
   obtain ⟨a6, c6, rfl⟩ := fr_pair hf6
   have HF6 := Lib.hid hf6
   have hB6 := bthen hBr hb6
   have hz6 := hb6.size
   generalize hV : phV t (u.length : Int) (colsL u (huM u)) (hulD t u k) = V at *
   have HVE := Lib.hid hV
   clear hf6 dk hV
   rcases phC_cases t (u.length : Int) (colsL u (huM u)) (hulD t u k) with hc | hc | hc | hc
   ·have hyes : hulP t u (hulD t u k) = true := by unfold hulP; rw [hc]; rfl
    have hnx : hulX t u (hulD t u k) = false := by unfold hulX; rw [hc]; rfl
    have HYR := Lib.hid (hulJ_yes hyes)
    have HYO := Lib.hid (hulO_yes hyes)
    rw [HVE.out] at HYO
    have HNB := Lib.hid (hulB_no HBD.out hnx)
    rw [hc]
    clear hyes hnx hc
    have z0' : ∀ q, (w6.alloc q).cell? ⟨ob, 0, none⟩ = some (.int .i64 (huM u : Int)) := fun q => (cellB (bthen hb6 bA) (show ob < wv.heap.size by omega)).trans z0
    have z1' : ∀ q, (w6.alloc q).cell? ⟨ob, 1, none⟩ = some (.slice av nv cv) := fun q => (cellB (bthen hb6 bA) (show ob < wv.heap.size by omega)).trans z1
    have hlj : ((hulJ t u k).map fun j => VS.getD j undef).length ≤ 256 := by rw [List.length_map]; omega
    go_wp2_with (first | (refine wpList_push (E := Ty.val) _ rfl _ _ 29 38 rfl elInt64SS rfl (HBA.out.below ((hb6.alloc hb6.size _).alloc (by simp; omega) _) (Nat.le_refl _)) rfl (news1' (by simp)) (fr_val rfl) (by omega) (by decide) (by omega) (by first | (simp; done) | (simp; omega)) ?_; intro v7 w7 hA7 hg7 hown7; obtain ⟨a7, n7, c7, rfl⟩ := ex_slice (hA7.fr (by rw [List.length_append]; unfold capMax; simp only [List.length_singleton]; omega)); have hb7 : Below w5.heap.size w6 w7 := (((Below.refl _ w6).alloc (by omega) _).alloc (by simp; omega) _).grown hg7 (by first | (simp; done) | (simp; omega)) (fun q hq => HBA.out.own hq); have i1 := (cellB hb7 (show ob < w5.heap.size by omega)).trans ((cellB hb6 (show ob < wv.heap.size by omega)).trans z1); have i0 := (cellB hb7 (show ob < w5.heap.size by omega)).trans ((cellB hb6 (show ob < wv.heap.size by omega)).trans z0); have i2 := (frozenB hb7 (show ob < w5.heap.size by omega)).trans ((frozenB hb6 (show ob < wv.heap.size by omega)).trans zn); have j0 : w7.cell? ⟨w6.heap.size, 0, none⟩ = some (.int .i64 V.1) := (grown_cell' (i := 0) hg7 (show w6.heap.size < _ by first | (simp; done) | (simp; omega)) (fun e => by have := HBA.out.lt_top e; omega)).trans (by simp [go_sem]); have j1 : w7.cell? ⟨w6.heap.size, 1, none⟩ = some (.slice a6 V.2.length c6) := (grown_cell' (i := 1) hg7 (show w6.heap.size < _ by first | (simp; done) | (simp; omega)) (fun e => by have := HBA.out.lt_top e; omega)).trans (by simp [go_sem]); have hs8 := hul_same (OB := OB) (ob := ob) (x := .slice a7 n7 c7) hz6 (show ob < wv.heap.size by omega) hg7 (fun q hq => ⟨by have := (HOB.out q hq).1; omega, (HOB.out q hq).2⟩) (fun g hg => ⟨HOA.out g hg, HBA.out.lt_top hg⟩); have hB8 : Bl (opT.on OB) 44 (ob + 1) wv.heap.size (w7.setCell ⟨ob, 1, none⟩ (.slice a7 n7 c7)) (.slice bv nbv cbv) (hulO t u k) := on_same HBB.out HOO.out (fun q _ hq => (hs8 q (.inl hq)).trans (hb6.block q (HOB.out q hq).2)); have hF8 : (opT.on fun q => OB q ∨ (wv.heap.size ≤ q ∧ (Value.slice a7 n7 c7).ownBlock ≠ some q)).Fr wv.heap.size (w7.setCell ⟨ob, 1, none⟩ (.slice a7 n7 c7)) [.int .i64 V.1, .slice a6 V.2.length c6] V := fr_on2 HF6.out (fun q h1 h2 => hs8 q (.inr ⟨h1, h2⟩)) (fun q h1 h2 => .inr ⟨h1, hul_own (fun g hg => HBA.out.lt_top hg) hown7 (by first | (simp; done) | (simp; omega)) h1 h2⟩); have HB8 := Lib.hid hB8; have HF8 := Lib.hid hF8; have HS8 := Lib.hid hs8; have HA7 := Lib.hid hA7; have HG7 := Lib.hid hg7; have HW7 := Lib.hid hown7; clear hB8 hF8 hs8 hA7 hg7 hown7) | (refine wpList_push (E := opT.on fun q => OB q ∨ (wv.heap.size ≤ q ∧ (Value.slice a7 n7 c7).ownBlock ≠ some q)) _ rfl _ _ 39 44 rfl elOp2 rfl (((on_mono HB8.out (fun q hq => .inl hq)).sameB (fun q _ hq => bA.block q (by simp [World.setCell]; have := hb7.size; omega)))) rfl (news2' (by simp)) (fr_on2' HF8.out) (by omega) (by decide) (by omega) (by simp [World.setCell]; have := hb7.size; omega) ?_; intro v9 w9 hB9 hg9 hown9))
    have hz7 := hb7.size
    have hB9s := hB9.below (Below.refl w9.heap.size w9) (Nat.le_refl _)
    have hz9 : w7.heap.size < w9.heap.size := by have := hg9.size; simp [World.setCell] at this; omega
    have hoB : ∀ g, (Value.slice bv nbv cbv).ownBlock = some g → (g = ob + 1 ∨ w5.heap.size ≤ g) ∧ g < wv.heap.size ∧ OB g := fun g hg => ⟨(HOB.out g (HOO.out g hg)).1, (HOB.out g (HOO.out g hg)).2, HOO.out g hg⟩
    have hwo9 : v9.ownBlock = (Value.slice bv nbv cbv).ownBlock ∨ v9.ownBlock = some (w7.heap.size + 1) := by
     rcases hown9 with h | h
     ·exact .inl h
     ·exact .inr (by rw [h]; simp [World.setCell])
    have h79 : ∀ q, q < w7.heap.size → q ≠ ob → (Value.slice bv nbv cbv).ownBlock ≠ some q → w9.heap[q]? = w7.heap[q]? := fun q h1 h2 h3 => by
     refine (hg9.block q (by simp [World.setCell]; omega) (fun e => h3 e.symm)).trans (((bA (w := w7.setCell ⟨ob, 1, none⟩ (.slice a7 n7 c7))).block q (by simpa [World.setCell] using h1)).trans (Below.heap_setCell _ _ _ _ (by simpa using h2)))
    have hX : TchP (fun q => q = ob ∨ (Value.slice av nv cv).ownBlock = some q ∨ (Value.slice bv nbv cbv).ownBlock = some q) wv w9 := by
     refine TchP.then (O' := fun q => q = ob ∨ (Value.slice av nv cv).ownBlock = some q ∨ (Value.slice bv nbv cbv).ownBlock = some q) ?_ (TchP.grown hg9 (fun q hq => .inr (.inr hq))) (fun q _ h => h)
     refine TchP.then ?_ (TchP.of_below bA (fun q => q = ob)) (fun q _ h => .inl h)
     refine TchP.then ?_ (TchP.set (O := fun q => q = ob) rfl) (fun q _ h => .inl h)
     refine TchP.then ?_ (TchP.grown (O := fun q => (Value.slice av nv cv).ownBlock = some q) HG7.out (fun q hq => hq)) (fun q _ h => .inr (.inl h))
     exact TchP.of_below (bthen hb6 (bthen (bA (w := w6)) bA)) _
    have h59 : TchP (fun q => q = ob ∨ q = ob + 1) w5 w9 := HTC.out.then hX (fun q hq h => by
     rcases h with h | h | h
     ·exact .inl h
     ·have := HBA.out.own h; omega
     ·rcases (hoB q h).1 with h | h
      ·exact .inr h
      ·omega)
    have hcl : ∀ i, w9.cell? ⟨ob, i, none⟩ = (w7.setCell ⟨ob, 1, none⟩ (.slice a7 n7 c7)).cell? ⟨ob, i, none⟩ := fun i => (grown_cell' (i := i) hg9 (show ob < _ by simp [World.setCell]; omega) (fun e => by have := (hoB ob e).1; omega)).trans (cellB bA (show ob < _ by simp [World.setCell]; omega))
    have hA9 : Bl Ty.val 38 w5.heap.size w9.heap.size w9 (.slice a7 n7 c7) ((hulJ t u (k + 1)).map fun j => VS.getD j undef) := by
     have h := HA7.out
     rw [← HVD.out] at h
     have e : ((hulJ t u k).map fun j => VS.getD j undef) ++ [VS.getD k undef] = (hulJ t u (k + 1)).map fun j => VS.getD j undef := by rw [← HYR.out, List.map_append]; rfl
     rw [e] at h
     exact bl_val_same h (fun g hg => h79 g (h.lt_top hg) (by have := h.own hg; omega) (fun e => by
      have h1 := hoB g e
      rcases HW7.out with h2 | h2
      ·rw [h2] at hg; exact HOA.out g hg h1.2.2
      ·rw [h2] at hg; have := Option.some.inj hg; simp at this; omega)) (by omega)
    rw [HYO.out] at hB9
    have HB9 := Lib.hid (on_lt hB9)
    have HA9 := Lib.hid hA9
    have H59 := Lib.hid h59
    have k1 := (hcl 1).trans (World.cell?_setCell_same _ _ _ i1)
    have k0 := (hcl 0).trans ((World.cell?_setCell_other _ _ _ _ (by simp)).trans i0)
    have kn : w9.frozen? ⟨ob, 1, none⟩ = false := (World.frozen?_of_block (a := ⟨ob, 1, none⟩) (hg9.block ob (by simp [World.setCell]; omega) (fun e => by have := (hoB ob e.symm).1; omega))).trans ((frozenB bA (show ob < _ by simp [World.setCell]; omega)).trans ((World.frozen?_setCell _ _ _ _).trans i2))
    have HO9 : Hid (∀ g, v9.ownBlock = some g → (OB g ∨ (wv.heap.size ≤ g ∧ (Value.slice a7 n7 c7).ownBlock ≠ some g)) ∧ g < w9.heap.size) := fun g hg => by
     refine ⟨?_, hB9.lt_top hg⟩
     rcases hwo9 with h | h
     ·rw [h] at hg; exact .inl (hoB g hg).2.2
     ·rw [h] at hg
      obtain rfl := Option.some.inj hg
      exact .inr ⟨by omega, fun e => by have := HA7.out.lt_top e; omega⟩
    have HA0 : Hid (∀ g, (Value.slice a7 n7 c7).ownBlock = some g → ¬ ((OB g ∨ (wv.heap.size ≤ g ∧ (Value.slice a7 n7 c7).ownBlock ≠ some g)) ∧ g < w9.heap.size)) := fun g hg hh => by
     rcases hh.1 with h | h
     ·rcases HW7.out with h2 | h2
      ·rw [h2] at hg; exact HOA.out g hg h
      ·rw [h2] at hg
       have h3 := Option.some.inj hg
       have h4 := (HOB.out g h).2
       simp at h3; omega
     ·exact h.2 hg
    clear hB9 hB9s hg9 hown9 hwo9 h79 h59 hcl hA9 i0 i1 i2 j0 j1
    go_roundw
    case rel => exact ⟨k + 1, _, _, by omega, by go_num, HNB.out, HA9.out, k1, k0, kn, HB9.out, fun q hq => ⟨hq.1.elim (fun h => (HOB.out q h).1) (fun h => .inr (by omega)), hq.2⟩, HO9.out, HA0.out, H59.out⟩
    case measure => simp [intOf]; omega
   ·have hno : hulP t u (hulD t u k) = false := by unfold hulP; rw [hc]; rfl
    have hnx : hulX t u (hulD t u k) = false := by unfold hulX; rw [hc]; rfl
    have HNR := Lib.hid (hulJ_no hno)
    have HNO := Lib.hid (hulO_no hno)
    have HNB := Lib.hid (hulB_no HBD.out hnx)
    rw [hc]
    clear hno hnx hc
    go_wp2_with fail
    generalize hW7 : World.alloc w6 _ = w7
    have hb7 : Below w6.heap.size w6 w7 := hW7 ▸ bA
    have hb67 : Below wv.heap.size wv w7 := bthen hb6 hb7
    have hz7 := hb67.size
    replace z0 := (cellB hb67 (by omega)).trans z0
    replace z1 := (cellB hb67 (by omega)).trans z1
    replace zn := (frozenB hb67 (by omega)).trans zn
    clear hW7
    go_roundw
    case rel => exact ⟨k + 1, _, OB, by omega, by go_num, HNB.out, by rw [← HNR.out]; exact (HBA.out.below hb67 (Nat.le_refl _)).mono (by omega), z1, z0, zn, by rw [← HNO.out]; exact (HBB.out.below hb67 (Nat.le_refl _)).mono (by omega), fun q hq => ⟨(HOB.out q hq).1, by have := (HOB.out q hq).2; omega⟩, HOO.out, HOA.out, HTC.out.then (TchP.of_below hb67 (fun q => q = ob ∨ q = ob + 1)) (fun q _ h => h)⟩
    case measure => simp [intOf]; omega
   ·have hno : hulP t u (hulD t u k) = false := by unfold hulP; rw [hc]; rfl
    have hnx : hulX t u (hulD t u k) = false := by unfold hulX; rw [hc]; rfl
    have HNR := Lib.hid (hulJ_no hno)
    have HNO := Lib.hid (hulO_no hno)
    have HNB := Lib.hid (hulB_no HBD.out hnx)
    rw [hc]
    clear hno hnx hc
    go_wp2_with fail
    generalize hW7 : World.alloc w6 _ = w7
    have hb7 : Below w6.heap.size w6 w7 := hW7 ▸ bA
    have hb67 : Below wv.heap.size wv w7 := bthen hb6 hb7
    have hz7 := hb67.size
    replace z0 := (cellB hb67 (by omega)).trans z0
    replace z1 := (cellB hb67 (by omega)).trans z1
    replace zn := (frozenB hb67 (by omega)).trans zn
    clear hW7
    go_roundw
    case rel => exact ⟨k + 1, _, OB, by omega, by go_num, HNB.out, by rw [← HNR.out]; exact (HBA.out.below hb67 (Nat.le_refl _)).mono (by omega), z1, z0, zn, by rw [← HNO.out]; exact (HBB.out.below hb67 (Nat.le_refl _)).mono (by omega), fun q hq => ⟨(HOB.out q hq).1, by have := (HOB.out q hq).2; omega⟩, HOO.out, HOA.out, HTC.out.then (TchP.of_below hb67 (fun q => q = ob ∨ q = ob + 1)) (fun q _ h => h)⟩
    case measure => simp [intOf]; omega
   ·have hbx : hulB t u (hulN t u) = true := hulB_yes (by unfold hulX; rw [hc]; rfl) hkl
    have HR := Lib.hid (hl_bad HLF.out hbx)
    rw [hc]
    replace x0 := (cellB hb6 (by omega)).trans x0
    replace x1 := (cellB hb6 (by omega)).trans x1
    replace y0 := (frozenB hb6 (by omega)).trans y0
    replace y1 := (frozenB hb6 (by omega)).trans y1
    have x0' : ∀ q, (w6.alloc q).cell? ⟨w.heap.size + 1, 0, none⟩ = some (.int .i64 0) := fun q => (cellB bA (show w.heap.size + 1 < w6.heap.size by omega)).trans x0
    have x1' : ∀ q, (w6.alloc q).cell? ⟨w.heap.size + 1, 1, none⟩ = some (.slice none 0 0) := fun q => (cellB bA (show w.heap.size + 1 < w6.heap.size by omega)).trans x1
    have y0' : ∀ q, (w6.alloc q).frozen? ⟨w.heap.size + 1, 0, none⟩ = false := fun q => (frozenB bA (show w.heap.size + 1 < w6.heap.size by omega)).trans y0
    have y1' : ∀ q, (w6.alloc q).frozen? ⟨w.heap.size + 1, 1, none⟩ = false := fun q => (frozenB bA (show w.heap.size + 1 < w6.heap.size by omega)).trans y1
    have HZ0 := Lib.hid (fun (x y : Value) => res2_0 (x := x) (y := y) (x0' (.cells #[.int .i64 V.1, .slice a6 V.2.length c6] 44)))
    have HZ1 := Lib.hid (fun (x y : Value) => res2_1 (x := x) (y := y) (x1' (.cells #[.int .i64 V.1, .slice a6 V.2.length c6] 44)))
    clear hc hbx
    go_wp2_with fail
    refine bodyPost_ret (v := .tuple #[.agg #[.int .i64 0, .slice none 0 0], .slice none 0 0, .int .i64 7]) (by simp [results, Tryz.results49, go_sem, HZ0.out, HZ1.out]) rfl ⟨[.int .i64 0, .slice none 0 0], .slice none 0 0, by rw [HR.out.1], ?_, ?_, res2_b (hB6.alloc (by omega) _) (by omega)⟩
    ·rw [HR.out.2.1]; exact fr_rel0
    ·rw [HR.out.2.2]; exact fr_rdP fr_nil
  ·obtain rfl : k = hulN t u := by omega
   have HR := Lib.hid (hl_ok HLF.out HBD.out)
   have HZ0 := Lib.hid (fun (x y : Value) => res2_0 (x := x) (y := y) x0)
   have HZ1 := Lib.hid (fun (x y : Value) => res2_1 (x := x) (y := y) x1)
   have hlw : w.heap.size + 1 < wv.heap.size := by omega
   have how : ob < wv.heap.size := by omega
   go_wp2_with fail
   have HFA := Lib.hid (HBA.out.fr (by rw [List.length_map]; unfold capMax; omega))
   have HRO := Lib.hid (on_fr (HBB.out.fr (by unfold capMax; omega)))
   refine bodyPost_ret (v := .tuple #[.agg #[.int .i64 (huM u : Int), .slice av nv cv], .slice bv nbv cbv, .int .i64 0]) (by simp [results, Tryz.results49, go_sem, HZ0.out, HZ1.out]) rfl ⟨[.int .i64 (huM u : Int), .slice av nv cv], .slice bv nbv cbv, by rw [HR.out.1], ?_, ?_, res2_b hBr (by omega)⟩
   ·rw [HR.out.2.1]
    have hp := HPK.out ((wv.setCell ⟨w.heap.size + 1, 0, none⟩ (.int .i64 (huM u : Int))).setCell ⟨w.heap.size + 1, 1, none⟩ (.slice av nv cv)) (.slice av nv cv) (hulJ t u (hulN t u)) hulJ_nodup (fun j hj => hulJ_lt hj) (fun q hq1 hq2 => ((Below.heap_setCell _ _ _ _ (by simp; omega)).trans (Below.heap_setCell _ _ _ _ (by simp; omega))).trans (HTC.out.block q hq2 (by omega))) ((HFA.out.set (a := ⟨w.heap.size + 1, 0, none⟩) (show w.heap.size + 1 < w5.heap.size by omega)).set (a := ⟨w.heap.size + 1, 1, none⟩) (show w.heap.size + 1 < w5.heap.size by omega)) hb5.size
    rw [pick_rows (Nat.le_refl _)] at hp
    exact (fr_cons (I64.small (by omega) (by omega)) hp).mono (by omega)
   ·rw [HR.out.2.2]
    exact (fr_rdP ((HRO.out.set (a := ⟨w.heap.size + 1, 0, none⟩) (show w.heap.size + 1 < ob + 1 by omega)).set (a := ⟨w.heap.size + 1, 1, none⟩) (show w.heap.size + 1 < ob + 1 by omega))).mono (fun k _ hk => by omega)
end Go.Proofs.YtajmjfbejfiipaaGreat
namespace Go.Proofs.YtajmjfbejfiipaaGreat
open Go.RowKit Go.Sort
noncomputable def hofC (t : Tpl) (u : List (List Int)) : Int := match huC t u == 0 with
 | true => hlC t u
 | false => huC t u
noncomputable def hofV (t : Tpl) (u : List (List Int)) : Int × List (List Int) := match huC t u == 0 with
 | true => hlV t u
 | false => (0, [])
theorem hof_no {t : Tpl} {u : List (List Int)} (h : huC t u ≠ 0) : hofV t u = (0, []) ∧ hofC t u = huC t u := by
 have : (huC t u == 0) = false := by simpa using h
 simp [hofV, hofC, this]
theorem hof_yes {t : Tpl} {u : List (List Int)} (h : huC t u = 0) : hofV t u = hlV t u ∧ hofC t u = hlC t u := by simp [hofV, hofC, h]
set_option maxHeartbeats 3200000 in
set_option maxRecDepth 100000 in
theorem HullOf_any (w : World) {cs : Array Value} {v : Value} {t : Tpl} {u : List (List Int)} (h : tplT.Rd w cs.toList t) (hu : rowsT.Rd w [v] u) :
  Calls Tryz.prog 10 #[.agg cs, v] w (RetAC relT w (hofV t u) (hofC t u)) := by
 have HP := Lib.hid h
 have HU := Lib.hid hu
 obtain ⟨v1, hv1, -, -⟩ := pair_ex h
 obtain rfl := agg_of hv1
 obtain ⟨la, lc, rfl⟩ := rd_slice hu
 clear h hu hv1
 go_enter Tryz.func10, Tryz.ntmps10
 go_wp2_with fail
 generalize hW : World.alloc (World.alloc w _) _ = W
 have hbW : Below w.heap.size w W := hW ▸ bAA
 have hsW : w.heap.size + 2 ≤ W.heap.size := by rw [← hW]; simp
 have t0 : W.cell? ⟨w.heap.size, 0, none⟩ = some (.int .i64 t.1) := by rw [← hW]; simp [go_sem]
 have t1 : W.cell? ⟨w.heap.size, 1, none⟩ = some v1 := by rw [← hW]; simp [go_sem]
 have r0 : W.cell? ⟨w.heap.size + 1, 0, none⟩ = some (.int .i64 0) := by rw [← hW]; simp [go_sem]
 have r1 : W.cell? ⟨w.heap.size + 1, 1, none⟩ = some (.slice none 0 0) := by rw [← hW]; simp [go_sem]
 have q0 : W.frozen? ⟨w.heap.size + 1, 0, none⟩ = false := by rw [← hW]; simp [go_sem]
 have q1 : W.frozen? ⟨w.heap.size + 1, 1, none⟩ = false := by rw [← hW]; simp [go_sem]
 clear hW
 refine (hullFault_any _ (HP.out.below hbW) (HU.out.below hbW)).mono ?_
 rintro e w2 ⟨rfl, hb2⟩
 have hB2 := bthen hbW hb2
 have hz2 := hb2.size
 replace t0 := (cellB hb2 (by omega)).trans t0
 replace t1 := (cellB hb2 (by omega)).trans t1
 replace r0 := (cellB hb2 (by omega)).trans r0
 replace r1 := (cellB hb2 (by omega)).trans r1
 replace q0 := (frozenB hb2 (by omega)).trans q0
 replace q1 := (frozenB hb2 (by omega)).trans q1
 have hl2 : w.heap.size + 1 < w2.heap.size := by omega
 cases ha : (huC t u != 0)
 ·have hc : huC t u = 0 := by simpa using ha
  have HR := Lib.hid (hof_yes hc)
  have HC := Lib.hid hc
  rw [hc]
  clear ha hc
  go_wp2_with fail
  refine (hullOf_any _ (HP.out.below hB2) (HU.out.below hB2) HC.out).mono ?_
  rintro e w3 ⟨cs3, u3, rfl, hf3, -, hb3⟩
  rw [← HR.out.1] at hf3
  rw [← HR.out.2]
  obtain ⟨a3, c3, rfl⟩ := fr_pair hf3
  generalize hV : hofV t u = V at hf3 ⊢
  generalize hC : hofC t u = C
  have HVV := Lib.hid hV
  have HCC := Lib.hid hC
  have HF3 := Lib.hid hf3
  have hB3 := bthen hB2 hb3
  have hz3 := hb3.size
  replace r0 := (cellB hb3 (by omega)).trans r0
  replace r1 := (cellB hb3 (by omega)).trans r1
  replace q0 := (frozenB hb3 (by omega)).trans q0
  replace q1 := (frozenB hb3 (by omega)).trans q1
  have hl3 : w.heap.size + 1 < w3.heap.size := by omega
  have HZ0 := Lib.hid (fun (x y : Value) (q : Obj) => (cellB (bA (w := (w3.setCell ⟨w.heap.size + 1, 0, none⟩ x).setCell ⟨w.heap.size + 1, 1, none⟩ y) (o := q)) (show w.heap.size + 1 < _ by simpa [World.setCell] using hl3)).trans (res2_0 (x := x) (y := y) r0))
  have HZ1 := Lib.hid (fun (x y : Value) (q : Obj) => (cellB (bA (w := (w3.setCell ⟨w.heap.size + 1, 0, none⟩ x).setCell ⟨w.heap.size + 1, 1, none⟩ y) (o := q)) (show w.heap.size + 1 < _ by simpa [World.setCell] using hl3)).trans (res2_1 (x := x) (y := y) r1))
  clear hf3 hV hC t0 t1
  go_wp2_with fail
  refine bodyPost_ret (v := .tuple #[.agg #[.int .i64 V.1, .slice a3 V.2.length c3], .int .i64 C]) (by simp [results, Tryz.results10, go_sem, HZ0.out, HZ1.out]) rfl ⟨[.int .i64 V.1, .slice a3 V.2.length c3], by rw [HCC.out], ?_, (res2_b hB3 (by omega)).alloc (by simp [World.setCell]; omega) _⟩
  rw [HVV.out]
  exact (((HF3.out.set (a := ⟨w.heap.size + 1, 0, none⟩) (show w.heap.size + 1 < w2.heap.size by omega)).set (a := ⟨w.heap.size + 1, 1, none⟩) (show w.heap.size + 1 < w2.heap.size by omega)).below bA).mono (by omega)
 ·have HR := Lib.hid (hof_no (t := t) (u := u) (by simpa using ha))
  have HZ0 := Lib.hid (fun (x y : Value) => res2_0 (x := x) (y := y) r0)
  have HZ1 := Lib.hid (fun (x y : Value) => res2_1 (x := x) (y := y) r1)
  generalize huC t u = C at *
  go_wp2_with fail
  refine bodyPost_ret (v := .tuple #[.agg #[.int .i64 0, .slice none 0 0], .int .i64 C]) (by simp [results, Tryz.results10, go_sem, HZ0.out, HZ1.out]) rfl ⟨[.int .i64 0, .slice none 0 0], by rw [HR.out.2], ?_, res2_b hB2 (by omega)⟩
  rw [HR.out.1]
  exact fr_rel0
set_option maxHeartbeats 3200000 in
set_option maxRecDepth 100000 in
theorem specHullOf_any (w : World) {cs : Array Value} {v : Value} {t : Tpl} {u : List (List Int)} (h : tplT.Rd w cs.toList t) (hu : rowsT.Rd w [v] u) :
  Calls Tryz.prog 11 #[.agg cs, v] w (RetAC relT w (hofV t u) (hofC t u)) := by
 have p0 : tplT.Pt (w.alloc (.cells cs 26)) (.pointer (some ⟨w.heap.size, 0, none⟩)) t := pt_box h
 have HU := Lib.hid hu
 obtain ⟨v1, hv1, -, -⟩ := pair_ex h
 obtain rfl := agg_of hv1
 obtain ⟨la, lc, rfl⟩ := rd_slice hu
 clear h hu hv1
 go_enter Tryz.func11, Tryz.ntmps11
 go_wp2_with fail
 replace p0 : ∀ o, tplT.Pt (World.alloc (w.alloc (.cells #[.int .i64 t.1, v1] 26)) o) (.pointer (some ⟨w.heap.size, 0, none⟩)) t := fun o => p0.below bA
 generalize hW : World.alloc (World.alloc w _) _ = W
 have HP : Hid (tplT.Pt W (.pointer (some ⟨w.heap.size, 0, none⟩)) t) := hW ▸ p0 _
 have hbW : Below w.heap.size w W := hW ▸ bAA
 have hsW : w.heap.size + 2 ≤ W.heap.size := by rw [← hW]; simp
 have r0 : W.cell? ⟨w.heap.size + 1, 0, none⟩ = some (.int .i64 0) := by rw [← hW]; simp [go_sem]
 have r1 : W.cell? ⟨w.heap.size + 1, 1, none⟩ = some (.slice none 0 0) := by rw [← hW]; simp [go_sem]
 have q0 : W.frozen? ⟨w.heap.size + 1, 0, none⟩ = false := by rw [← hW]; simp [go_sem]
 have q1 : W.frozen? ⟨w.heap.size + 1, 1, none⟩ = false := by rw [← hW]; simp [go_sem]
 clear hW p0
 refine (l04Tuples_any _ HP.out (HU.out.below hbW)).mono ?_
 rintro e w2 ⟨rfl, hq2⟩
 have hb2 := hq2.below
 have hB2 := bthen hbW hb2
 have hz2 := hb2.size
 replace r0 := (cellB hb2 (by omega)).trans r0
 replace r1 := (cellB hb2 (by omega)).trans r1
 replace q0 := (frozenB hb2 (by omega)).trans q0
 replace q1 := (frozenB hb2 (by omega)).trans q1
 have hl2 : w.heap.size + 1 < w2.heap.size := by omega
 replace HP := Lib.hid (HP.out.below hb2)
 clear hq2
 cases ha : (huC t u != 0)
 ·have hc : huC t u = 0 := by simpa using ha
  have HR := Lib.hid (hof_yes hc)
  have HC := Lib.hid hc
  rw [hc]
  clear ha hc
  go_wp2_with fail
  refine (l04Hull_any _ HP.out (HU.out.below hB2) HC.out).mono ?_
  rintro e w3 ⟨cs3, rfl, hf3, hb3⟩
  rw [← HR.out.1] at hf3
  rw [← HR.out.2]
  obtain ⟨a3, c3, rfl⟩ := fr_pair hf3
  generalize hV : hofV t u = V at hf3 ⊢
  generalize hC : hofC t u = C
  have HVV := Lib.hid hV
  have HCC := Lib.hid hC
  have HF3 := Lib.hid hf3
  have hB3 := bthen hB2 hb3
  have hz3 := hb3.size
  replace r0 := (cellB hb3 (by omega)).trans r0
  replace r1 := (cellB hb3 (by omega)).trans r1
  replace q0 := (frozenB hb3 (by omega)).trans q0
  replace q1 := (frozenB hb3 (by omega)).trans q1
  have hl3 : w.heap.size + 1 < w3.heap.size := by omega
  have HZ0 := Lib.hid (fun (x y : Value) => res2_0 (x := x) (y := y) r0)
  have HZ1 := Lib.hid (fun (x y : Value) => res2_1 (x := x) (y := y) r1)
  clear hf3 hV hC
  go_wp2_with fail
  refine bodyPost_ret (v := .tuple #[.agg #[.int .i64 V.1, .slice a3 V.2.length c3], .int .i64 C]) (by simp [results, Tryz.results11, go_sem, HZ0.out, HZ1.out]) rfl ⟨[.int .i64 V.1, .slice a3 V.2.length c3], by rw [HCC.out], ?_, res2_b hB3 (by omega)⟩
  rw [HVV.out]
  exact ((HF3.out.set (a := ⟨w.heap.size + 1, 0, none⟩) (show w.heap.size + 1 < w2.heap.size by omega)).set (a := ⟨w.heap.size + 1, 1, none⟩) (show w.heap.size + 1 < w2.heap.size by omega)).mono (by omega)
 ·have HR := Lib.hid (hof_no (t := t) (u := u) (by simpa using ha))
  have HZ0 := Lib.hid (fun (x y : Value) => res2_0 (x := x) (y := y) r0)
  have HZ1 := Lib.hid (fun (x y : Value) => res2_1 (x := x) (y := y) r1)
  generalize huC t u = C at *
  go_wp2_with fail
  refine bodyPost_ret (v := .tuple #[.agg #[.int .i64 0, .slice none 0 0], .int .i64 C]) (by simp [results, Tryz.results11, go_sem, HZ0.out, HZ1.out]) rfl ⟨[.int .i64 0, .slice none 0 0], by rw [HR.out.2], ?_, res2_b hB2 (by omega)⟩
  rw [HR.out.1]
  exact fr_rel0
end Go.Proofs.YtajmjfbejfiipaaGreat
namespace Go.Proofs.YtajmjfbejfiipaaGreat
open Go.RowKit Go.Sort
section
variable {t : Tpl} {u : List (List Int)}
theorem colsL_at {M p : Nat} (hp : p < M) : (colsL u M).getD p [] = colL u p := by
 unfold colsL
 rw [List.getD_eq_getElem?_getD, List.getElem?_map, List.getElem?_range hp]
 rfl
theorem hasV_made {s : Int} {M : Nat} {v x : List Int} (hv : v.length = M) : hasV s (colsL u M) v (colsL u M).length x ↔ madeL s x u M = v := by
 rw [colsL_len]
 constructor
 ·intro h
  refine madeL_ext hv fun p hp => ?_
  have := h p hp
  rw [colsL_at hp] at this
  exact this
 ·rintro rfl p hp
  rw [colsL_at hp]
  unfold madeL
  rw [List.getD_eq_getElem?_getD (l := List.map _ _), List.getElem?_map, List.getElem?_range hp]
  rfl
/-- tuples that operations may be applied to -/
theorem hu_tups (h : huC t u = 0) : tupsOk t.1 (u.length : Int) (huM u) u := by
 obtain ⟨hT, hul, hm, h1, h2⟩ := hu_ok h
 exact ⟨rfl, fun l hl => ⟨h1 l hl, h2 l hl⟩⟩
theorem tab_len (hT : tplOk t) (n : Nat) : t.1 ^ n = ((tabL t (n : Int) : Nat) : Int) := by
 have := tabL_of (ar := (n : Int)) hT
 rwa [Int.toNat_natCast] at this
theorem hu_idx (h : huC t u = 0) {p : Nat} (hp : p < huM u) : 0 ≤ idxL t.1 0 (colL u p) ∧ (idxL t.1 0 (colL u p)).toNat < tabL t (u.length : Int) := by
 obtain ⟨hT, hul, hm, h1, h2⟩ := hu_ok h
 have hs := hT.1
 unfold sizeOk at hs
 have hb := idx_lt hs.1 (colL_len (ts := u) (p := p)) (colL_in (hu_tups h) hp)
 have := tab_len hT u.length
 exact ⟨hb.1, by omega⟩
theorem polyT_op (hT : tplOk t) {n : Nat} (hn : 1 ≤ n ∧ n ≤ 3) {x : List Int} (hx : polyT t (n : Int) x) : opOk t.1 ((n : Int), x) := op_ok hT.1 hn (tab_len hT n) hx.1 hx.2.1
theorem made_in (h : huC t u = 0) {x : List Int} (hx : polyT t (u.length : Int) x) : ∀ a ∈ madeL t.1 x u (huM u), 0 ≤ a ∧ a ≤ t.1 - 1 := fun a ha => by
 obtain ⟨p, hp, rfl⟩ := List.mem_map.1 ha
 have hi := (hu_idx h (p := p) (by simpa using hp)).2
 rw [← hx.1] at hi
 unfold madeV
 rw [List.getD_eq_getElem?_getD, List.getElem?_eq_getElem hi]
 exact hx.2.1 _ (List.getElem_mem hi)
theorem hof_no7 (h : hofC t u = 0) : huC t u = 0 ∧ limF t u.length = false ∧ hulB t u (hulN t u) = false ∧ hofV t u = ((huM u : Int), hulR t u (hulN t u)) := by
 by_cases h0 : huC t u = 0
 ·obtain ⟨h1, h2⟩ := hof_yes h0
  cases h3 : limF t u.length
  ·cases h4 : hulB t u (hulN t u)
   ·exact ⟨h0, rfl, rfl, h1.trans (hl_ok h3 h4).2.1⟩
   ·rw [h2, (hl_bad h3 h4).1] at h; cases h
  ·rw [h2, (hl_lim h3).1] at h; cases h
 ·rw [(hof_no h0).2] at h; exact absurd h h0
theorem hof_code (h : huC t u = 0) : hofC t u = 0 ∨ hofC t u = 3 ∨ hofC t u = 7 := by
 rw [(hof_yes h).2]
 cases h3 : limF t u.length
 ·cases h4 : hulB t u (hulN t u)
  ·exact .inl (hl_ok h3 h4).1
  ·exact .inr (.inr (hl_bad h3 h4).1)
 ·exact .inr (.inl (hl_lim h3).1)
/-- the search at a list in the hull's range -/
theorem hul_at (h : hofC t u = 0) {j : Nat} (hj : j < hulN t u) :
  (∃ x, phV t u.length (colsL u (huM u)) (hulD t u j) = ((u.length : Int), x) ∧ hulP t u (hulD t u j) = true ∧ polyT t (u.length : Int) x ∧ madeL t.1 x u (huM u) = hulD t u j) ∨ (hulP t u (hulD t u j) = false ∧ ∀ x, polyT t (u.length : Int) x → madeL t.1 x u (huM u) ≠ hulD t u j) := by
 obtain ⟨h0, hlim, hB, -⟩ := hof_no7 h
 obtain ⟨hT, hul, hm, -, -⟩ := hu_ok h0
 have hs := hT.1
 unfold sizeOk at hs
 have h7 : phC t u.length (colsL u (huM u)) (hulD t u j) ≠ 7 := fun e => by
  have := hulB_yes (t := t) (u := u) (k := j) (n := hulN t u) (by unfold hulX; rw [e]; rfl) hj
  rw [hB] at this
  cases this
 have hD : ∀ p, p < (colsL u (huM u)).length → 0 ≤ (hulD t u j).getD p 0 := fun p hp => by
  rw [colsL_len] at hp
  have hl : p < (hulD t u j).length := by rw [hulD_len]; exact hp
  rw [List.getD_eq_getElem?_getD, List.getElem?_eq_getElem hl]
  exact (hulD_in hs.1 _ (List.getElem_mem hl)).1
 rcases ph_ends (ar := (u.length : Int)) (ls := colsL u (huM u)) (vs := hulD t u j) hT (by omega) (fun p hp => by
  rw [colsL_len] at hp
  rw [colsL_at hp]
  exact (hu_idx h0 hp).2) hD h7 with ⟨x, g1, g2, g3, g4⟩ | ⟨g1, g2⟩
 ·exact .inl ⟨x, g1, by unfold hulP; rw [g2]; rfl, g3, (hasV_made hulD_len).1 g4⟩
 ·exact .inr ⟨by unfold hulP; simpa using g1, fun x hx e => g2 x hx ((hasV_made hulD_len).2 e)⟩
/-- what is in the hull -/
theorem hof_mem (h : hofC t u = 0) {a : List Int} : a ∈ (hofV t u).2 ↔ ∃ x, polyT t (u.length : Int) x ∧ madeL t.1 x u (huM u) = a := by
 obtain ⟨h0, hlim, hB, hV⟩ := hof_no7 h
 obtain ⟨hT, hul, hm, -, -⟩ := hu_ok h0
 have hs := hT.1
 unfold sizeOk at hs
 rw [hV]
 show a ∈ hulR t u (hulN t u) ↔ _
 unfold hulR
 rw [List.mem_map]
 constructor
 ·rintro ⟨j, hj, rfl⟩
  obtain ⟨g1, g2⟩ := List.mem_filter.1 hj
  rcases hul_at h (j := j) (by simpa using g1) with ⟨x, -, -, g3, g4⟩ | ⟨g3, -⟩
  ·exact ⟨x, g3, g4⟩
  ·rw [g3] at g2; cases g2
 ·rintro ⟨x, hx, rfl⟩
  have hin := made_in h0 hx
  have hl : (madeL t.1 x u (huM u)).length = huM u := madeL_len
  have hb := idx_lt hs.1 hl hin
  rw [hulN_of hT] at hb
  have hd : hulD t u (idxL t.1 0 (madeL t.1 x u (huM u))).toNat = madeL t.1 x u (huM u) := by
   unfold hulD
   rw [show (((idxL t.1 0 (madeL t.1 x u (huM u))).toNat : Nat) : Int) = idxL t.1 0 (madeL t.1 x u (huM u)) by omega]
   exact dig_of hs.1 hl hin
  have hj : (idxL t.1 0 (madeL t.1 x u (huM u))).toNat < hulN t u := by omega
  refine ⟨_, List.mem_filter.2 ⟨by simpa using hj, ?_⟩, hd⟩
  rcases hul_at h hj with ⟨_, _, g, _, _⟩ | ⟨_, g⟩
  ·exact g
  ·exact absurd hd.symm (g x hx)
/-- the tuples are in their hull -/
theorem hof_own (h : hofC t u = 0) {a : List Int} (ha : a ∈ u) : a ∈ (hofV t u).2 := by
 obtain ⟨h0, -, -, -⟩ := hof_no7 h
 obtain ⟨hT, hul, hm, h1, h2⟩ := hu_ok h0
 have hs := hT.1
 unfold sizeOk at hs
 obtain ⟨j, hj, rfl⟩ := List.mem_iff_getElem.1 ha
 have hN := tab_len hT u.length
 have hop := proj_ok hT.1 hul hN hj
 refine (hof_mem h).2 ⟨projT t.1 u.length (tabL t (u.length : Int)) j, ⟨tabOf_len, hop.2.2.2, fun r hr => keeps_proj (hT.2.2 r hr) hN hul hj⟩, ?_⟩
 refine madeL_ext (h1 _ ha) fun p hp => ?_
 rw [madeV_op]
 unfold projT
 rw [tabOf_at hs.1 hN colL_len (colL_in (hu_tups h0) hp), colL_getD hj]
end
end Go.Proofs.YtajmjfbejfiipaaGreat
namespace Go.Proofs.YtajmjfbejfiipaaGreat
open Go.RowKit Go.Sort
theorem pick_all {α β : Type} {P : α → β → Prop} : ∀ {L : List α}, (∀ a ∈ L, ∃ x, P a x) → ∃ X : List β, X.length = L.length ∧ ∀ i (h : i < L.length) (h' : i < X.length), P L[i] X[i]
 | [], _ => ⟨[], rfl, fun i h => by simp at h⟩
 | a :: L, h => by
  obtain ⟨x, hx⟩ := h a (List.mem_cons_self ..)
  obtain ⟨X, hX, hp⟩ := pick_all (L := L) fun b hb => h b (List.mem_cons_of_mem _ hb)
  refine ⟨x :: X, by simp [hX], fun i hi hi' => ?_⟩
  cases i with
  | zero => exact hx
  | succ i => exact hp i (by simpa using hi) (by simpa using hi')
section
variable {t : Tpl} {u : List (List Int)}
theorem hof_ok (h : hofC t u = 0) : relOk t.1 (hofV t u) := by
 obtain ⟨h0, hlim, hB, hV⟩ := hof_no7 h
 obtain ⟨hT, hul, hm, -, -⟩ := hu_ok h0
 have hs := hT.1
 have hs1 := hs
 unfold sizeOk at hs1
 have hsrt := relL_sorted (s := t.1) (n := huM u) (N := hulN t u) (p := hulP t u) hs1.1 (hulN_of hT)
 have e : hulR t u (hulN t u) = relL t.1 (huM u) (hulP t u) (hulN t u) := by
  unfold hulR hulJ relL
  rw [List.filter_map]
  rfl
 rw [← e] at hsrt
 rw [hV]
 refine ⟨hs, ⟨by show (1 : Int) ≤ (huM u : Int); omega, by show (huM u : Int) ≤ 4; omega⟩, fun i hi => ⟨?_, fun h0 => ?_⟩⟩
 ·have hmem := List.getElem_mem hi
  obtain ⟨j, -, hj⟩ := List.mem_map.1 hmem
  show rowOk t.1 (huM u : Int) _
  rw [← hj]
  exact ⟨by rw [hulD_len], hulD_in hs1.1⟩
 ·exact hsrt i hi h0
theorem hof_dim (h : hofC t u = 0) : (hofV t u).1 = (huM u : Int) := by
 obtain ⟨-, -, -, hV⟩ := hof_no7 h
 rw [hV]
/-- what an operation that keeps the template makes of tuples in the hull is in the hull -/
theorem hof_made (h : hofC t u = 0) {f : Int × List Int} (hf : opOk t.1 f) (hk : ∀ r ∈ t.2, keepsP t.1 f r) {ts : List (List Int)} (hts : ∀ a ∈ ts, a ∈ (hofV t u).2) (hl : (ts.length : Int) = f.1) : madeL t.1 f.2 ts (huM u) ∈ (hofV t u).2 := by
 obtain ⟨h0, -, -, -⟩ := hof_no7 h
 obtain ⟨hT, hul, hm, h1, h2⟩ := hu_ok h0
 have hs := hT.1
 unfold sizeOk at hs
 have hN := tab_len hT u.length
 obtain ⟨X, hX, hp⟩ := pick_all (P := fun a x => polyT t (u.length : Int) x ∧ madeL t.1 x u (huM u) = a) (L := ts) fun a ha => (hof_mem h).1 (hts a ha)
 have hgs : ∀ g ∈ (X.map fun x => ((u.length : Int), x)), ∃ x, g = ((u.length : Int), x) ∧ polyT t (u.length : Int) x := fun g hg => by
  obtain ⟨x, hx, rfl⟩ := List.mem_map.1 hg
  obtain ⟨i, hi, rfl⟩ := List.mem_iff_getElem.1 hx
  exact ⟨_, rfl, (hp i (by omega) hi).1⟩
 have hgl : f.1 = ((X.map fun x => ((u.length : Int), x)).length : Int) := by rw [List.length_map, hX, hl]
 refine (hof_mem h).2 ⟨compT t.1 u.length (tabL t (u.length : Int)) f.2 (X.map fun x => ((u.length : Int), x)), ⟨tabOf_len, fun a ha => ?_, fun r hr => ?_⟩, ?_⟩
 ·obtain ⟨i, -, rfl⟩ := List.mem_map.1 ha
  refine opV_in (xs := (X.map fun x => ((u.length : Int), x)).map fun g => opV t.1 g.2 (digL t.1 (i : Int) u.length)) hf (by rw [List.length_map]; exact hgl.symm) fun b hb => ?_
  obtain ⟨g, hg, rfl⟩ := List.mem_map.1 hb
  obtain ⟨x, rfl, hx⟩ := hgs g hg
  exact opV_in (polyT_op hT hul hx) (by rw [digL_len]) (digL_in hs.1)
 ·refine keeps_comp (f := f) (hT.2.2 r hr) hN hul hgl (hk r hr) fun g hg => ?_
  obtain ⟨x, rfl, hx⟩ := hgs g hg
  exact ⟨rfl, polyT_op hT hul hx, hx.2.2 r hr⟩
 ·refine madeL_ext madeL_len fun p hpM => ?_
  rw [madeV_op]
  unfold compT
  rw [tabOf_at hs.1 hN colL_len (colL_in (hu_tups h0) hpM)]
  unfold madeL
  rw [List.getD_eq_getElem?_getD (l := List.map _ _), List.getElem?_map, List.getElem?_range hpM]
  show _ = madeV t.1 f.2 ts p
  rw [madeV_op]
  congr 1
  refine List.ext_getElem (by rw [List.length_map, List.length_map, hX, colL_len]) fun i hi hi' => ?_
  have hiX : i < X.length := by simpa using hi
  have hit : i < ts.length := by omega
  rw [List.getElem_map, List.getElem_map]
  obtain ⟨g1, g2⟩ := hp i hit hiX
  show opV t.1 X[i] (colL u p) = _
  rw [colL_get hit (by rw [← g2, madeL_len]; exact hpM) hi']
  have : (ts[i]).getD p 0 = madeV t.1 X[i] u p := by
   rw [← g2]
   unfold madeL
   rw [List.getD_eq_getElem?_getD, List.getElem?_map, List.getElem?_range hpM]
   rfl
  rw [← madeV_op, ← this, List.getD_eq_getElem?_getD, List.getElem?_eq_getElem (by rw [← g2, madeL_len]; exact hpM)]
  rfl
theorem hof_keeps (h : hofC t u = 0) {f : Int × List Int} (hf : opOk t.1 f) (hk : ∀ r ∈ t.2, keepsP t.1 f r) : keepsP t.1 f (hofV t u) := fun i hi => by
 have ha := hf.2.1
 have h0 : 0 < (hofV t u).2.length := by
  rcases Nat.eq_zero_or_pos (hofV t u).2.length with h | h
  ·rw [h, show ((0 : Nat) : Int) = 0 from rfl, Int.zero_pow (by omega)] at hi
   omega
  ·exact h
 unfold makes
 rw [hof_dim h, Int.toNat_natCast]
 refine hof_made h hf hk (fun a ha' => ?_) (by rw [picks_len]; omega)
 obtain ⟨k, hk', rfl⟩ := List.mem_map.1 ha'
 obtain ⟨k1, k2⟩ := dig_mem (by omega) hk'
 rw [List.getD_eq_getElem?_getD, List.getElem?_eq_getElem (show k.toNat < (hofV t u).2.length by omega)]
 exact List.getElem_mem _
end
end Go.Proofs.YtajmjfbejfiipaaGreat
namespace Go.Proofs.YtajmjfbejfiipaaGreat
open Go.RowKit Go.Sort
abbrev RelV := Int × List (List Int)
noncomputable def roC (t : Tpl) (r : RelV) : Int := match tb (tplOk t), tb (relOk t.1 r), decide (3 < (r.2.length : Int)), ((r.2.length : Int) == 0) with
 | false, _, _, _ => 1
 | true, false, _, _ => 1
 | true, true, true, _ => 3
 | true, true, false, true => 4
 | true, true, false, false => hlC t r.2
noncomputable def roV (t : Tpl) (r : RelV) : RelV := match tb (tplOk t), tb (relOk t.1 r), decide (3 < (r.2.length : Int)), ((r.2.length : Int) == 0) with
 | true, true, false, false => hlV t r.2
 | _, _, _, _ => (0, [])
noncomputable def roO (t : Tpl) (r : RelV) : List (Int × List Int) := match tb (tplOk t), tb (relOk t.1 r), decide (3 < (r.2.length : Int)), ((r.2.length : Int) == 0) with
 | true, true, false, false => hlO t r.2
 | _, _, _, _ => []
section
variable {t : Tpl} {r : RelV}
theorem ro_1 (h : tb (tplOk t) = false) : roC t r = 1 ∧ roV t r = (0, []) ∧ roO t r = [] := by simp [roC, roV, roO, h]
theorem ro_2 (h : tb (tplOk t) = true) (h1 : tb (relOk t.1 r) = false) : roC t r = 1 ∧ roV t r = (0, []) ∧ roO t r = [] := by simp [roC, roV, roO, h, h1]
theorem ro_3 (h : tb (tplOk t) = true) (h1 : tb (relOk t.1 r) = true) (h2 : decide (3 < (r.2.length : Int)) = true) : roC t r = 3 ∧ roV t r = (0, []) ∧ roO t r = [] := by simp only [roC, roV, roO, h, h1, h2, and_self]
theorem ro_4 (h : tb (tplOk t) = true) (h1 : tb (relOk t.1 r) = true) (h2 : decide (3 < (r.2.length : Int)) = false) (h3 : ((r.2.length : Int) == 0) = true) : roC t r = 4 ∧ roV t r = (0, []) ∧ roO t r = [] := by simp only [roC, roV, roO, h, h1, h2, h3, and_self]
theorem ro_5 (h : tb (tplOk t) = true) (h1 : tb (relOk t.1 r) = true) (h2 : decide (3 < (r.2.length : Int)) = false) (h3 : ((r.2.length : Int) == 0) = false) : roC t r = hlC t r.2 ∧ roV t r = hlV t r.2 ∧ roO t r = hlO t r.2 := by simp only [roC, roV, roO, h, h1, h2, h3, and_self]
theorem ro_hu (h : tb (tplOk t) = true) (h1 : tb (relOk t.1 r) = true) (h2 : decide (3 < (r.2.length : Int)) = false) (h3 : ((r.2.length : Int) == 0) = false) : huC t r.2 = 0 ∧ (huM r.2 : Int) = r.1 := by
 have hr := tb_iff.1 h1
 have h2' : ¬ (3 < (r.2.length : Int)) := by simpa using h2
 have h3' : ¬ ((r.2.length : Int) = 0) := by simpa using h3
 have h0 : 0 < r.2.length := by omega
 obtain ⟨-, ha, hl⟩ := hr
 unfold sizeOk at ha
 have hM : (huM r.2 : Int) = r.1 := by rw [huM_at h0]; exact (hl 0 h0).1.1
 refine ⟨hu_0 h (inB_true.2 (by omega)) (inB_true.2 (by omega)) (List.all_eq_true.2 fun l hm => ?_), hM⟩
 obtain ⟨i, hi, rfl⟩ := List.getElem_of_mem hm
 refine tb_iff.2 ?_
 rw [hM]
 exact (hl i hi).1
end
set_option maxHeartbeats 3200000 in
set_option maxRecDepth 100000 in
theorem hullOfRel_any (w : World) {cs cr : Array Value} {t : Tpl} {r : RelV} (h : tplT.Rd w cs.toList t) (hr : relT.Rd w cr.toList r) :
  Calls Tryz.prog 86 #[.agg cs, .agg cr] w (HuR w (roV t r) (roO t r) (roC t r)) := by
 have HP := Lib.hid h
 have HR := Lib.hid hr
 obtain ⟨v1, hv1, -, -⟩ := pair_ex h
 obtain rfl := agg_of hv1
 obtain ⟨v2, hv2, -, hx⟩ := pair_ex hr
 obtain rfl := agg_of hv2
 obtain ⟨la, lc, rfl⟩ := rd_slice hx
 have HX := Lib.hid hx
 clear h hr hv1 hv2 hx
 go_enter Tryz.func86, Tryz.ntmps86
 go_wp2_with fail
 generalize hW : World.alloc (World.alloc (World.alloc w _) _) _ = W
 have hbW : Below w.heap.size w W := hW ▸ bthen bAA bA
 have hsW : w.heap.size + 3 ≤ W.heap.size := by rw [← hW]; simp
 have t0 : W.cell? ⟨w.heap.size, 0, none⟩ = some (.int .i64 t.1) := by rw [← hW]; simp [go_sem]
 have t1 : W.cell? ⟨w.heap.size, 1, none⟩ = some v1 := by rw [← hW]; simp [go_sem]
 have d0 : W.cell? ⟨w.heap.size + 1, 0, none⟩ = some (.int .i64 r.1) := by rw [← hW]; simp [go_sem]
 have d1 : W.cell? ⟨w.heap.size + 1, 1, none⟩ = some (.slice la r.2.length lc) := by rw [← hW]; simp [go_sem]
 have r0 : W.cell? ⟨w.heap.size + 1 + 1, 0, none⟩ = some (.int .i64 0) := by rw [← hW]; simp [go_sem]
 have r1 : W.cell? ⟨w.heap.size + 1 + 1, 1, none⟩ = some (.slice none 0 0) := by rw [← hW]; simp [go_sem]
 have q0 : W.frozen? ⟨w.heap.size + 1 + 1, 0, none⟩ = false := by rw [← hW]; simp [go_sem]
 have q1 : W.frozen? ⟨w.heap.size + 1 + 1, 1, none⟩ = false := by rw [← hW]; simp [go_sem]
 clear hW
 refine (ValidTemplate_any _ (HP.out.below hbW)).mono ?_
 rintro e w2 ⟨rfl, hb2⟩
 have hB2 := bthen hbW hb2
 have hz2 := hb2.size
 replace t0 := (cellB hb2 (by omega)).trans t0
 replace t1 := (cellB hb2 (by omega)).trans t1
 replace d0 := (cellB hb2 (by omega)).trans d0
 replace d1 := (cellB hb2 (by omega)).trans d1
 replace r0 := (cellB hb2 (by omega)).trans r0
 replace r1 := (cellB hb2 (by omega)).trans r1
 replace q0 := (frozenB hb2 (by omega)).trans q0
 replace q1 := (frozenB hb2 (by omega)).trans q1
 have hl2 : w.heap.size + 3 ≤ w2.heap.size := by omega
 cases h1 : tb (tplOk t)
 ·have HE := Lib.hid (ro_1 (r := r) h1)
  have HZ0 := Lib.hid (fun (x y : Value) => res2_0 (x := x) (y := y) r0)
  have HZ1 := Lib.hid (fun (x y : Value) => res2_1 (x := x) (y := y) r1)
  clear h1
  go_wp2_with fail
  refine bodyPost_ret (v := .tuple #[.agg #[.int .i64 0, .slice none 0 0], .slice none 0 0, .int .i64 1]) (by simp [results, Tryz.results86, go_sem, HZ0.out, HZ1.out]) rfl ⟨[.int .i64 0, .slice none 0 0], .slice none 0 0, by rw [HE.out.1], ?_, ?_, res2_b hB2 (by omega)⟩
  ·rw [HE.out.2.1]; exact fr_rel0
  ·rw [HE.out.2.2]; exact fr_rdP fr_nil
 have H1 := Lib.hid h1
 clear h1
 go_wp2_with fail
 refine (ValidRel_any _ (HR.out.below hB2) t.1).mono ?_
 rintro e w3 ⟨rfl, hb3⟩
 have hB3 := bthen hB2 hb3
 have hz3 := hb3.size
 replace t0 := (cellB hb3 (by omega)).trans t0
 replace t1 := (cellB hb3 (by omega)).trans t1
 replace d0 := (cellB hb3 (by omega)).trans d0
 replace d1 := (cellB hb3 (by omega)).trans d1
 replace r0 := (cellB hb3 (by omega)).trans r0
 replace r1 := (cellB hb3 (by omega)).trans r1
 replace q0 := (frozenB hb3 (by omega)).trans q0
 replace q1 := (frozenB hb3 (by omega)).trans q1
 have hl3 : w.heap.size + 3 ≤ w3.heap.size := by omega
 have HZ0 := Lib.hid (fun (x y : Value) => res2_0 (x := x) (y := y) r0)
 have HZ1 := Lib.hid (fun (x y : Value) => res2_1 (x := x) (y := y) r1)
 cases h2 : tb (relOk t.1 r)
 ·have HE := Lib.hid (ro_2 H1.out h2)
  clear h2
  go_wp2_with fail
  refine bodyPost_ret (v := .tuple #[.agg #[.int .i64 0, .slice none 0 0], .slice none 0 0, .int .i64 1]) (by simp [results, Tryz.results86, go_sem, HZ0.out, HZ1.out]) rfl ⟨[.int .i64 0, .slice none 0 0], .slice none 0 0, by rw [HE.out.1], ?_, ?_, res2_b hB3 (by omega)⟩
  ·rw [HE.out.2.1]; exact fr_rel0
  ·rw [HE.out.2.2]; exact fr_rdP fr_nil
 have H2 := Lib.hid h2
 clear h2
 cases h3 : decide (3 < (r.2.length : Int))
 rotate_left
 ·have HE := Lib.hid (ro_3 H1.out H2.out h3)
  go_wp2_with fail
  refine bodyPost_ret (v := .tuple #[.agg #[.int .i64 0, .slice none 0 0], .slice none 0 0, .int .i64 3]) (by simp [results, Tryz.results86, go_sem, HZ0.out, HZ1.out]) rfl ⟨[.int .i64 0, .slice none 0 0], .slice none 0 0, by rw [HE.out.1], ?_, ?_, res2_b hB3 (by omega)⟩
  ·rw [HE.out.2.1]; exact fr_rel0
  ·rw [HE.out.2.2]; exact fr_rdP fr_nil
 have H3 := Lib.hid h3
 cases h4 : ((r.2.length : Int) == 0)
 rotate_left
 ·have HE := Lib.hid (ro_4 H1.out H2.out H3.out h4)
  go_wp2_with fail
  refine bodyPost_ret (v := .tuple #[.agg #[.int .i64 0, .slice none 0 0], .slice none 0 0, .int .i64 4]) (by simp [results, Tryz.results86, go_sem, HZ0.out, HZ1.out]) rfl ⟨[.int .i64 0, .slice none 0 0], .slice none 0 0, by rw [HE.out.1], ?_, ?_, res2_b hB3 (by omega)⟩
  ·rw [HE.out.2.1]; exact fr_rel0
  ·rw [HE.out.2.2]; exact fr_rdP fr_nil
 have HE := Lib.hid (ro_5 H1.out H2.out H3.out h4)
 have HU := Lib.hid (ro_hu H1.out H2.out H3.out h4)
 clear HZ0 HZ1
 go_wp2_with fail
 refine (hullOf_any _ (HP.out.below hB3) (HX.out.below hB3) HU.out.1).mono ?_
 rintro e w4 ⟨cs4, u4, rfl, hf4, ho4, hb4⟩
 rw [← HE.out.2.1] at hf4
 rw [← HE.out.2.2] at ho4
 rw [← HE.out.1]
 obtain ⟨a4, c4, rfl⟩ := fr_pair hf4
 generalize hV : roV t r = V at hf4 ⊢
 generalize hC : roC t r = C
 have HVV := Lib.hid hV
 have HCC := Lib.hid hC
 have HF4 := Lib.hid hf4
 have HO4 := Lib.hid ho4
 have hB4 := bthen hB3 hb4
 have hz4 := hb4.size
 replace r0 := (cellB hb4 (by omega)).trans r0
 replace r1 := (cellB hb4 (by omega)).trans r1
 replace q0 := (frozenB hb4 (by omega)).trans q0
 replace q1 := (frozenB hb4 (by omega)).trans q1
 have hl4 : w.heap.size + 1 + 1 < w4.heap.size := by omega
 have HZ0 := Lib.hid (fun (x y : Value) => res2_0 (x := x) (y := y) r0)
 have HZ1 := Lib.hid (fun (x y : Value) => res2_1 (x := x) (y := y) r1)
 clear hf4 ho4 hV hC t0 t1 d0 d1 h3 h4
 go_wp2_with fail
 refine bodyPost_ret (v := .tuple #[.agg #[.int .i64 V.1, .slice a4 V.2.length c4], u4, .int .i64 C]) (by simp [results, Tryz.results86, go_sem, HZ0.out, HZ1.out]) rfl ⟨[.int .i64 V.1, .slice a4 V.2.length c4], u4, by rw [HCC.out], ?_, ?_, res2_b hB4 (by omega)⟩
 ·rw [HVV.out]
  exact ((HF4.out.set (a := ⟨w.heap.size + 1 + 1, 0, none⟩) (show w.heap.size + 1 + 1 < w3.heap.size by omega)).set (a := ⟨w.heap.size + 1 + 1, 1, none⟩) (show w.heap.size + 1 + 1 < w3.heap.size by omega)).mono (by omega)
 ·exact ((HO4.out.tchP (TchP.set (O := fun k => k = w.heap.size + 1 + 1) rfl) (fun k _ h e => by omega)).tchP (TchP.set (O := fun k => k = w.heap.size + 1 + 1) rfl) (fun k _ h e => by omega)).mono (fun k _ hk => by omega)
end Go.Proofs.YtajmjfbejfiipaaGreat
namespace Go.Proofs.YtajmjfbejfiipaaGreat
open Go.RowKit Go.Sort
noncomputable def idB (t : Tpl) (r : RelV) : Bool := match roC t r == 0 with
 | true => eqB (roV t r) r
 | false => false
theorem id_yes {t : Tpl} {r : RelV} (h : (roC t r == 0) = true) : idB t r = eqB (roV t r) r := by simp [idB, h]
theorem id_no {t : Tpl} {r : RelV} (h : (roC t r == 0) = false) : idB t r = false := by simp [idB, h]
set_option maxHeartbeats 3200000 in
set_option maxRecDepth 100000 in
theorem IsDefinable_any (w : World) {cs cr : Array Value} {t : Tpl} {r : RelV} (h : tplT.Rd w cs.toList t) (hr : relT.Rd w cr.toList r) :
  Calls Tryz.prog 21 #[.agg cs, .agg cr] w fun e w' => e = .returned (.tuple #[.bool (idB t r), .int .i64 (roC t r)]) ∧ Below w.heap.size w w' := by
 have HP := Lib.hid h
 have HR := Lib.hid hr
 obtain ⟨v1, hv1, -, -⟩ := pair_ex h
 obtain rfl := agg_of hv1
 obtain ⟨v2, hv2, -, hx⟩ := pair_ex hr
 obtain rfl := agg_of hv2
 obtain ⟨la, lc, rfl⟩ := rd_slice hx
 clear h hr hv1 hv2 hx
 go_enter Tryz.func21, Tryz.ntmps21
 go_wp2_with fail
 generalize hW : World.alloc (World.alloc w _) _ = W
 have hbW : Below w.heap.size w W := hW ▸ bAA
 have hsW : w.heap.size + 2 ≤ W.heap.size := by rw [← hW]; simp
 have t0 : W.cell? ⟨w.heap.size, 0, none⟩ = some (.int .i64 t.1) := by rw [← hW]; simp [go_sem]
 have t1 : W.cell? ⟨w.heap.size, 1, none⟩ = some v1 := by rw [← hW]; simp [go_sem]
 have d0 : W.cell? ⟨w.heap.size + 1, 0, none⟩ = some (.int .i64 r.1) := by rw [← hW]; simp [go_sem]
 have d1 : W.cell? ⟨w.heap.size + 1, 1, none⟩ = some (.slice la r.2.length lc) := by rw [← hW]; simp [go_sem]
 clear hW
 refine (hullOfRel_any _ (HP.out.below hbW) (HR.out.below hbW)).mono ?_
 rintro e w2 ⟨cs2, u2, rfl, hf2, -, hb2⟩
 obtain ⟨a2, c2, rfl⟩ := fr_pair hf2
 have HF2 := Lib.hid hf2.rd
 have hB2 := bthen hbW hb2
 have hz2 := hb2.size
 replace d0 := (cellB hb2 (by omega)).trans d0
 replace d1 := (cellB hb2 (by omega)).trans d1
 have e0 : ∀ q, (w2.alloc q).cell? ⟨w.heap.size + 1, 0, none⟩ = some (.int .i64 r.1) := fun q => (cellB bA (show w.heap.size + 1 < w2.heap.size by omega)).trans d0
 have e1 : ∀ q, (w2.alloc q).cell? ⟨w.heap.size + 1, 1, none⟩ = some (.slice la r.2.length lc) := fun q => (cellB bA (show w.heap.size + 1 < w2.heap.size by omega)).trans d1
 clear hf2 t0 t1
 cases hc : (roC t r == 0)
 ·have HE := Lib.hid (id_no hc)
  go_wp2_with fail
  go_ret2
  exact ⟨by rw [HE.out]; rfl, hB2.alloc (by omega) _⟩
 ·have HE := Lib.hid (id_yes hc)
  have hc0 : roC t r = 0 := by simpa using hc
  have HC0 := Lib.hid hc0
  rw [hc0]
  clear hc hc0
  go_wp2_with fail
  refine (SameRel_any _ (HF2.out.below bA) (HR.out.below (hB2.alloc (by omega) _))).mono ?_
  rintro e w3 ⟨rfl, hb3⟩
  go_wp2_with fail
  go_ret2
  exact ⟨by rw [HE.out, HC0.out]; rfl, bthen (hB2.alloc (by omega) _) hb3⟩
end Go.Proofs.YtajmjfbejfiipaaGreat
