/-
Choices from bytes: a drawn template by its bytes; a projection.
Choices from bytes: a drawn operation.
An operation drawn from its bytes; whether operations, and lists of them, are the same.
Contracts: the operation of a function of lists; projections, checked.
Contracts: a projection, checked.
Contracts: compositions of operations.
-/
import Derived.Test.YtnhdohednekhjaaGreatDoorQAC
namespace Go.Proofs.YtnhdohednekhjaaGreatDoor
open Go.RowKit Go.Sort
theorem tabOf_succ {s : Int} {ar k : Nat} {g : List Int → Int} : tabOf s ar (k + 1) g = tabOf s ar k g ++ [g (digL s k ar)] := by simp [tabOf, List.range_succ]
set_option maxHeartbeats 1600000 in
set_option maxRecDepth 100000 in
theorem l02Projection_any (w : World) {s : Int} {ar N p : Nat} (hs : 1 ≤ s ∧ s ≤ 4) (har : 1 ≤ ar ∧ ar ≤ 3) (hN : s ^ ar = N) (hp : p < ar) :
  Calls Tryz.prog 189 #[.int .i64 s, .int .i64 ar, .int .i64 p] w (RetA opT w ((ar : Int), projT s ar N p)) := by
 have HN := Lib.hid hN
 have hNb : N ≤ 64 := by
  have h1 := pow_mono' (s := s) (c := 4) (by omega) (by omega) ar
  rcases (show ar = 1 ∨ ar = 2 ∨ ar = 3 by omega) with e | e | e <;> subst e <;> simp at h1 <;> omega
 clear hN
 go_enter Tryz.func189, Tryz.ntmps189
 go_wp2_with fail
 generalize hW : World.alloc (World.alloc w _) _ = W
 have hbW : Below w.heap.size w W := hW ▸ bAA
 have hsW : w.heap.size + 2 ≤ W.heap.size := by rw [← hW]; simp
 have r0 : W.cell? ⟨w.heap.size, 0, none⟩ = some (.int .i64 0) := by rw [← hW]; simp [go_sem]
 have r1 : W.cell? ⟨w.heap.size, 1, none⟩ = some (.slice none 0 0) := by rw [← hW]; simp [go_sem]
 have q0 : W.frozen? ⟨w.heap.size, 0, none⟩ = false := by rw [← hW]; simp [go_sem]
 have q1 : W.frozen? ⟨w.heap.size, 1, none⟩ = false := by rw [← hW]; simp [go_sem]
 have c0 : W.cell? ⟨w.heap.size + 1, 0, none⟩ = some (.int .i64 (ar : Int)) := by rw [← hW]; simp [go_sem]
 have c1 : W.cell? ⟨w.heap.size + 1, 1, none⟩ = some (.slice none 0 0) := by rw [← hW]; simp [go_sem]
 have m1 : W.frozen? ⟨w.heap.size + 1, 1, none⟩ = false := by rw [← hW]; simp [go_sem]
 have HRQ := Lib.hid (And.intro r0 (And.intro r1 (And.intro q0 q1)))
 clear hW r0 r1 q0 q1
 go_loopw [8] (fun i wr => ∃ (k : Nat) (va : Value), k ≤ N ∧ i = .int .i64 k ∧ Bl Ty.int 2 (w.heap.size + 2) wr.heap.size wr va (projT s ar k p) ∧ wr.cell? ⟨w.heap.size + 1, 0, none⟩ = some (.int .i64 (ar : Int)) ∧ wr.cell? ⟨w.heap.size + 1, 1, none⟩ = some va ∧ wr.frozen? ⟨w.heap.size + 1, 1, none⟩ = false ∧ Below w.heap.size w wr ∧ (∀ i, wr.cell? ⟨w.heap.size, i, none⟩ = W.cell? ⟨w.heap.size, i, none⟩ ∧ wr.frozen? ⟨w.heap.size, i, none⟩ = W.frozen? ⟨w.heap.size, i, none⟩)) (fun i _ => N - (intOf i).toNat)
 case atStart => exact ⟨0, _, Nat.zero_le _, rfl, Bl.nil, c0, c1, m1, hbW, fun i => ⟨rfl, rfl⟩⟩
 case round =>
  clear c0 c1 m1
  obtain ⟨k, va, hk, rfl, hBa, c0, c1, m1, hbv, hrq⟩ := hrel
  have HB := Lib.hid hBa
  have HRE := Lib.hid hrq
  have hw2 : w.heap.size + 1 < wr.heap.size := cell_lt c0
  have hRl : (projT s ar k p).length = k := tabOf_len
  obtain ⟨ga, gn, gc, rfl⟩ := ex_slice (hBa.fr (by unfold capMax; omega))
  obtain ⟨wv, rfl⟩ : ∃ wv : World, wv = wr := ⟨_, rfl⟩
  clear hBa hrq
  by_cases hkl : k < N
  ·go_wp2_with (go_at_call 145; refine (l01Power_any _ s (ar : Int) (by omega) (by omega) (by omega)).mono ?_; rintro e w' ⟨rfl, rfl⟩; rw [Int.toNat_natCast, HN.out])
   refine wp_region_T (fun w' => w'.cell? ⟨w.heap.size + 1, 1, none⟩ = some (.slice ga gn gc)) [10] (by kernel_rfl) c1 (fun hHeld => ?_)
   refine wpAnyT_take (i := 0) (v := ?_) rfl (by kernel_rfl) (fun _ _ _ h => h) (Or.inl ⟨by rfl, ?_⟩) (by assumption) ?_
   rotate_left
   ·(intro w hSw; (try dsimp only at hSw); go_simp <;> with_reducible rfl)
   go_simp
   refine wpAnyT_take (i := 1) (v := ?_) rfl (by kernel_rfl) (fun _ _ _ h => h) (Or.inl ⟨by rfl, ?_⟩) (by assumption) ?_
   rotate_left
   ·(intro w hSw; (try dsimp only at hSw); go_simp <;> with_reducible rfl)
   go_simp
   refine wpAnyT_take (i := 2) (v := ?_) rfl (by kernel_rfl) (fun _ _ _ h => h) (Or.inl ⟨by rfl, ?_⟩) (by assumption) ?_
   rotate_left
   ·(intro w hSw; (try dsimp only at hSw); go_simp <;> with_reducible rfl)
   go_simp
   refine wpAnyT_take (i := 3) (v := ?_) rfl (by kernel_rfl) (fun _ _ _ h => h) (Or.inl ⟨by rfl, ?_⟩) (by assumption) ?_
   rotate_left
   ·(intro w hSw; (try dsimp only at hSw); go_simp <;> with_reducible rfl)
   go_simp
   refine wpAnyT_take (i := 4) (v := ?_) rfl (by kernel_rfl) (fun _ _ _ h => h) (Or.inl ⟨by rfl, ?_⟩) (by assumption) ?_
   rotate_left
   ·(intro w hSw; (try dsimp only at hSw); go_simp <;> with_reducible rfl)
   go_simp
   refine wpAnyT_take (i := 6) (v := ?_) rfl (by kernel_rfl) (fun _ _ _ h => h) (Or.inl ⟨by rfl, ?_⟩) (by assumption) ?_
   rotate_left
   ·(intro w hSw; (try dsimp only at hSw); go_simp <;> with_reducible rfl)
   go_simp
   refine wpAnyT_one (i := 5) rfl (by kernel_rfl) (fun K hK => ?_)
   go_simp
   go_at_call 146
   refine (l01Digits_any _ s (k : Int) ar (by omega) (by omega) (by omega) (by omega) (by omega)).mono ?_
   rintro e w5 ⟨dv, rfl, hdf, hb5⟩
   have hpl : p < (digL s (k : Int) ar).length := by rw [digL_len]; exact hp
   obtain ⟨ad, cd, hv, -, -, hce⟩ := ints_ex hdf.rd
   obtain rfl : dv = _ := by simpa using hv
   obtain ⟨db, dO, rfl, hdb, hce⟩ := hce (by omega)
   have d0 := (hce p hpl).2
   have HSC : Hid (projT s ar (k + 1) p = projT s ar k p ++ [(digL s (k : Int) ar).getD p 0]) := tabOf_succ
   have hx : (digL s (k : Int) ar).getD p 0 = (digL s (k : Int) ar)[p] := by rw [List.getD_eq_getElem?_getD, List.getElem?_eq_getElem hpl]; rfl
   have hI := (hce p hpl).1
   have hlen := digL_len (s := s) (idx := (k : Int)) (n := ar)
   rw [← hx] at d0 hI
   clear hdf hce hx
   generalize (digL s (k : Int) ar).length = nd at hpl hlen ⊢
   obtain rfl : nd = ar := hlen
   generalize hgx : (digL s (k : Int) nd).getD p 0 = x at d0 hI HSC
   clear hgx
   have hb5' : Below wv.heap.size wv w5 := bthen bD hb5
   have hz5 := hb5'.size
   replace c0 := (cellB hb5' (show w.heap.size + 1 < wv.heap.size by omega)).trans c0
   replace c1 := (cellB hb5' (show w.heap.size + 1 < wv.heap.size by omega)).trans c1
   replace m1 := (frozenB hb5' (show w.heap.size + 1 < wv.heap.size by omega)).trans m1
   clear hb5
   dsimp only
   refine hK.out _ _ c1 (fun hHeld => ?_)
   clear hK K
   refine wpAnyT_take (i := 7) (v := ?_) rfl (by kernel_rfl) (fun _ _ _ h => h) (Or.inl ⟨by rfl, ?_⟩) (by assumption) ?_
   rotate_left
   ·(intro w hSw; (try dsimp only at hSw); go_simp <;> with_reducible rfl)
   go_simp
   refine wpAnyT_one (i := 8) rfl (by kernel_rfl) (fun K hK => ?_)
   go_simp
   refine hK.out _ _ c1 (fun hHeld => ?_)
   clear hK K
   refine wpAnyT_one (i := 9) rfl (by kernel_rfl) (fun K hK => ?_)
   go_simp
   refine hK.out _ _ (by go_keep) (fun hHeld => ?_)
   clear hK K
   refine wpAnyT_last (i := 10) rfl (by kernel_rfl) (by kernel_rfl) (fun K hK => ?_)
   refine step_push (E := Ty.int) _ rfl _ _ 48 2 rfl elInt rfl (HB.out.below (hb5'.alloc hz5 _) (Nat.le_refl _)) rfl news1 (fr_int hI) (by omega) (by decide) (by omega) (by first | (simp; done) | (simp; omega)) ?_
   intro v6 w6 hB6 hg6 _
   obtain ⟨xa, xn, xc, rfl⟩ := ex_slice (hB6.fr (by rw [List.length_append]; unfold capMax; simp; omega))
   have hb6 : RowKit.Below (w.heap.size + 2) wv w6 := ((hb5'.alloc hz5 _).mono (by omega)).grown hg6 (by first | (simp; done) | (simp; omega)) (fun q hq => HB.out.own hq)
   have hb56 : RowKit.Below (w.heap.size + 2) w5 w6 := ((Below.refl _ w5).alloc (by omega) _).grown hg6 (by first | (simp; done) | (simp; omega)) (fun q hq => HB.out.own hq)
   rw [← HSC.out] at hB6
   have HB6 := Lib.hid hB6
   replace c0 := (cellB hb56 (by omega)).trans c0
   replace c1 := (cellB hb56 (by omega)).trans c1
   replace m1 := (frozenB hb56 (by omega)).trans m1
   have HR6 : Hid (∀ i, w6.cell? ⟨w.heap.size, i, none⟩ = W.cell? ⟨w.heap.size, i, none⟩ ∧ w6.frozen? ⟨w.heap.size, i, none⟩ = W.frozen? ⟨w.heap.size, i, none⟩) := fun i => ⟨(cellB hb6 (by omega)).trans (HRE.out i).1, (frozenB hb6 (by omega)).trans (HRE.out i).2⟩
   have HT6 := Lib.hid (hbv.trans (hb6.mono (by omega)))
   clear hB6 hg6 hb6 hb56
   refine hK.out _ _ ?_
   clear hK K
   refine wpAnyT_any (i := 11) (v := ?_) rfl (by kernel_rfl) (fun _ _ _ h => h) (Or.inl ⟨by rfl, ?_⟩) (by first | exact fun _ => by assumption | (intro hp; exact absurd hp (by rw [show pastB _ _ = true by kernel_rfl]; simp))) ?_
   rotate_left
   ·(intro w hSw; (try dsimp only at hSw); go_simp <;> with_reducible rfl)
   try simp only [Act.put]
   refine wpAnyT_last (i := 12) rfl (by kernel_rfl) (by kernel_rfl) (fun K hK => ?_)
   go_simp
   refine hK.out _ _ ?_
   clear hK K
   refine wpAnyT_done (by kernel_rfl) ?_ _
   go_simp
   go_wp2_with fail
   go_roundw
   case rel => exact ⟨k + 1, _, by omega, by go_num, by rw [size_set]; exact HB6.out.sameB (fun q h1 h2 => Below.heap_setCell _ _ _ _ (by simp; omega)), (World.cell?_setCell_other _ _ _ _ (by simp)).trans c0, World.cell?_setCell_same _ _ _ c1, (World.frozen?_setCell _ _ _ _).trans m1, HT6.out.setCell (by simp) _, fun i => ⟨(World.cell?_setCell_other _ _ _ _ (by simp)).trans (HR6.out i).1, (World.frozen?_setCell _ _ _ _).trans (HR6.out i).2⟩⟩
   case measure => simp [intOf]; omega
  ·obtain rfl : k = N := by omega
   have r0 := (HRE.out 0).1.trans HRQ.out.1
   have r1 := (HRE.out 1).1.trans HRQ.out.2.1
   have q0 := (HRE.out 0).2.trans HRQ.out.2.2.1
   have q1 := (HRE.out 1).2.trans HRQ.out.2.2.2
   have hw0 : w.heap.size < wv.heap.size := by omega
   have HFR := Lib.hid (HB.out.fr (by unfold capMax; omega))
   have hIa : I64 (ar : Int) := I64.small (by omega) (by omega)
   obtain ⟨g0, g1⟩ := set2_cells (x := .int .i64 (ar : Int)) (y := .slice ga gn gc) r0 r1
   have HFF : Hid (opT.Fr w.heap.size ((wv.setCell ⟨w.heap.size, 0, none⟩ (.int .i64 (ar : Int))).setCell ⟨w.heap.size, 1, none⟩ (.slice ga gn gc)) [.int .i64 (ar : Int), .slice ga gn gc] ((ar : Int), projT s ar k p)) := fr_cons hIa (((HFR.out.set (by simp)).set (by simp)).mono (by omega))
   have HBB : Hid (Below w.heap.size w ((wv.setCell ⟨w.heap.size, 0, none⟩ (.int .i64 (ar : Int))).setCell ⟨w.heap.size, 1, none⟩ (.slice ga gn gc))) := (hbv.setCell (Nat.le_refl _) _).setCell (Nat.le_refl _) _
   clear HB HFR
   go_wp2_with (go_at_call 145; refine (l01Power_any _ s (ar : Int) (by omega) (by omega) (by omega)).mono ?_; rintro e w' ⟨rfl, rfl⟩; rw [Int.toNat_natCast, HN.out])
   refine bodyPost_ret (v := .agg #[.int .i64 (ar : Int), .slice ga gn gc]) (by simp [results, Tryz.results189, go_sem, g0, g1]) rfl ⟨[.int .i64 (ar : Int), .slice ga gn gc], rfl, HFF.out, HBB.out⟩
end Go.Proofs.YtnhdohednekhjaaGreatDoor
namespace Go.Proofs.YtnhdohednekhjaaGreatDoor
open Go.RowKit Go.Sort
theorem bl_ir {e base top : Nat} {w : World} {ad : Option Addr} {n cap : Nat} {ys : List Int} (h : Bl Ty.int e base top w (.slice ad n cap) ys) (h0 : 0 < ys.length) : ∃ g, ad = some ⟨g, 0, none⟩ ∧ n = ys.length ∧ g < top ∧ IR e base w g n cap ys := by
 obtain ⟨L, fps, h1, h2, -, -, h5, -⟩ := h
 rcases id h1.2 with ⟨_, h⟩ | ⟨g, cap', cur, hv, hg, hh, hn, hc, hcs, hL⟩
 ·omega
 ·simp only [Value.slice.injEq] at hv
  obtain ⟨rfl, rfl, rfl⟩ := hv
  have hl : L.length = ys.length := by rw [h1.1]; simp [Ty.int]
  have hLe : L = ys.map (Value.int .i64) := List.ext_getElem (by simp [hl]) fun i hi hi' => by
   obtain ⟨cs, ⟨hcs, -, -⟩, h8⟩ := h2 i (by omega)
   have := h8 0 (by rw [hcs]; simp)
   simp only [hcs, Ty.int, Nat.mul_one, Nat.add_zero, List.getElem_cons_zero] at this
   rw [List.getElem?_eq_getElem hi] at this
   rw [List.getElem_map]
   exact Option.some.inj this
  refine ⟨g, rfl, rfl, h5 g rfl, rfl, fun a ha => ?_, hg, ?_⟩
  ·obtain ⟨i, hi, rfl⟩ := List.mem_iff_getElem.1 ha
   obtain ⟨cs, ⟨-, hI, -⟩, -⟩ := h2 i hi
   exact hI
  ·rw [← hLe]; exact h1
/-- numbers of a size -/
def inS (s : Int) (L : List Int) : Prop := ∀ a ∈ L, 0 ≤ a ∧ a ≤ s - 1
theorem inS_nil {s : Int} : inS s [] := fun a ha => by cases ha
theorem inS_push {s x : Int} {L : List Int} (h : inS s L) (hx : 0 ≤ x ∧ x ≤ s - 1) : inS s (L ++ [x]) := fun a ha => by
 rcases List.mem_append.1 ha with ha | ha
 ·exact h a ha
 ·rw [List.mem_singleton.1 ha]; exact hx
theorem inS_set {s x : Int} {L : List Int} (h : inS s L) (hx : 0 ≤ x ∧ x ≤ s - 1) (k : Nat) : inS s (L.set k x) := fun a ha => by
 rcases List.mem_or_eq_of_mem_set ha with ha | rfl
 ·exact h a ha
 ·exact hx
/-- a drawn operation comes back -/
def OpR (sb B : Nat) (K s ar : Int) (w : World) (e : Ending) (w' : World) : Prop := ∃ (cs : List Value) (f : Int × List Int), e = .returned (.agg cs.toArray) ∧ opT.Fr w.heap.size w' cs f ∧ opOk s f ∧ f.1 = ar ∧ SrcR sb B K w' ∧ TchP (fun q => q = sb) w w'
theorem op_ok {s : Int} {ar N : Nat} {L : List Int} (hs : 1 ≤ s ∧ s ≤ 4) (har : 1 ≤ ar ∧ ar ≤ 3) (hN : s ^ ar = N) (hl : L.length = N) (h : inS s L) : opOk s ((ar : Int), L) :=
 ⟨hs, ⟨by show (1 : Int) ≤ (ar : Int); omega, by show (ar : Int) ≤ 3; omega⟩, by show (L.length : Int) = s ^ ((ar : Int)).toNat; rw [Int.toNat_natCast, hN, hl], h⟩
theorem proj_ok {s : Int} {ar N p : Nat} (hs : 1 ≤ s ∧ s ≤ 4) (har : 1 ≤ ar ∧ ar ≤ 3) (hN : s ^ ar = N) (hp : p < ar) : opOk s ((ar : Int), projT s ar N p) :=
 op_ok hs har hN tabOf_len fun a ha => by
  obtain ⟨i, -, rfl⟩ := List.mem_map.1 ha
  have hpl : p < (digL s (i : Int) ar).length := by rw [digL_len]; exact hp
  have : (digL s (i : Int) ar).getD p 0 = (digL s (i : Int) ar)[p] := by rw [List.getD_eq_getElem?_getD, List.getElem?_eq_getElem hpl]; rfl
  show 0 ≤ (digL s (i : Int) ar).getD p 0 ∧ (digL s (i : Int) ar).getD p 0 ≤ s - 1
  rw [this]
  exact digL_in (by omega) _ (List.getElem_mem hpl)
set_option maxHeartbeats 6400000 in
set_option maxRecDepth 100000 in
theorem l02Drawn_any (w : World) {sb B : Nat} {K s : Int} {ar : Nat} (h : SrcR sb B K w) (hK0 : 0 ≤ K) (hK : K ≤ 100000) (hs : 1 ≤ s ∧ s ≤ 4) (har : 1 ≤ ar ∧ ar ≤ 2) :
  Calls Tryz.prog 106 #[.pointer (some ⟨sb, 0, none⟩), .int .i64 s, .int .i64 ar] w (OpR sb B (K + 100) s ar w) := by
 have H := Lib.hid h
 have hsb := h.lt
 have hBs : B ≤ sb := let ⟨_, _, _, _, _, _, _, _, _, _, _, _, _, _, h⟩ := h; h
 obtain ⟨N, hN⟩ : ∃ N : Nat, s ^ ar = (N : Int) := ⟨(s ^ ar).toNat, by have h0 : 0 < s ^ ar := Int.pow_pos (by omega); omega⟩
 have hNb : N ≤ 16 := by
  have h1 := pow_mono' (s := s) (c := 4) (by omega) (by omega) ar
  rcases (show ar = 1 ∨ ar = 2 by omega) with e | e <;> subst e <;> simp at h1 <;> omega
 have hN0 : 0 < N := by have h0 : 0 < s ^ ar := Int.pow_pos (by omega); omega
 have HN := Lib.hid hN
 clear h hN
 go_enter Tryz.func106, Tryz.ntmps106
 go_wp2_with fail
 generalize hW : World.alloc w _ = W
 have hbW : Below w.heap.size w W := hW ▸ bA
 have hsW : w.heap.size + 1 ≤ W.heap.size := by rw [← hW]; simp
 have r0 : W.cell? ⟨w.heap.size, 0, none⟩ = some (.int .i64 0) := by rw [← hW]; simp [go_sem]
 have r1 : W.cell? ⟨w.heap.size, 1, none⟩ = some (.slice none 0 0) := by rw [← hW]; simp [go_sem]
 have q0 : W.frozen? ⟨w.heap.size, 0, none⟩ = false := by rw [← hW]; simp [go_sem]
 have q1 : W.frozen? ⟨w.heap.size, 1, none⟩ = false := by rw [← hW]; simp [go_sem]
 have HSW := Lib.hid (H.out.below hbW)
 clear hW
 refine (one_any W HSW.out hK0 (by omega) (n := 4) (by omega)).mono ?_
 rintro e w2 ⟨b, rfl, hs2, ht2⟩
 have hz2 := ht2.size
 replace r0 := (ht2.cell (i := 0) (show w.heap.size < W.heap.size by omega) (by omega)).trans r0
 replace r1 := (ht2.cell (i := 1) (show w.heap.size < W.heap.size by omega) (by omega)).trans r1
 replace q0 := (ht2.frozen (i := 0) (show w.heap.size < W.heap.size by omega) (by omega)).trans q0
 replace q1 := (ht2.frozen (i := 1) (show w.heap.size < W.heap.size by omega) (by omega)).trans q1
 have HS2 := Lib.hid hs2
 have HT2 : Hid (TchP (fun q => q = sb) w w2) := (TchP.of_below hbW (fun q => q = sb)).then ht2 (fun q _ h => h)
 clear hs2 ht2 HSW
 cases b
 ·go_wp2_with fail
  generalize hW3 : World.alloc w2 _ = W3
  have hb3 : Below w2.heap.size w2 W3 := hW3 ▸ bA
  have hsW3 : w2.heap.size + 1 ≤ W3.heap.size := by rw [← hW3]; simp
  have c0 : W3.cell? ⟨w2.heap.size, 0, none⟩ = some (.int .i64 (ar : Int)) := by rw [← hW3]; simp [go_sem]
  have c1 : W3.cell? ⟨w2.heap.size, 1, none⟩ = some (.slice none 0 0) := by rw [← hW3]; simp [go_sem]
  have m1 : W3.frozen? ⟨w2.heap.size, 1, none⟩ = false := by rw [← hW3]; simp [go_sem]
  clear hW3
  have hR3 : ∀ i, W3.cell? ⟨w.heap.size, i, none⟩ = w2.cell? ⟨w.heap.size, i, none⟩ ∧ W3.frozen? ⟨w.heap.size, i, none⟩ = w2.frozen? ⟨w.heap.size, i, none⟩ := fun i => ⟨cellB hb3 (by omega), frozenB hb3 (by omega)⟩
  have HS3 := Lib.hid (HS2.out.below hb3)
  have HT3 : Hid (TchP (fun q => q = sb) w W3) := HT2.out.then (TchP.of_below hb3 (fun q => q = sb)) (fun q _ h => h)
  have HRQ := Lib.hid (And.intro r0 (And.intro r1 (And.intro q0 q1)))
  clear HS2 HT2 r0 r1 q0 q1
  go_loopw [8] (fun i wr => ∃ (k : Nat) (va : Value) (L : List Int), k ≤ N ∧ i = .int .i64 k ∧ L.length = k ∧ inS s L ∧ Bl Ty.int 2 (w2.heap.size + 1) wr.heap.size wr va L ∧ wr.cell? ⟨w2.heap.size, 0, none⟩ = some (.int .i64 (ar : Int)) ∧ wr.cell? ⟨w2.heap.size, 1, none⟩ = some va ∧ wr.frozen? ⟨w2.heap.size, 1, none⟩ = false ∧ SrcR sb B (K + 1 + k) wr ∧ TchP (fun q => q = sb) w wr ∧ (∀ i, wr.cell? ⟨w.heap.size, i, none⟩ = w2.cell? ⟨w.heap.size, i, none⟩ ∧ wr.frozen? ⟨w.heap.size, i, none⟩ = w2.frozen? ⟨w.heap.size, i, none⟩)) (fun i _ => N - (intOf i).toNat)
  case atStart => exact ⟨0, _, [], Nat.zero_le _, rfl, rfl, inS_nil, Bl.nil, c0, c1, m1, HS3.out.mono (by omega), HT3.out, hR3⟩
  case round =>
   clear c0 c1 m1 hR3
   obtain ⟨k, va, L, hk, rfl, hLl, hin, hBa, c0, c1, m1, hsr, htc, hrq⟩ := hrel
   have HB := Lib.hid hBa
   have HIN := Lib.hid hin
   have HSR := Lib.hid hsr
   have HTC := Lib.hid htc
   have HRE := Lib.hid hrq
   have hw2 : w2.heap.size < wr.heap.size := cell_lt c0
   obtain ⟨ga, gn, gc, rfl⟩ := ex_slice (hBa.fr (by unfold capMax; omega))
   obtain ⟨wv, rfl⟩ : ∃ wv : World, wv = wr := ⟨_, rfl⟩
   clear hBa hin hsr htc hrq HS3 HT3
   by_cases hkl : k < N
   ·go_wp2_with (go_at_call 145; refine (l01Power_any _ s (ar : Int) (by omega) (by omega) (by omega)).mono ?_; rintro e w' ⟨rfl, rfl⟩; rw [Int.toNat_natCast, HN.out])
    have hv0 : Below wv.heap.size wv wv.drew := bD
    refine wp_region_T (fun w' => w'.cell? ⟨w2.heap.size, 1, none⟩ = some (.slice ga gn gc)) [6] (by kernel_rfl) c1 (fun hHeld => ?_)
    refine wpAnyT_take (i := 0) (v := ?_) rfl (by kernel_rfl) (fun _ _ _ h => h) (Or.inl ⟨by rfl, ?_⟩) (by assumption) ?_
    rotate_left
    ·(intro w hSw; (try dsimp only at hSw); go_simp <;> with_reducible rfl)
    go_simp
    refine wpAnyT_take (i := 1) (v := ?_) rfl (by kernel_rfl) (fun _ _ _ h => h) (Or.inl ⟨by rfl, ?_⟩) (by assumption) ?_
    rotate_left
    ·(intro w hSw; (try dsimp only at hSw); go_simp <;> with_reducible rfl)
    go_simp
    refine wpAnyT_take (i := 2) (v := ?_) rfl (by kernel_rfl) (fun _ _ _ h => h) (Or.inl ⟨by rfl, ?_⟩) (by assumption) ?_
    rotate_left
    ·(intro w hSw; (try dsimp only at hSw); go_simp <;> with_reducible rfl)
    go_simp
    refine wpAnyT_take (i := 3) (v := ?_) rfl (by kernel_rfl) (fun _ _ _ h => h) (Or.inl ⟨by rfl, ?_⟩) (by assumption) ?_
    rotate_left
    ·(intro w hSw; (try dsimp only at hSw); go_simp <;> with_reducible rfl)
    go_simp
    have HS0 := Lib.hid (HSR.out.below hv0)
    have HT0 : Hid (TchP (fun q => q = sb) w wv.drew) := HTC.out.then (TchP.of_below hv0 (fun q => q = sb)) (fun q _ h => h)
    have HB0 : Hid (Bl Ty.int 2 (w2.heap.size + 1) wv.heap.size wv.drew (.slice ga gn gc) L) := HB.out.below hv0 (Nat.le_refl _)
    have HR0 : Hid (∀ i, wv.drew.cell? ⟨w.heap.size, i, none⟩ = w2.cell? ⟨w.heap.size, i, none⟩ ∧ wv.drew.frozen? ⟨w.heap.size, i, none⟩ = w2.frozen? ⟨w.heap.size, i, none⟩) := fun i => ⟨(cellB hv0 (by omega)).trans (HRE.out i).1, (frozenB hv0 (by omega)).trans (HRE.out i).2⟩
    replace c0 := (cellB hv0 hw2).trans c0
    replace m1 := (frozenB hv0 hw2).trans m1
    have hz0 := hv0.size
    clear c1 HSR HTC HB HRE
    generalize wv.drew = x0 at hHeld hv0 HS0 HT0 HB0 HR0 c0 m1 hz0 ⊢
    have c1 := hHeld
    refine wpAnyT_one (i := 4) rfl (by kernel_rfl) (fun K hK => ?_)
    go_simp
    go_at_call 54
    refine (pick_any x0 HS0.out (by omega) (by omega) (n := s) (by omega)).mono ?_
    rintro e w5 ⟨x, rfl, hx0, hx1, hs5, ht5⟩
    have hz5 := ht5.size
    have hI : I64 x := I64.small (by omega) (by omega)
    replace c0 := (ht5.cell (i := 0) (show w2.heap.size < x0.heap.size by omega) (by omega)).trans c0
    replace c1 := (ht5.cell (i := 1) (show w2.heap.size < x0.heap.size by omega) (by omega)).trans c1
    replace m1 := (ht5.frozen (i := 1) (show w2.heap.size < x0.heap.size by omega) (by omega)).trans m1
    have HB5 : Hid (Bl Ty.int 2 (w2.heap.size + 1) wv.heap.size w5 (.slice ga gn gc) L) := HB0.out.sameB (fun q h1 h2 => ht5.block q (by omega) (by omega))
    have HS5 := Lib.hid hs5
    have HT5 := Lib.hid (HT0.out.then ht5 (fun q _ h => h))
    have HR5 : Hid (∀ i, w5.cell? ⟨w.heap.size, i, none⟩ = w2.cell? ⟨w.heap.size, i, none⟩ ∧ w5.frozen? ⟨w.heap.size, i, none⟩ = w2.frozen? ⟨w.heap.size, i, none⟩) := fun i => ⟨(ht5.cell (by omega) (by omega)).trans (HR0.out i).1, (ht5.frozen (by omega) (by omega)).trans (HR0.out i).2⟩
    clear hs5 ht5 HS0 HT0 HB0 HR0
    dsimp only
    refine hK.out _ _ c1 (fun hHeld => ?_)
    clear hK K
    refine wpAnyT_one (i := 5) rfl (by kernel_rfl) (fun K hK => ?_)
    go_simp
    refine hK.out _ _ (by go_keep) (fun hHeld => ?_)
    clear hK K
    refine wpAnyT_last (i := 6) rfl (by kernel_rfl) (by kernel_rfl) (fun K hK => ?_)
    refine step_push (E := Ty.int) _ rfl _ _ 48 2 rfl elInt rfl (HB5.out.below ((bA (w := w5)).mono (by omega)) (Nat.le_refl _)) rfl news1 (fr_int hI) (by omega) (by decide) (by omega) (by first | (simp; done) | (simp; omega)) ?_
    intro v6 w6 hB6 hg6 _
    obtain ⟨xa, xn, xc, rfl⟩ := ex_slice (hB6.fr (by rw [List.length_append, List.length_singleton]; unfold capMax; omega))
    have hb6 : RowKit.Below (w2.heap.size + 1) w5 w6 := ((bA (w := w5)).mono (by omega)).grown hg6 (by first | (simp; done) | (simp; omega)) (fun q hq => HB5.out.own hq)
    have HB6 := Lib.hid hB6
    have hz6 := hb6.size
    replace c0 := (cellB hb6 (by omega)).trans c0
    replace c1 := (cellB hb6 (by omega)).trans c1
    replace m1 := (frozenB hb6 (by omega)).trans m1
    have HS6 := Lib.hid (srcB HS5.out (show sb < w2.heap.size + 1 by omega) hb6)
    have HT6 := Lib.hid (tchB HT5.out (hb6.mono (by omega)))
    have HR6 : Hid (∀ i, w6.cell? ⟨w.heap.size, i, none⟩ = w2.cell? ⟨w.heap.size, i, none⟩ ∧ w6.frozen? ⟨w.heap.size, i, none⟩ = w2.frozen? ⟨w.heap.size, i, none⟩) := fun i => ⟨(cellB hb6 (by omega)).trans (HR5.out i).1, (frozenB hb6 (by omega)).trans (HR5.out i).2⟩
    clear hB6 hg6 hb6 HB5 HS5 HT5 HR5
    refine hK.out _ _ ?_
    clear hK K
    refine wpAnyT_any (i := 7) (v := ?_) rfl (by kernel_rfl) (fun _ _ _ h => h) (Or.inl ⟨by rfl, ?_⟩) (by first | exact fun _ => by assumption | (intro hp; exact absurd hp (by rw [show pastB _ _ = true by kernel_rfl]; simp))) ?_
    rotate_left
    ·(intro w hSw; (try dsimp only at hSw); go_simp <;> with_reducible rfl)
    try simp only [Act.put]
    refine wpAnyT_last (i := 8) rfl (by kernel_rfl) (by kernel_rfl) (fun K hK => ?_)
    go_simp
    refine hK.out _ _ ?_
    clear hK K
    refine wpAnyT_done (by kernel_rfl) ?_ _
    go_simp
    go_wp2_with fail
    go_roundw
    case rel => exact ⟨k + 1, .slice xa xn xc, L ++ [x], by omega, by go_num, by rw [List.length_append, List.length_singleton, hLl], inS_push HIN.out ⟨hx0, hx1⟩, by rw [size_set]; exact HB6.out.sameB (fun q h1 h2 => Below.heap_setCell _ _ _ _ (by simp; omega)), (World.cell?_setCell_other _ _ _ _ (by simp)).trans c0, World.cell?_setCell_same _ _ _ c1, (World.frozen?_setCell _ _ _ _).trans m1, (HS6.out.tch (TchP.set (O := fun q => q = w2.heap.size) rfl) (by omega) (by omega)).mono (by omega), tchS HT6.out (by omega), fun i => ⟨(World.cell?_setCell_other _ _ _ _ (by first | (simp; done) | (simp; omega))).trans (HR6.out i).1, (World.frozen?_setCell _ _ _ _).trans (HR6.out i).2⟩⟩
    case measure => simp [intOf]; omega
   ·obtain rfl : k = N := by omega
    obtain ⟨g, rfl, hgn, hgt, hIR⟩ := bl_ir HB.out (by omega)
    obtain rfl : k = gn := by omega
    have HIR := Lib.hid hIR
    clear hIR HB hgn
    go_wp2_with (go_at_call 145; refine (l01Power_any _ s (ar : Int) (by omega) (by omega) (by omega)).mono ?_; rintro e w' ⟨rfl, rfl⟩; rw [Int.toNat_natCast, HN.out])
    refine (one_any wv HSR.out (by omega) (by omega) (n := 3) (by omega)).mono ?_
    rintro e w6 ⟨b3, rfl, hs6, ht6⟩
    have hz6 := ht6.size
    replace c0 := (ht6.cell (i := 0) hw2 (by omega)).trans c0
    replace c1 := (ht6.cell (i := 1) hw2 (by omega)).trans c1
    replace m1 := (ht6.frozen (i := 1) hw2 (by omega)).trans m1
    have HIR6 := Lib.hid (HIR.out.same (ht6.block g HIR.out.lt (by have := HIR.out.2.2.1; omega)))
    have HS6 := Lib.hid hs6
    have HT6 := Lib.hid (HTC.out.then ht6 (fun q _ h => h))
    have HR6 : Hid (∀ i, w6.cell? ⟨w.heap.size, i, none⟩ = w2.cell? ⟨w.heap.size, i, none⟩ ∧ w6.frozen? ⟨w.heap.size, i, none⟩ = w2.frozen? ⟨w.heap.size, i, none⟩) := fun i => ⟨(ht6.cell (by omega) (by omega)).trans (HRE.out i).1, (ht6.frozen (by omega) (by omega)).trans (HRE.out i).2⟩
    clear hs6 ht6 HSR HTC HRE HIR
    cases b3
    ·go_wp2_with fail
     have HIR7 := HIR6
     have HIN7 := HIN
     have HS7 := HS6
     have HT7 := HT6
     have HR7 := HR6
     obtain ⟨LL, rfl⟩ : ∃ LL, LL = L := ⟨_, rfl⟩
     refine (one_any w6 HS7.out (by omega) (by omega) (n := 4) (by omega)).mono ?_
     rintro e w8 ⟨b4, rfl, hs8, ht8⟩
     have hz8 := ht8.size
     have hl7 : w2.heap.size < w6.heap.size := cell_lt c0
     replace c0 := (ht8.cell (i := 0) hl7 (by omega)).trans c0
     replace c1 := (ht8.cell (i := 1) hl7 (by omega)).trans c1
     have r0 := ((ht8.cell (by omega) (by omega)).trans (HR7.out 0).1).trans HRQ.out.1
     have r1 := ((ht8.cell (by omega) (by omega)).trans (HR7.out 1).1).trans HRQ.out.2.1
     have q0 := ((ht8.frozen (by omega) (by omega)).trans (HR7.out 0).2).trans HRQ.out.2.2.1
     have q1 := ((ht8.frozen (by omega) (by omega)).trans (HR7.out 1).2).trans HRQ.out.2.2.2
     have hIR8 := HIR7.out.same (ht8.block g HIR7.out.lt (by have := HIR7.out.2.2.1; omega))
     have HFR := Lib.hid (hIR8.fr (by unfold capMax; omega))
     have hIa : I64 (ar : Int) := I64.small (by omega) (by omega)
     obtain ⟨g0, g1⟩ := set2_cells (x := .int .i64 (ar : Int)) (y := .slice (some ⟨g, 0, none⟩) k gc) r0 r1
     have HFF : Hid (opT.Fr w.heap.size ((w8.setCell ⟨w.heap.size, 0, none⟩ (.int .i64 (ar : Int))).setCell ⟨w.heap.size, 1, none⟩ (.slice (some ⟨g, 0, none⟩) k gc)) [.int .i64 (ar : Int), .slice (some ⟨g, 0, none⟩) k gc] ((ar : Int), LL)) := fr_cons hIa (((HFR.out.set (by simp; omega)).set (by simp; omega)).mono (by omega))
     have HOK : Hid (opOk s ((ar : Int), LL)) := op_ok hs (by omega) HN.out hIR8.1 HIN7.out
     have HSS : Hid (SrcR sb B (K + 100) ((w8.setCell ⟨w.heap.size, 0, none⟩ (.int .i64 (ar : Int))).setCell ⟨w.heap.size, 1, none⟩ (.slice (some ⟨g, 0, none⟩) k gc))) := ((hs8.tch (TchP.set (O := fun q => q = w.heap.size) rfl) (by omega) (by omega)).tch (TchP.set (O := fun q => q = w.heap.size) rfl) (by omega) (by omega)).mono (by omega)
     have HTT : Hid (TchP (fun q => q = sb) w ((w8.setCell ⟨w.heap.size, 0, none⟩ (.int .i64 (ar : Int))).setCell ⟨w.heap.size, 1, none⟩ (.slice (some ⟨g, 0, none⟩) k gc))) := tchS (tchS (HT7.out.then ht8 (fun q _ h => h)) (Nat.le_refl _)) (Nat.le_refl _)
     have ha3 : ((ar : Int) == 3) = false := by simp; omega
     clear hs8 ht8 hIR8 HFR HS7 HT7
     cases b4
     ·go_wp2_with fail
      refine bodyPost_ret (v := .agg #[.int .i64 (ar : Int), .slice (some ⟨g, 0, none⟩) k gc]) (by simp [results, Tryz.results106, go_sem, g0, g1]) rfl ⟨[.int .i64 (ar : Int), .slice (some ⟨g, 0, none⟩) k gc], ((ar : Int), LL), rfl, HFF.out, HOK.out, rfl, HSS.out, HTT.out⟩
     ·cases hs2 : (s == 2)
      all_goals
       go_wp2_with fail
       refine bodyPost_ret (v := .agg #[.int .i64 (ar : Int), .slice (some ⟨g, 0, none⟩) k gc]) (by simp [results, Tryz.results106, go_sem, g0, g1]) rfl ⟨[.int .i64 (ar : Int), .slice (some ⟨g, 0, none⟩) k gc], ((ar : Int), LL), rfl, HFF.out, HOK.out, rfl, HSS.out, HTT.out⟩
    ·go_wp2_with fail
     go_loopg [9] k (fun gh i wr => ∃ (q : Nat) (M : List Int), gh + q = k ∧ i = .int .i64 q ∧ inS s M ∧ IR 2 (w2.heap.size + 1) wr g k gc M ∧ wr.cell? ⟨w2.heap.size, 0, none⟩ = some (.int .i64 (ar : Int)) ∧ wr.cell? ⟨w2.heap.size, 1, none⟩ = some (.slice (some ⟨g, 0, none⟩) k gc) ∧ wr.frozen? ⟨w2.heap.size, 1, none⟩ = false ∧ SrcR sb B (K + 1 + k + 1) wr ∧ TchP (fun q => q = sb) w wr ∧ (∀ i, wr.cell? ⟨w.heap.size, i, none⟩ = w2.cell? ⟨w.heap.size, i, none⟩ ∧ wr.frozen? ⟨w.heap.size, i, none⟩ = w2.frozen? ⟨w.heap.size, i, none⟩))
     case atStart => exact ⟨0, L, by omega, rfl, HIN.out, HIR6.out, c0, c1, m1, HS6.out, HT6.out, HR6.out⟩
     case round =>
      clear c0 c1 m1 HIR6 HS6 HT6 HR6
      obtain ⟨q, M, hq, rfl, hin2, hir2, c0, c1, m1, hsr2, htc2, hrq2⟩ := hrel
      have HIN7 := Lib.hid hin2
      have HIR7 := Lib.hid hir2
      have HS7 := Lib.hid hsr2
      have HT7 := Lib.hid htc2
      have HR7 := Lib.hid hrq2
      have hw7 : w2.heap.size < wr.heap.size := cell_lt c0
      have hg7 := hir2.lt
      have hgb : w2.heap.size + 1 ≤ g := hir2.2.2.1
      obtain ⟨wz, rfl⟩ : ∃ wz : World, wz = wr := ⟨_, rfl⟩
      clear hin2 hir2 hsr2 htc2 hrq2
      by_cases hql : q < k
      ·go_wp2_with fail
       refine (l01Digits_any _ s (q : Int) ar (by omega) (by omega) (by omega) (by omega) (by omega)).mono ?_
       rintro e w5 ⟨dv, rfl, hdf, hb5⟩
       have hlen := digL_len (s := s) (idx := (q : Int)) (n := ar)
       have hdin : ∀ a ∈ digL s (q : Int) ar, 0 ≤ a ∧ a ≤ s - 1 := digL_in (by omega)
       generalize digL s (q : Int) ar = D at hdf hlen hdin
       obtain ⟨ad, cd, hv, -, -, hce⟩ := ints_ex hdf.rd
       obtain rfl : dv = _ := by simpa using hv
       obtain ⟨db, dO, rfl, hdb, hce⟩ := hce (by omega)
       have HIR5 := Lib.hid (HIR7.out.same (hb5.block g hg7))
       have HS5 := Lib.hid (HS7.out.below hb5)
       have HT5 := Lib.hid (HT7.out.then (TchP.of_below hb5 (fun q => q = sb)) (fun q _ h => h))
       have HR5 : Hid (∀ i, w5.cell? ⟨w.heap.size, i, none⟩ = w2.cell? ⟨w.heap.size, i, none⟩ ∧ w5.frozen? ⟨w.heap.size, i, none⟩ = w2.frozen? ⟨w.heap.size, i, none⟩) := fun i => ⟨(cellB hb5 (by omega)).trans (HR7.out i).1, (frozenB hb5 (by omega)).trans (HR7.out i).2⟩
       have hz5 := hb5.size
       replace c0 := (cellB hb5 (by omega)).trans c0
       replace c1 := (cellB hb5 (by omega)).trans c1
       replace m1 := (frozenB hb5 (by omega)).trans m1
       rcases (show ar = 1 ∨ ar = 2 by omega) with rfl | rfl
       ·clear hce
        go_wp2_with fail
        go_quiet (fail)
        generalize hW8 : World.drewN w5 _ = x8
        have hb8 : Below w5.heap.size w5 x8 := hW8 ▸ bDN (Below.refl _ _)
        have hz8 := hb8.size
        replace c0 := (cellB hb8 (by omega)).trans c0
        replace c1 := (cellB hb8 (by omega)).trans c1
        replace m1 := (frozenB hb8 (by omega)).trans m1
        clear hW8
        go_wp2_with fail
        go_quiet (fail)
        generalize hW9 : World.drewN x8 _ = x9
        have hb9 : Below x8.heap.size x8 x9 := hW9 ▸ bDN (Below.refl _ _)
        have hz9 := hb9.size
        replace c0 := (cellB hb9 (by omega)).trans c0
        replace c1 := (cellB hb9 (by omega)).trans c1
        replace m1 := (frozenB hb9 (by omega)).trans m1
        have hbx := bthen hb8 hb9
        clear hW9
        go_wp2_with fail
        go_roundg (k - q - 1)
        case rel => exact ⟨q + 1, M, by omega, by go_num, HIN7.out, HIR5.out.same (hbx.block g (by omega)), c0, c1, m1, HS5.out.below hbx, HT5.out.then (TchP.of_below hbx (fun q => q = sb)) (fun q _ h => h), fun i => ⟨(cellB hbx (by omega)).trans (HR5.out i).1, (frozenB hbx (by omega)).trans (HR5.out i).2⟩⟩
        case measure => omega
       ·obtain ⟨x, y, rfl⟩ : ∃ x y, D = [x, y] := by
         match D, hlen with
         | [x, y], _ => exact ⟨x, y, rfl⟩
        have d0 := (hce 0 (by simp)).2
        have d1 := (hce 1 (by simp)).2
        simp only [List.getElem_cons_zero, List.getElem_cons_succ, Nat.add_zero] at d0 d1
        have hx := hdin x (by simp)
        have hy := hdin y (by simp)
        clear hce hdf hdin hv
        go_wp2_with fail
        have hv0 : Below w5.heap.size w5 w5.drew := bD
        refine wp_region_T (fun w' => w'.cell? ⟨w2.heap.size, 1, none⟩ = some (.slice (some ⟨g, 0, none⟩) k gc) ∧ w'.cell? ⟨db, dO, none⟩ = some (.int .i64 x) ∧ w'.cell? ⟨db, dO + 1, none⟩ = some (.int .i64 y)) [11] (by kernel_rfl) ⟨c1, d0, d1⟩ (fun hHeld => ?_)
        refine wpAnyT_take (i := 0) (v := ?_) rfl (by kernel_rfl) (fun _ _ _ h => h) (Or.inl ⟨by rfl, ?_⟩) (by assumption) ?_
        rotate_left
        ·(intro w hSw; (try dsimp only at hSw); go_simp <;> with_reducible rfl)
        go_simp
        refine wpAnyT_take (i := 1) (v := ?_) rfl (by kernel_rfl) (fun _ _ _ h => h) (Or.inl ⟨by rfl, ?_⟩) (by assumption) ?_
        rotate_left
        ·(intro w hSw; (try dsimp only at hSw); go_simp <;> with_reducible rfl)
        go_simp
        refine wpAnyT_take (i := 2) (v := ?_) rfl (by kernel_rfl) (fun _ _ _ h => h) (Or.inl ⟨by rfl, ?_⟩) (by assumption) ?_
        rotate_left
        ·(intro w hSw; (try dsimp only at hSw); go_simp <;> with_reducible rfl)
        go_simp
        refine wpAnyT_take (i := 3) (v := ?_) rfl (by kernel_rfl) (fun _ _ _ h => h) (Or.inl ⟨by rfl, ?_⟩) (by assumption) ?_
        rotate_left
        ·(intro w hSw; (try dsimp only at hSw); go_simp <;> with_reducible rfl)
        go_simp
        refine wpAnyT_take (i := 4) (v := ?_) rfl (by kernel_rfl) (fun _ _ _ h => h) (Or.inl ⟨by rfl, ?_⟩) (by assumption) ?_
        rotate_left
        ·(intro w hSw; (try dsimp only at hSw); go_simp <;> with_reducible rfl)
        go_simp
        refine wpAnyT_take (i := 5) (v := ?_) rfl (by kernel_rfl) (fun _ _ _ h => h) (Or.inl ⟨by rfl, ?_⟩) (by assumption) ?_
        rotate_left
        ·(intro w hSw; (try dsimp only at hSw); go_simp <;> with_reducible rfl)
        go_simp
        refine wpAnyT_take (i := 6) (v := ?_) rfl (by kernel_rfl) (fun _ _ _ h => h) (Or.inl ⟨by rfl, ?_⟩) (by assumption) ?_
        rotate_left
        ·(intro w hSw; (try dsimp only at hSw); go_simp <;> with_reducible rfl)
        go_simp
        refine wpAnyT_take (i := 7) (v := ?_) rfl (by kernel_rfl) (fun _ _ _ h => h) (Or.inl ⟨by rfl, ?_⟩) (by assumption) ?_
        rotate_left
        ·(intro w hSw; (try dsimp only at hSw); go_simp <;> with_reducible rfl)
        go_simp
        refine wpAnyT_take (i := 8) (v := ?_) rfl (by kernel_rfl) (fun _ _ _ h => h) (Or.inl ⟨by rfl, ?_⟩) (by assumption) ?_
        rotate_left
        ·(intro w hSw; (try dsimp only at hSw); go_simp <;> with_reducible rfl)
        go_simp
        refine wpAnyT_one (i := 9) rfl (by kernel_rfl) (fun K hK => ?_)
        go_simp
        go_at_call 190
        refine (l00Min_any x y _).mono ?_
        rintro e _ ⟨rfl, rfl⟩
        dsimp only
        refine hK.out _ _ hHeld (fun hHeld => ?_)
        clear hK K
        refine wpAnyT_take (i := 10) (v := ?_) rfl (by kernel_rfl) (fun _ _ _ h => h) (Or.inl ⟨by rfl, ?_⟩) (by assumption) ?_
        rotate_left
        ·(intro w hSw; (try dsimp only at hSw); go_simp <;> with_reducible rfl)
        go_simp
        have HIR0 := Lib.hid (HIR5.out.same (hv0.block g (by omega)))
        have HS0 := Lib.hid (HS5.out.below hv0)
        have HT0 : Hid (TchP (fun q => q = sb) w w5.drew) := HT5.out.then (TchP.of_below hv0 (fun q => q = sb)) (fun q _ h => h)
        have HR0 : Hid (∀ i, w5.drew.cell? ⟨w.heap.size, i, none⟩ = w2.cell? ⟨w.heap.size, i, none⟩ ∧ w5.drew.frozen? ⟨w.heap.size, i, none⟩ = w2.frozen? ⟨w.heap.size, i, none⟩) := fun i => ⟨(cellB hv0 (by omega)).trans (HR5.out i).1, (frozenB hv0 (by omega)).trans (HR5.out i).2⟩
        have hz0 := hv0.size
        replace c0 := (cellB hv0 (by omega)).trans c0
        replace m1 := (frozenB hv0 (by omega)).trans m1
        clear c1 d0 d1 HIR5 HS5 HT5 HR5
        generalize w5.drew = x0 at *
        have c1 := hHeld.1
        obtain ⟨u0, e0⟩ := HIR0.out.cell hql
        have e1 := HIR0.out.free q
        have HIR1 := Lib.hid (HIR0.out.set q (a := min x y) (I64.small (by omega) (by omega)))
        have HIN1 := Lib.hid (inS_set HIN7.out (x := min x y) (by omega) q)
        refine wpAnyT_last (i := 11) rfl (by kernel_rfl) (by kernel_rfl) (fun K hK => ?_)
        go_simp
        refine hK.out _ _ ?_
        clear hK K
        refine wpAnyT_done (by kernel_rfl) ?_ _
        go_simp
        generalize hW1 : World.setCell x0 _ _ = x1
        have hz1 : x0.heap.size ≤ x1.heap.size := by rw [← hW1, size_set]; exact Nat.le_refl _
        replace c0 : x1.cell? ⟨w2.heap.size, 0, none⟩ = some (.int .i64 2) := by rw [← hW1]; exact (World.cell?_setCell_other _ _ _ _ (by first | (simp; done) | (simp; omega))).trans c0
        replace c1 : x1.cell? ⟨w2.heap.size, 1, none⟩ = some (.slice (some ⟨g, 0, none⟩) k gc) := by rw [← hW1]; exact (World.cell?_setCell_other _ _ _ _ (by first | (simp; done) | (simp; omega))).trans c1
        replace m1 : x1.frozen? ⟨w2.heap.size, 1, none⟩ = false := by rw [← hW1]; exact (World.frozen?_setCell _ _ _ _).trans m1
        replace HIR1 : Hid (IR 2 (w2.heap.size + 1) x1 g k gc (M.set q (min x y))) := by rw [← hW1]; exact HIR1
        have HS1 : Hid (SrcR sb B (K + 1 + k + 1) x1) := by rw [← hW1]; exact HS0.out.tch (TchP.set (O := fun q => q = g) rfl) (by omega) (by omega)
        have HT1 : Hid (TchP (fun q => q = sb) w x1) := by rw [← hW1]; exact tchS HT0.out (by omega)
        have HR1 : Hid (∀ i, x1.cell? ⟨w.heap.size, i, none⟩ = w2.cell? ⟨w.heap.size, i, none⟩ ∧ x1.frozen? ⟨w.heap.size, i, none⟩ = w2.frozen? ⟨w.heap.size, i, none⟩) := by rw [← hW1]; exact fun i => ⟨(World.cell?_setCell_other _ _ _ _ (by first | (simp; done) | (simp; omega))).trans (HR0.out i).1, (World.frozen?_setCell _ _ _ _).trans (HR0.out i).2⟩
        clear hW1 hHeld e0 e1
        go_wp2_with fail
        go_quiet (fail)
        generalize hW8 : World.drewN x1 _ = x8
        have hb8 : Below x1.heap.size x1 x8 := hW8 ▸ bDN (Below.refl _ _)
        have hz8 := hb8.size
        replace c0 := (cellB hb8 (by omega)).trans c0
        replace c1 := (cellB hb8 (by omega)).trans c1
        replace m1 := (frozenB hb8 (by omega)).trans m1
        clear hW8
        go_wp2_with fail
        go_quiet (fail)
        generalize hW9 : World.drewN x8 _ = x9
        have hb9 : Below x8.heap.size x8 x9 := hW9 ▸ bDN (Below.refl _ _)
        have hz9 := hb9.size
        replace c0 := (cellB hb9 (by omega)).trans c0
        replace c1 := (cellB hb9 (by omega)).trans c1
        replace m1 := (frozenB hb9 (by omega)).trans m1
        have hbx := bthen hb8 hb9
        clear hW9
        go_wp2_with fail
        go_roundg (k - q - 1)
        case rel => exact ⟨q + 1, M.set q (min x y), by omega, by go_num, HIN1.out, HIR1.out.same (hbx.block g (by omega)), c0, c1, m1, HS1.out.below hbx, HT1.out.then (TchP.of_below hbx (fun q => q = sb)) (fun q _ h => h), fun i => ⟨(cellB hbx (by omega)).trans (HR1.out i).1, (frozenB hbx (by omega)).trans (HR1.out i).2⟩⟩
        case measure => omega
      ·obtain rfl : q = k := by omega
       obtain ⟨LL, rfl⟩ : ∃ LL, LL = M := ⟨_, rfl⟩
       go_wp2_with fail
       refine (one_any wz HS7.out (by omega) (by omega) (n := 4) (by omega)).mono ?_
       rintro e w8 ⟨b4, rfl, hs8, ht8⟩
       have hz8 := ht8.size
       have hl7 : w2.heap.size < wz.heap.size := cell_lt c0
       replace c0 := (ht8.cell (i := 0) hl7 (by omega)).trans c0
       replace c1 := (ht8.cell (i := 1) hl7 (by omega)).trans c1
       have r0 := ((ht8.cell (by omega) (by omega)).trans (HR7.out 0).1).trans HRQ.out.1
       have r1 := ((ht8.cell (by omega) (by omega)).trans (HR7.out 1).1).trans HRQ.out.2.1
       have q0 := ((ht8.frozen (by omega) (by omega)).trans (HR7.out 0).2).trans HRQ.out.2.2.1
       have q1 := ((ht8.frozen (by omega) (by omega)).trans (HR7.out 1).2).trans HRQ.out.2.2.2
       have hIR8 := HIR7.out.same (ht8.block g HIR7.out.lt (by have := HIR7.out.2.2.1; omega))
       have HFR := Lib.hid (hIR8.fr (by unfold capMax; omega))
       have hIa : I64 (ar : Int) := I64.small (by omega) (by omega)
       obtain ⟨g0, g1⟩ := set2_cells (x := .int .i64 (ar : Int)) (y := .slice (some ⟨g, 0, none⟩) q gc) r0 r1
       have HFF : Hid (opT.Fr w.heap.size ((w8.setCell ⟨w.heap.size, 0, none⟩ (.int .i64 (ar : Int))).setCell ⟨w.heap.size, 1, none⟩ (.slice (some ⟨g, 0, none⟩) q gc)) [.int .i64 (ar : Int), .slice (some ⟨g, 0, none⟩) q gc] ((ar : Int), LL)) := fr_cons hIa (((HFR.out.set (by simp; omega)).set (by simp; omega)).mono (by omega))
       have HOK : Hid (opOk s ((ar : Int), LL)) := op_ok hs (by omega) HN.out hIR8.1 HIN7.out
       have HSS : Hid (SrcR sb B (K + 100) ((w8.setCell ⟨w.heap.size, 0, none⟩ (.int .i64 (ar : Int))).setCell ⟨w.heap.size, 1, none⟩ (.slice (some ⟨g, 0, none⟩) q gc))) := ((hs8.tch (TchP.set (O := fun q => q = w.heap.size) rfl) (by omega) (by omega)).tch (TchP.set (O := fun q => q = w.heap.size) rfl) (by omega) (by omega)).mono (by omega)
       have HTT : Hid (TchP (fun q => q = sb) w ((w8.setCell ⟨w.heap.size, 0, none⟩ (.int .i64 (ar : Int))).setCell ⟨w.heap.size, 1, none⟩ (.slice (some ⟨g, 0, none⟩) q gc))) := tchS (tchS (HT7.out.then ht8 (fun q _ h => h)) (Nat.le_refl _)) (Nat.le_refl _)
       have ha3 : ((ar : Int) == 3) = false := by simp; omega
       clear hs8 ht8 hIR8 HFR HS7 HT7
       cases b4
       ·go_wp2_with fail
        refine bodyPost_ret (v := .agg #[.int .i64 (ar : Int), .slice (some ⟨g, 0, none⟩) q gc]) (by simp [results, Tryz.results106, go_sem, g0, g1]) rfl ⟨[.int .i64 (ar : Int), .slice (some ⟨g, 0, none⟩) q gc], ((ar : Int), LL), rfl, HFF.out, HOK.out, rfl, HSS.out, HTT.out⟩
       ·cases hs2 : (s == 2)
        all_goals
         go_wp2_with fail
         refine bodyPost_ret (v := .agg #[.int .i64 (ar : Int), .slice (some ⟨g, 0, none⟩) q gc]) (by simp [results, Tryz.results106, go_sem, g0, g1]) rfl ⟨[.int .i64 (ar : Int), .slice (some ⟨g, 0, none⟩) q gc], ((ar : Int), LL), rfl, HFF.out, HOK.out, rfl, HSS.out, HTT.out⟩
 ·go_wp2_with fail
  refine (pick_any w2 HS2.out (by omega) (by omega) (n := (ar : Int)) (by omega)).mono ?_
  rintro e w3 ⟨x, rfl, hx0, hx1, hs3, ht3⟩
  obtain ⟨p, rfl⟩ : ∃ p : Nat, x = p := ⟨x.toNat, by omega⟩
  have hz3 := ht3.size
  replace r0 := (ht3.cell (i := 0) (show w.heap.size < w2.heap.size by omega) (by omega)).trans r0
  replace r1 := (ht3.cell (i := 1) (show w.heap.size < w2.heap.size by omega) (by omega)).trans r1
  replace q0 := (ht3.frozen (i := 0) (show w.heap.size < w2.heap.size by omega) (by omega)).trans q0
  replace q1 := (ht3.frozen (i := 1) (show w.heap.size < w2.heap.size by omega) (by omega)).trans q1
  have HS3 := Lib.hid hs3
  have HT3 := Lib.hid (HT2.out.then ht3 (fun q _ h => h))
  clear hs3 ht3 HS2 HT2
  go_wp2_with fail
  refine (l02Projection_any w3 hs (by omega) HN.out (p := p) (by omega)).mono ?_
  rintro e w4 ⟨cs, rfl, hf, hb4⟩
  have hz4 := hb4.size
  replace r0 := (cellB hb4 (by omega)).trans r0
  replace r1 := (cellB hb4 (by omega)).trans r1
  replace q0 := (frozenB hb4 (by omega)).trans q0
  replace q1 := (frozenB hb4 (by omega)).trans q1
  obtain ⟨ta, tc, rfl⟩ := fr_pair hf
  have HOK : Hid (opOk s ((ar : Int), projT s ar N p)) := proj_ok hs (by omega) HN.out (by omega)
  generalize projT s ar N p = L at hf HOK ⊢
  dsimp only at hf ⊢
  have HF : Hid (opT.Fr w.heap.size ((w4.setCell ⟨w.heap.size, 0, none⟩ (.int .i64 (ar : Int))).setCell ⟨w.heap.size, 1, none⟩ (.slice ta L.length tc)) [.int .i64 (ar : Int), .slice ta L.length tc] ((ar : Int), L)) := ((hf.set (by simp; omega)).set (by simp; omega)).mono (by omega)
  obtain ⟨g0, g1⟩ := set2_cells (x := .int .i64 (ar : Int)) (y := .slice ta L.length tc) r0 r1
  have HSS : Hid (SrcR sb B (K + 100) ((w4.setCell ⟨w.heap.size, 0, none⟩ (.int .i64 (ar : Int))).setCell ⟨w.heap.size, 1, none⟩ (.slice ta L.length tc))) := (((HS3.out.below hb4).tch (TchP.set (O := fun q => q = w.heap.size) rfl) (by omega) (by omega)).tch (TchP.set (O := fun q => q = w.heap.size) rfl) (by omega) (by omega)).mono (by omega)
  have HTT : Hid (TchP (fun q => q = sb) w ((w4.setCell ⟨w.heap.size, 0, none⟩ (.int .i64 (ar : Int))).setCell ⟨w.heap.size, 1, none⟩ (.slice ta L.length tc))) := tchS (tchS (HT3.out.then (TchP.of_below hb4 (fun q => q = sb)) (fun q _ h => h)) (Nat.le_refl _)) (Nat.le_refl _)
  clear hf
  go_wp2_with fail
  refine bodyPost_ret (v := .agg #[.int .i64 (ar : Int), .slice ta L.length tc]) (by simp [results, Tryz.results106, go_sem, g0, g1]) rfl ⟨[.int .i64 (ar : Int), .slice ta L.length tc], ((ar : Int), L), rfl, HF.out, HOK.out, rfl, HSS.out, HTT.out⟩
end Go.Proofs.YtnhdohednekhjaaGreatDoor
namespace Go.Proofs.YtnhdohednekhjaaGreatDoor
open Go.RowKit Go.Sort
theorem l02Same_quiet (w : World) {v v' : Value} {x y : Int × List Int} (h : opT.Pt w v x) (h' : opT.Pt w v' y) :
  Calls Tryz.prog 116 #[v, v'] w fun e w' => e = .returned (.bool (eqB x y)) ∧ Quiet w w' := by
 obtain ⟨b, o, ad, cap, rfl, hb, hI, c0, c1, hx⟩ := pt_pair h
 obtain ⟨b', o', ad', cap', rfl, hb', hI', c0', c1', hx'⟩ := pt_pair h'
 clear h h'
 cases hn : (x.1 == y.1)
 ·go_enter Tryz.func116, Tryz.ntmps116
  go_wp2_with fail
  go_quiet (fail)
  go_wp2_with fail
  go_ret
  exact ⟨ret_bool (eqB_fst (by simpa using hn)).symm, (by first | exact Quiet.refl _ | exact Quiet.drewN _ _ | exact (Quiet.drewN _ _).then (Quiet.drewN _ _) | exact ((Quiet.drewN _ _).then (Quiet.drewN _ _)).then (Quiet.drewN _ _))⟩
 have HN : Hid (x.1 = y.1) := by simpa [Hid] using hn
 have cQ : ∀ n, Calls Tryz.prog 105 #[.slice ad x.2.length cap, .slice ad' y.2.length cap'] (w.drewN n) fun e w'' => e = .returned (.bool (eqB x.2 y.2)) ∧ ∃ m, w'' = w.drewN m := fun n =>
  quiet_call (l00Same_quiet _ (hx.below (Quiet.drewN w n).below) (hx'.below (Quiet.drewN w n).below))
 go_enter Tryz.func116, Tryz.ntmps116
 go_wp2_with fail
 go_quiet (exact cQ _)
 go_wp2_with fail
 go_ret
 exact ⟨ret_bool (eqB_snd HN.out rfl).symm, (by first | exact Quiet.refl _ | exact Quiet.drewN _ _ | exact (Quiet.drewN _ _).then (Quiet.drewN _ _) | exact ((Quiet.drewN _ _).then (Quiet.drewN _ _)).then (Quiet.drewN _ _))⟩
theorem specSameOp_any (w : World) {cs cs' : Array Value} {x y : Int × List Int} (h : opT.Rd w cs.toList x) (h' : opT.Rd w cs'.toList y) :
  Calls Tryz.prog 37 #[.agg cs, .agg cs'] w fun e w' => e = .returned (.bool (eqB x y)) ∧ Below w.heap.size w w' := by
 have p1 := (pt_box (T := 63) h)
 have p2 := (pt_box (T := 63) (h'.below (bA (o := .cells cs.toList.toArray 63))))
 obtain ⟨u, hv, _⟩ := pair_ex h
 obtain rfl := agg_of hv
 obtain ⟨u', hv', _⟩ := pair_ex h'
 obtain rfl := agg_of hv'
 have p1' := p1.below (bA (o := .cells [.int .i64 y.1, u'].toArray 63))
 clear hv hv' h h' p1
 go_enter Tryz.func37, Tryz.ntmps37
 go_wp2_with fail
 rw [World.size_alloc] at p2
 refine (l02Same_quiet _ p1' p2).mono ?_
 rintro e w1 ⟨rfl, n, rfl⟩
 go_wp2_with fail
 go_ret
 exact ⟨rfl, (by repeat (first | exact Below.refl _ _ | exact bA | assumption | refine Below.setCell ?_ (by first | omega | (simp; try omega)) _ | refine Below.alloc ?_ (by first | omega | (simp; try omega)) _ | refine Below.drew ?_ | refine bDN ?_ | refine bthen ?_ (by assumption)))⟩
end Go.Proofs.YtnhdohednekhjaaGreatDoor
namespace Go.Proofs.YtnhdohednekhjaaGreatDoor
open Go.RowKit Go.Sort
set_option maxHeartbeats 3200000 in
set_option maxRecDepth 100000 in
theorem opOf_any (w : World) (s : Int) (ar : Nat) (hs : 1 ≤ s ∧ s ≤ 4) (har : 1 ≤ ar ∧ ar ≤ 3) (g : Nat) (caps : Array Value) (eg : ∀ args w, (callFunc g args).run Tryz.prog w = .ok (.enter g args) w) (p : List Int → Int) (N : Nat) (hN : s ^ ar = N) (hI : ∀ k, k < N → I64 (p (digL s (k : Nat) ar)))
  (hto : Hid (∀ W u (k : Nat), Below w.heap.size w W → k < N → intsT.Rd W [u] (digL s k ar) → Calls Tryz.prog g (#[u] ++ caps) W fun e w' => e = .returned (.int .i64 (p (digL s k ar))) ∧ Below W.heap.size W w')) :
  Calls Tryz.prog 110 #[.int .i64 s, .int .i64 ar, .func (.func g) #[] caps] w (RetA opT w ((ar : Int), tabOf s ar N p)) := by
 have hNb : N ≤ 64 := by
  have h1 := pow_mono' (s := s) (c := 4) (by omega) (by omega) ar
  rcases (show ar = 1 ∨ ar = 2 ∨ ar = 3 by omega) with e | e | e <;> subst e <;> simp at h1 <;> omega
 have HN : Hid (s ^ ((ar : Int)).toNat = N) := by unfold Hid; rw [Int.toNat_natCast]; exact hN
 have HI := Lib.hid hI
 clear hN hI
 go_enter Tryz.func110, Tryz.ntmps110
 go_wp2_with fail
 generalize hW : World.alloc _ _ = W
 have hbW : Below w.heap.size w W := hW ▸ bAA
 have hsW : w.heap.size + 2 ≤ W.heap.size := by rw [← hW]; simp
 have r0 : W.cell? ⟨w.heap.size, 0, none⟩ = some (.int .i64 0) := by rw [← hW]; simp [go_sem]
 have r1 : W.cell? ⟨w.heap.size, 1, none⟩ = some (.slice none 0 0) := by rw [← hW]; simp [go_sem]
 have q0 : W.frozen? ⟨w.heap.size, 0, none⟩ = false := by rw [← hW]; simp [go_sem]
 have q1 : W.frozen? ⟨w.heap.size, 1, none⟩ = false := by rw [← hW]; simp [go_sem]
 have c0 : W.cell? ⟨w.heap.size + 1, 0, none⟩ = some (.int .i64 (ar : Int)) := by rw [← hW]; simp [go_sem]
 have c1 : W.cell? ⟨w.heap.size + 1, 1, none⟩ = some (.slice none 0 0) := by rw [← hW]; simp [go_sem]
 have m1 : W.frozen? ⟨w.heap.size + 1, 1, none⟩ = false := by rw [← hW]; simp [go_sem]
 have HRQ := Lib.hid (And.intro r0 (And.intro r1 (And.intro q0 q1)))
 clear hW r0 r1 q0 q1
 refine (power_any _ s (ar : Int) (by omega) (by omega) (by omega)).mono ?_
 rintro e _ ⟨rfl, rfl⟩
 rw [HN.out]
 go_wp2_with fail
 go_loopw [14] (fun i wr => ∃ (k : Nat) (va : Value), k ≤ N ∧ i = .int .i64 k ∧ Bl Ty.int 2 (w.heap.size + 2) wr.heap.size wr va (tabOf s ar k p) ∧ wr.cell? ⟨w.heap.size + 1, 0, none⟩ = some (.int .i64 (ar : Int)) ∧ wr.cell? ⟨w.heap.size + 1, 1, none⟩ = some va ∧ wr.frozen? ⟨w.heap.size + 1, 1, none⟩ = false ∧ Below w.heap.size w wr ∧ (∀ i, wr.cell? ⟨w.heap.size, i, none⟩ = W.cell? ⟨w.heap.size, i, none⟩ ∧ wr.frozen? ⟨w.heap.size, i, none⟩ = W.frozen? ⟨w.heap.size, i, none⟩)) (fun i _ => N - (intOf i).toNat)
 case atStart => exact ⟨0, _, Nat.zero_le _, rfl, Bl.nil, c0, c1, m1, hbW, fun i => ⟨rfl, rfl⟩⟩
 case round =>
  clear c0 c1 m1
  obtain ⟨k, va, hk, rfl, hBa, c0, c1, m1, hbv, hrq⟩ := hrel
  have HB := Lib.hid hBa
  have HRE := Lib.hid hrq
  have hw2 : w.heap.size + 1 < wr.heap.size := cell_lt c0
  have hRl : (tabOf s ar k p).length = k := tabOf_len
  obtain ⟨ga, gn, gc, rfl⟩ := ex_slice (hBa.fr (by unfold capMax; omega))
  obtain ⟨wv, rfl⟩ : ∃ wv : World, wv = wr := ⟨_, rfl⟩
  clear hBa hrq
  by_cases hkl : k < N
  ·have HSC : Hid (tabOf s ar (k + 1) p = tabOf s ar k p ++ [p (digL s (k : Int) ar)]) := tabOf_succ
   have hIk := HI.out k hkl
   go_wp2_with fail
   refine wp_region_T (fun w' => w'.cell? ⟨w.heap.size + 1, 1, none⟩ = some (.slice ga gn gc)) [9] (by kernel_rfl) c1 (fun hHeld => ?_)
   refine wpAnyT_take (i := 0) (v := ?_) rfl (by kernel_rfl) (fun _ _ _ h => h) (Or.inl ⟨by rfl, ?_⟩) (by assumption) ?_
   rotate_left
   ·(intro w hSw; (try dsimp only at hSw); go_simp <;> with_reducible rfl)
   go_simp
   refine wpAnyT_take (i := 1) (v := ?_) rfl (by kernel_rfl) (fun _ _ _ h => h) (Or.inl ⟨by rfl, ?_⟩) (by assumption) ?_
   rotate_left
   ·(intro w hSw; (try dsimp only at hSw); go_simp <;> with_reducible rfl)
   go_simp
   refine wpAnyT_take (i := 2) (v := ?_) rfl (by kernel_rfl) (fun _ _ _ h => h) (Or.inl ⟨by rfl, ?_⟩) (by assumption) ?_
   rotate_left
   ·(intro w hSw; (try dsimp only at hSw); go_simp <;> with_reducible rfl)
   go_simp
   refine wpAnyT_take (i := 3) (v := ?_) rfl (by kernel_rfl) (fun _ _ _ h => h) (Or.inl ⟨by rfl, ?_⟩) (by assumption) ?_
   rotate_left
   ·(intro w hSw; (try dsimp only at hSw); go_simp <;> with_reducible rfl)
   go_simp
   refine wpAnyT_take (i := 4) (v := ?_) rfl (by kernel_rfl) (fun _ _ _ h => h) (Or.inl ⟨by rfl, ?_⟩) (by assumption) ?_
   rotate_left
   ·(intro w hSw; (try dsimp only at hSw); go_simp <;> with_reducible rfl)
   go_simp
   refine wpAnyT_take (i := 5) (v := ?_) rfl (by kernel_rfl) (fun _ _ _ h => h) (Or.inl ⟨by rfl, ?_⟩) (by assumption) ?_
   rotate_left
   ·(intro w hSw; (try dsimp only at hSw); go_simp <;> with_reducible rfl)
   go_simp
   refine wpAnyT_one (i := 6) rfl (by kernel_rfl) (fun K hK => ?_)
   go_simp
   go_at_call 177
   refine (listOf_any _ s (k : Int) ar (by omega) (by omega) (by omega) (by omega) (by omega)).mono ?_
   rintro e w5 ⟨dv, rfl, hdf, hb5⟩
   obtain ⟨ad, nd, cd, rfl⟩ := ex_slice hdf
   have HDF := Lib.hid hdf
   have hb5' : Below wv.heap.size wv w5 := bthen bD hb5
   have hz5 := hb5'.size
   replace c0 := (cellB hb5' (show w.heap.size + 1 < wv.heap.size by omega)).trans c0
   replace c1 := (cellB hb5' (show w.heap.size + 1 < wv.heap.size by omega)).trans c1
   replace m1 := (frozenB hb5' (show w.heap.size + 1 < wv.heap.size by omega)).trans m1
   clear hdf hb5
   dsimp only
   refine hK.out _ _ c1 (fun hHeld => ?_)
   clear hK K
   refine wpAnyT_one (i := 7) rfl (by kernel_rfl) (fun K hK => ?_)
   go_simp
   refine (hto.out w5 _ k (bthen hbv hb5') hkl HDF.out.rd).mono ?_
   rintro e w7 ⟨rfl, hb7⟩
   have hb7' : Below wv.heap.size wv w7 := bthen hb5' hb7
   have hz7 := hb7'.size
   have hz57 := hb7.size
   replace c0 := (cellB hb7 (by omega)).trans c0
   replace c1 := (cellB hb7 (by omega)).trans c1
   replace m1 := (frozenB hb7 (by omega)).trans m1
   clear hb7 hb5' HDF
   generalize p (digL s (k : Int) ar) = x at hIk HSC ⊢
   dsimp only
   refine hK.out _ _ c1 (fun hHeld => ?_)
   clear hK K
   refine wpAnyT_one (i := 8) rfl (by kernel_rfl) (fun K hK => ?_)
   go_simp
   refine hK.out _ _ (by go_keep) (fun hHeld => ?_)
   clear hK K
   refine wpAnyT_last (i := 9) rfl (by kernel_rfl) (by kernel_rfl) (fun K hK => ?_)
   refine step_push (E := Ty.int) _ rfl _ _ 48 2 rfl elInt rfl (HB.out.below (hb7'.alloc hz7 _) (Nat.le_refl _)) rfl news1 (fr_int hIk) (by omega) (by decide) (by omega) (by first | (simp; done) | (simp; omega)) ?_
   intro v6 w6 hB6 hg6 _
   obtain ⟨xa, xn, xc, rfl⟩ := ex_slice (hB6.fr (by rw [List.length_append]; unfold capMax; simp; omega))
   have hb6 : RowKit.Below (w.heap.size + 2) wv w6 := ((hb7'.alloc hz7 _).mono (by omega)).grown hg6 (by first | (simp; done) | (simp; omega)) (fun q hq => HB.out.own hq)
   have hb56 : RowKit.Below (w.heap.size + 2) w7 w6 := ((Below.refl _ w7).alloc (by omega) _).grown hg6 (by first | (simp; done) | (simp; omega)) (fun q hq => HB.out.own hq)
   rw [← HSC.out] at hB6
   have HB6 := Lib.hid hB6
   replace c0 := (cellB hb56 (by omega)).trans c0
   replace c1 := (cellB hb56 (by omega)).trans c1
   replace m1 := (frozenB hb56 (by omega)).trans m1
   have HR6 : Hid (∀ i, w6.cell? ⟨w.heap.size, i, none⟩ = W.cell? ⟨w.heap.size, i, none⟩ ∧ w6.frozen? ⟨w.heap.size, i, none⟩ = W.frozen? ⟨w.heap.size, i, none⟩) := fun i => ⟨(cellB hb6 (by omega)).trans (HRE.out i).1, (frozenB hb6 (by omega)).trans (HRE.out i).2⟩
   have HT6 := Lib.hid (hbv.trans (hb6.mono (by omega)))
   clear hB6 hg6 hb6 hb56
   refine hK.out _ _ ?_
   clear hK K
   refine wpAnyT_any (i := 10) (v := ?_) rfl (by kernel_rfl) (fun _ _ _ h => h) (Or.inl ⟨by rfl, ?_⟩) (by first | exact fun _ => by assumption | (intro hp; exact absurd hp (by rw [show pastB _ _ = true by kernel_rfl]; simp))) ?_
   rotate_left
   ·(intro w hSw; (try dsimp only at hSw); go_simp <;> with_reducible rfl)
   try simp only [Act.put]
   refine wpAnyT_last (i := 11) rfl (by kernel_rfl) (by kernel_rfl) (fun K hK => ?_)
   go_simp
   refine hK.out _ _ ?_
   clear hK K
   refine wpAnyT_done (by kernel_rfl) ?_ _
   go_simp
   go_wp2_with fail
   go_roundw
   case rel => exact ⟨k + 1, _, by omega, by go_num, by rw [size_set]; exact HB6.out.sameB (fun q h1 h2 => Below.heap_setCell _ _ _ _ (by simp; omega)), (World.cell?_setCell_other _ _ _ _ (by simp)).trans c0, World.cell?_setCell_same _ _ _ c1, (World.frozen?_setCell _ _ _ _).trans m1, HT6.out.setCell (by simp) _, fun i => ⟨(World.cell?_setCell_other _ _ _ _ (by simp)).trans (HR6.out i).1, (World.frozen?_setCell _ _ _ _).trans (HR6.out i).2⟩⟩
   case measure => simp [intOf]; omega
  ·obtain rfl : k = N := by omega
   have r0 := (HRE.out 0).1.trans HRQ.out.1
   have r1 := (HRE.out 1).1.trans HRQ.out.2.1
   have q0 := (HRE.out 0).2.trans HRQ.out.2.2.1
   have q1 := (HRE.out 1).2.trans HRQ.out.2.2.2
   have hw0 : w.heap.size < wv.heap.size := by omega
   have HFR := Lib.hid (HB.out.fr (by unfold capMax; omega))
   have hIa : I64 (ar : Int) := I64.small (by omega) (by omega)
   obtain ⟨g0, g1⟩ := set2_cells (x := .int .i64 (ar : Int)) (y := .slice ga gn gc) r0 r1
   have HFF : Hid (opT.Fr w.heap.size ((wv.setCell ⟨w.heap.size, 0, none⟩ (.int .i64 (ar : Int))).setCell ⟨w.heap.size, 1, none⟩ (.slice ga gn gc)) [.int .i64 (ar : Int), .slice ga gn gc] ((ar : Int), tabOf s ar k p)) := fr_cons hIa (((HFR.out.set (by simp)).set (by simp)).mono (by omega))
   have HBB : Hid (Below w.heap.size w ((wv.setCell ⟨w.heap.size, 0, none⟩ (.int .i64 (ar : Int))).setCell ⟨w.heap.size, 1, none⟩ (.slice ga gn gc))) := (hbv.setCell (Nat.le_refl _) _).setCell (Nat.le_refl _) _
   clear HB HFR
   go_wp2_with fail
   refine bodyPost_ret (v := .agg #[.int .i64 (ar : Int), .slice ga gn gc]) (by simp [results, Tryz.results110, go_sem, g0, g1]) rfl ⟨[.int .i64 (ar : Int), .slice ga gn gc], rfl, HFF.out, HBB.out⟩
end Go.Proofs.YtnhdohednekhjaaGreatDoor
namespace Go.Proofs.YtnhdohednekhjaaGreatDoor
open Go.RowKit Go.Sort
theorem projection1_any (w : World) {u : Value} {xs : List Int} (h : intsT.Rd w [u] xs) {b p : Nat} (hp : p < xs.length) (hc : w.cell? ⟨b, 0, none⟩ = some (.int .i64 (p : Int))) :
  Calls Tryz.prog 193 #[u, .pointer (some ⟨b, 0, none⟩)] w fun e w' => e = .returned (.int .i64 (xs.getD p 0)) ∧ Below w.heap.size w w' := by
 obtain ⟨ad, cap, hv, -, -, hce⟩ := ints_ex h
 obtain rfl : u = _ := by simpa using hv
 obtain ⟨db, dO, rfl, hdb, hce⟩ := hce (by omega)
 have d0 := (hce p hp).2
 have hx : xs.getD p 0 = xs[p] := by rw [List.getD_eq_getElem?_getD, List.getElem?_eq_getElem hp]; rfl
 rw [← hx] at d0
 clear hce hv h hx
 generalize xs.getD p 0 = x at d0 ⊢
 go_enter Tryz.func193, Tryz.ntmps193
 go_wp2_with fail
 go_ret
 exact ⟨rfl, (by repeat (first | exact Below.refl _ _ | exact bA | assumption | refine Below.setCell ?_ (by first | omega | (simp; try omega)) _ | refine Below.alloc ?_ (by first | omega | (simp; try omega)) _ | refine Below.drew ?_ | refine bDN ?_ | refine bthen ?_ (by assumption)))⟩
set_option maxHeartbeats 1600000 in
theorem projection_any (w : World) {s : Int} {ar N p : Nat} (hs : 1 ≤ s ∧ s ≤ 4) (har : 1 ≤ ar ∧ ar ≤ 3) (hN : s ^ ar = N) (hp : p < ar) :
  Calls Tryz.prog 115 #[.int .i64 s, .int .i64 ar, .int .i64 p] w (RetA opT w ((ar : Int), projT s ar N p)) := by
 go_enter Tryz.func115, Tryz.ntmps115
 go_wp2_with fail
 generalize hW : World.alloc (World.alloc w _) _ = W
 have hbW : Below w.heap.size w W := hW ▸ bAA
 have hsW : w.heap.size + 2 ≤ W.heap.size := by rw [← hW]; simp
 have b0 : W.cell? ⟨w.heap.size, 0, none⟩ = some (.int .i64 (p : Int)) := by rw [← hW]; simp [go_sem]
 have r0 : W.cell? ⟨w.heap.size + 1, 0, none⟩ = some (.int .i64 0) := by rw [← hW]; simp [go_sem]
 have r1 : W.cell? ⟨w.heap.size + 1, 1, none⟩ = some (.slice none 0 0) := by rw [← hW]; simp [go_sem]
 have q0 : W.frozen? ⟨w.heap.size + 1, 0, none⟩ = false := by rw [← hW]; simp [go_sem]
 have q1 : W.frozen? ⟨w.heap.size + 1, 1, none⟩ = false := by rw [← hW]; simp [go_sem]
 clear hW
 have hpI : ∀ k, k < N → I64 ((fun xs : List Int => xs.getD p 0) (digL s ((k : Nat) : Int) ar)) := fun k hk => by
  have hpl : p < (digL s (k : Int) ar).length := by rw [digL_len]; exact hp
  have : (digL s (k : Int) ar).getD p 0 = (digL s (k : Int) ar)[p] := by rw [List.getD_eq_getElem?_getD, List.getElem?_eq_getElem hpl]; rfl
  have h2 := digL_in (s := s) (idx := (k : Int)) (n := ar) (by omega) _ (List.getElem_mem hpl)
  show I64 ((digL s (k : Int) ar).getD p 0)
  rw [this]
  exact I64.small (by omega) (by omega)
 have hto : Hid (∀ W' u (k : Nat), Below W.heap.size W W' → k < N → intsT.Rd W' [u] (digL s k ar) → Calls Tryz.prog 193 (#[u] ++ #[.pointer (some ⟨w.heap.size, 0, none⟩)]) W' fun e w' => e = .returned (.int .i64 ((fun xs : List Int => xs.getD p 0) (digL s k ar))) ∧ Below W'.heap.size W' w') := by
  intro W' u k hb _ hu
  exact projection1_any W' hu (by rw [digL_len]; exact hp) ((cellB hb (by omega)).trans b0)
 refine (opOf_any W s ar hs har 193 _ (enters Tryz.func193 (by kernel_rfl) rfl) (fun xs => xs.getD p 0) N hN hpI hto).mono ?_
 rintro e w2 ⟨cs, rfl, hf, hb2⟩
 have hz2 := hb2.size
 replace r0 := (cellB hb2 (by omega)).trans r0
 replace r1 := (cellB hb2 (by omega)).trans r1
 replace q0 := (frozenB hb2 (by omega)).trans q0
 replace q1 := (frozenB hb2 (by omega)).trans q1
 obtain ⟨ta, tc, rfl⟩ := fr_pair hf
 have hf : opT.Fr W.heap.size w2 _ ((ar : Int), projT s ar N p) := hf
 have hlT : (tabOf s ar N fun xs => xs.getD p 0) = projT s ar N p := rfl
 simp only [hlT] at hf ⊢
 have HF : Hid (opT.Fr w.heap.size ((w2.setCell ⟨w.heap.size + 1, 0, none⟩ (.int .i64 (ar : Int))).setCell ⟨w.heap.size + 1, 1, none⟩ (.slice ta (projT s ar N p).length tc)) [.int .i64 (ar : Int), .slice ta (projT s ar N p).length tc] ((ar : Int), projT s ar N p)) := ((hf.set (by simp; omega)).set (by simp; omega)).mono (by omega)
 obtain ⟨g0, g1⟩ := set2_cells (x := .int .i64 (ar : Int)) (y := .slice ta (projT s ar N p).length tc) r0 r1
 have HB : Hid (Below w.heap.size w ((w2.setCell ⟨w.heap.size + 1, 0, none⟩ (.int .i64 (ar : Int))).setCell ⟨w.heap.size + 1, 1, none⟩ (.slice ta (projT s ar N p).length tc))) := ((bthen hbW hb2).setCell (by simp) _).setCell (by simp) _
 clear hf hto hpI
 go_wp2_with fail
 refine bodyPost_ret (v := .agg #[.int .i64 (ar : Int), .slice ta (projT s ar N p).length tc]) (by simp [results, Tryz.results115, go_sem, g0, g1]) rfl ⟨[.int .i64 (ar : Int), .slice ta (projT s ar N p).length tc], rfl, HF.out, HB.out⟩
set_option maxHeartbeats 1600000 in
theorem ProjectionOp_any (w : World) {s : Int} {ar N p : Nat} (hs : 1 ≤ s ∧ s ≤ 4) (har : 1 ≤ ar ∧ ar ≤ 3) (hN : s ^ ar = N) (hp : p < ar) :
  Calls Tryz.prog 36 #[.int .i64 s, .int .i64 ar, .int .i64 p] w (RetAC opT w ((ar : Int), projT s ar N p) 0) := by
 have b1 : inB s 1 4 = true := inB_true.2 hs
 have b2 : inB (ar : Int) 1 3 = true := inB_true.2 (by omega)
 have b3 : inB (p : Int) 0 ((ar : Int) - 1) = true := inB_true.2 (by omega)
 go_enter Tryz.func36, Tryz.ntmps36
 go_wp2_with (first | (go_at_call 113; refine (isSize_any _ _).mono ?_; rintro e w' ⟨rfl, rfl⟩; rw [b1]) | (go_at_call 114; refine (isOpArity_any _ _).mono ?_; rintro e w' ⟨rfl, rfl⟩; rw [b2]) | (go_at_call 84; refine (within_any _ _ _ _).mono ?_; rintro e w' ⟨rfl, rfl⟩; rw [b3]))
 generalize hW : World.alloc w _ = W
 have hbW : Below w.heap.size w W := hW ▸ bA
 have hsW : w.heap.size + 1 ≤ W.heap.size := by rw [← hW]; simp
 have r0 : W.cell? ⟨w.heap.size, 0, none⟩ = some (.int .i64 0) := by rw [← hW]; simp [go_sem]
 have r1 : W.cell? ⟨w.heap.size, 1, none⟩ = some (.slice none 0 0) := by rw [← hW]; simp [go_sem]
 have q0 : W.frozen? ⟨w.heap.size, 0, none⟩ = false := by rw [← hW]; simp [go_sem]
 have q1 : W.frozen? ⟨w.heap.size, 1, none⟩ = false := by rw [← hW]; simp [go_sem]
 clear hW
 refine (projection_any W hs har hN hp).mono ?_
 rintro e w2 ⟨cs, rfl, hf, hb2⟩
 have hz2 := hb2.size
 replace r0 := (cellB hb2 (by omega)).trans r0
 replace r1 := (cellB hb2 (by omega)).trans r1
 replace q0 := (frozenB hb2 (by omega)).trans q0
 replace q1 := (frozenB hb2 (by omega)).trans q1
 obtain ⟨ta, tc, rfl⟩ := fr_pair hf
 have HF : Hid (opT.Fr w.heap.size ((w2.setCell ⟨w.heap.size, 0, none⟩ (.int .i64 (ar : Int))).setCell ⟨w.heap.size, 1, none⟩ (.slice ta (projT s ar N p).length tc)) [.int .i64 (ar : Int), .slice ta (projT s ar N p).length tc] ((ar : Int), projT s ar N p)) := ((hf.set (by simp; omega)).set (by simp; omega)).mono (by omega)
 obtain ⟨g0, g1⟩ := set2_cells (x := .int .i64 (ar : Int)) (y := .slice ta (projT s ar N p).length tc) r0 r1
 have HB : Hid (Below w.heap.size w ((w2.setCell ⟨w.heap.size, 0, none⟩ (.int .i64 (ar : Int))).setCell ⟨w.heap.size, 1, none⟩ (.slice ta (projT s ar N p).length tc))) := ((bthen hbW hb2).setCell (by simp) _).setCell (by simp) _
 clear hf
 go_wp2_with fail
 refine bodyPost_ret (v := .tuple #[.agg #[.int .i64 (ar : Int), .slice ta (projT s ar N p).length tc], .int .i64 0]) (by simp [results, Tryz.results36, go_sem, g0, g1]) rfl ⟨[.int .i64 (ar : Int), .slice ta (projT s ar N p).length tc], rfl, HF.out, HB.out⟩
end Go.Proofs.YtnhdohednekhjaaGreatDoor
namespace Go.Proofs.YtnhdohednekhjaaGreatDoor
open Go.RowKit Go.Sort
theorem opV_at {s : Int} {f : Int × List Int} (hf : opOk s f) {xs : List Int} (hl : (xs.length : Int) = f.1) (hin : inS s xs) : ∃ k, idxL s 0 xs = ((k : Nat) : Int) ∧ ∃ h : k < f.2.length, opV s f.2 xs = f.2[k] := by
 obtain ⟨hs, ha, hr, -⟩ := hf
 unfold sizeOk at hs
 have hb := idx_lt (m := xs.length) (by omega) rfl hin
 rw [show f.1.toNat = xs.length by omega] at hr
 refine ⟨(idxL s 0 xs).toNat, by omega, by omega, ?_⟩
 unfold opV
 rw [List.getD_eq_getElem?_getD, List.getElem?_eq_getElem (by omega)]
 rfl
theorem opV_in {s : Int} {f : Int × List Int} (hf : opOk s f) {xs : List Int} (hl : (xs.length : Int) = f.1) (hin : inS s xs) : 0 ≤ opV s f.2 xs ∧ opV s f.2 xs ≤ s - 1 := by
 obtain ⟨k, -, hk, e⟩ := opV_at hf hl hin
 rw [e]
 exact hf.2.2.2 _ (List.getElem_mem hk)
set_option maxHeartbeats 1600000 in
theorem opAt_any (w : World) {cs : Array Value} {f : Int × List Int} (h : opT.Rd w cs.toList f) {u : Value} {xs : List Int} (hu : intsT.Rd w [u] xs) {s : Int} (hf : opOk s f) (hl : (xs.length : Int) = f.1) (hin : inS s xs) :
  Calls Tryz.prog 112 #[.agg cs, .int .i64 s, u] w fun e w' => e = .returned (.int .i64 (opV s f.2 xs)) ∧ Below w.heap.size w w' := by
 obtain ⟨k, hk, hkl, hv⟩ := opV_at hf hl hin
 rw [hv]
 obtain ⟨u2, hv2, hI, hx⟩ := pair_ex h
 obtain rfl := agg_of hv2
 obtain ⟨ad, cap, e1, -, -, hcell⟩ := ints_ex hx
 obtain rfl : u2 = _ := by simpa using e1
 obtain ⟨tb0, to0, rfl, htb, hte⟩ := hcell (by omega)
 have t0 := (hte k hkl).2
 obtain ⟨ua, uc, rfl⟩ := rd_slice hu
 have hs := hf.1
 have ha := hf.2.1
 unfold sizeOk at hs
 have HU := Lib.hid hu
 generalize f.2[k] = y at t0 ⊢
 have HHIN := Lib.hid hin
 have HHK := Lib.hid hk
 have HHL := Lib.hid hl
 clear h hx hcell hte hu hv hv2 e1 hf hin hk
 go_enter Tryz.func112, Tryz.ntmps112
 go_wp2_with fail
 generalize hW : World.alloc w _ = W
 have hbW : Below w.heap.size w W := hW ▸ bA
 have b1 : W.cell? ⟨w.heap.size, 1, none⟩ = some (.slice (some ⟨tb0, to0, none⟩) f.2.length cap) := by rw [← hW]; simp [go_sem]
 replace t0 := (hbW.cell (p := ⟨tb0, to0 + k, none⟩) htb).trans t0
 have cC : ∀ n, Calls Tryz.prog 132 #[.int .i64 s, .slice ua xs.length uc] (W.drewN n) fun e w'' => e = .returned (.int .i64 k) ∧ ∃ m, w'' = W.drewN m := fun n => by
  have := pure_drawn (indexOf_any (W.drewN n) s ((HU.out.below hbW).below (Quiet.drewN W n).below) (by omega) (by omega) (by have := HHL.out; omega) HHIN.out)
  rw [HHK.out] at this
  exact this
 clear hW hl
 go_quiet (exact cC _)
 go_wp2_with fail
 go_ret
 exact ⟨rfl, (by repeat (first | exact Below.refl _ _ | exact bA | assumption | refine Below.setCell ?_ (by first | omega | (simp; try omega)) _ | refine Below.alloc ?_ (by first | omega | (simp; try omega)) _ | refine Below.drew ?_ | refine bDN ?_ | refine bthen ?_ (by assumption)))⟩
theorem compose1_any (w : World) {cs : Array Value} {g : Int × List Int} (h : opT.Rd w cs.toList g) {v : Value} {gs : List (Int × List Int)} {bl : Nat} (hb : w.cell? ⟨bl, 0, none⟩ = some v) (hl : opsT.Rd w [v] gs) (h0 : 0 < gs.length) :
  Calls Tryz.prog 109 #[.agg cs, .pointer (some ⟨bl, 0, none⟩)] w fun e w' => e = .returned (.bool (g.1 != gs[0].1)) ∧ Below w.heap.size w w' := by
 obtain ⟨u2, hv2, hI, hx⟩ := pair_ex h
 obtain rfl := agg_of hv2
 obtain ⟨ad, cap, e1, -, -, hcell⟩ := pairs_ex hl
 obtain rfl : v = _ := by simpa using e1
 obtain ⟨lb, lo, rfl, hlb, hle⟩ := hcell h0
 obtain ⟨_, _, _, t0, _⟩ := hle 0 h0
 replace t0 : w.cell? ⟨lb, lo, none⟩ = some (.int .i64 gs[0].1) := by simpa using t0
 generalize gs[0].1 = y at t0 ⊢
 have hbl := cell_lt hb
 clear h hl hx hcell hle hv2 e1
 go_enter Tryz.func109, Tryz.ntmps109
 go_wp2_with fail
 generalize hW : World.alloc w _ = W
 have hbW : Below w.heap.size w W := hW ▸ bA
 have b0 : W.cell? ⟨w.heap.size, 0, none⟩ = some (.int .i64 g.1) := by rw [← hW]; simp [go_sem]
 replace hb := (cellB hbW hbl).trans hb
 replace t0 := (cellB hbW hlb).trans t0
 clear hW
 go_quiet (fail)
 go_wp2_with fail
 go_ret
 exact ⟨rfl, (by repeat (first | exact Below.refl _ _ | exact bA | assumption | refine Below.setCell ?_ (by first | omega | (simp; try omega)) _ | refine Below.alloc ?_ (by first | omega | (simp; try omega)) _ | refine Below.drew ?_ | refine bDN ?_ | refine bthen ?_ (by assumption)))⟩
/-- the values of operations at a list -/
def valsL (s : Int) (gs : List (Int × List Int)) (xs : List Int) : List Int := gs.map fun g => opV s g.2 xs
theorem valsL_len {s : Int} {gs : List (Int × List Int)} {xs : List Int} : (valsL s gs xs).length = gs.length := by simp [valsL]
theorem valsL_in {s : Int} {gs : List (Int × List Int)} {xs : List Int} (h : ∀ g ∈ gs, opOk s g ∧ g.1 = xs.length) (hin : inS s xs) : inS s (valsL s gs xs) := fun a ha => by
 obtain ⟨g, hg, rfl⟩ := List.mem_map.1 ha
 obtain ⟨h1, h2⟩ := h g hg
 exact opV_in h1 h2.symm hin
set_option maxHeartbeats 1600000 in
set_option maxRecDepth 100000 in
theorem compose2_any (w : World) {u : Value} {xs : List Int} (hu : intsT.Rd w [u] xs) {v : Value} {gs : List (Int × List Int)} {f : Int × List Int} {s : Int} {bl bs bf : Nat} (hb : w.cell? ⟨bl, 0, none⟩ = some v) (hl : opsT.Rd w [v] gs)
  (hc : w.cell? ⟨bs, 0, none⟩ = some (.int .i64 s)) (hP : opT.Pt w (.pointer (some ⟨bf, 0, none⟩)) f) (hf : opOk s f) (hfl : f.1 = gs.length) (hg : ∀ g ∈ gs, opOk s g ∧ g.1 = xs.length) (hin : inS s xs) :
  Calls Tryz.prog 111 #[u, .pointer (some ⟨bl, 0, none⟩), .pointer (some ⟨bs, 0, none⟩), .pointer (some ⟨bf, 0, none⟩)] w fun e w' => e = .returned (.int .i64 (opV s f.2 (valsL s gs xs))) ∧ Below w.heap.size w w' := by
 obtain ⟨ad, cap, e1, -, -, hcell⟩ := pairs_ex hl
 obtain rfl : v = _ := by simpa using e1
 obtain ⟨fb, fo, fa, fc, hpe, hfb, hIf, f0, f1, hfx⟩ := pt_pair hP
 simp only [Value.pointer.injEq, Option.some.injEq, Addr.mk.injEq, and_true] at hpe
 obtain ⟨rfl, rfl⟩ := hpe
 obtain ⟨ua, uc, rfl⟩ := rd_slice hu
 have hs := hf.1
 have ha := hf.2.1
 unfold sizeOk at hs
 have hbl := cell_lt hb
 have hbs := cell_lt hc
 have HU := Lib.hid hu
 have HIN := Lib.hid hin
 have HF := Lib.hid hf
 have HFX := Lib.hid hfx
 have HG := Lib.hid hg
 have HC := Lib.hid hcell
 have HFL := Lib.hid hfl
 have hgl : gs.length ≤ 3 := by omega
 have hvl := valsL_len (s := s) (gs := gs) (xs := xs)
 have hvi : ∀ k (h : k < gs.length), I64 (opV s gs[k].2 xs) := fun k h => by
  obtain ⟨h1, h2⟩ := hg _ (List.getElem_mem h)
  have := opV_in h1 h2.symm hin
  exact I64.small (by omega) (by omega)
 have HVI := Lib.hid hvi
 clear hu hin hf hfx hP hg hcell hl e1 hfl hvi
 go_enter Tryz.func111, Tryz.ntmps111
 go_wp2_with fail
 go_loopw [12, 6] (fun i q wr => ∃ k : Nat, k ≤ gs.length ∧ i = .int .i64 k ∧ Bl Ty.int 2 w.heap.size wr.heap.size wr q ((valsL s gs xs).take k) ∧ Below w.heap.size w wr) (fun i _ _ => gs.length - (intOf i).toNat)
 case atStart => exact ⟨0, Nat.zero_le _, rfl, by simpa using Bl.lit0 (E := Ty.int) (e := 2) (w := w) (Nat.le_refl _), bA⟩
 case round =>
  obtain ⟨k, hk, rfl, hBl, hbel⟩ := hrel
  have HB := Lib.hid hBl
  have hsz := hbel.size
  obtain ⟨ga, gn, gc, rfl⟩ := ex_slice (hBl.fr (by rw [List.length_take]; unfold capMax; omega))
  have hb' := (cellB hbel hbl).trans hb
  have hc' := (cellB hbel hbs).trans hc
  have f0' := (cellB hbel hfb).trans f0
  have f1' := (cellB hbel hfb).trans f1
  clear hBl
  by_cases hkl : k < gs.length
  ·obtain ⟨lb, lo, rfl, hlb, hle⟩ := HC.out (by omega)
   obtain ⟨vt, ht, hI, t0, t1⟩ := hle k hkl
   obtain ⟨ta, tc, rfl⟩ := rd_slice ht
   replace t0 := (hbel.cell hlb).trans t0
   replace t1 := (hbel.cell hlb).trans t1
   have hsucc : (valsL s gs xs).take (k + 1) = (valsL s gs xs).take k ++ [opV s gs[k].2 xs] := by
    rw [List.take_succ_eq_append_getElem (by rw [hvl]; exact hkl)]
    simp [valsL]
   have HSC := Lib.hid hsucc
   have HIV := Lib.hid (HVI.out k hkl)
   have hrd : opT.Rd wr [.int .i64 gs[k].1, .slice ta gs[k].2.length tc] gs[k] := pair_mk hI (ht.below hbel)
   have HRD := Lib.hid hrd
   have hgk := HG.out _ (List.getElem_mem hkl)
   have HOK := Lib.hid hgk.1
   have HGL := Lib.hid hgk.2
   clear hsucc hrd ht hle hgk hb hc f0 f1
   go_upto_region 5 with fail
   generalize hWa : World.alloc wr _ = wa
   have hba : Below wr.heap.size wr wa := hWa ▸ bA
   have b0 : wa.cell? ⟨wr.heap.size, 0, none⟩ = some (.int .i64 gs[k].1) := by rw [← hWa]; simp [go_sem]
   have b1 : wa.cell? ⟨wr.heap.size, 1, none⟩ = some (.slice ta gs[k].2.length tc) := by rw [← hWa]; simp [go_sem]
   have hca := (cellB hba (show bs < wr.heap.size by omega)).trans hc'
   clear hWa hc'
   go_wp2_with fail
   refine (opAt_any _ (f := gs[k]) (HRD.out.below hba) ((HU.out.below hbel).below hba) HOK.out HGL.out.symm HIN.out).mono ?_
   rintro e w5 ⟨rfl, hb5⟩
   have hb5' : Below wr.heap.size wr w5 := bthen hba hb5
   have hz5 := hb5'.size
   have HIV := HIV
   generalize opV s gs[k].2 xs = x at HIV HSC ⊢
   clear hb5 hba b0 b1 hca
   go_wp2_with (refine wpList_push (E := Ty.int) _ rfl _ _ 48 2 rfl elInt rfl (HB.out.below (hb5'.alloc hz5 _) (Nat.le_refl _)) rfl news1 (fr_int HIV.out) (by rw [List.length_take]; omega) (by decide) hsz (by first | (simp; done) | (simp; omega)) ?_; intro v1 w1 hB1 hg1 _)
   rw [← HSC.out] at hB1
   have hb1 : Below w.heap.size wr w1 := ((hb5'.alloc hz5 _).mono (by omega)).grown hg1 (by first | (simp; done) | (simp; omega)) (fun q hq => HB.out.own hq)
   go_roundw
   case rel => exact ⟨k + 1, by omega, by go_num, hB1, hbel.trans hb1⟩
   case measure => simp [intOf]; omega
  ·obtain rfl : k = gs.length := by omega
   have HA := Lib.hid (HB.out.fr (by rw [List.length_take]; unfold capMax; omega))
   rw [List.take_of_length_le (by omega)] at HA
   have HFR : Hid (opT.Rd wr [.int .i64 f.1, .slice fa f.2.length fc] f) := pair_mk hIf (HFX.out.below hbel)
   have HVN := Lib.hid (valsL_in HG.out HIN.out)
   have HVE : Hid (((valsL s gs xs).length : Int) = f.1) := by unfold Hid; rw [hvl]; exact HFL.out.symm
   clear HB hb hc f0 f1
   go_wp2_with fail
   refine (opAt_any _ (f := f) HFR.out HA.out.rd HF.out HVE.out HVN.out).mono ?_
   rintro e w5 ⟨rfl, hb5⟩
   go_wp2_with fail
   go_ret
   exact ⟨rfl, bthen hbel hb5⟩
end Go.Proofs.YtnhdohednekhjaaGreatDoor
