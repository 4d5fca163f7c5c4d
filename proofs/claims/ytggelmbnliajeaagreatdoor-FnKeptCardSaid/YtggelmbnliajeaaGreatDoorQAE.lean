/-
Choices from bytes: a drawn operation.
An operation drawn from its bytes; whether operations, and lists of them, are the same.
Contracts: the operation of a function of lists; projections, checked.
Contracts: a projection, checked.
Contracts: compositions of operations.
Contracts: compositions of operations, checked.
Contracts: whether the atoms that are due hold.
Contracts: the search, told to a listener.
Contracts: a search's own data, made.
Contracts: a search for an instance; the first values.
Contracts: full domains.
Contracts: the solutions of an instance, counted, listed, the first; the program's.
Contracts: the solutions of an instance, the reference's.
Contracts: the first values for which all atoms hold, the reference's.
Contracts: whether a formula holds at a tuple, and where; both sides.
Contracts: the value of a formula, both sides.
Contracts: placing a formula: the program's.
Contracts: the formula of an instance, both sides.
The law of an append of a whole row: 'append(a, b...)', where b is new data. No program is named here.
Contracts: the conjunction of two formulas.
Plain mathematics: the tuples of a relation made by number are in order; where two values of formulas are apart.
Contracts: the value of a formula with its code, both sides.
Contracts: a template in new memory; a template extended by a formula: plain parts, the program's copies.
Contracts: a set of tuples with its size and arity: made of a relation, a tuple put into it, its relation.
-/
import Derived.Test.YtggelmbnliajeaaGreatDoorQAD
import Derived.Test.YtggelmbnliajeaaGreatDoorQAC
import Derived.Test.YtggelmbnliajeaaGreatDoorQAA
import Derived.Test.YtggelmbnliajeaaGreatDoorQAB
namespace Go.Proofs.YtggelmbnliajeaaGreatDoor
open Go.RowKit Go.Sort
theorem bl_ir {e base top : Nat} {w : World} {ad : Option Addr} {n cap : Nat} {ys : List Int} (h : Bl Ty.int e base top w (.slice ad n cap) ys) (h0 : 0 < ys.length) : ∃ g, ad = some ⟨g, 0, none⟩ ∧ n = ys.length ∧ g < top ∧ IR e base w g n cap ys := by
 obtain ⟨L, fps, h1, h2, -, -, h5, -⟩ := h
 rcases id h1.2 with ⟨_, h⟩ | ⟨g, cap', cur, hv, hg, hh, hn, hc, hcs, hL⟩
 ·omega
 ·simp only [Value.slice.injEq] at hv
  obtain ⟨rfl, rfl, rfl⟩ := hv
  have hl : L.length = ys.length := by rw [h1.1]; simp [Ty.int]
  have hLe : L = ys.map (Value.int .i64) := List.ext_getElem (by simp [hl]) fun i hi hi' => by
   obtain ⟨cs, ⟨hcs, -, -⟩, h8⟩ := h2 i (by omega)
   have := h8 0 (by rw [hcs]; simp)
   simp only [hcs, Ty.int, Nat.mul_one, Nat.add_zero, List.getElem_cons_zero] at this
   rw [List.getElem?_eq_getElem hi] at this
   rw [List.getElem_map]
   exact Option.some.inj this
  refine ⟨g, rfl, rfl, h5 g rfl, rfl, fun a ha => ?_, hg, ?_⟩
  ·obtain ⟨i, hi, rfl⟩ := List.mem_iff_getElem.1 ha
   obtain ⟨cs, ⟨-, hI, -⟩, -⟩ := h2 i hi
   exact hI
  ·rw [← hLe]; exact h1
/-- numbers of a size -/
def inS (s : Int) (L : List Int) : Prop := ∀ a ∈ L, 0 ≤ a ∧ a ≤ s - 1
theorem inS_nil {s : Int} : inS s [] := fun a ha => by cases ha
theorem inS_push {s x : Int} {L : List Int} (h : inS s L) (hx : 0 ≤ x ∧ x ≤ s - 1) : inS s (L ++ [x]) := fun a ha => by
 rcases List.mem_append.1 ha with ha | ha
 ·exact h a ha
 ·rw [List.mem_singleton.1 ha]; exact hx
theorem inS_set {s x : Int} {L : List Int} (h : inS s L) (hx : 0 ≤ x ∧ x ≤ s - 1) (k : Nat) : inS s (L.set k x) := fun a ha => by
 rcases List.mem_or_eq_of_mem_set ha with ha | rfl
 ·exact h a ha
 ·exact hx
/-- a drawn operation comes back -/
def OpR (sb B : Nat) (K s ar : Int) (w : World) (e : Ending) (w' : World) : Prop := ∃ (cs : List Value) (f : Int × List Int), e = .returned (.agg cs.toArray) ∧ opT.Fr w.heap.size w' cs f ∧ opOk s f ∧ f.1 = ar ∧ SrcR sb B K w' ∧ TchP (fun q => q = sb) w w'
theorem op_ok {s : Int} {ar N : Nat} {L : List Int} (hs : 1 ≤ s ∧ s ≤ 4) (har : 1 ≤ ar ∧ ar ≤ 3) (hN : s ^ ar = N) (hl : L.length = N) (h : inS s L) : opOk s ((ar : Int), L) :=
 ⟨hs, ⟨by show (1 : Int) ≤ (ar : Int); omega, by show (ar : Int) ≤ 3; omega⟩, by show (L.length : Int) = s ^ ((ar : Int)).toNat; rw [Int.toNat_natCast, hN, hl], h⟩
theorem proj_ok {s : Int} {ar N p : Nat} (hs : 1 ≤ s ∧ s ≤ 4) (har : 1 ≤ ar ∧ ar ≤ 3) (hN : s ^ ar = N) (hp : p < ar) : opOk s ((ar : Int), projT s ar N p) :=
 op_ok hs har hN tabOf_len fun a ha => by
  obtain ⟨i, -, rfl⟩ := List.mem_map.1 ha
  have hpl : p < (digL s (i : Int) ar).length := by rw [digL_len]; exact hp
  have : (digL s (i : Int) ar).getD p 0 = (digL s (i : Int) ar)[p] := by rw [List.getD_eq_getElem?_getD, List.getElem?_eq_getElem hpl]; rfl
  show 0 ≤ (digL s (i : Int) ar).getD p 0 ∧ (digL s (i : Int) ar).getD p 0 ≤ s - 1
  rw [this]
  exact digL_in (by omega) _ (List.getElem_mem hpl)
set_option maxHeartbeats 6400000 in
set_option maxRecDepth 100000 in
theorem l02Drawn_any (w : World) {sb B : Nat} {K s : Int} {ar : Nat} (h : SrcR sb B K w) (hK0 : 0 ≤ K) (hK : K ≤ 100000) (hs : 1 ≤ s ∧ s ≤ 4) (har : 1 ≤ ar ∧ ar ≤ 2) :
  Calls Tryz.prog 57 #[.pointer (some ⟨sb, 0, none⟩), .int .i64 s, .int .i64 ar] w (OpR sb B (K + 100) s ar w) := by
 have H := Lib.hid h
 have hsb := h.lt
 have hBs : B ≤ sb := let ⟨_, _, _, _, _, _, _, _, _, _, _, _, _, _, h⟩ := h; h
 obtain ⟨N, hN⟩ : ∃ N : Nat, s ^ ar = (N : Int) := ⟨(s ^ ar).toNat, by have h0 : 0 < s ^ ar := Int.pow_pos (by omega); omega⟩
 have hNb : N ≤ 16 := by
  have h1 := pow_mono' (s := s) (c := 4) (by omega) (by omega) ar
  rcases (show ar = 1 ∨ ar = 2 by omega) with e | e <;> subst e <;> simp at h1 <;> omega
 have hN0 : 0 < N := by have h0 : 0 < s ^ ar := Int.pow_pos (by omega); omega
 have HN := Lib.hid hN
 clear h hN
 go_enter Tryz.func57, Tryz.ntmps57
 go_wp2_with fail
 generalize hW : World.alloc w _ = W
 have hbW : Below w.heap.size w W := hW ▸ bA
 have hsW : w.heap.size + 1 ≤ W.heap.size := by rw [← hW]; simp
 have r0 : W.cell? ⟨w.heap.size, 0, none⟩ = some (.int .i64 0) := by rw [← hW]; simp [go_sem]
 have r1 : W.cell? ⟨w.heap.size, 1, none⟩ = some (.slice none 0 0) := by rw [← hW]; simp [go_sem]
 have q0 : W.frozen? ⟨w.heap.size, 0, none⟩ = false := by rw [← hW]; simp [go_sem]
 have q1 : W.frozen? ⟨w.heap.size, 1, none⟩ = false := by rw [← hW]; simp [go_sem]
 have HSW := Lib.hid (H.out.below hbW)
 clear hW
 refine (one_any W HSW.out hK0 (by omega) (n := 4) (by omega)).mono ?_
 rintro e w2 ⟨b, rfl, hs2, ht2⟩
 have hz2 := ht2.size
 replace r0 := (ht2.cell (i := 0) (show w.heap.size < W.heap.size by omega) (by omega)).trans r0
 replace r1 := (ht2.cell (i := 1) (show w.heap.size < W.heap.size by omega) (by omega)).trans r1
 replace q0 := (ht2.frozen (i := 0) (show w.heap.size < W.heap.size by omega) (by omega)).trans q0
 replace q1 := (ht2.frozen (i := 1) (show w.heap.size < W.heap.size by omega) (by omega)).trans q1
 have HS2 := Lib.hid hs2
 have HT2 : Hid (TchP (fun q => q = sb) w w2) := (TchP.of_below hbW (fun q => q = sb)).then ht2 (fun q _ h => h)
 clear hs2 ht2 HSW
 cases b
 ·go_wp2_with fail
  generalize hW3 : World.alloc w2 _ = W3
  have hb3 : Below w2.heap.size w2 W3 := hW3 ▸ bA
  have hsW3 : w2.heap.size + 1 ≤ W3.heap.size := by rw [← hW3]; simp
  have c0 : W3.cell? ⟨w2.heap.size, 0, none⟩ = some (.int .i64 (ar : Int)) := by rw [← hW3]; simp [go_sem]
  have c1 : W3.cell? ⟨w2.heap.size, 1, none⟩ = some (.slice none 0 0) := by rw [← hW3]; simp [go_sem]
  have m1 : W3.frozen? ⟨w2.heap.size, 1, none⟩ = false := by rw [← hW3]; simp [go_sem]
  clear hW3
  have hR3 : ∀ i, W3.cell? ⟨w.heap.size, i, none⟩ = w2.cell? ⟨w.heap.size, i, none⟩ ∧ W3.frozen? ⟨w.heap.size, i, none⟩ = w2.frozen? ⟨w.heap.size, i, none⟩ := fun i => ⟨cellB hb3 (by omega), frozenB hb3 (by omega)⟩
  have HS3 := Lib.hid (HS2.out.below hb3)
  have HT3 : Hid (TchP (fun q => q = sb) w W3) := HT2.out.then (TchP.of_below hb3 (fun q => q = sb)) (fun q _ h => h)
  have HRQ := Lib.hid (And.intro r0 (And.intro r1 (And.intro q0 q1)))
  clear HS2 HT2 r0 r1 q0 q1
  go_loopw [8] (fun i wr => ∃ (k : Nat) (va : Value) (L : List Int), k ≤ N ∧ i = .int .i64 k ∧ L.length = k ∧ inS s L ∧ Bl Ty.int 2 (w2.heap.size + 1) wr.heap.size wr va L ∧ wr.cell? ⟨w2.heap.size, 0, none⟩ = some (.int .i64 (ar : Int)) ∧ wr.cell? ⟨w2.heap.size, 1, none⟩ = some va ∧ wr.frozen? ⟨w2.heap.size, 1, none⟩ = false ∧ SrcR sb B (K + 1 + k) wr ∧ TchP (fun q => q = sb) w wr ∧ (∀ i, wr.cell? ⟨w.heap.size, i, none⟩ = w2.cell? ⟨w.heap.size, i, none⟩ ∧ wr.frozen? ⟨w.heap.size, i, none⟩ = w2.frozen? ⟨w.heap.size, i, none⟩)) (fun i _ => N - (intOf i).toNat)
  case atStart => exact ⟨0, _, [], Nat.zero_le _, rfl, rfl, inS_nil, Bl.nil, c0, c1, m1, HS3.out.mono (by omega), HT3.out, hR3⟩
  case round =>
   clear c0 c1 m1 hR3
   obtain ⟨k, va, L, hk, rfl, hLl, hin, hBa, c0, c1, m1, hsr, htc, hrq⟩ := hrel
   have HB := Lib.hid hBa
   have HIN := Lib.hid hin
   have HSR := Lib.hid hsr
   have HTC := Lib.hid htc
   have HRE := Lib.hid hrq
   have hw2 : w2.heap.size < wr.heap.size := cell_lt c0
   obtain ⟨ga, gn, gc, rfl⟩ := ex_slice (hBa.fr (by unfold capMax; omega))
   obtain ⟨wv, rfl⟩ : ∃ wv : World, wv = wr := ⟨_, rfl⟩
   clear hBa hin hsr htc hrq HS3 HT3
   by_cases hkl : k < N
   ·go_wp2_with (go_at_call 94; refine (l01Power_any _ s (ar : Int) (by omega) (by omega) (by omega)).mono ?_; rintro e w' ⟨rfl, rfl⟩; rw [Int.toNat_natCast, HN.out])
    have hv0 : Below wv.heap.size wv wv.drew := bD
    refine wp_region_T (fun w' => w'.cell? ⟨w2.heap.size, 1, none⟩ = some (.slice ga gn gc)) [6] (by kernel_rfl) c1 (fun hHeld => ?_)
    refine wpAnyT_take (i := 0) (v := ?_) rfl (by kernel_rfl) (fun _ _ _ h => h) (Or.inl ⟨by rfl, ?_⟩) (by assumption) ?_
    rotate_left
    ·(intro w hSw; (try dsimp only at hSw); go_simp <;> with_reducible rfl)
    go_simp
    refine wpAnyT_take (i := 1) (v := ?_) rfl (by kernel_rfl) (fun _ _ _ h => h) (Or.inl ⟨by rfl, ?_⟩) (by assumption) ?_
    rotate_left
    ·(intro w hSw; (try dsimp only at hSw); go_simp <;> with_reducible rfl)
    go_simp
    refine wpAnyT_take (i := 2) (v := ?_) rfl (by kernel_rfl) (fun _ _ _ h => h) (Or.inl ⟨by rfl, ?_⟩) (by assumption) ?_
    rotate_left
    ·(intro w hSw; (try dsimp only at hSw); go_simp <;> with_reducible rfl)
    go_simp
    refine wpAnyT_take (i := 3) (v := ?_) rfl (by kernel_rfl) (fun _ _ _ h => h) (Or.inl ⟨by rfl, ?_⟩) (by assumption) ?_
    rotate_left
    ·(intro w hSw; (try dsimp only at hSw); go_simp <;> with_reducible rfl)
    go_simp
    have HS0 := Lib.hid (HSR.out.below hv0)
    have HT0 : Hid (TchP (fun q => q = sb) w wv.drew) := HTC.out.then (TchP.of_below hv0 (fun q => q = sb)) (fun q _ h => h)
    have HB0 : Hid (Bl Ty.int 2 (w2.heap.size + 1) wv.heap.size wv.drew (.slice ga gn gc) L) := HB.out.below hv0 (Nat.le_refl _)
    have HR0 : Hid (∀ i, wv.drew.cell? ⟨w.heap.size, i, none⟩ = w2.cell? ⟨w.heap.size, i, none⟩ ∧ wv.drew.frozen? ⟨w.heap.size, i, none⟩ = w2.frozen? ⟨w.heap.size, i, none⟩) := fun i => ⟨(cellB hv0 (by omega)).trans (HRE.out i).1, (frozenB hv0 (by omega)).trans (HRE.out i).2⟩
    replace c0 := (cellB hv0 hw2).trans c0
    replace m1 := (frozenB hv0 hw2).trans m1
    have hz0 := hv0.size
    clear c1 HSR HTC HB HRE
    generalize wv.drew = x0 at hHeld hv0 HS0 HT0 HB0 HR0 c0 m1 hz0 ⊢
    have c1 := hHeld
    refine wpAnyT_one (i := 4) rfl (by kernel_rfl) (fun K hK => ?_)
    go_simp
    go_at_call 56
    refine (pick_any x0 HS0.out (by omega) (by omega) (n := s) (by omega)).mono ?_
    rintro e w5 ⟨x, rfl, hx0, hx1, hs5, ht5⟩
    have hz5 := ht5.size
    have hI : I64 x := I64.small (by omega) (by omega)
    replace c0 := (ht5.cell (i := 0) (show w2.heap.size < x0.heap.size by omega) (by omega)).trans c0
    replace c1 := (ht5.cell (i := 1) (show w2.heap.size < x0.heap.size by omega) (by omega)).trans c1
    replace m1 := (ht5.frozen (i := 1) (show w2.heap.size < x0.heap.size by omega) (by omega)).trans m1
    have HB5 : Hid (Bl Ty.int 2 (w2.heap.size + 1) wv.heap.size w5 (.slice ga gn gc) L) := HB0.out.sameB (fun q h1 h2 => ht5.block q (by omega) (by omega))
    have HS5 := Lib.hid hs5
    have HT5 := Lib.hid (HT0.out.then ht5 (fun q _ h => h))
    have HR5 : Hid (∀ i, w5.cell? ⟨w.heap.size, i, none⟩ = w2.cell? ⟨w.heap.size, i, none⟩ ∧ w5.frozen? ⟨w.heap.size, i, none⟩ = w2.frozen? ⟨w.heap.size, i, none⟩) := fun i => ⟨(ht5.cell (by omega) (by omega)).trans (HR0.out i).1, (ht5.frozen (by omega) (by omega)).trans (HR0.out i).2⟩
    clear hs5 ht5 HS0 HT0 HB0 HR0
    dsimp only
    refine hK.out _ _ c1 (fun hHeld => ?_)
    clear hK K
    refine wpAnyT_one (i := 5) rfl (by kernel_rfl) (fun K hK => ?_)
    go_simp
    refine hK.out _ _ (by go_keep) (fun hHeld => ?_)
    clear hK K
    refine wpAnyT_last (i := 6) rfl (by kernel_rfl) (by kernel_rfl) (fun K hK => ?_)
    refine step_push (E := Ty.int) _ rfl _ _ 42 2 rfl elInt rfl (HB5.out.below ((bA (w := w5)).mono (by omega)) (Nat.le_refl _)) rfl news1 (fr_int hI) (by omega) (by decide) (by omega) (by first | (simp; done) | (simp; omega)) ?_
    intro v6 w6 hB6 hg6 _
    obtain ⟨xa, xn, xc, rfl⟩ := ex_slice (hB6.fr (by rw [List.length_append, List.length_singleton]; unfold capMax; omega))
    have hb6 : RowKit.Below (w2.heap.size + 1) w5 w6 := ((bA (w := w5)).mono (by omega)).grown hg6 (by first | (simp; done) | (simp; omega)) (fun q hq => HB5.out.own hq)
    have HB6 := Lib.hid hB6
    have hz6 := hb6.size
    replace c0 := (cellB hb6 (by omega)).trans c0
    replace c1 := (cellB hb6 (by omega)).trans c1
    replace m1 := (frozenB hb6 (by omega)).trans m1
    have HS6 := Lib.hid (srcB HS5.out (show sb < w2.heap.size + 1 by omega) hb6)
    have HT6 := Lib.hid (tchB HT5.out (hb6.mono (by omega)))
    have HR6 : Hid (∀ i, w6.cell? ⟨w.heap.size, i, none⟩ = w2.cell? ⟨w.heap.size, i, none⟩ ∧ w6.frozen? ⟨w.heap.size, i, none⟩ = w2.frozen? ⟨w.heap.size, i, none⟩) := fun i => ⟨(cellB hb6 (by omega)).trans (HR5.out i).1, (frozenB hb6 (by omega)).trans (HR5.out i).2⟩
    clear hB6 hg6 hb6 HB5 HS5 HT5 HR5
    refine hK.out _ _ ?_
    clear hK K
    refine wpAnyT_any (i := 7) (v := ?_) rfl (by kernel_rfl) (fun _ _ _ h => h) (Or.inl ⟨by rfl, ?_⟩) (by first | exact fun _ => by assumption | (intro hp; exact absurd hp (by rw [show pastB _ _ = true by kernel_rfl]; simp))) ?_
    rotate_left
    ·(intro w hSw; (try dsimp only at hSw); go_simp <;> with_reducible rfl)
    try simp only [Act.put]
    refine wpAnyT_last (i := 8) rfl (by kernel_rfl) (by kernel_rfl) (fun K hK => ?_)
    go_simp
    refine hK.out _ _ ?_
    clear hK K
    refine wpAnyT_done (by kernel_rfl) ?_ _
    go_simp
    go_wp2_with fail
    go_roundw
    case rel => exact ⟨k + 1, .slice xa xn xc, L ++ [x], by omega, by go_num, by rw [List.length_append, List.length_singleton, hLl], inS_push HIN.out ⟨hx0, hx1⟩, by rw [size_set]; exact HB6.out.sameB (fun q h1 h2 => Below.heap_setCell _ _ _ _ (by simp; omega)), (World.cell?_setCell_other _ _ _ _ (by simp)).trans c0, World.cell?_setCell_same _ _ _ c1, (World.frozen?_setCell _ _ _ _).trans m1, (HS6.out.tch (TchP.set (O := fun q => q = w2.heap.size) rfl) (by omega) (by omega)).mono (by omega), tchS HT6.out (by omega), fun i => ⟨(World.cell?_setCell_other _ _ _ _ (by first | (simp; done) | (simp; omega))).trans (HR6.out i).1, (World.frozen?_setCell _ _ _ _).trans (HR6.out i).2⟩⟩
    case measure => simp [intOf]; omega
   ·obtain rfl : k = N := by omega
    obtain ⟨g, rfl, hgn, hgt, hIR⟩ := bl_ir HB.out (by omega)
    obtain rfl : k = gn := by omega
    have HIR := Lib.hid hIR
    clear hIR HB hgn
    go_wp2_with (go_at_call 94; refine (l01Power_any _ s (ar : Int) (by omega) (by omega) (by omega)).mono ?_; rintro e w' ⟨rfl, rfl⟩; rw [Int.toNat_natCast, HN.out])
    refine (one_any wv HSR.out (by omega) (by omega) (n := 3) (by omega)).mono ?_
    rintro e w6 ⟨b3, rfl, hs6, ht6⟩
    have hz6 := ht6.size
    replace c0 := (ht6.cell (i := 0) hw2 (by omega)).trans c0
    replace c1 := (ht6.cell (i := 1) hw2 (by omega)).trans c1
    replace m1 := (ht6.frozen (i := 1) hw2 (by omega)).trans m1
    have HIR6 := Lib.hid (HIR.out.same (ht6.block g HIR.out.lt (by have := HIR.out.2.2.1; omega)))
    have HS6 := Lib.hid hs6
    have HT6 := Lib.hid (HTC.out.then ht6 (fun q _ h => h))
    have HR6 : Hid (∀ i, w6.cell? ⟨w.heap.size, i, none⟩ = w2.cell? ⟨w.heap.size, i, none⟩ ∧ w6.frozen? ⟨w.heap.size, i, none⟩ = w2.frozen? ⟨w.heap.size, i, none⟩) := fun i => ⟨(ht6.cell (by omega) (by omega)).trans (HRE.out i).1, (ht6.frozen (by omega) (by omega)).trans (HRE.out i).2⟩
    clear hs6 ht6 HSR HTC HRE HIR
    cases b3
    ·go_wp2_with fail
     have HIR7 := HIR6
     have HIN7 := HIN
     have HS7 := HS6
     have HT7 := HT6
     have HR7 := HR6
     obtain ⟨LL, rfl⟩ : ∃ LL, LL = L := ⟨_, rfl⟩
     refine (one_any w6 HS7.out (by omega) (by omega) (n := 4) (by omega)).mono ?_
     rintro e w8 ⟨b4, rfl, hs8, ht8⟩
     have hz8 := ht8.size
     have hl7 : w2.heap.size < w6.heap.size := cell_lt c0
     replace c0 := (ht8.cell (i := 0) hl7 (by omega)).trans c0
     replace c1 := (ht8.cell (i := 1) hl7 (by omega)).trans c1
     have r0 := ((ht8.cell (by omega) (by omega)).trans (HR7.out 0).1).trans HRQ.out.1
     have r1 := ((ht8.cell (by omega) (by omega)).trans (HR7.out 1).1).trans HRQ.out.2.1
     have q0 := ((ht8.frozen (by omega) (by omega)).trans (HR7.out 0).2).trans HRQ.out.2.2.1
     have q1 := ((ht8.frozen (by omega) (by omega)).trans (HR7.out 1).2).trans HRQ.out.2.2.2
     have hIR8 := HIR7.out.same (ht8.block g HIR7.out.lt (by have := HIR7.out.2.2.1; omega))
     have HFR := Lib.hid (hIR8.fr (by unfold capMax; omega))
     have hIa : I64 (ar : Int) := I64.small (by omega) (by omega)
     obtain ⟨g0, g1⟩ := set2_cells (x := .int .i64 (ar : Int)) (y := .slice (some ⟨g, 0, none⟩) k gc) r0 r1
     have HFF : Hid (opT.Fr w.heap.size ((w8.setCell ⟨w.heap.size, 0, none⟩ (.int .i64 (ar : Int))).setCell ⟨w.heap.size, 1, none⟩ (.slice (some ⟨g, 0, none⟩) k gc)) [.int .i64 (ar : Int), .slice (some ⟨g, 0, none⟩) k gc] ((ar : Int), LL)) := fr_cons hIa (((HFR.out.set (by simp; omega)).set (by simp; omega)).mono (by omega))
     have HOK : Hid (opOk s ((ar : Int), LL)) := op_ok hs (by omega) HN.out hIR8.1 HIN7.out
     have HSS : Hid (SrcR sb B (K + 100) ((w8.setCell ⟨w.heap.size, 0, none⟩ (.int .i64 (ar : Int))).setCell ⟨w.heap.size, 1, none⟩ (.slice (some ⟨g, 0, none⟩) k gc))) := ((hs8.tch (TchP.set (O := fun q => q = w.heap.size) rfl) (by omega) (by omega)).tch (TchP.set (O := fun q => q = w.heap.size) rfl) (by omega) (by omega)).mono (by omega)
     have HTT : Hid (TchP (fun q => q = sb) w ((w8.setCell ⟨w.heap.size, 0, none⟩ (.int .i64 (ar : Int))).setCell ⟨w.heap.size, 1, none⟩ (.slice (some ⟨g, 0, none⟩) k gc))) := tchS (tchS (HT7.out.then ht8 (fun q _ h => h)) (Nat.le_refl _)) (Nat.le_refl _)
     have ha3 : ((ar : Int) == 3) = false := by simp; omega
     clear hs8 ht8 hIR8 HFR HS7 HT7
     cases b4
     ·go_wp2_with fail
      refine bodyPost_ret (v := .agg #[.int .i64 (ar : Int), .slice (some ⟨g, 0, none⟩) k gc]) (by simp [results, Tryz.results57, go_sem, g0, g1]) rfl ⟨[.int .i64 (ar : Int), .slice (some ⟨g, 0, none⟩) k gc], ((ar : Int), LL), rfl, HFF.out, HOK.out, rfl, HSS.out, HTT.out⟩
     ·cases hs2 : (s == 2)
      all_goals
       go_wp2_with fail
       refine bodyPost_ret (v := .agg #[.int .i64 (ar : Int), .slice (some ⟨g, 0, none⟩) k gc]) (by simp [results, Tryz.results57, go_sem, g0, g1]) rfl ⟨[.int .i64 (ar : Int), .slice (some ⟨g, 0, none⟩) k gc], ((ar : Int), LL), rfl, HFF.out, HOK.out, rfl, HSS.out, HTT.out⟩
    ·go_wp2_with fail
     go_loopg [9] k (fun gh i wr => ∃ (q : Nat) (M : List Int), gh + q = k ∧ i = .int .i64 q ∧ inS s M ∧ IR 2 (w2.heap.size + 1) wr g k gc M ∧ wr.cell? ⟨w2.heap.size, 0, none⟩ = some (.int .i64 (ar : Int)) ∧ wr.cell? ⟨w2.heap.size, 1, none⟩ = some (.slice (some ⟨g, 0, none⟩) k gc) ∧ wr.frozen? ⟨w2.heap.size, 1, none⟩ = false ∧ SrcR sb B (K + 1 + k + 1) wr ∧ TchP (fun q => q = sb) w wr ∧ (∀ i, wr.cell? ⟨w.heap.size, i, none⟩ = w2.cell? ⟨w.heap.size, i, none⟩ ∧ wr.frozen? ⟨w.heap.size, i, none⟩ = w2.frozen? ⟨w.heap.size, i, none⟩))
     case atStart => exact ⟨0, L, by omega, rfl, HIN.out, HIR6.out, c0, c1, m1, HS6.out, HT6.out, HR6.out⟩
     case round =>
      clear c0 c1 m1 HIR6 HS6 HT6 HR6
      obtain ⟨q, M, hq, rfl, hin2, hir2, c0, c1, m1, hsr2, htc2, hrq2⟩ := hrel
      have HIN7 := Lib.hid hin2
      have HIR7 := Lib.hid hir2
      have HS7 := Lib.hid hsr2
      have HT7 := Lib.hid htc2
      have HR7 := Lib.hid hrq2
      have hw7 : w2.heap.size < wr.heap.size := cell_lt c0
      have hg7 := hir2.lt
      have hgb : w2.heap.size + 1 ≤ g := hir2.2.2.1
      obtain ⟨wz, rfl⟩ : ∃ wz : World, wz = wr := ⟨_, rfl⟩
      clear hin2 hir2 hsr2 htc2 hrq2
      by_cases hql : q < k
      ·go_wp2_with fail
       refine (l01Digits_any _ s (q : Int) ar (by omega) (by omega) (by omega) (by omega) (by omega)).mono ?_
       rintro e w5 ⟨dv, rfl, hdf, hb5⟩
       have hlen := digL_len (s := s) (idx := (q : Int)) (n := ar)
       have hdin : ∀ a ∈ digL s (q : Int) ar, 0 ≤ a ∧ a ≤ s - 1 := digL_in (by omega)
       generalize digL s (q : Int) ar = D at hdf hlen hdin
       obtain ⟨ad, cd, hv, -, -, hce⟩ := ints_ex hdf.rd
       obtain rfl : dv = _ := by simpa using hv
       obtain ⟨db, dO, rfl, hdb, hce⟩ := hce (by omega)
       have HIR5 := Lib.hid (HIR7.out.same (hb5.block g hg7))
       have HS5 := Lib.hid (HS7.out.below hb5)
       have HT5 := Lib.hid (HT7.out.then (TchP.of_below hb5 (fun q => q = sb)) (fun q _ h => h))
       have HR5 : Hid (∀ i, w5.cell? ⟨w.heap.size, i, none⟩ = w2.cell? ⟨w.heap.size, i, none⟩ ∧ w5.frozen? ⟨w.heap.size, i, none⟩ = w2.frozen? ⟨w.heap.size, i, none⟩) := fun i => ⟨(cellB hb5 (by omega)).trans (HR7.out i).1, (frozenB hb5 (by omega)).trans (HR7.out i).2⟩
       have hz5 := hb5.size
       replace c0 := (cellB hb5 (by omega)).trans c0
       replace c1 := (cellB hb5 (by omega)).trans c1
       replace m1 := (frozenB hb5 (by omega)).trans m1
       rcases (show ar = 1 ∨ ar = 2 by omega) with rfl | rfl
       ·clear hce
        go_wp2_with fail
        go_quiet (fail)
        generalize hW8 : World.drewN w5 _ = x8
        have hb8 : Below w5.heap.size w5 x8 := hW8 ▸ bDN (Below.refl _ _)
        have hz8 := hb8.size
        replace c0 := (cellB hb8 (by omega)).trans c0
        replace c1 := (cellB hb8 (by omega)).trans c1
        replace m1 := (frozenB hb8 (by omega)).trans m1
        clear hW8
        go_wp2_with fail
        go_quiet (fail)
        generalize hW9 : World.drewN x8 _ = x9
        have hb9 : Below x8.heap.size x8 x9 := hW9 ▸ bDN (Below.refl _ _)
        have hz9 := hb9.size
        replace c0 := (cellB hb9 (by omega)).trans c0
        replace c1 := (cellB hb9 (by omega)).trans c1
        replace m1 := (frozenB hb9 (by omega)).trans m1
        have hbx := bthen hb8 hb9
        clear hW9
        go_wp2_with fail
        go_roundg (k - q - 1)
        case rel => exact ⟨q + 1, M, by omega, by go_num, HIN7.out, HIR5.out.same (hbx.block g (by omega)), c0, c1, m1, HS5.out.below hbx, HT5.out.then (TchP.of_below hbx (fun q => q = sb)) (fun q _ h => h), fun i => ⟨(cellB hbx (by omega)).trans (HR5.out i).1, (frozenB hbx (by omega)).trans (HR5.out i).2⟩⟩
        case measure => omega
       ·obtain ⟨x, y, rfl⟩ : ∃ x y, D = [x, y] := by
         match D, hlen with
         | [x, y], _ => exact ⟨x, y, rfl⟩
        have d0 := (hce 0 (by simp)).2
        have d1 := (hce 1 (by simp)).2
        simp only [List.getElem_cons_zero, List.getElem_cons_succ, Nat.add_zero] at d0 d1
        have hx := hdin x (by simp)
        have hy := hdin y (by simp)
        clear hce hdf hdin hv
        go_wp2_with fail
        have hv0 : Below w5.heap.size w5 w5.drew := bD
        refine wp_region_T (fun w' => w'.cell? ⟨w2.heap.size, 1, none⟩ = some (.slice (some ⟨g, 0, none⟩) k gc) ∧ w'.cell? ⟨db, dO, none⟩ = some (.int .i64 x) ∧ w'.cell? ⟨db, dO + 1, none⟩ = some (.int .i64 y)) [11] (by kernel_rfl) ⟨c1, d0, d1⟩ (fun hHeld => ?_)
        refine wpAnyT_take (i := 0) (v := ?_) rfl (by kernel_rfl) (fun _ _ _ h => h) (Or.inl ⟨by rfl, ?_⟩) (by assumption) ?_
        rotate_left
        ·(intro w hSw; (try dsimp only at hSw); go_simp <;> with_reducible rfl)
        go_simp
        refine wpAnyT_take (i := 1) (v := ?_) rfl (by kernel_rfl) (fun _ _ _ h => h) (Or.inl ⟨by rfl, ?_⟩) (by assumption) ?_
        rotate_left
        ·(intro w hSw; (try dsimp only at hSw); go_simp <;> with_reducible rfl)
        go_simp
        refine wpAnyT_take (i := 2) (v := ?_) rfl (by kernel_rfl) (fun _ _ _ h => h) (Or.inl ⟨by rfl, ?_⟩) (by assumption) ?_
        rotate_left
        ·(intro w hSw; (try dsimp only at hSw); go_simp <;> with_reducible rfl)
        go_simp
        refine wpAnyT_take (i := 3) (v := ?_) rfl (by kernel_rfl) (fun _ _ _ h => h) (Or.inl ⟨by rfl, ?_⟩) (by assumption) ?_
        rotate_left
        ·(intro w hSw; (try dsimp only at hSw); go_simp <;> with_reducible rfl)
        go_simp
        refine wpAnyT_take (i := 4) (v := ?_) rfl (by kernel_rfl) (fun _ _ _ h => h) (Or.inl ⟨by rfl, ?_⟩) (by assumption) ?_
        rotate_left
        ·(intro w hSw; (try dsimp only at hSw); go_simp <;> with_reducible rfl)
        go_simp
        refine wpAnyT_take (i := 5) (v := ?_) rfl (by kernel_rfl) (fun _ _ _ h => h) (Or.inl ⟨by rfl, ?_⟩) (by assumption) ?_
        rotate_left
        ·(intro w hSw; (try dsimp only at hSw); go_simp <;> with_reducible rfl)
        go_simp
        refine wpAnyT_take (i := 6) (v := ?_) rfl (by kernel_rfl) (fun _ _ _ h => h) (Or.inl ⟨by rfl, ?_⟩) (by assumption) ?_
        rotate_left
        ·(intro w hSw; (try dsimp only at hSw); go_simp <;> with_reducible rfl)
        go_simp
        refine wpAnyT_take (i := 7) (v := ?_) rfl (by kernel_rfl) (fun _ _ _ h => h) (Or.inl ⟨by rfl, ?_⟩) (by assumption) ?_
        rotate_left
        ·(intro w hSw; (try dsimp only at hSw); go_simp <;> with_reducible rfl)
        go_simp
        refine wpAnyT_take (i := 8) (v := ?_) rfl (by kernel_rfl) (fun _ _ _ h => h) (Or.inl ⟨by rfl, ?_⟩) (by assumption) ?_
        rotate_left
        ·(intro w hSw; (try dsimp only at hSw); go_simp <;> with_reducible rfl)
        go_simp
        refine wpAnyT_one (i := 9) rfl (by kernel_rfl) (fun K hK => ?_)
        go_simp
        go_at_call 116
        refine (l00Min_any x y _).mono ?_
        rintro e _ ⟨rfl, rfl⟩
        dsimp only
        refine hK.out _ _ hHeld (fun hHeld => ?_)
        clear hK K
        refine wpAnyT_take (i := 10) (v := ?_) rfl (by kernel_rfl) (fun _ _ _ h => h) (Or.inl ⟨by rfl, ?_⟩) (by assumption) ?_
        rotate_left
        ·(intro w hSw; (try dsimp only at hSw); go_simp <;> with_reducible rfl)
        go_simp
        have HIR0 := Lib.hid (HIR5.out.same (hv0.block g (by omega)))
        have HS0 := Lib.hid (HS5.out.below hv0)
        have HT0 : Hid (TchP (fun q => q = sb) w w5.drew) := HT5.out.then (TchP.of_below hv0 (fun q => q = sb)) (fun q _ h => h)
        have HR0 : Hid (∀ i, w5.drew.cell? ⟨w.heap.size, i, none⟩ = w2.cell? ⟨w.heap.size, i, none⟩ ∧ w5.drew.frozen? ⟨w.heap.size, i, none⟩ = w2.frozen? ⟨w.heap.size, i, none⟩) := fun i => ⟨(cellB hv0 (by omega)).trans (HR5.out i).1, (frozenB hv0 (by omega)).trans (HR5.out i).2⟩
        have hz0 := hv0.size
        replace c0 := (cellB hv0 (by omega)).trans c0
        replace m1 := (frozenB hv0 (by omega)).trans m1
        clear c1 d0 d1 HIR5 HS5 HT5 HR5
        generalize w5.drew = x0 at *
        have c1 := hHeld.1
        obtain ⟨u0, e0⟩ := HIR0.out.cell hql
        have e1 := HIR0.out.free q
        have HIR1 := Lib.hid (HIR0.out.set q (a := min x y) (I64.small (by omega) (by omega)))
        have HIN1 := Lib.hid (inS_set HIN7.out (x := min x y) (by omega) q)
        refine wpAnyT_last (i := 11) rfl (by kernel_rfl) (by kernel_rfl) (fun K hK => ?_)
        go_simp
        refine hK.out _ _ ?_
        clear hK K
        refine wpAnyT_done (by kernel_rfl) ?_ _
        go_simp
        generalize hW1 : World.setCell x0 _ _ = x1
        have hz1 : x0.heap.size ≤ x1.heap.size := by rw [← hW1, size_set]; exact Nat.le_refl _
        replace c0 : x1.cell? ⟨w2.heap.size, 0, none⟩ = some (.int .i64 2) := by rw [← hW1]; exact (World.cell?_setCell_other _ _ _ _ (by first | (simp; done) | (simp; omega))).trans c0
        replace c1 : x1.cell? ⟨w2.heap.size, 1, none⟩ = some (.slice (some ⟨g, 0, none⟩) k gc) := by rw [← hW1]; exact (World.cell?_setCell_other _ _ _ _ (by first | (simp; done) | (simp; omega))).trans c1
        replace m1 : x1.frozen? ⟨w2.heap.size, 1, none⟩ = false := by rw [← hW1]; exact (World.frozen?_setCell _ _ _ _).trans m1
        replace HIR1 : Hid (IR 2 (w2.heap.size + 1) x1 g k gc (M.set q (min x y))) := by rw [← hW1]; exact HIR1
        have HS1 : Hid (SrcR sb B (K + 1 + k + 1) x1) := by rw [← hW1]; exact HS0.out.tch (TchP.set (O := fun q => q = g) rfl) (by omega) (by omega)
        have HT1 : Hid (TchP (fun q => q = sb) w x1) := by rw [← hW1]; exact tchS HT0.out (by omega)
        have HR1 : Hid (∀ i, x1.cell? ⟨w.heap.size, i, none⟩ = w2.cell? ⟨w.heap.size, i, none⟩ ∧ x1.frozen? ⟨w.heap.size, i, none⟩ = w2.frozen? ⟨w.heap.size, i, none⟩) := by rw [← hW1]; exact fun i => ⟨(World.cell?_setCell_other _ _ _ _ (by first | (simp; done) | (simp; omega))).trans (HR0.out i).1, (World.frozen?_setCell _ _ _ _).trans (HR0.out i).2⟩
        clear hW1 hHeld e0 e1
        go_wp2_with fail
        go_quiet (fail)
        generalize hW8 : World.drewN x1 _ = x8
        have hb8 : Below x1.heap.size x1 x8 := hW8 ▸ bDN (Below.refl _ _)
        have hz8 := hb8.size
        replace c0 := (cellB hb8 (by omega)).trans c0
        replace c1 := (cellB hb8 (by omega)).trans c1
        replace m1 := (frozenB hb8 (by omega)).trans m1
        clear hW8
        go_wp2_with fail
        go_quiet (fail)
        generalize hW9 : World.drewN x8 _ = x9
        have hb9 : Below x8.heap.size x8 x9 := hW9 ▸ bDN (Below.refl _ _)
        have hz9 := hb9.size
        replace c0 := (cellB hb9 (by omega)).trans c0
        replace c1 := (cellB hb9 (by omega)).trans c1
        replace m1 := (frozenB hb9 (by omega)).trans m1
        have hbx := bthen hb8 hb9
        clear hW9
        go_wp2_with fail
        go_roundg (k - q - 1)
        case rel => exact ⟨q + 1, M.set q (min x y), by omega, by go_num, HIN1.out, HIR1.out.same (hbx.block g (by omega)), c0, c1, m1, HS1.out.below hbx, HT1.out.then (TchP.of_below hbx (fun q => q = sb)) (fun q _ h => h), fun i => ⟨(cellB hbx (by omega)).trans (HR1.out i).1, (frozenB hbx (by omega)).trans (HR1.out i).2⟩⟩
        case measure => omega
      ·obtain rfl : q = k := by omega
       obtain ⟨LL, rfl⟩ : ∃ LL, LL = M := ⟨_, rfl⟩
       go_wp2_with fail
       refine (one_any wz HS7.out (by omega) (by omega) (n := 4) (by omega)).mono ?_
       rintro e w8 ⟨b4, rfl, hs8, ht8⟩
       have hz8 := ht8.size
       have hl7 : w2.heap.size < wz.heap.size := cell_lt c0
       replace c0 := (ht8.cell (i := 0) hl7 (by omega)).trans c0
       replace c1 := (ht8.cell (i := 1) hl7 (by omega)).trans c1
       have r0 := ((ht8.cell (by omega) (by omega)).trans (HR7.out 0).1).trans HRQ.out.1
       have r1 := ((ht8.cell (by omega) (by omega)).trans (HR7.out 1).1).trans HRQ.out.2.1
       have q0 := ((ht8.frozen (by omega) (by omega)).trans (HR7.out 0).2).trans HRQ.out.2.2.1
       have q1 := ((ht8.frozen (by omega) (by omega)).trans (HR7.out 1).2).trans HRQ.out.2.2.2
       have hIR8 := HIR7.out.same (ht8.block g HIR7.out.lt (by have := HIR7.out.2.2.1; omega))
       have HFR := Lib.hid (hIR8.fr (by unfold capMax; omega))
       have hIa : I64 (ar : Int) := I64.small (by omega) (by omega)
       obtain ⟨g0, g1⟩ := set2_cells (x := .int .i64 (ar : Int)) (y := .slice (some ⟨g, 0, none⟩) q gc) r0 r1
       have HFF : Hid (opT.Fr w.heap.size ((w8.setCell ⟨w.heap.size, 0, none⟩ (.int .i64 (ar : Int))).setCell ⟨w.heap.size, 1, none⟩ (.slice (some ⟨g, 0, none⟩) q gc)) [.int .i64 (ar : Int), .slice (some ⟨g, 0, none⟩) q gc] ((ar : Int), LL)) := fr_cons hIa (((HFR.out.set (by simp; omega)).set (by simp; omega)).mono (by omega))
       have HOK : Hid (opOk s ((ar : Int), LL)) := op_ok hs (by omega) HN.out hIR8.1 HIN7.out
       have HSS : Hid (SrcR sb B (K + 100) ((w8.setCell ⟨w.heap.size, 0, none⟩ (.int .i64 (ar : Int))).setCell ⟨w.heap.size, 1, none⟩ (.slice (some ⟨g, 0, none⟩) q gc))) := ((hs8.tch (TchP.set (O := fun q => q = w.heap.size) rfl) (by omega) (by omega)).tch (TchP.set (O := fun q => q = w.heap.size) rfl) (by omega) (by omega)).mono (by omega)
       have HTT : Hid (TchP (fun q => q = sb) w ((w8.setCell ⟨w.heap.size, 0, none⟩ (.int .i64 (ar : Int))).setCell ⟨w.heap.size, 1, none⟩ (.slice (some ⟨g, 0, none⟩) q gc))) := tchS (tchS (HT7.out.then ht8 (fun q _ h => h)) (Nat.le_refl _)) (Nat.le_refl _)
       have ha3 : ((ar : Int) == 3) = false := by simp; omega
       clear hs8 ht8 hIR8 HFR HS7 HT7
       cases b4
       ·go_wp2_with fail
        refine bodyPost_ret (v := .agg #[.int .i64 (ar : Int), .slice (some ⟨g, 0, none⟩) q gc]) (by simp [results, Tryz.results57, go_sem, g0, g1]) rfl ⟨[.int .i64 (ar : Int), .slice (some ⟨g, 0, none⟩) q gc], ((ar : Int), LL), rfl, HFF.out, HOK.out, rfl, HSS.out, HTT.out⟩
       ·cases hs2 : (s == 2)
        all_goals
         go_wp2_with fail
         refine bodyPost_ret (v := .agg #[.int .i64 (ar : Int), .slice (some ⟨g, 0, none⟩) q gc]) (by simp [results, Tryz.results57, go_sem, g0, g1]) rfl ⟨[.int .i64 (ar : Int), .slice (some ⟨g, 0, none⟩) q gc], ((ar : Int), LL), rfl, HFF.out, HOK.out, rfl, HSS.out, HTT.out⟩
 ·go_wp2_with fail
  refine (pick_any w2 HS2.out (by omega) (by omega) (n := (ar : Int)) (by omega)).mono ?_
  rintro e w3 ⟨x, rfl, hx0, hx1, hs3, ht3⟩
  obtain ⟨p, rfl⟩ : ∃ p : Nat, x = p := ⟨x.toNat, by omega⟩
  have hz3 := ht3.size
  replace r0 := (ht3.cell (i := 0) (show w.heap.size < w2.heap.size by omega) (by omega)).trans r0
  replace r1 := (ht3.cell (i := 1) (show w.heap.size < w2.heap.size by omega) (by omega)).trans r1
  replace q0 := (ht3.frozen (i := 0) (show w.heap.size < w2.heap.size by omega) (by omega)).trans q0
  replace q1 := (ht3.frozen (i := 1) (show w.heap.size < w2.heap.size by omega) (by omega)).trans q1
  have HS3 := Lib.hid hs3
  have HT3 := Lib.hid (HT2.out.then ht3 (fun q _ h => h))
  clear hs3 ht3 HS2 HT2
  go_wp2_with fail
  refine (l02Projection_any w3 hs (by omega) HN.out (p := p) (by omega)).mono ?_
  rintro e w4 ⟨cs, rfl, hf, hb4⟩
  have hz4 := hb4.size
  replace r0 := (cellB hb4 (by omega)).trans r0
  replace r1 := (cellB hb4 (by omega)).trans r1
  replace q0 := (frozenB hb4 (by omega)).trans q0
  replace q1 := (frozenB hb4 (by omega)).trans q1
  obtain ⟨ta, tc, rfl⟩ := fr_pair hf
  have HOK : Hid (opOk s ((ar : Int), projT s ar N p)) := proj_ok hs (by omega) HN.out (by omega)
  generalize projT s ar N p = L at hf HOK ⊢
  dsimp only at hf ⊢
  have HF : Hid (opT.Fr w.heap.size ((w4.setCell ⟨w.heap.size, 0, none⟩ (.int .i64 (ar : Int))).setCell ⟨w.heap.size, 1, none⟩ (.slice ta L.length tc)) [.int .i64 (ar : Int), .slice ta L.length tc] ((ar : Int), L)) := ((hf.set (by simp; omega)).set (by simp; omega)).mono (by omega)
  obtain ⟨g0, g1⟩ := set2_cells (x := .int .i64 (ar : Int)) (y := .slice ta L.length tc) r0 r1
  have HSS : Hid (SrcR sb B (K + 100) ((w4.setCell ⟨w.heap.size, 0, none⟩ (.int .i64 (ar : Int))).setCell ⟨w.heap.size, 1, none⟩ (.slice ta L.length tc))) := (((HS3.out.below hb4).tch (TchP.set (O := fun q => q = w.heap.size) rfl) (by omega) (by omega)).tch (TchP.set (O := fun q => q = w.heap.size) rfl) (by omega) (by omega)).mono (by omega)
  have HTT : Hid (TchP (fun q => q = sb) w ((w4.setCell ⟨w.heap.size, 0, none⟩ (.int .i64 (ar : Int))).setCell ⟨w.heap.size, 1, none⟩ (.slice ta L.length tc))) := tchS (tchS (HT3.out.then (TchP.of_below hb4 (fun q => q = sb)) (fun q _ h => h)) (Nat.le_refl _)) (Nat.le_refl _)
  clear hf
  go_wp2_with fail
  refine bodyPost_ret (v := .agg #[.int .i64 (ar : Int), .slice ta L.length tc]) (by simp [results, Tryz.results57, go_sem, g0, g1]) rfl ⟨[.int .i64 (ar : Int), .slice ta L.length tc], ((ar : Int), L), rfl, HF.out, HOK.out, rfl, HSS.out, HTT.out⟩
end Go.Proofs.YtggelmbnliajeaaGreatDoor
namespace Go.Proofs.YtggelmbnliajeaaGreatDoor
open Go.RowKit Go.Sort
theorem l02Same_quiet (w : World) {v v' : Value} {x y : Int × List Int} (h : opT.Pt w v x) (h' : opT.Pt w v' y) :
  Calls Tryz.prog 88 #[v, v'] w fun e w' => e = .returned (.bool (eqB x y)) ∧ Quiet w w' := by
 obtain ⟨b, o, ad, cap, rfl, hb, hI, c0, c1, hx⟩ := pt_pair h
 obtain ⟨b', o', ad', cap', rfl, hb', hI', c0', c1', hx'⟩ := pt_pair h'
 clear h h'
 cases hn : (x.1 == y.1)
 ·go_enter Tryz.func88, Tryz.ntmps88
  go_wp2_with fail
  go_quiet (fail)
  go_wp2_with fail
  go_ret
  exact ⟨ret_bool (eqB_fst (by simpa using hn)).symm, (by first | exact Quiet.refl _ | exact Quiet.drewN _ _ | exact (Quiet.drewN _ _).then (Quiet.drewN _ _) | exact ((Quiet.drewN _ _).then (Quiet.drewN _ _)).then (Quiet.drewN _ _))⟩
 have HN : Hid (x.1 = y.1) := by simpa [Hid] using hn
 have cQ : ∀ n, Calls Tryz.prog 69 #[.slice ad x.2.length cap, .slice ad' y.2.length cap'] (w.drewN n) fun e w'' => e = .returned (.bool (eqB x.2 y.2)) ∧ ∃ m, w'' = w.drewN m := fun n =>
  quiet_call (l00Same_quiet _ (hx.below (Quiet.drewN w n).below) (hx'.below (Quiet.drewN w n).below))
 go_enter Tryz.func88, Tryz.ntmps88
 go_wp2_with fail
 go_quiet (exact cQ _)
 go_wp2_with fail
 go_ret
 exact ⟨ret_bool (eqB_snd HN.out rfl).symm, (by first | exact Quiet.refl _ | exact Quiet.drewN _ _ | exact (Quiet.drewN _ _).then (Quiet.drewN _ _) | exact ((Quiet.drewN _ _).then (Quiet.drewN _ _)).then (Quiet.drewN _ _))⟩
end Go.Proofs.YtggelmbnliajeaaGreatDoor
namespace Go.Proofs.YtggelmbnliajeaaGreatDoor
open Go.RowKit Go.Sort
set_option maxHeartbeats 3200000 in
set_option maxRecDepth 100000 in
theorem opOf_any (w : World) (s : Int) (ar : Nat) (hs : 1 ≤ s ∧ s ≤ 4) (har : 1 ≤ ar ∧ ar ≤ 3) (g : Nat) (caps : Array Value) (eg : ∀ args w, (callFunc g args).run Tryz.prog w = .ok (.enter g args) w) (p : List Int → Int) (N : Nat) (hN : s ^ ar = N) (hI : ∀ k, k < N → I64 (p (digL s (k : Nat) ar)))
  (hto : Hid (∀ W u (k : Nat), Below w.heap.size w W → k < N → intsT.Rd W [u] (digL s k ar) → Calls Tryz.prog g (#[u] ++ caps) W fun e w' => e = .returned (.int .i64 (p (digL s k ar))) ∧ Below W.heap.size W w')) :
  Calls Tryz.prog 128 #[.int .i64 s, .int .i64 ar, .func (.func g) #[] caps] w (RetA opT w ((ar : Int), tabOf s ar N p)) := by
 have hNb : N ≤ 64 := by
  have h1 := pow_mono' (s := s) (c := 4) (by omega) (by omega) ar
  rcases (show ar = 1 ∨ ar = 2 ∨ ar = 3 by omega) with e | e | e <;> subst e <;> simp at h1 <;> omega
 have HN : Hid (s ^ ((ar : Int)).toNat = N) := by unfold Hid; rw [Int.toNat_natCast]; exact hN
 have HI := Lib.hid hI
 clear hN hI
 go_enter Tryz.func128, Tryz.ntmps128
 go_wp2_with fail
 generalize hW : World.alloc _ _ = W
 have hbW : Below w.heap.size w W := hW ▸ bAA
 have hsW : w.heap.size + 2 ≤ W.heap.size := by rw [← hW]; simp
 have r0 : W.cell? ⟨w.heap.size, 0, none⟩ = some (.int .i64 0) := by rw [← hW]; simp [go_sem]
 have r1 : W.cell? ⟨w.heap.size, 1, none⟩ = some (.slice none 0 0) := by rw [← hW]; simp [go_sem]
 have q0 : W.frozen? ⟨w.heap.size, 0, none⟩ = false := by rw [← hW]; simp [go_sem]
 have q1 : W.frozen? ⟨w.heap.size, 1, none⟩ = false := by rw [← hW]; simp [go_sem]
 have c0 : W.cell? ⟨w.heap.size + 1, 0, none⟩ = some (.int .i64 (ar : Int)) := by rw [← hW]; simp [go_sem]
 have c1 : W.cell? ⟨w.heap.size + 1, 1, none⟩ = some (.slice none 0 0) := by rw [← hW]; simp [go_sem]
 have m1 : W.frozen? ⟨w.heap.size + 1, 1, none⟩ = false := by rw [← hW]; simp [go_sem]
 have HRQ := Lib.hid (And.intro r0 (And.intro r1 (And.intro q0 q1)))
 clear hW r0 r1 q0 q1
 refine (power_any _ s (ar : Int) (by omega) (by omega) (by omega)).mono ?_
 rintro e _ ⟨rfl, rfl⟩
 rw [HN.out]
 go_wp2_with fail
 go_loopw [14] (fun i wr => ∃ (k : Nat) (va : Value), k ≤ N ∧ i = .int .i64 k ∧ Bl Ty.int 2 (w.heap.size + 2) wr.heap.size wr va (tabOf s ar k p) ∧ wr.cell? ⟨w.heap.size + 1, 0, none⟩ = some (.int .i64 (ar : Int)) ∧ wr.cell? ⟨w.heap.size + 1, 1, none⟩ = some va ∧ wr.frozen? ⟨w.heap.size + 1, 1, none⟩ = false ∧ Below w.heap.size w wr ∧ (∀ i, wr.cell? ⟨w.heap.size, i, none⟩ = W.cell? ⟨w.heap.size, i, none⟩ ∧ wr.frozen? ⟨w.heap.size, i, none⟩ = W.frozen? ⟨w.heap.size, i, none⟩)) (fun i _ => N - (intOf i).toNat)
 case atStart => exact ⟨0, _, Nat.zero_le _, rfl, Bl.nil, c0, c1, m1, hbW, fun i => ⟨rfl, rfl⟩⟩
 case round =>
  clear c0 c1 m1
  obtain ⟨k, va, hk, rfl, hBa, c0, c1, m1, hbv, hrq⟩ := hrel
  have HB := Lib.hid hBa
  have HRE := Lib.hid hrq
  have hw2 : w.heap.size + 1 < wr.heap.size := cell_lt c0
  have hRl : (tabOf s ar k p).length = k := tabOf_len
  obtain ⟨ga, gn, gc, rfl⟩ := ex_slice (hBa.fr (by unfold capMax; omega))
  obtain ⟨wv, rfl⟩ : ∃ wv : World, wv = wr := ⟨_, rfl⟩
  clear hBa hrq
  by_cases hkl : k < N
  ·have HSC : Hid (tabOf s ar (k + 1) p = tabOf s ar k p ++ [p (digL s (k : Int) ar)]) := tabOf_succ
   have hIk := HI.out k hkl
   go_wp2_with fail
   refine wp_region_T (fun w' => w'.cell? ⟨w.heap.size + 1, 1, none⟩ = some (.slice ga gn gc)) [9] (by kernel_rfl) c1 (fun hHeld => ?_)
   refine wpAnyT_take (i := 0) (v := ?_) rfl (by kernel_rfl) (fun _ _ _ h => h) (Or.inl ⟨by rfl, ?_⟩) (by assumption) ?_
   rotate_left
   ·(intro w hSw; (try dsimp only at hSw); go_simp <;> with_reducible rfl)
   go_simp
   refine wpAnyT_take (i := 1) (v := ?_) rfl (by kernel_rfl) (fun _ _ _ h => h) (Or.inl ⟨by rfl, ?_⟩) (by assumption) ?_
   rotate_left
   ·(intro w hSw; (try dsimp only at hSw); go_simp <;> with_reducible rfl)
   go_simp
   refine wpAnyT_take (i := 2) (v := ?_) rfl (by kernel_rfl) (fun _ _ _ h => h) (Or.inl ⟨by rfl, ?_⟩) (by assumption) ?_
   rotate_left
   ·(intro w hSw; (try dsimp only at hSw); go_simp <;> with_reducible rfl)
   go_simp
   refine wpAnyT_take (i := 3) (v := ?_) rfl (by kernel_rfl) (fun _ _ _ h => h) (Or.inl ⟨by rfl, ?_⟩) (by assumption) ?_
   rotate_left
   ·(intro w hSw; (try dsimp only at hSw); go_simp <;> with_reducible rfl)
   go_simp
   refine wpAnyT_take (i := 4) (v := ?_) rfl (by kernel_rfl) (fun _ _ _ h => h) (Or.inl ⟨by rfl, ?_⟩) (by assumption) ?_
   rotate_left
   ·(intro w hSw; (try dsimp only at hSw); go_simp <;> with_reducible rfl)
   go_simp
   refine wpAnyT_take (i := 5) (v := ?_) rfl (by kernel_rfl) (fun _ _ _ h => h) (Or.inl ⟨by rfl, ?_⟩) (by assumption) ?_
   rotate_left
   ·(intro w hSw; (try dsimp only at hSw); go_simp <;> with_reducible rfl)
   go_simp
   refine wpAnyT_one (i := 6) rfl (by kernel_rfl) (fun K hK => ?_)
   go_simp
   go_at_call 118
   refine (listOf_any _ s (k : Int) ar (by omega) (by omega) (by omega) (by omega) (by omega)).mono ?_
   rintro e w5 ⟨dv, rfl, hdf, hb5⟩
   obtain ⟨ad, nd, cd, rfl⟩ := ex_slice hdf
   have HDF := Lib.hid hdf
   have hb5' : Below wv.heap.size wv w5 := bthen bD hb5
   have hz5 := hb5'.size
   replace c0 := (cellB hb5' (show w.heap.size + 1 < wv.heap.size by omega)).trans c0
   replace c1 := (cellB hb5' (show w.heap.size + 1 < wv.heap.size by omega)).trans c1
   replace m1 := (frozenB hb5' (show w.heap.size + 1 < wv.heap.size by omega)).trans m1
   clear hdf hb5
   dsimp only
   refine hK.out _ _ c1 (fun hHeld => ?_)
   clear hK K
   refine wpAnyT_one (i := 7) rfl (by kernel_rfl) (fun K hK => ?_)
   go_simp
   refine (hto.out w5 _ k (bthen hbv hb5') hkl HDF.out.rd).mono ?_
   rintro e w7 ⟨rfl, hb7⟩
   have hb7' : Below wv.heap.size wv w7 := bthen hb5' hb7
   have hz7 := hb7'.size
   have hz57 := hb7.size
   replace c0 := (cellB hb7 (by omega)).trans c0
   replace c1 := (cellB hb7 (by omega)).trans c1
   replace m1 := (frozenB hb7 (by omega)).trans m1
   clear hb7 hb5' HDF
   generalize p (digL s (k : Int) ar) = x at hIk HSC ⊢
   dsimp only
   refine hK.out _ _ c1 (fun hHeld => ?_)
   clear hK K
   refine wpAnyT_one (i := 8) rfl (by kernel_rfl) (fun K hK => ?_)
   go_simp
   refine hK.out _ _ (by go_keep) (fun hHeld => ?_)
   clear hK K
   refine wpAnyT_last (i := 9) rfl (by kernel_rfl) (by kernel_rfl) (fun K hK => ?_)
   refine step_push (E := Ty.int) _ rfl _ _ 42 2 rfl elInt rfl (HB.out.below (hb7'.alloc hz7 _) (Nat.le_refl _)) rfl news1 (fr_int hIk) (by omega) (by decide) (by omega) (by first | (simp; done) | (simp; omega)) ?_
   intro v6 w6 hB6 hg6 _
   obtain ⟨xa, xn, xc, rfl⟩ := ex_slice (hB6.fr (by rw [List.length_append]; unfold capMax; simp; omega))
   have hb6 : RowKit.Below (w.heap.size + 2) wv w6 := ((hb7'.alloc hz7 _).mono (by omega)).grown hg6 (by first | (simp; done) | (simp; omega)) (fun q hq => HB.out.own hq)
   have hb56 : RowKit.Below (w.heap.size + 2) w7 w6 := ((Below.refl _ w7).alloc (by omega) _).grown hg6 (by first | (simp; done) | (simp; omega)) (fun q hq => HB.out.own hq)
   rw [← HSC.out] at hB6
   have HB6 := Lib.hid hB6
   replace c0 := (cellB hb56 (by omega)).trans c0
   replace c1 := (cellB hb56 (by omega)).trans c1
   replace m1 := (frozenB hb56 (by omega)).trans m1
   have HR6 : Hid (∀ i, w6.cell? ⟨w.heap.size, i, none⟩ = W.cell? ⟨w.heap.size, i, none⟩ ∧ w6.frozen? ⟨w.heap.size, i, none⟩ = W.frozen? ⟨w.heap.size, i, none⟩) := fun i => ⟨(cellB hb6 (by omega)).trans (HRE.out i).1, (frozenB hb6 (by omega)).trans (HRE.out i).2⟩
   have HT6 := Lib.hid (hbv.trans (hb6.mono (by omega)))
   clear hB6 hg6 hb6 hb56
   refine hK.out _ _ ?_
   clear hK K
   refine wpAnyT_any (i := 10) (v := ?_) rfl (by kernel_rfl) (fun _ _ _ h => h) (Or.inl ⟨by rfl, ?_⟩) (by first | exact fun _ => by assumption | (intro hp; exact absurd hp (by rw [show pastB _ _ = true by kernel_rfl]; simp))) ?_
   rotate_left
   ·(intro w hSw; (try dsimp only at hSw); go_simp <;> with_reducible rfl)
   try simp only [Act.put]
   refine wpAnyT_last (i := 11) rfl (by kernel_rfl) (by kernel_rfl) (fun K hK => ?_)
   go_simp
   refine hK.out _ _ ?_
   clear hK K
   refine wpAnyT_done (by kernel_rfl) ?_ _
   go_simp
   go_wp2_with fail
   go_roundw
   case rel => exact ⟨k + 1, _, by omega, by go_num, by rw [size_set]; exact HB6.out.sameB (fun q h1 h2 => Below.heap_setCell _ _ _ _ (by simp; omega)), (World.cell?_setCell_other _ _ _ _ (by simp)).trans c0, World.cell?_setCell_same _ _ _ c1, (World.frozen?_setCell _ _ _ _).trans m1, HT6.out.setCell (by simp) _, fun i => ⟨(World.cell?_setCell_other _ _ _ _ (by simp)).trans (HR6.out i).1, (World.frozen?_setCell _ _ _ _).trans (HR6.out i).2⟩⟩
   case measure => simp [intOf]; omega
  ·obtain rfl : k = N := by omega
   have r0 := (HRE.out 0).1.trans HRQ.out.1
   have r1 := (HRE.out 1).1.trans HRQ.out.2.1
   have q0 := (HRE.out 0).2.trans HRQ.out.2.2.1
   have q1 := (HRE.out 1).2.trans HRQ.out.2.2.2
   have hw0 : w.heap.size < wv.heap.size := by omega
   have HFR := Lib.hid (HB.out.fr (by unfold capMax; omega))
   have hIa : I64 (ar : Int) := I64.small (by omega) (by omega)
   obtain ⟨g0, g1⟩ := set2_cells (x := .int .i64 (ar : Int)) (y := .slice ga gn gc) r0 r1
   have HFF : Hid (opT.Fr w.heap.size ((wv.setCell ⟨w.heap.size, 0, none⟩ (.int .i64 (ar : Int))).setCell ⟨w.heap.size, 1, none⟩ (.slice ga gn gc)) [.int .i64 (ar : Int), .slice ga gn gc] ((ar : Int), tabOf s ar k p)) := fr_cons hIa (((HFR.out.set (by simp)).set (by simp)).mono (by omega))
   have HBB : Hid (Below w.heap.size w ((wv.setCell ⟨w.heap.size, 0, none⟩ (.int .i64 (ar : Int))).setCell ⟨w.heap.size, 1, none⟩ (.slice ga gn gc))) := (hbv.setCell (Nat.le_refl _) _).setCell (Nat.le_refl _) _
   clear HB HFR
   go_wp2_with fail
   refine bodyPost_ret (v := .agg #[.int .i64 (ar : Int), .slice ga gn gc]) (by simp [results, Tryz.results128, go_sem, g0, g1]) rfl ⟨[.int .i64 (ar : Int), .slice ga gn gc], rfl, HFF.out, HBB.out⟩
end Go.Proofs.YtggelmbnliajeaaGreatDoor
namespace Go.Proofs.YtggelmbnliajeaaGreatDoor
open Go.RowKit Go.Sort
theorem projection1_any (w : World) {u : Value} {xs : List Int} (h : intsT.Rd w [u] xs) {b p : Nat} (hp : p < xs.length) (hc : w.cell? ⟨b, 0, none⟩ = some (.int .i64 (p : Int))) :
  Calls Tryz.prog 129 #[u, .pointer (some ⟨b, 0, none⟩)] w fun e w' => e = .returned (.int .i64 (xs.getD p 0)) ∧ Below w.heap.size w w' := by
 obtain ⟨ad, cap, hv, -, -, hce⟩ := ints_ex h
 obtain rfl : u = _ := by simpa using hv
 obtain ⟨db, dO, rfl, hdb, hce⟩ := hce (by omega)
 have d0 := (hce p hp).2
 have hx : xs.getD p 0 = xs[p] := by rw [List.getD_eq_getElem?_getD, List.getElem?_eq_getElem hp]; rfl
 rw [← hx] at d0
 clear hce hv h hx
 generalize xs.getD p 0 = x at d0 ⊢
 go_enter Tryz.func129, Tryz.ntmps129
 go_wp2_with fail
 go_ret
 exact ⟨rfl, (by repeat (first | exact Below.refl _ _ | exact bA | assumption | refine Below.setCell ?_ (by first | omega | (simp; try omega)) _ | refine Below.alloc ?_ (by first | omega | (simp; try omega)) _ | refine Below.drew ?_ | refine bDN ?_ | refine bthen ?_ (by assumption)))⟩
set_option maxHeartbeats 1600000 in
theorem projection_any (w : World) {s : Int} {ar N p : Nat} (hs : 1 ≤ s ∧ s ≤ 4) (har : 1 ≤ ar ∧ ar ≤ 3) (hN : s ^ ar = N) (hp : p < ar) :
  Calls Tryz.prog 79 #[.int .i64 s, .int .i64 ar, .int .i64 p] w (RetA opT w ((ar : Int), projT s ar N p)) := by
 go_enter Tryz.func79, Tryz.ntmps79
 go_wp2_with fail
 generalize hW : World.alloc (World.alloc w _) _ = W
 have hbW : Below w.heap.size w W := hW ▸ bAA
 have hsW : w.heap.size + 2 ≤ W.heap.size := by rw [← hW]; simp
 have b0 : W.cell? ⟨w.heap.size, 0, none⟩ = some (.int .i64 (p : Int)) := by rw [← hW]; simp [go_sem]
 have r0 : W.cell? ⟨w.heap.size + 1, 0, none⟩ = some (.int .i64 0) := by rw [← hW]; simp [go_sem]
 have r1 : W.cell? ⟨w.heap.size + 1, 1, none⟩ = some (.slice none 0 0) := by rw [← hW]; simp [go_sem]
 have q0 : W.frozen? ⟨w.heap.size + 1, 0, none⟩ = false := by rw [← hW]; simp [go_sem]
 have q1 : W.frozen? ⟨w.heap.size + 1, 1, none⟩ = false := by rw [← hW]; simp [go_sem]
 clear hW
 have hpI : ∀ k, k < N → I64 ((fun xs : List Int => xs.getD p 0) (digL s ((k : Nat) : Int) ar)) := fun k hk => by
  have hpl : p < (digL s (k : Int) ar).length := by rw [digL_len]; exact hp
  have : (digL s (k : Int) ar).getD p 0 = (digL s (k : Int) ar)[p] := by rw [List.getD_eq_getElem?_getD, List.getElem?_eq_getElem hpl]; rfl
  have h2 := digL_in (s := s) (idx := (k : Int)) (n := ar) (by omega) _ (List.getElem_mem hpl)
  show I64 ((digL s (k : Int) ar).getD p 0)
  rw [this]
  exact I64.small (by omega) (by omega)
 have hto : Hid (∀ W' u (k : Nat), Below W.heap.size W W' → k < N → intsT.Rd W' [u] (digL s k ar) → Calls Tryz.prog 129 (#[u] ++ #[.pointer (some ⟨w.heap.size, 0, none⟩)]) W' fun e w' => e = .returned (.int .i64 ((fun xs : List Int => xs.getD p 0) (digL s k ar))) ∧ Below W'.heap.size W' w') := by
  intro W' u k hb _ hu
  exact projection1_any W' hu (by rw [digL_len]; exact hp) ((cellB hb (by omega)).trans b0)
 refine (opOf_any W s ar hs har 129 _ (enters Tryz.func129 (by kernel_rfl) rfl) (fun xs => xs.getD p 0) N hN hpI hto).mono ?_
 rintro e w2 ⟨cs, rfl, hf, hb2⟩
 have hz2 := hb2.size
 replace r0 := (cellB hb2 (by omega)).trans r0
 replace r1 := (cellB hb2 (by omega)).trans r1
 replace q0 := (frozenB hb2 (by omega)).trans q0
 replace q1 := (frozenB hb2 (by omega)).trans q1
 obtain ⟨ta, tc, rfl⟩ := fr_pair hf
 have hf : opT.Fr W.heap.size w2 _ ((ar : Int), projT s ar N p) := hf
 have hlT : (tabOf s ar N fun xs => xs.getD p 0) = projT s ar N p := rfl
 simp only [hlT] at hf ⊢
 have HF : Hid (opT.Fr w.heap.size ((w2.setCell ⟨w.heap.size + 1, 0, none⟩ (.int .i64 (ar : Int))).setCell ⟨w.heap.size + 1, 1, none⟩ (.slice ta (projT s ar N p).length tc)) [.int .i64 (ar : Int), .slice ta (projT s ar N p).length tc] ((ar : Int), projT s ar N p)) := ((hf.set (by simp; omega)).set (by simp; omega)).mono (by omega)
 obtain ⟨g0, g1⟩ := set2_cells (x := .int .i64 (ar : Int)) (y := .slice ta (projT s ar N p).length tc) r0 r1
 have HB : Hid (Below w.heap.size w ((w2.setCell ⟨w.heap.size + 1, 0, none⟩ (.int .i64 (ar : Int))).setCell ⟨w.heap.size + 1, 1, none⟩ (.slice ta (projT s ar N p).length tc))) := ((bthen hbW hb2).setCell (by simp) _).setCell (by simp) _
 clear hf hto hpI
 go_wp2_with fail
 refine bodyPost_ret (v := .agg #[.int .i64 (ar : Int), .slice ta (projT s ar N p).length tc]) (by simp [results, Tryz.results79, go_sem, g0, g1]) rfl ⟨[.int .i64 (ar : Int), .slice ta (projT s ar N p).length tc], rfl, HF.out, HB.out⟩
end Go.Proofs.YtggelmbnliajeaaGreatDoor
namespace Go.Proofs.YtggelmbnliajeaaGreatDoor
open Go.RowKit Go.Sort
theorem opV_at {s : Int} {f : Int × List Int} (hf : opOk s f) {xs : List Int} (hl : (xs.length : Int) = f.1) (hin : inS s xs) : ∃ k, idxL s 0 xs = ((k : Nat) : Int) ∧ ∃ h : k < f.2.length, opV s f.2 xs = f.2[k] := by
 obtain ⟨hs, ha, hr, -⟩ := hf
 unfold sizeOk at hs
 have hb := idx_lt (m := xs.length) (by omega) rfl hin
 rw [show f.1.toNat = xs.length by omega] at hr
 refine ⟨(idxL s 0 xs).toNat, by omega, by omega, ?_⟩
 unfold opV
 rw [List.getD_eq_getElem?_getD, List.getElem?_eq_getElem (by omega)]
 rfl
theorem opV_in {s : Int} {f : Int × List Int} (hf : opOk s f) {xs : List Int} (hl : (xs.length : Int) = f.1) (hin : inS s xs) : 0 ≤ opV s f.2 xs ∧ opV s f.2 xs ≤ s - 1 := by
 obtain ⟨k, -, hk, e⟩ := opV_at hf hl hin
 rw [e]
 exact hf.2.2.2 _ (List.getElem_mem hk)
end Go.Proofs.YtggelmbnliajeaaGreatDoor
namespace Go.Proofs.YtggelmbnliajeaaGreatDoor
open Go.RowKit Go.Sort
theorem areOps1_any (w : World) {cs : Array Value} {g : Int × List Int} (h : opT.Rd w cs.toList g) {bs : Nat} {s : Int} (hc : w.cell? ⟨bs, 0, none⟩ = some (.int .i64 s)) :
  Calls Tryz.prog 100 #[.agg cs, .pointer (some ⟨bs, 0, none⟩)] w fun e w' => e = .returned (.bool (!tb (opOk s g))) ∧ Below w.heap.size w w' := by
 obtain ⟨u2, hv2, hI, hx⟩ := pair_ex h
 obtain rfl := agg_of hv2
 have H := Lib.hid h
 have hbs := cell_lt hc
 clear h hx hv2
 go_enter Tryz.func100, Tryz.ntmps100
 go_wp2_with fail
 refine (ValidOp_any _ (f := g) (H.out.below bA) s).mono ?_
 rintro e w1 ⟨rfl, hb1⟩
 go_wp2_with fail
 go_ret
 exact ⟨rfl, (by repeat (first | exact Below.refl _ _ | exact bA | assumption | refine Below.setCell ?_ (by first | omega | (simp; try omega)) _ | refine Below.alloc ?_ (by first | omega | (simp; try omega)) _ | refine Below.drew ?_ | refine bDN ?_ | refine bthen ?_ (by assumption)))⟩
end Go.Proofs.YtggelmbnliajeaaGreatDoor
namespace Go.Proofs.YtggelmbnliajeaaGreatDoor
open Go.RowKit Go.Sort
end Go.Proofs.YtggelmbnliajeaaGreatDoor
namespace Go.Proofs.YtggelmbnliajeaaGreatDoor
open Go.RowKit Go.Sort
end Go.Proofs.YtggelmbnliajeaaGreatDoor
namespace Go.Proofs.YtggelmbnliajeaaGreatDoor
open Go.RowKit Go.Sort
end Go.Proofs.YtggelmbnliajeaaGreatDoor
namespace Go.Proofs.YtggelmbnliajeaaGreatDoor
open Go.RowKit Go.Sort
theorem Ty.Fr.P {α : Type} {E : Ty α} {base : Nat} {w : World} {cs : List Value} {x : α} (h : E.Fr base w cs x) : E.RdP (fun k => base ≤ k) w cs x := let ⟨fp, h1, _, h3, _⟩ := h; ⟨fp, h1, h3⟩
end Go.Proofs.YtggelmbnliajeaaGreatDoor
namespace Go.Proofs.YtggelmbnliajeaaGreatDoor
open Go.RowKit Go.Sort
section
variable {t : Int × List (Int × List (List Int))} {x : Int × List (Int × List Int)}
end
end Go.Proofs.YtggelmbnliajeaaGreatDoor
namespace Go.Proofs.YtggelmbnliajeaaGreatDoor
open Go.RowKit Go.Sort
section
variable {t : Int × List (Int × List (List Int))} {x : Int × List (Int × List Int)}
end
end Go.Proofs.YtggelmbnliajeaaGreatDoor
namespace Go.Proofs.YtggelmbnliajeaaGreatDoor
open Go.RowKit Go.Sort
/-- a pointer to a datum in blocks below B -/
def Ty.PtB {α : Type} (E : Ty α) (B : Nat) (w : World) (v : Value) (x : α) : Prop := ∃ b o cs, v = .pointer (some ⟨b, o, none⟩) ∧ b < B ∧ b < w.heap.size ∧ E.RdB B w cs x ∧ ∀ j (hj : j < cs.length), w.cell? ⟨b, o + j, none⟩ = some cs[j]
theorem Ty.PtB.below {α : Type} {E : Ty α} {B : Nat} {w w' : World} {v : Value} {x : α} (h : E.PtB B w v x) (hb : Below B w w') : E.PtB B w' v x :=
 let ⟨b, o, cs, h1, h2, h3, h4, h5⟩ := h
 ⟨b, o, cs, h1, h2, Nat.lt_of_lt_of_le h3 hb.size, h4.below hb (Nat.le_refl _), fun j hj => (cellB hb h2).trans (h5 j hj)⟩
theorem Ty.Pt.B {α : Type} {E : Ty α} {w : World} {v : Value} {x : α} (h : E.Pt w v x) : E.PtB w.heap.size w v x := let ⟨b, o, cs, h1, h2, h3, h4⟩ := h; ⟨b, o, cs, h1, h2, h2, h3.B, h4⟩
/-- a search in progress, at block bf: what it was told so far -/
def Fnd (e bf most : Nat) (vt vx : Value) (told : List (List Int)) (O : List Nat) (w : World) : Prop :=
 ∃ v, O = bf :: v.ownBlock.toList ∧ bf < w.heap.size ∧ w.cell? ⟨bf, 0, none⟩ = some vt ∧ w.cell? ⟨bf, 1, none⟩ = some vx ∧ w.cell? ⟨bf, 2, none⟩ = some (.int .i64 most) ∧ w.cell? ⟨bf, 3, none⟩ = some v ∧ w.cell? ⟨bf, 4, none⟩ = some (.int .i64 told.length) ∧
  w.frozen? ⟨bf, 3, none⟩ = false ∧ w.frozen? ⟨bf, 4, none⟩ = false ∧ Bl intsT e (bf + 1) w.heap.size w v (told.take most)
theorem Fnd.below {e bf most : Nat} {vt vx : Value} {told : List (List Int)} {O : List Nat} {w w' : World} (h : Fnd e bf most vt vx told O w) (hb : Below w.heap.size w w') : Fnd e bf most vt vx told O w' := by
 obtain ⟨v, h0, h1, c0, c1, c2, c3, c4, m3, m4, hB⟩ := h
 exact ⟨v, h0, Nat.lt_of_lt_of_le h1 hb.size, (cellB hb h1).trans c0, (cellB hb h1).trans c1, (cellB hb h1).trans c2, (cellB hb h1).trans c3, (cellB hb h1).trans c4, (frozenB hb h1).trans m3, (frozenB hb h1).trans m4, (hB.below hb (Nat.le_refl _)).mono hb.size⟩
theorem Fnd.ge {e bf most : Nat} {vt vx : Value} {told : List (List Int)} {O : List Nat} {w : World} (h : Fnd e bf most vt vx told O w) : ∀ k ∈ O, bf ≤ k := by
 obtain ⟨v, rfl, h1, c0, c1, c2, c3, c4, m3, m4, hB⟩ := h
 intro k hk
 rcases List.mem_cons.1 hk with rfl | hk
 ·exact Nat.le_refl _
 ·have := hB.ge (show v.ownBlock = some k by simpa using hk)
  omega
theorem Fnd.lt {e bf most : Nat} {vt vx : Value} {told : List (List Int)} {O : List Nat} {w : World} (h : Fnd e bf most vt vx told O w) : ∀ k ∈ O, k < w.heap.size := by
 obtain ⟨v, rfl, h1, c0, c1, c2, c3, c4, m3, m4, hB⟩ := h
 intro k hk
 rcases List.mem_cons.1 hk with rfl | hk
 ·exact h1
 ·exact hB.lt_top (show v.ownBlock = some k by simpa using hk)
end Go.Proofs.YtggelmbnliajeaaGreatDoor
namespace Go.Proofs.YtggelmbnliajeaaGreatDoor
open Go.RowKit Go.Sort
end Go.Proofs.YtggelmbnliajeaaGreatDoor
namespace Go.Proofs.YtggelmbnliajeaaGreatDoor
open Go.RowKit Go.Sort
section
variable {t : Int × List (Int × List (List Int))} {f : Int × Int × List (Int × List Int)} {tu : List Int}
end
end Go.Proofs.YtggelmbnliajeaaGreatDoor
namespace Go.Proofs.YtggelmbnliajeaaGreatDoor
open Go.RowKit Go.Sort
end Go.Proofs.YtggelmbnliajeaaGreatDoor
namespace Go.Proofs.YtggelmbnliajeaaGreatDoor
open Go.RowKit Go.Sort
section
variable (t : Int × List (Int × List (List Int))) (f : Int × Int × List (Int × List Int)) (free : Int) (places : List Int)
end
section
variable {t : Int × List (Int × List (List Int))} {f : Int × Int × List (Int × List Int)} {free : Int} {places : List Int}
end
end Go.Proofs.YtggelmbnliajeaaGreatDoor
namespace Go.Proofs.YtggelmbnliajeaaGreatDoor
open Go.RowKit Go.Sort
section
variable {t : Int × List (Int × List (List Int))} {x : Int × List (Int × List Int)} {n : Int}
end
end Go.Proofs.YtggelmbnliajeaaGreatDoor
namespace Go.Proofs.YtggelmbnliajeaaGreatDoor
open Go.RowKit
theorem run_load_zero {P : Program} (w : World) (a : Addr) : (loadCells a 0).run P w = .ok #[] w := by
 simp [loadCells, loadCellsFrom]
theorem run_append_zero {P : Program} (w : World) (base : Nat) (t ty e : TypeId) {sz bytes : Nat} (hT : ElT P t e sz bytes) (v : Value) (n : Nat) (xs : List Value) (hown : w.ownsRow base e sz v n xs) (ad : Option Addr) (c : Nat) :
  (Builtin.append_ #[t, t] ty #[v, .slice ad 0 c]).run P w = .ok v w := by
 obtain ⟨i, z, ht, hi, hz, rfl, rfl, hzs, hp⟩ := hT
 rcases hown.2 with ⟨rfl, rfl⟩ | ⟨g, cap, cur, rfl, _, _, hnc, _⟩
 ·cases ad <;> simp [Builtin.append_, run_underlying ht, sizeOf, typeInfo, hi, Builtin.lenOf, Builtin.firstCells, run_load_zero]
 ·cases ad <;> simp [Builtin.append_, run_underlying ht, sizeOf, typeInfo, hi, Builtin.lenOf, Builtin.firstCells, hnc, storeCells, run_load_zero]
end Go.Proofs.YtggelmbnliajeaaGreatDoor
namespace Go.Proofs.YtggelmbnliajeaaGreatDoor
open Go.RowKit Go.Sort
section
variable {t : Int × List (Int × List (List Int))} {f g : Int × Int × List (Int × List Int)}
end
section
variable (t : Int × List (Int × List (List Int))) (f g : Int × Int × List (Int × List Int))
end
section
variable {t : Int × List (Int × List (List Int))} {f g : Int × Int × List (Int × List Int)}
end
end Go.Proofs.YtggelmbnliajeaaGreatDoor
namespace Go.Proofs.YtggelmbnliajeaaGreatDoor
open Go.RowKit Go.Sort
section
variable (t : Int × List (Int × List (List Int))) (f g : Int × Int × List (Int × List Int))
end
section
variable {t : Int × List (Int × List (List Int))} {f g : Int × Int × List (Int × List Int)}
end
end Go.Proofs.YtggelmbnliajeaaGreatDoor
namespace Go.Proofs.YtggelmbnliajeaaGreatDoor
open Go.RowKit Go.Sort
section
variable (t : Int × List (Int × List (List Int))) (f : Int × Int × List (Int × List Int))
end
section
variable {t : Int × List (Int × List (List Int))} {f : Int × Int × List (Int × List Int)}
end
end Go.Proofs.YtggelmbnliajeaaGreatDoor
namespace Go.Proofs.YtggelmbnliajeaaGreatDoor
open Go.RowKit Go.Sort
section
variable (t : Int × List (Int × List (List Int))) (f : Int × Int × List (Int × List Int))
end
section
variable {t : Int × List (Int × List (List Int))} {f : Int × Int × List (Int × List Int)}
end
set_option maxHeartbeats 1600000 in
set_option maxRecDepth 100000 in
theorem ownLists_any (w : World) {v : Value} {xs : List (List Int)} (h : rowsT.Rd w [v] xs) (hl : xs.length ≤ 1000000) (hl2 : ∀ y ∈ xs, y.length ≤ 1000000) :
  Calls Tryz.prog 63 #[v] w (RetS rowsT w xs) := by
 obtain ⟨ad, cap, hv, -, -, hcell⟩ := slices_ex h
 obtain rfl : v = _ := by simpa using hv
 have HC := Lib.hid hcell
 have HL2 := Lib.hid hl2
 clear h hv hcell hl2
 go_enter Tryz.func63, Tryz.ntmps63
 go_wp2_with fail
 generalize hW : World.alloc w _ = W
 have hbW : Below w.heap.size w W := hW ▸ bA
 have HB0 : Hid (Bl intsT 42 w.heap.size W.heap.size W (.slice (some ⟨w.heap.size, 0, none⟩) 0 0) []) := by
  unfold Hid
  rw [← hW]
  simpa using Bl.lit0 (E := intsT) (e := 42) (base := w.heap.size) (w := w) (Nat.le_refl _)
 clear hW
 go_loopw [9, 3] (fun i o wr => ∃ k : Nat, k ≤ xs.length ∧ i = .int .i64 k ∧ Bl intsT 42 w.heap.size wr.heap.size wr o (xs.take k) ∧ Below w.heap.size w wr) (fun i _ _ => xs.length - (intOf i).toNat)
 case atStart => exact ⟨0, Nat.zero_le _, rfl, by simpa using HB0.out, hbW⟩
 case round =>
  obtain ⟨k, hk, rfl, hBl, hbe⟩ := hrel
  have HB := Lib.hid hBl
  have hse := hbe.size
  clear hBl HB0
  by_cases hkl : k < xs.length
  ·obtain ⟨b, o, rfl, hb, hce⟩ := HC.out (by omega)
   obtain ⟨uk, huk, g0⟩ := hce k hkl
   obtain ⟨ak, nk, ck, rfl⟩ := rd_sl huk
   have d0 := (hbe.cell hb).trans g0
   have HU := Lib.hid (huk.below hbe)
   have hlk := HL2.out _ (List.getElem_mem hkl)
   have HTK := Lib.hid (take_snoc hkl)
   clear hce huk g0
   go_wp2_with fail
   refine (Clone_any _ HU.out hlk).mono ?_
   rintro e w1 ⟨u2, rfl, hf, hb1⟩
   obtain ⟨a2, n2, c2, rfl⟩ := ex_slice hf
   have HF := Lib.hid hf
   have hz1 := hb1.size
   have HB1 : Hid (Bl intsT 42 w.heap.size wr.heap.size w1 _ (xs.take k)) := HB.out.below hb1 (Nat.le_refl _)
   clear hf HU d0
   go_wp2_with (refine wpList_push (E := intsT) _ rfl _ _ 23 42 rfl elInt64SS rfl (HB1.out.below (bA.mono (by omega)) (Nat.le_refl _)) rfl news1 (HF.out.below bA) (by rw [take_len hk]; omega) (by decide) (by omega) (by first | (simp; done) | (simp; omega)) ?_; intro v5 w5 hB5 hg5 _; have hb5 : Below w.heap.size w1 w5 := ((Below.refl _ w1).alloc (by omega) _).grown hg5 (by first | (simp; done) | (simp; omega)) (fun q hq => HB1.out.own hq))
   rw [HTK.out] at hB5
   have HB5 := Lib.hid hB5
   clear hB5 hg5
   go_roundw
   case rel => exact ⟨k + 1, by omega, by go_num, HB5.out, (bthen hbe hb1).trans hb5⟩
   case measure => simp [intOf]; omega
  ·obtain rfl : k = xs.length := by omega
   rw [List.take_length] at HB
   have HFO := Lib.hid (HB.out.fr (by unfold capMax; omega))
   go_wp2_with fail
   go_ret
   exact ⟨_, rfl, HFO.out, hbe⟩
end Go.Proofs.YtggelmbnliajeaaGreatDoor
namespace Go.Proofs.YtggelmbnliajeaaGreatDoor
open Go.RowKit Go.Sort
/-- the cell of a set: whether the tuple of this number is in it -/
theorem seen_dig {s : Int} (hs : 1 ≤ s) {m N k : Nat} (hN : s ^ m = N) {ts : List (List Int)} (hts : ∀ t ∈ ts, t.length = m ∧ ∀ a ∈ t, 0 ≤ a ∧ a ≤ s - 1) (hk : k < N) (h : k < (seenL s N ts).length) : (seenL s N ts)[k] = tb (digL s k m ∈ ts) := by
 have hi : idxL s 0 (digL s k m) = (k : Int) := by
  have := dig_idx (s := s) (idx := k) (n := m) hs (by omega) (by omega) m (Nat.le_refl _)
  rw [List.take_of_length_le (by rw [digL_len]; exact Nat.le_refl _)] at this
  rw [this, Nat.sub_self, Int.pow_zero, Int.ediv_one]
 exact seenL_get hs hts digL_len (digL_in hs) hi h
def Set3 (w : World) (base bx g : Nat) (s : Int) (ar N : Nat) (T : List (List Int)) : Prop := SetAt 4 base w bx g N (seenL s N T) ∧ w.cell? ⟨bx, 0, none⟩ = some (.int .i64 s) ∧ w.cell? ⟨bx, 1, none⟩ = some (.int .i64 (ar : Int))
theorem Set3.below {w w' : World} {base bx g ar N B : Nat} {s : Int} {T : List (List Int)} (h : Set3 w base bx g s ar N T) (hb : Below B w w') (hB : w.heap.size ≤ B) : Set3 w' base bx g s ar N T :=
 ⟨h.1.below hb hB, (hb.cell (p := ⟨bx, 0, none⟩) (Nat.lt_of_lt_of_le h.1.2.1 hB)).trans h.2.1, (hb.cell (p := ⟨bx, 1, none⟩) (Nat.lt_of_lt_of_le h.1.2.1 hB)).trans h.2.2⟩
theorem Set3.tch {w w' : World} {base bx g ar N : Nat} {s : Int} {T : List (List Int)} {O : Nat → Prop} (h : Set3 w base bx g s ar N T) (ht : TchP O w w') (h1 : ¬ O bx) (h2 : ¬ O g) : Set3 w' base bx g s ar N T := by
 obtain ⟨⟨q1, q2, q3, q4, q5⟩, q6, q7⟩ := h
 have hg := q5.lt
 refine ⟨⟨q1, Nat.lt_of_lt_of_le q2 ht.size, q3, (ht.cell q2 h1).trans q4, ?_⟩, (ht.cell q2 h1).trans q6, (ht.cell q2 h1).trans q7⟩
 obtain ⟨p1, p2, p3⟩ := q5
 refine ⟨p1, p2, p3.1, ?_⟩
 rcases p3.2 with h | ⟨g', c, cur, e, r1, r2, r3⟩
 ·exact .inl h
 ·simp only [Value.slice.injEq, Option.some.injEq, Addr.mk.injEq, and_true, true_and] at e
  obtain ⟨rfl, rfl⟩ := e
  exact .inr ⟨_, _, cur, rfl, r1, by rw [ht.block _ hg h2]; exact r2, r3⟩
set_option maxHeartbeats 800000 in
set_option maxRecDepth 100000 in
theorem l01Empty3_any (w : World) (s : Int) (ar : Nat) (hs : 1 ≤ s) (hs1 : s ≤ 1000) (hm : ar ≤ 5) (N : Nat) (hN : s ^ ar = N) (hN1 : N ≤ 1000000) :
  Calls Tryz.prog 91 #[.int .i64 s, .int .i64 (ar : Int)] w fun e w' => ∃ bx g, e = .returned (.pointer (some ⟨bx, 0, none⟩)) ∧ Set3 w' w.heap.size bx g s ar N [] ∧ Below w.heap.size w w' := by
 have HN : Hid (s ^ ((ar : Int)).toNat = (N : Int)) := by unfold Hid; rw [Int.toNat_natCast]; exact hN
 clear hN
 go_enter Tryz.func91, Tryz.ntmps91
 go_wp2_with fail
 refine (l01Power_any _ s (ar : Int) (by omega) hs1 (by omega)).mono ?_
 rintro e _ ⟨rfl, rfl⟩
 rw [HN.out]
 go_wp2_with (refine wpList_mkB _ rfl _ _ 120 4 rfl Tryz.underlying120 infoBool w.heap.size N rfl rfl (by omega) (by decide) (by simp) ?_; intro w1 hA hg1 hs1)
 have hb1 := below_of_grown hg1
 have HA := Lib.hid hA
 clear hA
 go_wp2_with fail
 go_ret
 exact ⟨w.heap.size + 1, w.heap.size, rfl, ⟨⟨by omega, by simp; omega, by omega, by rw [← hs1]; simp, by rw [seenL_nil]; exact HA.out.below (bA (w := w1)) HA.out.lt⟩, by rw [← hs1]; simp, by rw [← hs1]; simp⟩, hb1.alloc hb1.size _⟩
set_option maxHeartbeats 1600000 in
set_option maxRecDepth 100000 in
theorem l01SetOf3_any (w : World) {v : Value} {r : Int × List (List Int)} (h : relT.Pt w v r) {s : Int} (hr : relOk s r) (ar N : Nat) (har : r.1 = ar) (hN : s ^ ar = N) :
  Calls Tryz.prog 40 #[.int .i64 s, v] w fun e w' => ∃ bx g, e = .returned (.pointer (some ⟨bx, 0, none⟩)) ∧ Set3 w' w.heap.size bx g s ar N r.2 ∧ w.heap.size ≤ g ∧ Below w.heap.size w w' := by
 obtain ⟨b, o, ad, cap, rfl, hb, hI, c0, c1, hx⟩ := pt_pair h
 obtain ⟨_, _, e1, hle, hle2, hcell⟩ := slices_ex hx
 simp only [List.cons.injEq, Value.slice.injEq, and_true, true_and] at e1
 obtain ⟨rfl, rfl⟩ := e1
 have hs := hr.1
 have hm := hr.2.1
 unfold sizeOk at hs hm
 have HRO := Lib.hid hr
 have hNle : N ≤ 1000000 := by
  have h1 : s ^ ar ≤ 1000000 := by
   refine Int.le_trans (pow_mono' (by omega) (show s ≤ 4 by omega) ar) ?_
   rcases (show ar = 1 ∨ ar = 2 ∨ ar = 3 ∨ ar = 4 by omega) with e | e | e | e <;> rw [e] <;> decide
  omega
 have HN := Lib.hid hN
 rw [har] at c0
 have HAR := Lib.hid har
 have har5 : ar ≤ 5 := by omega
 clear h hx hr hN hI har
 go_enter Tryz.func40, Tryz.ntmps40
 go_wp2_with fail
 refine (l01Empty3_any _ s ar (by omega) (by omega) har5 N HN.out hNle).mono ?_
 rintro e w1 ⟨bx, g, rfl, hset, hb1⟩
 have HS1 := Lib.hid hset
 clear hset
 go_wp2_with fail
 go_loopw [6] (fun i wr => ∃ k : Nat, k ≤ r.2.length ∧ i = .int .i64 k ∧ Set3 wr w.heap.size bx g s ar N (r.2.take k) ∧ Below w.heap.size w wr) (fun i _ => r.2.length - (intOf i).toNat)
 case atStart => exact ⟨0, Nat.zero_le _, rfl, by rw [List.take_zero]; exact HS1.out, hb1⟩
 case round =>
  obtain ⟨k, hk, rfl, hset, hbel⟩ := hrel
  have d1 := (hbel.cell hb).trans c1
  obtain ⟨⟨s1, s2, s3, s4, s5⟩, s6, s7⟩ := id hset
  have HS := Lib.hid hset
  have hgl := s5.2.1
  clear hset
  by_cases hkl : k < r.2.length
  ·obtain ⟨a, q, rfl, haa, hce⟩ := hcell (by omega)
   obtain ⟨u, hu, hcu⟩ := hce k hkl
   obtain ⟨au, cu, rfl⟩ := rd_slice hu
   have d2 := (hbel.cell haa).trans hcu
   obtain ⟨t1, t2⟩ := (HRO.out.2.2 k hkl).1
   have htl : (r.2[k]).length = ar := by have := HAR.out; omega
   obtain ⟨i0, i1⟩ := idx_lt (s := s) (by omega) htl t2
   obtain ⟨j, hj⟩ : ∃ j : Nat, idxL s 0 r.2[k] = j := ⟨(idxL s 0 r.2[k]).toNat, by omega⟩
   have hjN : j < N := by have := HN.out; rw [this, hj] at i1; omega
   have e0 := s5.cell (j := j) (by rw [seenL_len]; exact hjN)
   have e1 := s5.free j
   have hgs := s5.lt
   have HST := Lib.hid (seenL_set hkl hj hjN)
   have HBS := Lib.hid (s5.set j true)
   have HU := Lib.hid (hu.below hbel)
   have HT2 := Lib.hid t2
   have HJ := Lib.hid hj
   have S6 := Lib.hid s6
   have S7 := Lib.hid s7
   have hlen5 : (r.2[k]).length ≤ 5 := by omega
   have q1 : 1 ≤ s := hs.1
   have q2 : s ≤ 1000 := by omega
   have n1 : g ≠ b := by omega
   have n2 : g ≠ a := by omega
   have f0 : wr.drew.cell? ⟨g, j, none⟩ = some (.bool ((seenL s N (r.2.take k))[j]'(by rw [seenL_len]; exact hjN))) := e0
   have f1 : wr.drew.frozen? ⟨g, j, none⟩ = false := e1
   clear hce hcell hu hcu t1 t2 htl hj i0 i1 s5 c0 c1 s6 s7
   go_wp2_with fail
   go_region_held_law (fun w' => w'.cell? ⟨bx, 2, none⟩ = some (.slice (some ⟨g, 0, none⟩) N N) ∧ w'.cell? ⟨b, o + 1, none⟩ = some (.slice (some ⟨a, q, none⟩) r.2.length cap) ∧ w'.cell? ⟨a, q + k, none⟩ = some (.slice au (r.2[k]).length cu)) (first | exact ⟨s4, d1, d2⟩ | go_keep)
    (first
     | (go_simp; go_at_call 97; refine (l01Code_any _ s (HU.out.below bD) q1 q2 hlen5 HT2.out).mono ?_; rintro e _ ⟨rfl, rfl⟩; rw [HJ.out]; dsimp only))
   go_wp2_with fail
   go_roundw
   case rel => exact ⟨k + 1, by omega, by go_num, ⟨⟨s1, by simpa [World.setCell] using s2, s3, (World.cell?_setCell_other _ _ _ _ (by first | (simp; done) | (simp; omega))).trans s4, by rw [← HST.out]; exact HBS.out⟩, (World.cell?_setCell_other _ _ _ _ (by first | (simp; done) | (simp; omega))).trans S6.out, (World.cell?_setCell_other _ _ _ _ (by first | (simp; done) | (simp; omega))).trans S7.out⟩, (hbel.trans bD').setCell (by first | (simp; done) | (simp; omega)) _⟩
   case measure => simp [intOf]; omega
  ·obtain rfl : k = r.2.length := by omega
   rw [List.take_length] at HS
   clear hcell
   go_wp2_with fail
   go_ret
   exact ⟨bx, g, rfl, HS.out, hgl, hbel⟩
set_option maxHeartbeats 1600000 in
set_option maxRecDepth 100000 in
theorem put_any (w : World) {base bx g ar N : Nat} {s : Int} {T : List (List Int)} (h : Set3 w base bx g s ar N T) (hs : 1 ≤ s ∧ s ≤ 4) (har : ar ≤ 5) (hN : s ^ ar = N) {u : Value} {l : List Int} (hu : intsT.Rd w [u] l) (hl : l.length = ar) (hin : ∀ a ∈ l, 0 ≤ a ∧ a ≤ s - 1) :
  Calls Tryz.prog 92 #[.pointer (some ⟨bx, 0, none⟩), u] w fun e w' => e = .returned (.tuple #[]) ∧ Set3 w' base bx g s ar N (T ++ [l]) ∧ TchP (fun q => q = g) w w' := by
 obtain ⟨⟨s1, s2, s3, s4, s5⟩, s6, s7⟩ := h
 obtain ⟨i0, i1⟩ := idx_lt (s := s) (by omega) hl hin
 obtain ⟨j, hj⟩ : ∃ j : Nat, idxL s 0 l = j := ⟨(idxL s 0 l).toNat, by omega⟩
 have hjN : j < N := by rw [hN, hj] at i1; omega
 have e0 := s5.cell (j := j) (by rw [seenL_len]; exact hjN)
 have e1 := s5.free j
 have hgs := s5.lt
 have HST : Hid ((seenL s N T).set j true = seenL s N (T ++ [l])) := by
  have := seenL_set (s := s) (N := N) (ts := T ++ [l]) (k := T.length) (j := j) (by simp) (by simpa using hj) hjN
  rw [List.take_left, List.take_of_length_le (by simp)] at this
  exact this
 have HBS := Lib.hid (s5.set j true)
 have HU := Lib.hid hu
 have HIN := Lib.hid hin
 have HJ := Lib.hid hj
 have S7 := Lib.hid s7
 have hl5 : l.length ≤ 5 := by omega
 obtain ⟨au, cu, rfl⟩ := rd_slice hu
 generalize hT : (seenL s N T)[j]'(by rw [seenL_len]; exact hjN) = old at e0
 clear hT s5 s7 hu hin hj i0 i1 hN hl
 go_enter Tryz.func92, Tryz.ntmps92
 go_wp2_with fail
 refine wp_region_T (fun w' => w'.cell? ⟨bx, 0, none⟩ = some (.int .i64 s) ∧ w'.cell? ⟨bx, 2, none⟩ = some (.slice (some ⟨g, 0, none⟩) N N) ∧ w'.cell? ⟨g, j, none⟩ = some (.bool old) ∧ w'.frozen? ⟨g, j, none⟩ = false) [11] (by kernel_rfl) ⟨s6, s4, e0, e1⟩ (fun hHeld => ?_)
 refine wpAnyT_take (i := 0) (v := ?_) rfl (by kernel_rfl) (fun _ _ _ h => h) (Or.inl ⟨by rfl, ?_⟩) (by assumption) ?_
 rotate_left
 ·(intro w hSw; (try dsimp only at hSw); go_simp <;> with_reducible rfl)
 go_simp
 refine wpAnyT_take (i := 1) (v := ?_) rfl (by kernel_rfl) (fun _ _ _ h => h) (Or.inl ⟨by rfl, ?_⟩) (by assumption) ?_
 rotate_left
 ·(intro w hSw; (try dsimp only at hSw); go_simp <;> with_reducible rfl)
 go_simp
 refine wpAnyT_take (i := 2) (v := ?_) rfl (by kernel_rfl) (fun _ _ _ h => h) (Or.inl ⟨by rfl, ?_⟩) (by assumption) ?_
 rotate_left
 ·(intro w hSw; (try dsimp only at hSw); go_simp <;> with_reducible rfl)
 go_simp
 refine wpAnyT_take (i := 3) (v := ?_) rfl (by kernel_rfl) (fun _ _ _ h => h) (Or.inl ⟨by rfl, ?_⟩) (by assumption) ?_
 rotate_left
 ·(intro w hSw; (try dsimp only at hSw); go_simp <;> with_reducible rfl)
 go_simp
 refine wpAnyT_take (i := 4) (v := ?_) rfl (by kernel_rfl) (fun _ _ _ h => h) (Or.inl ⟨by rfl, ?_⟩) (by assumption) ?_
 rotate_left
 ·(intro w hSw; (try dsimp only at hSw); go_simp <;> with_reducible rfl)
 go_simp
 refine wpAnyT_take (i := 5) (v := ?_) rfl (by kernel_rfl) (fun _ _ _ h => h) (Or.inl ⟨by rfl, ?_⟩) (by assumption) ?_
 rotate_left
 ·(intro w hSw; (try dsimp only at hSw); go_simp <;> with_reducible rfl)
 go_simp
 refine wpAnyT_take (i := 6) (v := ?_) rfl (by kernel_rfl) (fun _ _ _ h => h) (Or.inl ⟨by rfl, ?_⟩) (by assumption) ?_
 rotate_left
 ·(intro w hSw; (try dsimp only at hSw); go_simp <;> with_reducible rfl)
 go_simp
 refine wpAnyT_take (i := 7) (v := ?_) rfl (by kernel_rfl) (fun _ _ _ h => h) (Or.inl ⟨by rfl, ?_⟩) (by assumption) ?_
 rotate_left
 ·(intro w hSw; (try dsimp only at hSw); go_simp <;> with_reducible rfl)
 go_simp
 refine wpAnyT_take (i := 8) (v := ?_) rfl (by kernel_rfl) (fun _ _ _ h => h) (Or.inl ⟨by rfl, ?_⟩) (by assumption) ?_
 rotate_left
 ·(intro w hSw; (try dsimp only at hSw); go_simp <;> with_reducible rfl)
 go_simp
 refine wpAnyT_one (i := 9) rfl (by kernel_rfl) (fun K hK => ?_)
 go_simp
 go_at_call 97
 refine (l01Code_any _ s (HU.out.below bD) hs.1 (by omega) hl5 HIN.out).mono ?_
 rintro e _ ⟨rfl, rfl⟩
 rw [HJ.out]
 dsimp only
 refine hK.out _ _ hHeld (fun hHeld => ?_)
 clear hK K
 refine wpAnyT_take (i := 10) (v := ?_) rfl (by kernel_rfl) (fun _ _ _ h => h) (Or.inl ⟨by rfl, ?_⟩) (by assumption) ?_
 rotate_left
 ·(intro w hSw; (try dsimp only at hSw); go_simp <;> with_reducible rfl)
 go_simp
 obtain ⟨c0, c1, c2, c3⟩ := hHeld
 refine wpAnyT_last (i := 11) rfl (by kernel_rfl) (by kernel_rfl) (fun K hK => ?_)
 go_simp
 refine hK.out _ _ ?_
 clear hK K
 refine wpAnyT_done (by kernel_rfl) ?_ _
 go_simp
 go_wp2_with fail
 go_end0
 refine ⟨rfl, ⟨⟨s1, by simpa [World.setCell] using s2, s3, (World.cell?_setCell_other _ _ _ _ (by first | (simp; done) | (simp; omega))).trans s4, by rw [← HST.out]; exact HBS.out⟩, (World.cell?_setCell_other _ _ _ _ (by first | (simp; done) | (simp; omega))).trans s6, (World.cell?_setCell_other _ _ _ _ (by first | (simp; done) | (simp; omega))).trans S7.out⟩, (TchP.of_below (bD (w := w)) _).then (TchP.set (O := fun q => q = g) rfl) (fun _ _ h => h)⟩
end Go.Proofs.YtggelmbnliajeaaGreatDoor
