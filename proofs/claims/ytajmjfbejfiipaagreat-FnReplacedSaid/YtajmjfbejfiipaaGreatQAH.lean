/-
Choices from bytes: a drawn operation.
An operation drawn from its bytes; whether operations, and lists of them, are the same.
Contracts: the operation of a function of lists; projections, checked.
Contracts: a projection, checked.
Contracts: compositions of operations.
Contracts: the program's search, for any listener that leans on what the operations that it is told are.
Contracts: values that are told to a search.
Plain: a polymorphism with given values. No program is named here.
Contracts: the first operation that a search finds.
Contracts: the first operation that a search finds for which a test is true, whatever the test.
Contracts: the first operation that a search finds for which a test is true: the function itself.
Contracts: the first polymorphism with given values, the program's.
Contracts: a polymorphism with given values, the program's.
Contracts: a polymorphism with given values, the program's, whole.
The library's contracts of slices.Sort and slices.Compact at []int64, laid at this seat's program. Written by the kit's lay-shelf and lay-plain: its numbers hold for that seat alone (shelf.py).
Contracts: compositions of operations, checked.
The kinds of operations, in plain words; symmetric by sorting, and by swapping neighbours.
Contracts: slices.Sort and slices.Compact on new rows of numbers; the different numbers of a row.
Contracts: something of all lists; whether an operation is symmetric, the program's.
Contracts: a row of one number so many times (slices.Repeat), whatever the number: the text of F6, turned.
Contracts: whether a tuple has equal values for places with the same variable.
Contracts: whether a number is one of a list's; whether a constraint leaves values of two variables.
Contracts: the program's tests of a kind: idempotent, conservative; the different numbers of a row.
Contracts: whether a constraint leaves values of two variables, the program's.
Contracts: the pairs that constraints tell, the program's.
Contracts: the pairs that constraints tell, the reference's.
Contracts: the pairs that constraints tell, all of them.
A region that draws its order and holds one alloc and one store into it besides loads and calls that make new memory: one account serves every order. The box's block is a ghost. No program is named here.
Contracts: the program's tests of a kind that build lists: associative; three orders of two values and a third.
Contracts: sameness of formulas and instances, in the program and in the reference.
Contracts: whether an operation is of a kind, the program's.
Contracts: whether an operation is of a kind, the program's, kind by kind.
Contracts: whether an operation is of a kind, the program's: projections, semilattices; whole.
Contracts: the first polymorphism of a kind, the program's.
Contracts: a polymorphism with given values, the reference's.
Plain: the first operation of a kind, and the first one with a value at a list, in the list of all.
Plain: FirstPolymorphism and PolymorphismWith against the list of all operations.
Plain: when a polymorphism with given values is found: when there is one.
Contracts: a polymorphism with given values, the reference's, whole.
Plain: how great an operation with given values is.
Contracts: the lists of the values of tuples at all places, both sides.
Contracts: the code of tuples of which there may be a hull, both sides.
Some rows of new data that now stand in a newer row: it is new data, too. No program is named here.
The hull of tuples: what it is; the relation of all tuples; contracts: the reference's hull.
Contracts: the hull of tuples, the reference's.
Contracts: the hull of tuples, the program's.
Contracts: the hull of tuples, whole, both sides.
Contracts: the laws' own small functions on bytes; plain facts on the operations that are found.
Plain: the hull of tuples: what polymorphisms make of them.
Plain: the hull is a relation, and operations that keep the template keep it.
-/
import Derived.Test.YtajmjfbejfiipaaGreatQAG
import Derived.Test.YtajmjfbejfiipaaGreatQAF
import Derived.Test.YtajmjfbejfiipaaGreatQAD
import Derived.Test.YtajmjfbejfiipaaGreatQAE
import Derived.Test.YtajmjfbejfiipaaGreatQAA
import Derived.Test.YtajmjfbejfiipaaGreatQAB
import Derived.Test.YtajmjfbejfiipaaGreatQAC
namespace Go.Proofs.YtajmjfbejfiipaaGreat
open Go.RowKit Go.Sort
theorem bl_ir {e base top : Nat} {w : World} {ad : Option Addr} {n cap : Nat} {ys : List Int} (h : Bl Ty.int e base top w (.slice ad n cap) ys) (h0 : 0 < ys.length) : ∃ g, ad = some ⟨g, 0, none⟩ ∧ n = ys.length ∧ g < top ∧ IR e base w g n cap ys := by
 obtain ⟨L, fps, h1, h2, -, -, h5, -⟩ := h
 rcases id h1.2 with ⟨_, h⟩ | ⟨g, cap', cur, hv, hg, hh, hn, hc, hcs, hL⟩
 ·omega
 ·simp only [Value.slice.injEq] at hv
  obtain ⟨rfl, rfl, rfl⟩ := hv
  have hl : L.length = ys.length := by rw [h1.1]; simp [Ty.int]
  have hLe : L = ys.map (Value.int .i64) := List.ext_getElem (by simp [hl]) fun i hi hi' => by
   obtain ⟨cs, ⟨hcs, -, -⟩, h8⟩ := h2 i (by omega)
   have := h8 0 (by rw [hcs]; simp)
   simp only [hcs, Ty.int, Nat.mul_one, Nat.add_zero, List.getElem_cons_zero] at this
   rw [List.getElem?_eq_getElem hi] at this
   rw [List.getElem_map]
   exact Option.some.inj this
  refine ⟨g, rfl, rfl, h5 g rfl, rfl, fun a ha => ?_, hg, ?_⟩
  ·obtain ⟨i, hi, rfl⟩ := List.mem_iff_getElem.1 ha
   obtain ⟨cs, ⟨-, hI, -⟩, -⟩ := h2 i hi
   exact hI
  ·rw [← hLe]; exact h1
/-- numbers of a size -/
def inS (s : Int) (L : List Int) : Prop := ∀ a ∈ L, 0 ≤ a ∧ a ≤ s - 1
theorem inS_nil {s : Int} : inS s [] := fun a ha => by cases ha
theorem inS_push {s x : Int} {L : List Int} (h : inS s L) (hx : 0 ≤ x ∧ x ≤ s - 1) : inS s (L ++ [x]) := fun a ha => by
 rcases List.mem_append.1 ha with ha | ha
 ·exact h a ha
 ·rw [List.mem_singleton.1 ha]; exact hx
theorem inS_set {s x : Int} {L : List Int} (h : inS s L) (hx : 0 ≤ x ∧ x ≤ s - 1) (k : Nat) : inS s (L.set k x) := fun a ha => by
 rcases List.mem_or_eq_of_mem_set ha with ha | rfl
 ·exact h a ha
 ·exact hx
/-- a drawn operation comes back -/
def OpR (sb B : Nat) (K s ar : Int) (w : World) (e : Ending) (w' : World) : Prop := ∃ (cs : List Value) (f : Int × List Int), e = .returned (.agg cs.toArray) ∧ opT.Fr w.heap.size w' cs f ∧ opOk s f ∧ f.1 = ar ∧ SrcR sb B K w' ∧ TchP (fun q => q = sb) w w'
theorem op_ok {s : Int} {ar N : Nat} {L : List Int} (hs : 1 ≤ s ∧ s ≤ 4) (har : 1 ≤ ar ∧ ar ≤ 3) (hN : s ^ ar = N) (hl : L.length = N) (h : inS s L) : opOk s ((ar : Int), L) :=
 ⟨hs, ⟨by show (1 : Int) ≤ (ar : Int); omega, by show (ar : Int) ≤ 3; omega⟩, by show (L.length : Int) = s ^ ((ar : Int)).toNat; rw [Int.toNat_natCast, hN, hl], h⟩
theorem proj_ok {s : Int} {ar N p : Nat} (hs : 1 ≤ s ∧ s ≤ 4) (har : 1 ≤ ar ∧ ar ≤ 3) (hN : s ^ ar = N) (hp : p < ar) : opOk s ((ar : Int), projT s ar N p) :=
 op_ok hs har hN tabOf_len fun a ha => by
  obtain ⟨i, -, rfl⟩ := List.mem_map.1 ha
  have hpl : p < (digL s (i : Int) ar).length := by rw [digL_len]; exact hp
  have : (digL s (i : Int) ar).getD p 0 = (digL s (i : Int) ar)[p] := by rw [List.getD_eq_getElem?_getD, List.getElem?_eq_getElem hpl]; rfl
  show 0 ≤ (digL s (i : Int) ar).getD p 0 ∧ (digL s (i : Int) ar).getD p 0 ≤ s - 1
  rw [this]
  exact digL_in (by omega) _ (List.getElem_mem hpl)
set_option maxHeartbeats 6400000 in
set_option maxRecDepth 100000 in
theorem l02Drawn_any (w : World) {sb B : Nat} {K s : Int} {ar : Nat} (h : SrcR sb B K w) (hK0 : 0 ≤ K) (hK : K ≤ 100000) (hs : 1 ≤ s ∧ s ≤ 4) (har : 1 ≤ ar ∧ ar ≤ 2) :
  Calls Tryz.prog 95 #[.pointer (some ⟨sb, 0, none⟩), .int .i64 s, .int .i64 ar] w (OpR sb B (K + 100) s ar w) := by
 have H := Lib.hid h
 have hsb := h.lt
 have hBs : B ≤ sb := let ⟨_, _, _, _, _, _, _, _, _, _, _, _, _, _, h⟩ := h; h
 obtain ⟨N, hN⟩ : ∃ N : Nat, s ^ ar = (N : Int) := ⟨(s ^ ar).toNat, by have h0 : 0 < s ^ ar := Int.pow_pos (by omega); omega⟩
 have hNb : N ≤ 16 := by
  have h1 := pow_mono' (s := s) (c := 4) (by omega) (by omega) ar
  rcases (show ar = 1 ∨ ar = 2 by omega) with e | e <;> subst e <;> simp at h1 <;> omega
 have hN0 : 0 < N := by have h0 : 0 < s ^ ar := Int.pow_pos (by omega); omega
 have HN := Lib.hid hN
 clear h hN
 go_enter Tryz.func95, Tryz.ntmps95
 go_wp2_with fail
 generalize hW : World.alloc w _ = W
 have hbW : Below w.heap.size w W := hW ▸ bA
 have hsW : w.heap.size + 1 ≤ W.heap.size := by rw [← hW]; simp
 have r0 : W.cell? ⟨w.heap.size, 0, none⟩ = some (.int .i64 0) := by rw [← hW]; simp [go_sem]
 have r1 : W.cell? ⟨w.heap.size, 1, none⟩ = some (.slice none 0 0) := by rw [← hW]; simp [go_sem]
 have q0 : W.frozen? ⟨w.heap.size, 0, none⟩ = false := by rw [← hW]; simp [go_sem]
 have q1 : W.frozen? ⟨w.heap.size, 1, none⟩ = false := by rw [← hW]; simp [go_sem]
 have HSW := Lib.hid (H.out.below hbW)
 clear hW
 refine (one_any W HSW.out hK0 (by omega) (n := 4) (by omega)).mono ?_
 rintro e w2 ⟨b, rfl, hs2, ht2⟩
 have hz2 := ht2.size
 replace r0 := (ht2.cell (i := 0) (show w.heap.size < W.heap.size by omega) (by omega)).trans r0
 replace r1 := (ht2.cell (i := 1) (show w.heap.size < W.heap.size by omega) (by omega)).trans r1
 replace q0 := (ht2.frozen (i := 0) (show w.heap.size < W.heap.size by omega) (by omega)).trans q0
 replace q1 := (ht2.frozen (i := 1) (show w.heap.size < W.heap.size by omega) (by omega)).trans q1
 have HS2 := Lib.hid hs2
 have HT2 : Hid (TchP (fun q => q = sb) w w2) := (TchP.of_below hbW (fun q => q = sb)).then ht2 (fun q _ h => h)
 clear hs2 ht2 HSW
 cases b
 ·go_wp2_with fail
  generalize hW3 : World.alloc w2 _ = W3
  have hb3 : Below w2.heap.size w2 W3 := hW3 ▸ bA
  have hsW3 : w2.heap.size + 1 ≤ W3.heap.size := by rw [← hW3]; simp
  have c0 : W3.cell? ⟨w2.heap.size, 0, none⟩ = some (.int .i64 (ar : Int)) := by rw [← hW3]; simp [go_sem]
  have c1 : W3.cell? ⟨w2.heap.size, 1, none⟩ = some (.slice none 0 0) := by rw [← hW3]; simp [go_sem]
  have m1 : W3.frozen? ⟨w2.heap.size, 1, none⟩ = false := by rw [← hW3]; simp [go_sem]
  clear hW3
  have hR3 : ∀ i, W3.cell? ⟨w.heap.size, i, none⟩ = w2.cell? ⟨w.heap.size, i, none⟩ ∧ W3.frozen? ⟨w.heap.size, i, none⟩ = w2.frozen? ⟨w.heap.size, i, none⟩ := fun i => ⟨cellB hb3 (by omega), frozenB hb3 (by omega)⟩
  have HS3 := Lib.hid (HS2.out.below hb3)
  have HT3 : Hid (TchP (fun q => q = sb) w W3) := HT2.out.then (TchP.of_below hb3 (fun q => q = sb)) (fun q _ h => h)
  have HRQ := Lib.hid (And.intro r0 (And.intro r1 (And.intro q0 q1)))
  clear HS2 HT2 r0 r1 q0 q1
  go_loopw [8] (fun i wr => ∃ (k : Nat) (va : Value) (L : List Int), k ≤ N ∧ i = .int .i64 k ∧ L.length = k ∧ inS s L ∧ Bl Ty.int 2 (w2.heap.size + 1) wr.heap.size wr va L ∧ wr.cell? ⟨w2.heap.size, 0, none⟩ = some (.int .i64 (ar : Int)) ∧ wr.cell? ⟨w2.heap.size, 1, none⟩ = some va ∧ wr.frozen? ⟨w2.heap.size, 1, none⟩ = false ∧ SrcR sb B (K + 1 + k) wr ∧ TchP (fun q => q = sb) w wr ∧ (∀ i, wr.cell? ⟨w.heap.size, i, none⟩ = w2.cell? ⟨w.heap.size, i, none⟩ ∧ wr.frozen? ⟨w.heap.size, i, none⟩ = w2.frozen? ⟨w.heap.size, i, none⟩)) (fun i _ => N - (intOf i).toNat)
  case atStart => exact ⟨0, _, [], Nat.zero_le _, rfl, rfl, inS_nil, Bl.nil, c0, c1, m1, HS3.out.mono (by omega), HT3.out, hR3⟩
  case round =>
   clear c0 c1 m1 hR3
   obtain ⟨k, va, L, hk, rfl, hLl, hin, hBa, c0, c1, m1, hsr, htc, hrq⟩ := hrel
   have HB := Lib.hid hBa
   have HIN := Lib.hid hin
   have HSR := Lib.hid hsr
   have HTC := Lib.hid htc
   have HRE := Lib.hid hrq
   have hw2 : w2.heap.size < wr.heap.size := cell_lt c0
   obtain ⟨ga, gn, gc, rfl⟩ := ex_slice (hBa.fr (by unfold capMax; omega))
   obtain ⟨wv, rfl⟩ : ∃ wv : World, wv = wr := ⟨_, rfl⟩
   clear hBa hin hsr htc hrq HS3 HT3
   by_cases hkl : k < N
   ·go_wp2_with (go_at_call 139; refine (l01Power_any _ s (ar : Int) (by omega) (by omega) (by omega)).mono ?_; rintro e w' ⟨rfl, rfl⟩; rw [Int.toNat_natCast, HN.out])
    have hv0 : Below wv.heap.size wv wv.drew := bD
    refine wp_region_T (fun w' => w'.cell? ⟨w2.heap.size, 1, none⟩ = some (.slice ga gn gc)) [6] (by kernel_rfl) c1 (fun hHeld => ?_)
    refine wpAnyT_take (i := 0) (v := ?_) rfl (by kernel_rfl) (fun _ _ _ h => h) (Or.inl ⟨by rfl, ?_⟩) (by assumption) ?_
    rotate_left
    ·(intro w hSw; (try dsimp only at hSw); go_simp <;> with_reducible rfl)
    go_simp
    refine wpAnyT_take (i := 1) (v := ?_) rfl (by kernel_rfl) (fun _ _ _ h => h) (Or.inl ⟨by rfl, ?_⟩) (by assumption) ?_
    rotate_left
    ·(intro w hSw; (try dsimp only at hSw); go_simp <;> with_reducible rfl)
    go_simp
    refine wpAnyT_take (i := 2) (v := ?_) rfl (by kernel_rfl) (fun _ _ _ h => h) (Or.inl ⟨by rfl, ?_⟩) (by assumption) ?_
    rotate_left
    ·(intro w hSw; (try dsimp only at hSw); go_simp <;> with_reducible rfl)
    go_simp
    refine wpAnyT_take (i := 3) (v := ?_) rfl (by kernel_rfl) (fun _ _ _ h => h) (Or.inl ⟨by rfl, ?_⟩) (by assumption) ?_
    rotate_left
    ·(intro w hSw; (try dsimp only at hSw); go_simp <;> with_reducible rfl)
    go_simp
    have HS0 := Lib.hid (HSR.out.below hv0)
    have HT0 : Hid (TchP (fun q => q = sb) w wv.drew) := HTC.out.then (TchP.of_below hv0 (fun q => q = sb)) (fun q _ h => h)
    have HB0 : Hid (Bl Ty.int 2 (w2.heap.size + 1) wv.heap.size wv.drew (.slice ga gn gc) L) := HB.out.below hv0 (Nat.le_refl _)
    have HR0 : Hid (∀ i, wv.drew.cell? ⟨w.heap.size, i, none⟩ = w2.cell? ⟨w.heap.size, i, none⟩ ∧ wv.drew.frozen? ⟨w.heap.size, i, none⟩ = w2.frozen? ⟨w.heap.size, i, none⟩) := fun i => ⟨(cellB hv0 (by omega)).trans (HRE.out i).1, (frozenB hv0 (by omega)).trans (HRE.out i).2⟩
    replace c0 := (cellB hv0 hw2).trans c0
    replace m1 := (frozenB hv0 hw2).trans m1
    have hz0 := hv0.size
    clear c1 HSR HTC HB HRE
    generalize wv.drew = x0 at hHeld hv0 HS0 HT0 HB0 HR0 c0 m1 hz0 ⊢
    have c1 := hHeld
    refine wpAnyT_one (i := 4) rfl (by kernel_rfl) (fun K hK => ?_)
    go_simp
    go_at_call 47
    refine (pick_any x0 HS0.out (by omega) (by omega) (n := s) (by omega)).mono ?_
    rintro e w5 ⟨x, rfl, hx0, hx1, hs5, ht5⟩
    have hz5 := ht5.size
    have hI : I64 x := I64.small (by omega) (by omega)
    replace c0 := (ht5.cell (i := 0) (show w2.heap.size < x0.heap.size by omega) (by omega)).trans c0
    replace c1 := (ht5.cell (i := 1) (show w2.heap.size < x0.heap.size by omega) (by omega)).trans c1
    replace m1 := (ht5.frozen (i := 1) (show w2.heap.size < x0.heap.size by omega) (by omega)).trans m1
    have HB5 : Hid (Bl Ty.int 2 (w2.heap.size + 1) wv.heap.size w5 (.slice ga gn gc) L) := HB0.out.sameB (fun q h1 h2 => ht5.block q (by omega) (by omega))
    have HS5 := Lib.hid hs5
    have HT5 := Lib.hid (HT0.out.then ht5 (fun q _ h => h))
    have HR5 : Hid (∀ i, w5.cell? ⟨w.heap.size, i, none⟩ = w2.cell? ⟨w.heap.size, i, none⟩ ∧ w5.frozen? ⟨w.heap.size, i, none⟩ = w2.frozen? ⟨w.heap.size, i, none⟩) := fun i => ⟨(ht5.cell (by omega) (by omega)).trans (HR0.out i).1, (ht5.frozen (by omega) (by omega)).trans (HR0.out i).2⟩
    clear hs5 ht5 HS0 HT0 HB0 HR0
    dsimp only
    refine hK.out _ _ c1 (fun hHeld => ?_)
    clear hK K
    refine wpAnyT_one (i := 5) rfl (by kernel_rfl) (fun K hK => ?_)
    go_simp
    refine hK.out _ _ (by go_keep) (fun hHeld => ?_)
    clear hK K
    refine wpAnyT_last (i := 6) rfl (by kernel_rfl) (by kernel_rfl) (fun K hK => ?_)
    refine step_push (E := Ty.int) _ rfl _ _ 38 2 rfl elInt rfl (HB5.out.below ((bA (w := w5)).mono (by omega)) (Nat.le_refl _)) rfl news1 (fr_int hI) (by omega) (by decide) (by omega) (by first | (simp; done) | (simp; omega)) ?_
    intro v6 w6 hB6 hg6 _
    obtain ⟨xa, xn, xc, rfl⟩ := ex_slice (hB6.fr (by rw [List.length_append, List.length_singleton]; unfold capMax; omega))
    have hb6 : RowKit.Below (w2.heap.size + 1) w5 w6 := ((bA (w := w5)).mono (by omega)).grown hg6 (by first | (simp; done) | (simp; omega)) (fun q hq => HB5.out.own hq)
    have HB6 := Lib.hid hB6
    have hz6 := hb6.size
    replace c0 := (cellB hb6 (by omega)).trans c0
    replace c1 := (cellB hb6 (by omega)).trans c1
    replace m1 := (frozenB hb6 (by omega)).trans m1
    have HS6 := Lib.hid (srcB HS5.out (show sb < w2.heap.size + 1 by omega) hb6)
    have HT6 := Lib.hid (tchB HT5.out (hb6.mono (by omega)))
    have HR6 : Hid (∀ i, w6.cell? ⟨w.heap.size, i, none⟩ = w2.cell? ⟨w.heap.size, i, none⟩ ∧ w6.frozen? ⟨w.heap.size, i, none⟩ = w2.frozen? ⟨w.heap.size, i, none⟩) := fun i => ⟨(cellB hb6 (by omega)).trans (HR5.out i).1, (frozenB hb6 (by omega)).trans (HR5.out i).2⟩
    clear hB6 hg6 hb6 HB5 HS5 HT5 HR5
    refine hK.out _ _ ?_
    clear hK K
    refine wpAnyT_any (i := 7) (v := ?_) rfl (by kernel_rfl) (fun _ _ _ h => h) (Or.inl ⟨by rfl, ?_⟩) (by first | exact fun _ => by assumption | (intro hp; exact absurd hp (by rw [show pastB _ _ = true by kernel_rfl]; simp))) ?_
    rotate_left
    ·(intro w hSw; (try dsimp only at hSw); go_simp <;> with_reducible rfl)
    try simp only [Act.put]
    refine wpAnyT_last (i := 8) rfl (by kernel_rfl) (by kernel_rfl) (fun K hK => ?_)
    go_simp
    refine hK.out _ _ ?_
    clear hK K
    refine wpAnyT_done (by kernel_rfl) ?_ _
    go_simp
    go_wp2_with fail
    go_roundw
    case rel => exact ⟨k + 1, .slice xa xn xc, L ++ [x], by omega, by go_num, by rw [List.length_append, List.length_singleton, hLl], inS_push HIN.out ⟨hx0, hx1⟩, by rw [size_set]; exact HB6.out.sameB (fun q h1 h2 => Below.heap_setCell _ _ _ _ (by simp; omega)), (World.cell?_setCell_other _ _ _ _ (by simp)).trans c0, World.cell?_setCell_same _ _ _ c1, (World.frozen?_setCell _ _ _ _).trans m1, (HS6.out.tch (TchP.set (O := fun q => q = w2.heap.size) rfl) (by omega) (by omega)).mono (by omega), tchS HT6.out (by omega), fun i => ⟨(World.cell?_setCell_other _ _ _ _ (by first | (simp; done) | (simp; omega))).trans (HR6.out i).1, (World.frozen?_setCell _ _ _ _).trans (HR6.out i).2⟩⟩
    case measure => simp [intOf]; omega
   ·obtain rfl : k = N := by omega
    obtain ⟨g, rfl, hgn, hgt, hIR⟩ := bl_ir HB.out (by omega)
    obtain rfl : k = gn := by omega
    have HIR := Lib.hid hIR
    clear hIR HB hgn
    go_wp2_with (go_at_call 139; refine (l01Power_any _ s (ar : Int) (by omega) (by omega) (by omega)).mono ?_; rintro e w' ⟨rfl, rfl⟩; rw [Int.toNat_natCast, HN.out])
    refine (one_any wv HSR.out (by omega) (by omega) (n := 3) (by omega)).mono ?_
    rintro e w6 ⟨b3, rfl, hs6, ht6⟩
    have hz6 := ht6.size
    replace c0 := (ht6.cell (i := 0) hw2 (by omega)).trans c0
    replace c1 := (ht6.cell (i := 1) hw2 (by omega)).trans c1
    replace m1 := (ht6.frozen (i := 1) hw2 (by omega)).trans m1
    have HIR6 := Lib.hid (HIR.out.same (ht6.block g HIR.out.lt (by have := HIR.out.2.2.1; omega)))
    have HS6 := Lib.hid hs6
    have HT6 := Lib.hid (HTC.out.then ht6 (fun q _ h => h))
    have HR6 : Hid (∀ i, w6.cell? ⟨w.heap.size, i, none⟩ = w2.cell? ⟨w.heap.size, i, none⟩ ∧ w6.frozen? ⟨w.heap.size, i, none⟩ = w2.frozen? ⟨w.heap.size, i, none⟩) := fun i => ⟨(ht6.cell (by omega) (by omega)).trans (HRE.out i).1, (ht6.frozen (by omega) (by omega)).trans (HRE.out i).2⟩
    clear hs6 ht6 HSR HTC HRE HIR
    cases b3
    ·go_wp2_with fail
     have HIR7 := HIR6
     have HIN7 := HIN
     have HS7 := HS6
     have HT7 := HT6
     have HR7 := HR6
     obtain ⟨LL, rfl⟩ : ∃ LL, LL = L := ⟨_, rfl⟩
     refine (one_any w6 HS7.out (by omega) (by omega) (n := 4) (by omega)).mono ?_
     rintro e w8 ⟨b4, rfl, hs8, ht8⟩
     have hz8 := ht8.size
     have hl7 : w2.heap.size < w6.heap.size := cell_lt c0
     replace c0 := (ht8.cell (i := 0) hl7 (by omega)).trans c0
     replace c1 := (ht8.cell (i := 1) hl7 (by omega)).trans c1
     have r0 := ((ht8.cell (by omega) (by omega)).trans (HR7.out 0).1).trans HRQ.out.1
     have r1 := ((ht8.cell (by omega) (by omega)).trans (HR7.out 1).1).trans HRQ.out.2.1
     have q0 := ((ht8.frozen (by omega) (by omega)).trans (HR7.out 0).2).trans HRQ.out.2.2.1
     have q1 := ((ht8.frozen (by omega) (by omega)).trans (HR7.out 1).2).trans HRQ.out.2.2.2
     have hIR8 := HIR7.out.same (ht8.block g HIR7.out.lt (by have := HIR7.out.2.2.1; omega))
     have HFR := Lib.hid (hIR8.fr (by unfold capMax; omega))
     have hIa : I64 (ar : Int) := I64.small (by omega) (by omega)
     obtain ⟨g0, g1⟩ := set2_cells (x := .int .i64 (ar : Int)) (y := .slice (some ⟨g, 0, none⟩) k gc) r0 r1
     have HFF : Hid (opT.Fr w.heap.size ((w8.setCell ⟨w.heap.size, 0, none⟩ (.int .i64 (ar : Int))).setCell ⟨w.heap.size, 1, none⟩ (.slice (some ⟨g, 0, none⟩) k gc)) [.int .i64 (ar : Int), .slice (some ⟨g, 0, none⟩) k gc] ((ar : Int), LL)) := fr_cons hIa (((HFR.out.set (by simp; omega)).set (by simp; omega)).mono (by omega))
     have HOK : Hid (opOk s ((ar : Int), LL)) := op_ok hs (by omega) HN.out hIR8.1 HIN7.out
     have HSS : Hid (SrcR sb B (K + 100) ((w8.setCell ⟨w.heap.size, 0, none⟩ (.int .i64 (ar : Int))).setCell ⟨w.heap.size, 1, none⟩ (.slice (some ⟨g, 0, none⟩) k gc))) := ((hs8.tch (TchP.set (O := fun q => q = w.heap.size) rfl) (by omega) (by omega)).tch (TchP.set (O := fun q => q = w.heap.size) rfl) (by omega) (by omega)).mono (by omega)
     have HTT : Hid (TchP (fun q => q = sb) w ((w8.setCell ⟨w.heap.size, 0, none⟩ (.int .i64 (ar : Int))).setCell ⟨w.heap.size, 1, none⟩ (.slice (some ⟨g, 0, none⟩) k gc))) := tchS (tchS (HT7.out.then ht8 (fun q _ h => h)) (Nat.le_refl _)) (Nat.le_refl _)
     have ha3 : ((ar : Int) == 3) = false := by simp; omega
     clear hs8 ht8 hIR8 HFR HS7 HT7
     cases b4
     ·go_wp2_with fail
      refine bodyPost_ret (v := .agg #[.int .i64 (ar : Int), .slice (some ⟨g, 0, none⟩) k gc]) (by simp [results, Tryz.results95, go_sem, g0, g1]) rfl ⟨[.int .i64 (ar : Int), .slice (some ⟨g, 0, none⟩) k gc], ((ar : Int), LL), rfl, HFF.out, HOK.out, rfl, HSS.out, HTT.out⟩
     ·cases hs2 : (s == 2)
      all_goals
       go_wp2_with fail
       refine bodyPost_ret (v := .agg #[.int .i64 (ar : Int), .slice (some ⟨g, 0, none⟩) k gc]) (by simp [results, Tryz.results95, go_sem, g0, g1]) rfl ⟨[.int .i64 (ar : Int), .slice (some ⟨g, 0, none⟩) k gc], ((ar : Int), LL), rfl, HFF.out, HOK.out, rfl, HSS.out, HTT.out⟩
    ·go_wp2_with fail
     go_loopg [9] k (fun gh i wr => ∃ (q : Nat) (M : List Int), gh + q = k ∧ i = .int .i64 q ∧ inS s M ∧ IR 2 (w2.heap.size + 1) wr g k gc M ∧ wr.cell? ⟨w2.heap.size, 0, none⟩ = some (.int .i64 (ar : Int)) ∧ wr.cell? ⟨w2.heap.size, 1, none⟩ = some (.slice (some ⟨g, 0, none⟩) k gc) ∧ wr.frozen? ⟨w2.heap.size, 1, none⟩ = false ∧ SrcR sb B (K + 1 + k + 1) wr ∧ TchP (fun q => q = sb) w wr ∧ (∀ i, wr.cell? ⟨w.heap.size, i, none⟩ = w2.cell? ⟨w.heap.size, i, none⟩ ∧ wr.frozen? ⟨w.heap.size, i, none⟩ = w2.frozen? ⟨w.heap.size, i, none⟩))
     case atStart => exact ⟨0, L, by omega, rfl, HIN.out, HIR6.out, c0, c1, m1, HS6.out, HT6.out, HR6.out⟩
     case round =>
      clear c0 c1 m1 HIR6 HS6 HT6 HR6
      obtain ⟨q, M, hq, rfl, hin2, hir2, c0, c1, m1, hsr2, htc2, hrq2⟩ := hrel
      have HIN7 := Lib.hid hin2
      have HIR7 := Lib.hid hir2
      have HS7 := Lib.hid hsr2
      have HT7 := Lib.hid htc2
      have HR7 := Lib.hid hrq2
      have hw7 : w2.heap.size < wr.heap.size := cell_lt c0
      have hg7 := hir2.lt
      have hgb : w2.heap.size + 1 ≤ g := hir2.2.2.1
      obtain ⟨wz, rfl⟩ : ∃ wz : World, wz = wr := ⟨_, rfl⟩
      clear hin2 hir2 hsr2 htc2 hrq2
      by_cases hql : q < k
      ·go_wp2_with fail
       refine (l01Digits_any _ s (q : Int) ar (by omega) (by omega) (by omega) (by omega) (by omega)).mono ?_
       rintro e w5 ⟨dv, rfl, hdf, hb5⟩
       have hlen := digL_len (s := s) (idx := (q : Int)) (n := ar)
       have hdin : ∀ a ∈ digL s (q : Int) ar, 0 ≤ a ∧ a ≤ s - 1 := digL_in (by omega)
       generalize digL s (q : Int) ar = D at hdf hlen hdin
       obtain ⟨ad, cd, hv, -, -, hce⟩ := ints_ex hdf.rd
       obtain rfl : dv = _ := by simpa using hv
       obtain ⟨db, dO, rfl, hdb, hce⟩ := hce (by omega)
       have HIR5 := Lib.hid (HIR7.out.same (hb5.block g hg7))
       have HS5 := Lib.hid (HS7.out.below hb5)
       have HT5 := Lib.hid (HT7.out.then (TchP.of_below hb5 (fun q => q = sb)) (fun q _ h => h))
       have HR5 : Hid (∀ i, w5.cell? ⟨w.heap.size, i, none⟩ = w2.cell? ⟨w.heap.size, i, none⟩ ∧ w5.frozen? ⟨w.heap.size, i, none⟩ = w2.frozen? ⟨w.heap.size, i, none⟩) := fun i => ⟨(cellB hb5 (by omega)).trans (HR7.out i).1, (frozenB hb5 (by omega)).trans (HR7.out i).2⟩
       have hz5 := hb5.size
       replace c0 := (cellB hb5 (by omega)).trans c0
       replace c1 := (cellB hb5 (by omega)).trans c1
       replace m1 := (frozenB hb5 (by omega)).trans m1
       rcases (show ar = 1 ∨ ar = 2 by omega) with rfl | rfl
       ·clear hce
        go_wp2_with fail
        go_quiet (fail)
        generalize hW8 : World.drewN w5 _ = x8
        have hb8 : Below w5.heap.size w5 x8 := hW8 ▸ bDN (Below.refl _ _)
        have hz8 := hb8.size
        replace c0 := (cellB hb8 (by omega)).trans c0
        replace c1 := (cellB hb8 (by omega)).trans c1
        replace m1 := (frozenB hb8 (by omega)).trans m1
        clear hW8
        go_wp2_with fail
        go_quiet (fail)
        generalize hW9 : World.drewN x8 _ = x9
        have hb9 : Below x8.heap.size x8 x9 := hW9 ▸ bDN (Below.refl _ _)
        have hz9 := hb9.size
        replace c0 := (cellB hb9 (by omega)).trans c0
        replace c1 := (cellB hb9 (by omega)).trans c1
        replace m1 := (frozenB hb9 (by omega)).trans m1
        have hbx := bthen hb8 hb9
        clear hW9
        go_wp2_with fail
        go_roundg (k - q - 1)
        case rel => exact ⟨q + 1, M, by omega, by go_num, HIN7.out, HIR5.out.same (hbx.block g (by omega)), c0, c1, m1, HS5.out.below hbx, HT5.out.then (TchP.of_below hbx (fun q => q = sb)) (fun q _ h => h), fun i => ⟨(cellB hbx (by omega)).trans (HR5.out i).1, (frozenB hbx (by omega)).trans (HR5.out i).2⟩⟩
        case measure => omega
       ·obtain ⟨x, y, rfl⟩ : ∃ x y, D = [x, y] := by
         match D, hlen with
         | [x, y], _ => exact ⟨x, y, rfl⟩
        have d0 := (hce 0 (by simp)).2
        have d1 := (hce 1 (by simp)).2
        simp only [List.getElem_cons_zero, List.getElem_cons_succ, Nat.add_zero] at d0 d1
        have hx := hdin x (by simp)
        have hy := hdin y (by simp)
        clear hce hdf hdin hv
        go_wp2_with fail
        have hv0 : Below w5.heap.size w5 w5.drew := bD
        refine wp_region_T (fun w' => w'.cell? ⟨w2.heap.size, 1, none⟩ = some (.slice (some ⟨g, 0, none⟩) k gc) ∧ w'.cell? ⟨db, dO, none⟩ = some (.int .i64 x) ∧ w'.cell? ⟨db, dO + 1, none⟩ = some (.int .i64 y)) [11] (by kernel_rfl) ⟨c1, d0, d1⟩ (fun hHeld => ?_)
        refine wpAnyT_take (i := 0) (v := ?_) rfl (by kernel_rfl) (fun _ _ _ h => h) (Or.inl ⟨by rfl, ?_⟩) (by assumption) ?_
        rotate_left
        ·(intro w hSw; (try dsimp only at hSw); go_simp <;> with_reducible rfl)
        go_simp
        refine wpAnyT_take (i := 1) (v := ?_) rfl (by kernel_rfl) (fun _ _ _ h => h) (Or.inl ⟨by rfl, ?_⟩) (by assumption) ?_
        rotate_left
        ·(intro w hSw; (try dsimp only at hSw); go_simp <;> with_reducible rfl)
        go_simp
        refine wpAnyT_take (i := 2) (v := ?_) rfl (by kernel_rfl) (fun _ _ _ h => h) (Or.inl ⟨by rfl, ?_⟩) (by assumption) ?_
        rotate_left
        ·(intro w hSw; (try dsimp only at hSw); go_simp <;> with_reducible rfl)
        go_simp
        refine wpAnyT_take (i := 3) (v := ?_) rfl (by kernel_rfl) (fun _ _ _ h => h) (Or.inl ⟨by rfl, ?_⟩) (by assumption) ?_
        rotate_left
        ·(intro w hSw; (try dsimp only at hSw); go_simp <;> with_reducible rfl)
        go_simp
        refine wpAnyT_take (i := 4) (v := ?_) rfl (by kernel_rfl) (fun _ _ _ h => h) (Or.inl ⟨by rfl, ?_⟩) (by assumption) ?_
        rotate_left
        ·(intro w hSw; (try dsimp only at hSw); go_simp <;> with_reducible rfl)
        go_simp
        refine wpAnyT_take (i := 5) (v := ?_) rfl (by kernel_rfl) (fun _ _ _ h => h) (Or.inl ⟨by rfl, ?_⟩) (by assumption) ?_
        rotate_left
        ·(intro w hSw; (try dsimp only at hSw); go_simp <;> with_reducible rfl)
        go_simp
        refine wpAnyT_take (i := 6) (v := ?_) rfl (by kernel_rfl) (fun _ _ _ h => h) (Or.inl ⟨by rfl, ?_⟩) (by assumption) ?_
        rotate_left
        ·(intro w hSw; (try dsimp only at hSw); go_simp <;> with_reducible rfl)
        go_simp
        refine wpAnyT_take (i := 7) (v := ?_) rfl (by kernel_rfl) (fun _ _ _ h => h) (Or.inl ⟨by rfl, ?_⟩) (by assumption) ?_
        rotate_left
        ·(intro w hSw; (try dsimp only at hSw); go_simp <;> with_reducible rfl)
        go_simp
        refine wpAnyT_take (i := 8) (v := ?_) rfl (by kernel_rfl) (fun _ _ _ h => h) (Or.inl ⟨by rfl, ?_⟩) (by assumption) ?_
        rotate_left
        ·(intro w hSw; (try dsimp only at hSw); go_simp <;> with_reducible rfl)
        go_simp
        refine wpAnyT_one (i := 9) rfl (by kernel_rfl) (fun K hK => ?_)
        go_simp
        go_at_call 174
        refine (l00Min_any x y _).mono ?_
        rintro e _ ⟨rfl, rfl⟩
        dsimp only
        refine hK.out _ _ hHeld (fun hHeld => ?_)
        clear hK K
        refine wpAnyT_take (i := 10) (v := ?_) rfl (by kernel_rfl) (fun _ _ _ h => h) (Or.inl ⟨by rfl, ?_⟩) (by assumption) ?_
        rotate_left
        ·(intro w hSw; (try dsimp only at hSw); go_simp <;> with_reducible rfl)
        go_simp
        have HIR0 := Lib.hid (HIR5.out.same (hv0.block g (by omega)))
        have HS0 := Lib.hid (HS5.out.below hv0)
        have HT0 : Hid (TchP (fun q => q = sb) w w5.drew) := HT5.out.then (TchP.of_below hv0 (fun q => q = sb)) (fun q _ h => h)
        have HR0 : Hid (∀ i, w5.drew.cell? ⟨w.heap.size, i, none⟩ = w2.cell? ⟨w.heap.size, i, none⟩ ∧ w5.drew.frozen? ⟨w.heap.size, i, none⟩ = w2.frozen? ⟨w.heap.size, i, none⟩) := fun i => ⟨(cellB hv0 (by omega)).trans (HR5.out i).1, (frozenB hv0 (by omega)).trans (HR5.out i).2⟩
        have hz0 := hv0.size
        replace c0 := (cellB hv0 (by omega)).trans c0
        replace m1 := (frozenB hv0 (by omega)).trans m1
        clear c1 d0 d1 HIR5 HS5 HT5 HR5
        generalize w5.drew = x0 at *
        have c1 := hHeld.1
        obtain ⟨u0, e0⟩ := HIR0.out.cell hql
        have e1 := HIR0.out.free q
        have HIR1 := Lib.hid (HIR0.out.set q (a := min x y) (I64.small (by omega) (by omega)))
        have HIN1 := Lib.hid (inS_set HIN7.out (x := min x y) (by omega) q)
        refine wpAnyT_last (i := 11) rfl (by kernel_rfl) (by kernel_rfl) (fun K hK => ?_)
        go_simp
        refine hK.out _ _ ?_
        clear hK K
        refine wpAnyT_done (by kernel_rfl) ?_ _
        go_simp
        generalize hW1 : World.setCell x0 _ _ = x1
        have hz1 : x0.heap.size ≤ x1.heap.size := by rw [← hW1, size_set]; exact Nat.le_refl _
        replace c0 : x1.cell? ⟨w2.heap.size, 0, none⟩ = some (.int .i64 2) := by rw [← hW1]; exact (World.cell?_setCell_other _ _ _ _ (by first | (simp; done) | (simp; omega))).trans c0
        replace c1 : x1.cell? ⟨w2.heap.size, 1, none⟩ = some (.slice (some ⟨g, 0, none⟩) k gc) := by rw [← hW1]; exact (World.cell?_setCell_other _ _ _ _ (by first | (simp; done) | (simp; omega))).trans c1
        replace m1 : x1.frozen? ⟨w2.heap.size, 1, none⟩ = false := by rw [← hW1]; exact (World.frozen?_setCell _ _ _ _).trans m1
        replace HIR1 : Hid (IR 2 (w2.heap.size + 1) x1 g k gc (M.set q (min x y))) := by rw [← hW1]; exact HIR1
        have HS1 : Hid (SrcR sb B (K + 1 + k + 1) x1) := by rw [← hW1]; exact HS0.out.tch (TchP.set (O := fun q => q = g) rfl) (by omega) (by omega)
        have HT1 : Hid (TchP (fun q => q = sb) w x1) := by rw [← hW1]; exact tchS HT0.out (by omega)
        have HR1 : Hid (∀ i, x1.cell? ⟨w.heap.size, i, none⟩ = w2.cell? ⟨w.heap.size, i, none⟩ ∧ x1.frozen? ⟨w.heap.size, i, none⟩ = w2.frozen? ⟨w.heap.size, i, none⟩) := by rw [← hW1]; exact fun i => ⟨(World.cell?_setCell_other _ _ _ _ (by first | (simp; done) | (simp; omega))).trans (HR0.out i).1, (World.frozen?_setCell _ _ _ _).trans (HR0.out i).2⟩
        clear hW1 hHeld e0 e1
        go_wp2_with fail
        go_quiet (fail)
        generalize hW8 : World.drewN x1 _ = x8
        have hb8 : Below x1.heap.size x1 x8 := hW8 ▸ bDN (Below.refl _ _)
        have hz8 := hb8.size
        replace c0 := (cellB hb8 (by omega)).trans c0
        replace c1 := (cellB hb8 (by omega)).trans c1
        replace m1 := (frozenB hb8 (by omega)).trans m1
        clear hW8
        go_wp2_with fail
        go_quiet (fail)
        generalize hW9 : World.drewN x8 _ = x9
        have hb9 : Below x8.heap.size x8 x9 := hW9 ▸ bDN (Below.refl _ _)
        have hz9 := hb9.size
        replace c0 := (cellB hb9 (by omega)).trans c0
        replace c1 := (cellB hb9 (by omega)).trans c1
        replace m1 := (frozenB hb9 (by omega)).trans m1
        have hbx := bthen hb8 hb9
        clear hW9
        go_wp2_with fail
        go_roundg (k - q - 1)
        case rel => exact ⟨q + 1, M.set q (min x y), by omega, by go_num, HIN1.out, HIR1.out.same (hbx.block g (by omega)), c0, c1, m1, HS1.out.below hbx, HT1.out.then (TchP.of_below hbx (fun q => q = sb)) (fun q _ h => h), fun i => ⟨(cellB hbx (by omega)).trans (HR1.out i).1, (frozenB hbx (by omega)).trans (HR1.out i).2⟩⟩
        case measure => omega
      ·obtain rfl : q = k := by omega
       obtain ⟨LL, rfl⟩ : ∃ LL, LL = M := ⟨_, rfl⟩
       go_wp2_with fail
       refine (one_any wz HS7.out (by omega) (by omega) (n := 4) (by omega)).mono ?_
       rintro e w8 ⟨b4, rfl, hs8, ht8⟩
       have hz8 := ht8.size
       have hl7 : w2.heap.size < wz.heap.size := cell_lt c0
       replace c0 := (ht8.cell (i := 0) hl7 (by omega)).trans c0
       replace c1 := (ht8.cell (i := 1) hl7 (by omega)).trans c1
       have r0 := ((ht8.cell (by omega) (by omega)).trans (HR7.out 0).1).trans HRQ.out.1
       have r1 := ((ht8.cell (by omega) (by omega)).trans (HR7.out 1).1).trans HRQ.out.2.1
       have q0 := ((ht8.frozen (by omega) (by omega)).trans (HR7.out 0).2).trans HRQ.out.2.2.1
       have q1 := ((ht8.frozen (by omega) (by omega)).trans (HR7.out 1).2).trans HRQ.out.2.2.2
       have hIR8 := HIR7.out.same (ht8.block g HIR7.out.lt (by have := HIR7.out.2.2.1; omega))
       have HFR := Lib.hid (hIR8.fr (by unfold capMax; omega))
       have hIa : I64 (ar : Int) := I64.small (by omega) (by omega)
       obtain ⟨g0, g1⟩ := set2_cells (x := .int .i64 (ar : Int)) (y := .slice (some ⟨g, 0, none⟩) q gc) r0 r1
       have HFF : Hid (opT.Fr w.heap.size ((w8.setCell ⟨w.heap.size, 0, none⟩ (.int .i64 (ar : Int))).setCell ⟨w.heap.size, 1, none⟩ (.slice (some ⟨g, 0, none⟩) q gc)) [.int .i64 (ar : Int), .slice (some ⟨g, 0, none⟩) q gc] ((ar : Int), LL)) := fr_cons hIa (((HFR.out.set (by simp; omega)).set (by simp; omega)).mono (by omega))
       have HOK : Hid (opOk s ((ar : Int), LL)) := op_ok hs (by omega) HN.out hIR8.1 HIN7.out
       have HSS : Hid (SrcR sb B (K + 100) ((w8.setCell ⟨w.heap.size, 0, none⟩ (.int .i64 (ar : Int))).setCell ⟨w.heap.size, 1, none⟩ (.slice (some ⟨g, 0, none⟩) q gc))) := ((hs8.tch (TchP.set (O := fun q => q = w.heap.size) rfl) (by omega) (by omega)).tch (TchP.set (O := fun q => q = w.heap.size) rfl) (by omega) (by omega)).mono (by omega)
       have HTT : Hid (TchP (fun q => q = sb) w ((w8.setCell ⟨w.heap.size, 0, none⟩ (.int .i64 (ar : Int))).setCell ⟨w.heap.size, 1, none⟩ (.slice (some ⟨g, 0, none⟩) q gc))) := tchS (tchS (HT7.out.then ht8 (fun q _ h => h)) (Nat.le_refl _)) (Nat.le_refl _)
       have ha3 : ((ar : Int) == 3) = false := by simp; omega
       clear hs8 ht8 hIR8 HFR HS7 HT7
       cases b4
       ·go_wp2_with fail
        refine bodyPost_ret (v := .agg #[.int .i64 (ar : Int), .slice (some ⟨g, 0, none⟩) q gc]) (by simp [results, Tryz.results95, go_sem, g0, g1]) rfl ⟨[.int .i64 (ar : Int), .slice (some ⟨g, 0, none⟩) q gc], ((ar : Int), LL), rfl, HFF.out, HOK.out, rfl, HSS.out, HTT.out⟩
       ·cases hs2 : (s == 2)
        all_goals
         go_wp2_with fail
         refine bodyPost_ret (v := .agg #[.int .i64 (ar : Int), .slice (some ⟨g, 0, none⟩) q gc]) (by simp [results, Tryz.results95, go_sem, g0, g1]) rfl ⟨[.int .i64 (ar : Int), .slice (some ⟨g, 0, none⟩) q gc], ((ar : Int), LL), rfl, HFF.out, HOK.out, rfl, HSS.out, HTT.out⟩
 ·go_wp2_with fail
  refine (pick_any w2 HS2.out (by omega) (by omega) (n := (ar : Int)) (by omega)).mono ?_
  rintro e w3 ⟨x, rfl, hx0, hx1, hs3, ht3⟩
  obtain ⟨p, rfl⟩ : ∃ p : Nat, x = p := ⟨x.toNat, by omega⟩
  have hz3 := ht3.size
  replace r0 := (ht3.cell (i := 0) (show w.heap.size < w2.heap.size by omega) (by omega)).trans r0
  replace r1 := (ht3.cell (i := 1) (show w.heap.size < w2.heap.size by omega) (by omega)).trans r1
  replace q0 := (ht3.frozen (i := 0) (show w.heap.size < w2.heap.size by omega) (by omega)).trans q0
  replace q1 := (ht3.frozen (i := 1) (show w.heap.size < w2.heap.size by omega) (by omega)).trans q1
  have HS3 := Lib.hid hs3
  have HT3 := Lib.hid (HT2.out.then ht3 (fun q _ h => h))
  clear hs3 ht3 HS2 HT2
  go_wp2_with fail
  refine (l02Projection_any w3 hs (by omega) HN.out (p := p) (by omega)).mono ?_
  rintro e w4 ⟨cs, rfl, hf, hb4⟩
  have hz4 := hb4.size
  replace r0 := (cellB hb4 (by omega)).trans r0
  replace r1 := (cellB hb4 (by omega)).trans r1
  replace q0 := (frozenB hb4 (by omega)).trans q0
  replace q1 := (frozenB hb4 (by omega)).trans q1
  obtain ⟨ta, tc, rfl⟩ := fr_pair hf
  have HOK : Hid (opOk s ((ar : Int), projT s ar N p)) := proj_ok hs (by omega) HN.out (by omega)
  generalize projT s ar N p = L at hf HOK ⊢
  dsimp only at hf ⊢
  have HF : Hid (opT.Fr w.heap.size ((w4.setCell ⟨w.heap.size, 0, none⟩ (.int .i64 (ar : Int))).setCell ⟨w.heap.size, 1, none⟩ (.slice ta L.length tc)) [.int .i64 (ar : Int), .slice ta L.length tc] ((ar : Int), L)) := ((hf.set (by simp; omega)).set (by simp; omega)).mono (by omega)
  obtain ⟨g0, g1⟩ := set2_cells (x := .int .i64 (ar : Int)) (y := .slice ta L.length tc) r0 r1
  have HSS : Hid (SrcR sb B (K + 100) ((w4.setCell ⟨w.heap.size, 0, none⟩ (.int .i64 (ar : Int))).setCell ⟨w.heap.size, 1, none⟩ (.slice ta L.length tc))) := (((HS3.out.below hb4).tch (TchP.set (O := fun q => q = w.heap.size) rfl) (by omega) (by omega)).tch (TchP.set (O := fun q => q = w.heap.size) rfl) (by omega) (by omega)).mono (by omega)
  have HTT : Hid (TchP (fun q => q = sb) w ((w4.setCell ⟨w.heap.size, 0, none⟩ (.int .i64 (ar : Int))).setCell ⟨w.heap.size, 1, none⟩ (.slice ta L.length tc))) := tchS (tchS (HT3.out.then (TchP.of_below hb4 (fun q => q = sb)) (fun q _ h => h)) (Nat.le_refl _)) (Nat.le_refl _)
  clear hf
  go_wp2_with fail
  refine bodyPost_ret (v := .agg #[.int .i64 (ar : Int), .slice ta L.length tc]) (by simp [results, Tryz.results95, go_sem, g0, g1]) rfl ⟨[.int .i64 (ar : Int), .slice ta L.length tc], ((ar : Int), L), rfl, HF.out, HOK.out, rfl, HSS.out, HTT.out⟩
end Go.Proofs.YtajmjfbejfiipaaGreat
namespace Go.Proofs.YtajmjfbejfiipaaGreat
open Go.RowKit Go.Sort
end Go.Proofs.YtajmjfbejfiipaaGreat
namespace Go.Proofs.YtajmjfbejfiipaaGreat
open Go.RowKit Go.Sort
end Go.Proofs.YtajmjfbejfiipaaGreat
namespace Go.Proofs.YtajmjfbejfiipaaGreat
open Go.RowKit Go.Sort
end Go.Proofs.YtajmjfbejfiipaaGreat
namespace Go.Proofs.YtajmjfbejfiipaaGreat
open Go.RowKit Go.Sort
theorem opV_at {s : Int} {f : Int × List Int} (hf : opOk s f) {xs : List Int} (hl : (xs.length : Int) = f.1) (hin : inS s xs) : ∃ k, idxL s 0 xs = ((k : Nat) : Int) ∧ ∃ h : k < f.2.length, opV s f.2 xs = f.2[k] := by
 obtain ⟨hs, ha, hr, -⟩ := hf
 unfold sizeOk at hs
 have hb := idx_lt (m := xs.length) (by omega) rfl hin
 rw [show f.1.toNat = xs.length by omega] at hr
 refine ⟨(idxL s 0 xs).toNat, by omega, by omega, ?_⟩
 unfold opV
 rw [List.getD_eq_getElem?_getD, List.getElem?_eq_getElem (by omega)]
 rfl
theorem opV_in {s : Int} {f : Int × List Int} (hf : opOk s f) {xs : List Int} (hl : (xs.length : Int) = f.1) (hin : inS s xs) : 0 ≤ opV s f.2 xs ∧ opV s f.2 xs ≤ s - 1 := by
 obtain ⟨k, -, hk, e⟩ := opV_at hf hl hin
 rw [e]
 exact hf.2.2.2 _ (List.getElem_mem hk)
end Go.Proofs.YtajmjfbejfiipaaGreat
namespace Go.Proofs.YtajmjfbejfiipaaGreat
open Go.RowKit Go.Sort
/-- a listener of operations: what it keeps (I), and the blocks that are its own (O); it is told operations with the property V alone -/
structure YfV (P : Program) (ar : Int) (g : FuncId) (caps : Array Value) (yc : List (List Int) → Int) (V : List Int → Prop) (I : List (List Int) → (Nat → Prop) → World → Prop) : Prop where
 stable : ∀ {told O w w'}, I told O w → (∀ k, k < w.heap.size → O k → w'.heap[k]? = w.heap[k]?) → w.heap.size ≤ w'.heap.size → I told O w'
 lt : ∀ {told O w}, I told O w → ∀ k, O k → k < w.heap.size
 step : ∀ {told O w0 w u x}, I told O w0 → Below w0.heap.size w0 w → intsT.Fr w0.heap.size w [u] x → x.length ≤ 64 → told.length ≤ 2000000 → V x →
  Calls P g (#[.agg #[.int .i64 ar, u]] ++ caps) w fun e w' => e = .returned (.int .i64 (yc (told ++ [x]))) ∧ ∃ O', I (told ++ [x]) O' w' ∧ TchP O w w' ∧ ∀ k, O' k → O k ∨ w0.heap.size ≤ k
end Go.Proofs.YtajmjfbejfiipaaGreat
namespace Go.Proofs.YtajmjfbejfiipaaGreat
open Go.RowKit Go.Sort
section
variable {s : Int} {ls : List (List Int)} {vs f g : List Int} {k : Nat}
end
end Go.Proofs.YtajmjfbejfiipaaGreat
namespace Go.Proofs.YtajmjfbejfiipaaGreat
open Go.RowKit Go.Sort
section
variable {t : Tpl} {ar : Int} {ls : List (List Int)} {vs : List Int}
end
end Go.Proofs.YtajmjfbejfiipaaGreat
namespace Go.Proofs.YtajmjfbejfiipaaGreat
open Go.RowKit Go.Sort
/-- what the listener keeps: the operation told last, in box ob; the test's box ib -/
def oneF (ar : Int) (F : Value) (ib ob base : Nat) (told : List (List Int)) (O : Nat → Prop) (w : World) : Prop :=
 (∀ k, O k → k < w.heap.size ∧ base ≤ k) ∧ O ib ∧ O ob ∧ ib ≠ ob ∧ w.cell? ⟨ib, 0, none⟩ = some F ∧ w.frozen? ⟨ob, 0, none⟩ = false ∧ w.frozen? ⟨ob, 1, none⟩ = false ∧ ∃ n u, w.cell? ⟨ob, 0, none⟩ = some (.int .i64 n) ∧ w.cell? ⟨ob, 1, none⟩ = some u ∧ (told ≠ [] → n = ar ∧ (intsT.on fun k => O k ∧ k ≠ ob).Fr base w [u] (told.getLastD []))
theorem oneF.stable {ar : Int} {F : Value} {ib ob base : Nat} {told : List (List Int)} {O : Nat → Prop} {w w' : World} (h : oneF ar F ib ob base told O w) (hs : ∀ k, k < w.heap.size → O k → w'.heap[k]? = w.heap[k]?) (hz : w.heap.size ≤ w'.heap.size) : oneF ar F ib ob base told O w' := by
 obtain ⟨h1, h2, h3, h4, c0, f0, f1, n, u, d0, d1, h5⟩ := h
 have hi := hs ib (h1 ib h2).1 h2
 have ho := hs ob (h1 ob h3).1 h3
 refine ⟨fun k hk => ⟨Nat.lt_of_lt_of_le (h1 k hk).1 hz, (h1 k hk).2⟩, h2, h3, h4, (World.cell?_of_block (a := ⟨ib, 0, none⟩) hi).trans c0, (World.frozen?_of_block (a := ⟨ob, 0, none⟩) ho).trans f0, (World.frozen?_of_block (a := ⟨ob, 1, none⟩) ho).trans f1, n, u, (World.cell?_of_block (a := ⟨ob, 0, none⟩) ho).trans d0, (World.cell?_of_block (a := ⟨ob, 1, none⟩) ho).trans d1, fun ht => ?_⟩
 obtain ⟨e1, fp, ⟨g1, g2⟩, g3, g4, g5⟩ := h5 ht
 have hS : ∀ k ∈ fp, w'.heap[k]? = w.heap[k]? := fun k hk => hs k (intsT.lt g1 k hk) (g2 k hk).1
 exact ⟨e1, fp, ⟨intsT.same g1 hS, g2⟩, g3, g4, g5.same hS⟩
end Go.Proofs.YtajmjfbejfiipaaGreat
namespace Go.Proofs.YtajmjfbejfiipaaGreat
open Go.RowKit Go.Sort
/-- what the listener keeps: the operation told last, in box ob, where it passed; the test's box ib; what lay below b0 -/
def oneG (p : List Int → Bool) (ar : Int) (F : Value) (w0 : World) (b0 ib ob base : Nat) (told : List (List Int)) (O : Nat → Prop) (w : World) : Prop :=
 (∀ k, O k → k < w.heap.size ∧ (k < b0 ∨ base ≤ k)) ∧ (∀ k, k < b0 → O k ∧ w.heap[k]? = w0.heap[k]?) ∧ O ib ∧ O ob ∧ base ≤ ib ∧ base ≤ ob ∧ ib ≠ ob ∧ w.cell? ⟨ib, 0, none⟩ = some F ∧ w.frozen? ⟨ob, 0, none⟩ = false ∧ w.frozen? ⟨ob, 1, none⟩ = false ∧ ∃ n u, w.cell? ⟨ob, 0, none⟩ = some (.int .i64 n) ∧ w.cell? ⟨ob, 1, none⟩ = some u ∧ (told ≠ [] → p (told.getLastD []) = true → n = ar ∧ (intsT.on fun k => (O k ∧ base ≤ k) ∧ k ≠ ob).Fr base w [u] (told.getLastD []))
theorem oneG.stable {p : List Int → Bool} {ar : Int} {F : Value} {w0 : World} {b0 ib ob base : Nat} {told : List (List Int)} {O : Nat → Prop} {w w' : World} (h : oneG p ar F w0 b0 ib ob base told O w) (hs : ∀ k, k < w.heap.size → O k → w'.heap[k]? = w.heap[k]?) (hz : w.heap.size ≤ w'.heap.size) : oneG p ar F w0 b0 ib ob base told O w' := by
 obtain ⟨h1, hB, h2, h3, g1, g2, h4, c0, f0, f1, n, u, d0, d1, h5⟩ := h
 have hi := hs ib (h1 ib h2).1 h2
 have ho := hs ob (h1 ob h3).1 h3
 refine ⟨fun k hk => ⟨Nat.lt_of_lt_of_le (h1 k hk).1 hz, (h1 k hk).2⟩, fun k hk => ⟨(hB k hk).1, (hs k (h1 k (hB k hk).1).1 (hB k hk).1).trans (hB k hk).2⟩, h2, h3, g1, g2, h4, (World.cell?_of_block (a := ⟨ib, 0, none⟩) hi).trans c0, (World.frozen?_of_block (a := ⟨ob, 0, none⟩) ho).trans f0, (World.frozen?_of_block (a := ⟨ob, 1, none⟩) ho).trans f1, n, u, (World.cell?_of_block (a := ⟨ob, 0, none⟩) ho).trans d0, (World.cell?_of_block (a := ⟨ob, 1, none⟩) ho).trans d1, fun ht hp => ?_⟩
 obtain ⟨e1, fp, ⟨g1, g2⟩, g3, g4, g5⟩ := h5 ht hp
 have hS : ∀ k ∈ fp, w'.heap[k]? = w.heap[k]? := fun k hk => hs k (intsT.lt g1 k hk) (g2 k hk).1.1
 exact ⟨e1, fp, ⟨intsT.same g1 hS, g2⟩, g3, g4, g5.same hS⟩
end Go.Proofs.YtajmjfbejfiipaaGreat
namespace Go.Proofs.YtajmjfbejfiipaaGreat
open Go.RowKit Go.Sort
end Go.Proofs.YtajmjfbejfiipaaGreat
namespace Go.Proofs.YtajmjfbejfiipaaGreat
open Go.RowKit Go.Sort
end Go.Proofs.YtajmjfbejfiipaaGreat
namespace Go.Proofs.YtajmjfbejfiipaaGreat
open Go.RowKit Go.Sort
end Go.Proofs.YtajmjfbejfiipaaGreat
namespace Go.Proofs.YtajmjfbejfiipaaGreat
open Go.RowKit Go.Sort
end Go.Proofs.YtajmjfbejfiipaaGreat

namespace Go.Proofs.YtajmjfbejfiipaaGreat
open Go.RowKit Go.Sort
end Go.Proofs.YtajmjfbejfiipaaGreat
namespace Go.Proofs.YtajmjfbejfiipaaGreat
open Go.RowKit Go.Sort
section
variable {s : Int} {f : Int × List Int}
end
end Go.Proofs.YtajmjfbejfiipaaGreat
namespace Go.Proofs.YtajmjfbejfiipaaGreat
open Go.RowKit Go.Sort
end Go.Proofs.YtajmjfbejfiipaaGreat
namespace Go.Proofs.YtajmjfbejfiipaaGreat
open Go.RowKit Go.Sort
end Go.Proofs.YtajmjfbejfiipaaGreat
namespace Go.Proofs.YtajmjfbejfiipaaGreat
open Go.RowKit Go.Sort
end Go.Proofs.YtajmjfbejfiipaaGreat
namespace Go.Proofs.YtajmjfbejfiipaaGreat
open Go.RowKit Go.Sort
def agR (sc tu : List Int) (i k : Nat) : Prop := sc.getD k 0 = sc.getD i 0 → tu.getD k 0 = tu.getD i 0
def agIn (sc tu : List Int) (i m : Nat) : Prop := ∀ k, k < m → agR sc tu i k
def agTo (sc tu : List Int) (n : Nat) : Prop := ∀ i, i < n → agIn sc tu i i
end Go.Proofs.YtajmjfbejfiipaaGreat
namespace Go.Proofs.YtajmjfbejfiipaaGreat
open Go.RowKit Go.Sort
end Go.Proofs.YtajmjfbejfiipaaGreat
namespace Go.Proofs.YtajmjfbejfiipaaGreat
open Go.RowKit Go.Sort
end Go.Proofs.YtajmjfbejfiipaaGreat
namespace Go.Proofs.YtajmjfbejfiipaaGreat
open Go.RowKit Go.Sort
/-- the values of a tuple at the places of two variables are right, as far as place n -/
def okR (sc tu : List Int) (i j a b : Int) (q : Nat) : Prop := (sc.getD q 0 = i → tu.getD q 0 = a) ∧ (sc.getD q 0 = j → tu.getD q 0 = b)
def okTo (sc tu : List Int) (i j a b : Int) (n : Nat) : Prop := ∀ q, q < n → okR sc tu i j a b q
def okT (sc tu : List Int) (i j a b : Int) : Prop := okTo sc tu i j a b sc.length ∧ agTo sc tu sc.length
end Go.Proofs.YtajmjfbejfiipaaGreat
namespace Go.Proofs.YtajmjfbejfiipaaGreat
open Go.RowKit Go.Sort
end Go.Proofs.YtajmjfbejfiipaaGreat
namespace Go.Proofs.YtajmjfbejfiipaaGreat
open Go.RowKit Go.Sort
end Go.Proofs.YtajmjfbejfiipaaGreat
namespace Go.Proofs.YtajmjfbejfiipaaGreat
open Go.RowKit Go.Sort
end Go.Proofs.YtajmjfbejfiipaaGreat
namespace Go.Proofs.YtajmjfbejfiipaaGreat
open Go.RowKit

/-- a predicate of a value, told which block is the box -/
abbrev OP := Option Nat → VP
inductive Tag | plain | alloc | store
 deriving DecidableEq

/-- all blocks but one are as before -/
structure Bx (b : Nat) (w w' : World) : Prop where
 os : w'.os = w.os
 tape : w'.tape = w.tape
 output : w'.output = w.output
 size : w.heap.size ≤ w'.heap.size
 block : ∀ k, k < w.heap.size → k ≠ b → w'.heap[k]? = w.heap[k]?
 cells : ∀ j, (∃ u, w.cell? ⟨b, j, none⟩ = some u) → ∃ u, w'.cell? ⟨b, j, none⟩ = some u
 frozen : ∀ j, w'.frozen? ⟨b, j, none⟩ = w.frozen? ⟨b, j, none⟩
theorem Bx.setCell (b o : Nat) (w : World) (u : Value) : Bx b w (w.setCell ⟨b, o, none⟩ u) :=
 ⟨rfl, rfl, rfl, by simp [World.setCell], fun k _ hk => Below.heap_setCell _ _ _ _ hk, fun _ ⟨_, h⟩ => cell?_setCell_some h, fun _ => World.frozen?_setCell _ _ _ _⟩
theorem Bx.trans {b : Nat} {w w' w'' : World} (h : Bx b w w') (k : Bx b w' w'') : Bx b w w'' :=
 ⟨k.os.trans h.os, k.tape.trans h.tape, k.output.trans h.output, Nat.le_trans h.size k.size, fun i hi hb => (k.block i (Nat.lt_of_lt_of_le hi h.size) hb).trans (h.block i hi hb), fun j hj => k.cells j (h.cells j hj), fun j => (k.frozen j).trans (h.frozen j)⟩
theorem Bx.refl (b : Nat) (w : World) : Bx b w w := ⟨rfl, rfl, rfl, Nat.le_refl _, fun _ _ _ => rfl, fun _ h => h, fun _ => rfl⟩

/-- what an operation of a kind may do -/
def StepT : Tag → Option Nat → World → Option Nat → World → Prop
 | .plain, o, w, o', w' => o' = o ∧ Below w.heap.size w w'
 | .alloc, _, w, o', w' => o' = some w.heap.size ∧ w.heap.size < w'.heap.size ∧ Below w.heap.size w w'
 | .store, o, w, o', w' => ∃ b, o = some b ∧ o' = some b ∧ Bx b w w'

def boxUpon (P : Program) (g : Tag) (o : Option Nat) (w : World) (Φ : OP) : Result Next → Prop
 | .ok (.value v) w' => ∃ o', StepT g o w o' w' ∧ Φ o' v w'
 | .ok .skip w' => ∃ o', StepT g o w o' w' ∧ Φ o' undef w'
 | .ok (.enter f args) w' => g = .plain ∧ Below w.heap.size w w' ∧ Calls P f args w' fun e w'' => ∃ v, e = .returned v ∧ Below w'.heap.size w' w'' ∧ Φ o v w''
 | _ => False

def writer2 : List Oper → List (Tag × OP) → Tmp → Option OP
 | o :: l, Φ :: Φs, t => if o.dst = some t then some Φ.2 else writer2 l Φs t
 | _, _, _ => none

def slotP2 (l : List Oper) (Φs : List (Tag × OP)) (a : Act) (t : Tmp) : OP := match writer2 l Φs t with
 | some Φ => Φ
 | none => fun _ v _ => v = a.eval (.tmp t)

def JAt2 (P : Program) (l : List Oper) (Φs : List (Tag × OP)) (a : Act) (w : World) (q : Oper) (Φ : Tag × OP) : Prop :=
 ∀ (a' : Act) (w' : World) (o : Option Nat), Below w.heap.size w w' → (∀ b, o = some b → w.heap.size ≤ b ∧ b < w'.heap.size) → (Φ.1 = .alloc → o = none) →
  (∀ t, readsB q t = true → slotP2 l Φs a t o (a'.eval (.tmp t)) w') → boxUpon P Φ.1 o w' Φ.2 ((execOp a'.eval q).run P w')

def JAll2 (P : Program) (l : List Oper) (Φs : List (Tag × OP)) (a : Act) (w : World) : List Oper → List (Tag × OP) → Prop
 | o :: r, Φ :: Φr => JAt2 P l Φs a w o Φ ∧ JAll2 P l Φs a w r Φr
 | [], [] => True
 | _, _ => False

def HAll2 (w : World) (b : Option Nat) : List Oper → List (Tag × OP) → List Value → Prop
 | _ :: l, Φ :: Φs, v :: vs => Φ.2 b v w ∧ HAll2 w b l Φs vs
 | [], [], [] => True
 | _, _, _ => False

/-- predicates that outlast new memory, and the box's being made -/
def StabO (Φ : OP) : Prop := (∀ o v w1 w2, Φ o v w1 → Below w1.heap.size w1 w2 → Φ o v w2) ∧ (∀ v w1 w2, Φ none v w1 → Below w1.heap.size w1 w2 → Φ (some w1.heap.size) v w2)
/-- .. and a store into the box -/
def StabS (Φ : OP) : Prop := ∀ b v w1 w2, Φ (some b) v w1 → Bx b w1 w2 → Φ (some b) v w2
def Indep (Φ : OP) : Prop := ∀ o v v' w, Φ o v w → Φ o v' w
def StG : Tag → OP → Prop
 | .store, Φ => StabO Φ ∧ Indep Φ
 | _, Φ => StabO Φ ∧ StabS Φ
def SAll2 : List (Tag × OP) → Prop
 | Φ :: Φs => StG Φ.1 Φ.2 ∧ SAll2 Φs
 | [] => True
theorem SAll2_mem : ∀ {Φs : List (Tag × OP)}, SAll2 Φs → ∀ Φ ∈ Φs, StG Φ.1 Φ.2
 | _ :: _, h, Φ, hm => by
  rcases List.mem_cons.1 hm with rfl | hm
  ·exact h.1
  ·exact SAll2_mem h.2 Φ hm
theorem StG.o {g : Tag} {Φ : OP} (h : StG g Φ) : StabO Φ := by cases g <;> exact h.1
theorem StG.s {g : Tag} {Φ : OP} (h : StG g Φ) (hg : g ≠ .store) : StabS Φ := by
 cases g
 ·exact h.2
 ·exact h.2
 ·exact absurd rfl hg

def oneTag (g : Tag) : List Tag → Bool
 | [] => true
 | x :: r => if x = g then r.all (fun y => decide (y ≠ g)) else oneTag g r
theorem oneTag_spec {g : Tag} : ∀ {l : List Tag}, oneTag g l = true → ∀ i j : Nat, l[i]? = some g → l[j]? = some g → i = j
 | [], _, i, j, h, _ => by simp at h
 | x :: r, h, i, j, hi, hj => by
  unfold oneTag at h
  split at h
  ·rename_i hx
   have hno : ∀ k : Nat, r[k]? = some g → False := fun k hk => by
    have := List.all_eq_true.1 h g (List.mem_of_getElem? hk)
    simp at this
   match i, j with
   | 0, 0 => rfl
   | 0, j + 1 => exact (hno j (by simpa using hj)).elim
   | i + 1, _ => exact (hno i (by simpa using hi)).elim
  ·rename_i hx
   match i, j with
   | 0, _ => simp at hi; exact absurd hi hx
   | _ + 1, 0 => simp at hj; exact absurd hj hx
   | i + 1, j + 1 => rw [oneTag_spec h i j (by simpa using hi) (by simpa using hj)]
/-- what holds of the region's form -/
def boxB (l : List Oper) (gs : List Tag) (n : Nat) : Bool :=
 looseB l n && oneTag .alloc gs && oneTag .store gs && (l.zip gs).all (fun x => x.1.dst.isSome || decide (x.2 = .store))

theorem writer2_some {l : List Oper} {Φs : List (Tag × OP)} {t : Tmp} {Φ : OP} (h : writer2 l Φs t = some Φ) : ∃ (j : Nat) (o : Oper) (g : Tag), l[j]? = some o ∧ o.dst = some t ∧ Φs[j]? = some (g, Φ) := by
 induction l generalizing Φs with
 | nil => simp [writer2] at h
 | cons o l ih =>
  cases Φs with
  | nil => simp [writer2] at h
  | cons Φ' Φs =>
   simp only [writer2] at h
   split at h
   ·rename_i hd
    obtain rfl : Φ'.2 = Φ := by simpa using h
    exact ⟨0, o, Φ'.1, rfl, hd, rfl⟩
   ·obtain ⟨j, o', g, h1, h2, h3⟩ := ih h
    exact ⟨j + 1, o', g, h1, h2, h3⟩
theorem writer2_none {l : List Oper} {Φs : List (Tag × OP)} {t : Tmp} (hl : l.length = Φs.length) (h : writer2 l Φs t = none) : ∀ (j : Nat) (o : Oper), l[j]? = some o → o.dst ≠ some t := by
 induction l generalizing Φs with
 | nil => intro j o h; simp at h
 | cons q l ih =>
  cases Φs with
  | nil => simp at hl
  | cons Φ' Φs =>
   simp only [writer2] at h
   split at h
   ·cases h
   ·rename_i hd
    intro j o ho
    match j with
    | 0 => simp at ho; subst ho; exact hd
    | j + 1 => exact ih (by simpa using hl) h j o (by simpa using ho)
theorem JAll2_len {P : Program} {l : List Oper} {Φs : List (Tag × OP)} {a : Act} {w : World} : ∀ {r : List Oper} {Φr : List (Tag × OP)}, JAll2 P l Φs a w r Φr → r.length = Φr.length
 | [], [], _ => rfl
 | _ :: _, _ :: _, h => by simp [JAll2_len h.2]
 | [], _ :: _, h => by cases h
 | _ :: _, [], h => by cases h
theorem JAll2_get {P : Program} {l : List Oper} {Φs : List (Tag × OP)} {a : Act} {w : World} : ∀ {r : List Oper} {Φr : List (Tag × OP)}, JAll2 P l Φs a w r Φr → ∀ {i : Nat} {o : Oper} {Φ : Tag × OP}, r[i]? = some o → Φr[i]? = some Φ → JAt2 P l Φs a w o Φ
 | [], _, _, i, o, Φ, h, _ => by simp at h
 | q :: r, [], h, _, _, _, _, _ => by cases h
 | q :: r, Φ' :: Φr, hj, i, o, Φ, h, h' => by
  match i with
  | 0 => simp at h h'; subst h; subst h'; exact hj.1
  | i + 1 => exact JAll2_get hj.2 (by simpa using h) (by simpa using h')

/-- the value that an operation left, undef if it names no slot -/
def valD (a : Act) (q : Oper) : Value := match q.dst with | some d => a.eval (.tmp d) | none => undef

/-- where the region stands -/
structure BInv (l : List Oper) (Φs : List (Tag × OP)) (a : Act) (w : World) (listed : Array Bool) (a' : Act) (w' : World) (b : Option Nat) : Prop where
 below : Below w.heap.size w w'
 size : listed.size = l.length
 defers : a'.defers = a.defers
 tsize : a'.tmps.size = a.tmps.size
 old : ∀ t, (∀ (j : Nat) (o : Oper), l[j]? = some o → o.dst = some t → listed.getD j false = false) → a'.tmps[t]? = a.tmps[t]?
 new : ∀ (j : Nat) (o : Oper) (Φ : Tag × OP), l[j]? = some o → Φs[j]? = some Φ → listed.getD j false = true → Φ.2 b (valD a' o) w'
 box : ∀ k, b = some k → w.heap.size ≤ k ∧ k < w'.heap.size
 nob : ∀ (j : Nat) (Φ : Tag × OP), Φs[j]? = some Φ → Φ.1 = .alloc → listed.getD j false = false → b = none

theorem getD_set_self {listed : Array Bool} {i : Nat} (h : i < listed.size) : (listed.setIfInBounds i true).getD i false = true := by
 rw [Array.getD_eq_getD_getElem?, Array.getElem?_setIfInBounds_self_of_lt h]; rfl

theorem tag_get {Φs : List (Tag × OP)} {i : Nat} {Φ : Tag × OP} (h : Φs[i]? = some Φ) : (Φs.map Prod.fst)[i]? = some Φ.1 := by simp [h]

theorem boxB_spec {l : List Oper} {gs : List Tag} {n : Nat} (h : boxB l gs n = true) :
  looseB l n = true ∧ (∀ i j : Nat, gs[i]? = some Tag.alloc → gs[j]? = some Tag.alloc → i = j) ∧ (∀ i j : Nat, gs[i]? = some Tag.store → gs[j]? = some Tag.store → i = j) ∧
   ∀ (i : Nat) (q : Oper) (g : Tag), l[i]? = some q → gs[i]? = some g → q.dst = none → g = .store := by
 simp only [boxB, Bool.and_eq_true] at h
 obtain ⟨⟨⟨h1, h2⟩, h3⟩, h4⟩ := h
 refine ⟨h1, oneTag_spec h2, oneTag_spec h3, fun i q g hq hg hd => ?_⟩
 have hm : (q, g) ∈ l.zip gs := by
  apply List.mem_of_getElem? (i := i)
  rw [List.getElem?_zip_eq_some]
  exact ⟨hq, hg⟩
 have := List.all_eq_true.1 h4 _ hm
 simpa [hd] using this

theorem StepT.below {g : Tag} {w w' w'' : World} {o o' : Option Nat} (h : StepT g o w' o' w'') (hb : Below w.heap.size w w') (hk : ∀ k, o = some k → w.heap.size ≤ k ∧ k < w'.heap.size) : Below w.heap.size w w'' ∧ ∀ k, o' = some k → w.heap.size ≤ k ∧ k < w''.heap.size := by
 cases g with
 | plain =>
  obtain ⟨rfl, h⟩ := h
  exact ⟨bthen hb h, fun k he => ⟨(hk k he).1, Nat.lt_of_lt_of_le (hk k he).2 h.size⟩⟩
 | alloc =>
  obtain ⟨rfl, hs, h⟩ := h
  exact ⟨bthen hb h, fun k he => by simp at he; subst he; exact ⟨hb.size, hs⟩⟩
 | store =>
  obtain ⟨b, rfl, rfl, h⟩ := h
  have := hk b rfl
  exact ⟨hb.trans ⟨h.os, h.tape, h.output, h.size, fun k hlt => h.block k (Nat.lt_of_lt_of_le hlt hb.size) (by omega)⟩, fun k he => by simp at he; subst he; exact ⟨this.1, Nat.lt_of_lt_of_le this.2 h.size⟩⟩

theorem BInv.step {l : List Oper} {Φs : List (Tag × OP)} {a : Act} {w : World} {listed : Array Bool} {a' : Act} {w' w'' : World} {b b' : Option Nat} (hB : boxB l (Φs.map Prod.fst) a.tmps.size = true)
  (hst : SAll2 Φs) (h : BInv l Φs a w listed a' w' b) {i : Nat} {o : Oper} {Φ : Tag × OP} (hi : l[i]? = some o) (hΦ : Φs[i]? = some Φ) (hni : listed.getD i true = false) {v : Value} (hs : StepT Φ.1 b w' b' w'') (hv : Φ.2 b' v w'') :
  BInv l Φs a w (listed.setIfInBounds i true) (a'.put o.dst v) w'' b' := by
 have hlt : i < listed.size := by rw [h.size]; exact (List.getElem?_eq_some_iff.1 hi).1
 obtain ⟨hL, hone, hone', hdst⟩ := boxB_spec hB
 obtain ⟨_, _, hdn, hall⟩ := looseB_spec hL hi
 obtain ⟨hb1, hb2⟩ := hs.below h.below h.box
 refine ⟨hb1, by simpa using h.size, put_defers.trans h.defers, put_size.trans h.tsize, fun t ht => ?_, fun j q Ψ hj hΨ hl => ?_, hb2, fun j Ψ hΨ hg hl => ?_⟩
 ·have hne : o.dst ≠ some t := fun e => by
   have := ht i o hi e
   rw [getD_set_self hlt] at this
   cases this
  rw [put_other hne]
  refine h.old t fun j q hj hd => ?_
  have := ht j q hj hd
  by_cases e : i = j
  ·subst e; rw [getD_set_self hlt] at this; cases this
  ·rwa [getD_set_ne false e] at this
 ·by_cases e : i = j
  ·subst e
   rw [hi] at hj
   cases hj
   rw [hΦ] at hΨ
   cases hΨ
   cases hd : o.dst with
   | none =>
    have hg := hdst i o Φ.1 hi (tag_get hΦ) hd
    have hS := SAll2_mem hst Φ (List.mem_of_getElem? hΦ)
    rw [hg] at hS
    exact hS.2 _ v _ _ hv
   | some d =>
    simp only [valD, hd]
    rw [eval_put_self (by rw [h.tsize]; exact hdn d hd)]
    exact hv
  ·rw [getD_set_ne false e] at hl
   have hnew := h.new j q Ψ hj hΨ hl
   have hval : valD (a'.put o.dst v) q = valD a' q := by
    cases hd : q.dst with
    | none => simp [valD, hd]
    | some d => simp only [valD, hd]; exact eval_put_ne ((hall j q d hj hd).2 e)
   rw [hval]
   have hS := SAll2_mem hst Ψ (List.mem_of_getElem? hΨ)
   cases hg : Φ.1 with
   | plain =>
    rw [hg] at hs
    obtain ⟨rfl, hs⟩ := hs
    exact hS.o.1 _ _ _ _ hnew hs
   | alloc =>
    have hbn : b = none := h.nob i Φ hΦ hg (by
     rw [Array.getD_eq_getD_getElem?, Array.getElem?_eq_getElem hlt] at hni ⊢
     exact hni)
    rw [hg] at hs
    obtain ⟨rfl, _, hs⟩ := hs
    subst hbn
    exact hS.o.2 _ _ _ hnew hs
   | store =>
    rw [hg] at hs
    obtain ⟨k, rfl, rfl, hs⟩ := hs
    refine hS.s (fun hg' => e (hone' i j ?_ ?_)) _ _ _ _ hnew hs
    ·rw [← hg]; exact tag_get hΦ
    ·rw [← hg']; exact tag_get hΨ
 ·by_cases e : i = j
  ·subst e; rw [getD_set_self hlt] at hl; cases hl
  ·rw [getD_set_ne false e] at hl
   have hbn := h.nob j Ψ hΨ hg hl
   cases hg2 : Φ.1 with
   | plain => rw [hg2] at hs; obtain ⟨rfl, _⟩ := hs; exact hbn
   | alloc =>
    exfalso
    refine e (hone i j ?_ ?_)
    ·rw [← hg2]; exact tag_get hΦ
    ·rw [← hg]; exact tag_get hΨ
   | store => rw [hg2] at hs; obtain ⟨k, rfl, _⟩ := hs; cases hbn

theorem HAll2_of {w : World} {b : Option Nat} {f : Oper → Value} : ∀ {l : List Oper} {Φs : List (Tag × OP)}, l.length = Φs.length → (∀ (j : Nat) (o : Oper) (Φ : Tag × OP), l[j]? = some o → Φs[j]? = some Φ → Φ.2 b (f o) w) → HAll2 w b l Φs (l.map f)
 | [], [], _, _ => trivial
 | o :: l, Φ :: Φs, hl, h => ⟨h 0 o Φ rfl rfl, HAll2_of (by simpa using hl) fun j q Ψ hj hΨ => h (j + 1) q Ψ (by simpa using hj) (by simpa using hΨ)⟩
 | [], _ :: _, hl, _ => by simp at hl
 | _ :: _, [], hl, _ => by simp at hl

theorem wpAny_box {P : Program} {l : List Oper} {Φs : List (Tag × OP)} {a : Act} {w : World} {Q : Exit → Act → World → Prop} (hB : boxB l (Φs.map Prod.fst) a.tmps.size = true)
  (hst : SAll2 Φs) (hJ : JAll2 P l Φs a w l Φs)
  (hQ : ∀ vs w' b, Below w.heap.size w w' → (∀ k, b = some k → w.heap.size ≤ k ∧ k < w'.heap.size) → HAll2 w' b l Φs vs → Q .normal (putAll a l vs) w') :
  ∀ (fuel : Nat) (listed : Array Bool) (a' : Act) (w' : World) (b : Option Nat), (∃ s : List Nat, s.Nodup ∧ (∀ i ∈ s, i < l.length ∧ listed.getD i true = false) ∧ (∀ i, i < l.length → listed.getD i true = false → i ∈ s) ∧ s.length ≤ fuel) → BInv l Φs a w listed a' w' b → wpAny P .any l.toArray Q fuel listed a' w' := by
 have hlen := JAll2_len hJ
 have hBL := (boxB_spec hB).1
 have fin : ∀ (listed : Array Bool) (a' : Act) (w' : World) (b : Option Nat), BInv l Φs a w listed a' w' b → Region.ready .any l.toArray listed = [] → Q .normal a' w' := by
  intro listed a' w' b hI hr
  have hall := ready_nil hBL hI.size hr
  have hH : HAll2 w' b l Φs (l.map (valD a')) := HAll2_of hlen fun j o Φ hj hΦ =>
   hI.new j o Φ hj hΦ (hall j (List.getElem?_eq_some_iff.1 hj).1)
  have ha : a' = putAll a l (l.map (valD a')) := by
   obtain ⟨p1, p2, p3⟩ := putAll_frame (l := l) (vs := l.map (valD a')) (a := a)
   have e1 : a'.tmps = (putAll a l (l.map (valD a'))).tmps := by
    apply Array.ext_getElem?
    intro t
    by_cases ht : ∃ (j : Nat) (o : Oper), l[j]? = some o ∧ o.dst = some t
    ·obtain ⟨j, o, hj, hd⟩ := ht
     obtain ⟨_, _, hdn, _⟩ := looseB_spec hBL hj
     have hlt := hdn t hd
     rw [putAll_get (valD a') hj hd hlt (fun i q hne hq => ((looseB_spec hBL hq).2.2.2 j o t hj hd).2 hne)]
     have hlt' : t < a'.tmps.size := by rw [hI.tsize]; exact hlt
     simp [valD, hd, Act.eval, Array.getElem?_eq_getElem hlt']
    ·rw [p3 t (fun o ho hd => ?_)]
     ·exact hI.old t fun j o hj hd => absurd ⟨j, o, hj, hd⟩ ht
     ·obtain ⟨j, hj⟩ := List.getElem?_of_mem ho
      exact ht ⟨j, o, hj, hd⟩
   have e2 : a'.defers = (putAll a l (l.map (valD a'))).defers := hI.defers.trans p2.symm
   cases a'
   generalize putAll a l (l.map (valD _)) = q at e1 e2
   cases q
   simp only at e1 e2
   rw [e1, e2]
  rw [ha]
  exact hQ _ _ _ hI.below hI.box hH
 intro fuel
 induction fuel with
 | zero =>
  intro listed a' w' b ⟨s, _, _, hs2, hs3⟩ hI
  have hr : Region.ready .any l.toArray listed = [] := by
   rw [List.eq_nil_iff_forall_not_mem]
   intro i hi
   obtain ⟨h1, o, ho, _⟩ := mem_ready.1 hi
   have hlt : i < l.length := by simpa using (Array.getElem?_eq_some_iff.1 ho).1
   have := hs2 i hlt h1
   obtain rfl : s = [] := List.eq_nil_of_length_eq_zero (by omega)
   cases this
  exact ⟨hr, fin _ _ _ _ hI hr⟩
 | succ fuel ih =>
  intro listed a' w' b ⟨s, hs0, hs1, hs2, hs3⟩ hI
  refine ⟨fin _ _ _ _ hI, fun i hi => ?_⟩
  obtain ⟨h1, o, ho, hdeps⟩ := mem_ready.1 hi
  have hlt : i < l.length := by simpa using (Array.getElem?_eq_some_iff.1 ho).1
  have ho' : l[i]? = some o := by simpa using ho
  obtain ⟨Φ, hΦ⟩ : ∃ Φ, Φs[i]? = some Φ := ⟨_, List.getElem?_eq_getElem (by omega)⟩
  obtain ⟨hg, _, _, hall⟩ := looseB_spec hBL ho'
  have hJi : JAt2 P l Φs a w o Φ := JAll2_get hJ ho' hΦ
  have hlsz : i < listed.size := by rw [hI.size]; exact hlt
  have hj := hJi a' w' b hI.below hI.box (fun hga => hI.nob i Φ hΦ hga (by
    rw [Array.getD_eq_getD_getElem?, Array.getElem?_eq_getElem hlsz] at h1 ⊢
    exact h1)) (fun t ht0 => by
   have ht : Operand.tmp t ∈ o.op.operands.toList := by
    unfold readsB at ht0
    obtain ⟨x, hx, he⟩ := List.any_eq_true.1 ht0
    cases x <;> simp at he
    subst he
    exact hx
   unfold slotP2
   cases hwr : writer2 l Φs t with
   | some Ψ =>
    obtain ⟨j, q, g, hj, hd, hΨ⟩ := writer2_some hwr
    obtain ⟨e, he, hon, hbind⟩ := (hall j q t hj hd).1 ht
    have := hI.new j q (g, Ψ) hj hΨ (by rw [← hon]; exact hdeps e he hbind)
    simpa [valD, hd] using this
   | none =>
    have hno := writer2_none hlen hwr
    have := hI.old t fun j q hj hd => absurd hd (hno j q hj)
    simp [Act.eval, this])
  have hnext : ∀ v w'' b', StepT Φ.1 b w' b' w'' → Φ.2 b' v w'' → wpAny P .any l.toArray Q fuel (listed.setIfInBounds i true) (a'.put o.dst v) w'' := by
   intro v w'' b' hs hv
   refine ih _ _ _ _ ⟨s.erase i, hs0.erase i, fun j hj => ?_, fun j hj hl => ?_, ?_⟩ (hI.step hB hst ho' hΦ h1 hs hv)
   ·have hj' := List.mem_of_mem_erase hj
    have hne : j ≠ i := fun e => by subst e; exact (hs0.not_mem_erase) hj
    exact ⟨(hs1 j hj').1, by rw [getD_set_ne true (Ne.symm hne)]; exact (hs1 j hj').2⟩
   ·have hne : i ≠ j := fun e => by
     subst e
     rw [Array.getD_eq_getD_getElem?, Array.getElem?_setIfInBounds_self_of_lt hlsz] at hl
     cases hl
    rw [getD_set_ne true hne] at hl
    exact (List.mem_erase_of_ne (Ne.symm hne)).2 (hs2 j hj hl)
   ·rw [List.length_erase_of_mem (hs2 i hlt h1)]; omega
  unfold wpOp
  rw [ho]
  simp only [Region.wanted, hg, if_true]
  left
  unfold Oper.wp
  generalize (execOp a'.eval o).run P w' = r at hj
  cases r with
  | ok n w1 =>
   cases n with
   | value v => exact hnext v w1 hj.choose hj.choose_spec.1 hj.choose_spec.2
   | skip => exact hnext undef w1 hj.choose hj.choose_spec.1 hj.choose_spec.2
   | enter f args =>
    refine hj.2.2.mono fun e w2 ⟨v, he, hb2, hv⟩ => ?_
    subst he
    refine hnext v w2 b ?_ hv
    rw [hj.1]
    exact ⟨rfl, bthen hj.2.1 hb2⟩
   | _ => exact hj.elim
  | halt x w1 => exact hj.elim

theorem wp_region_box {P : Program} {id : Nat} {l : List Oper} {a : Act} {w : World} {Q : Exit → Act → World → Prop} (Φs : List (Tag × OP)) (hm : P.follows .mixedOrders = true) (hB : boxB l (Φs.map Prod.fst) a.tmps.size = true)
  (hst : SAll2 Φs) (hJ : JAll2 P l Φs a w l Φs)
  (hQ : ∀ vs w' b, Below w.heap.size w w' → (∀ k, b = some k → w.heap.size ≤ k ∧ k < w'.heap.size) → HAll2 w' b l Φs vs → Q .normal (putAll a l vs) w') : (Code.region id l.toArray true).wp P Q a w := by
 refine wp_region_any hm (wpAny_box hB hst hJ hQ _ _ _ _ none ⟨List.range l.length, List.nodup_range, fun i hi => ⟨by simpa using hi, ?_⟩, fun i hi _ => by simpa using hi, by simp⟩ ⟨⟨rfl, rfl, rfl, Nat.le_refl _, fun _ _ => rfl⟩, by simp, rfl, rfl, fun _ _ => rfl, fun j o Φ hj _ hl => ?_, fun k hk => (by simp at hk), fun _ _ _ _ _ => rfl⟩)
 ·simp at hi
  simp [hi]
 ·have hjl := (List.getElem?_eq_some_iff.1 hj).1
  simp [hjl] at hl

/-! the usual predicates -/
def exO (c : Value) : OP := fun _ v _ => v = c
def rdSO {α : Type} (E : Ty α) (x : α) : OP := fun o v W => ∃ fp, E.rd W [v] x fp ∧ ∀ k ∈ fp, o ≠ some k
/-- new memory that reads so -/
def frAO {α : Type} (E : Ty α) (base : Nat) (x : α) : OP := fun o v W => ∃ (cs : List Value) (fp : List Nat), v = .agg cs.toArray ∧ E.rd W cs x fp ∧ fp.Nodup ∧ (∀ k ∈ fp, base ≤ k) ∧ Unf W fp ∧ ∀ k ∈ fp, o ≠ some k
def boxO (n : Nat) : OP := fun o v W => ∃ b, o = some b ∧ v = .pointer (some ⟨b, 0, none⟩) ∧ b < W.heap.size ∧ ∀ j, j < n → (∃ u, W.cell? ⟨b, j, none⟩ = some u) ∧ W.frozen? ⟨b, j, none⟩ = false
/-- the box holds it -/
def heldO {α : Type} (E : Ty α) (base : Nat) (x : α) : OP := fun o _ W => ∃ (b : Nat) (cs : List Value) (fp : List Nat), o = some b ∧ E.rd W cs x fp ∧ fp.Nodup ∧ (∀ k ∈ fp, base ≤ k) ∧ Unf W fp ∧ (∀ k ∈ fp, some b ≠ some k) ∧ ∀ j (hj : j < cs.length), W.cell? ⟨b, j, none⟩ = some cs[j]
theorem some_ne {a : Nat} {fp : List Nat} (h : ∀ k ∈ fp, k < a) : ∀ k ∈ fp, (some a : Option Nat) ≠ some k := fun k hk e => by have := h k hk; simp at e; omega
theorem Bx.same {b : Nat} {w w' : World} {fp : List Nat} (h : Bx b w w') (hl : ∀ k ∈ fp, k < w.heap.size) (hn : ∀ k ∈ fp, (some b : Option Nat) ≠ some k) : Same fp w w' := fun k hk => h.block k (hl k hk) fun e => hn k hk (by rw [e])
theorem st_exO {c : Value} : StG .plain (exO c) := ⟨⟨fun _ _ _ _ h _ => h, fun _ _ _ h _ => h⟩, fun _ _ _ _ h _ => h⟩
theorem st_frAO {α : Type} {E : Ty α} {base : Nat} {x : α} : StG .plain (frAO E base x) :=
 ⟨⟨fun _ _ _ _ ⟨cs, fp, h1, h2, h4, h5, h6, h3⟩ hb => ⟨cs, fp, h1, E.same h2 (Same.below hb (E.lt h2)), h4, h5, h6.same (Same.below hb (E.lt h2)), h3⟩,
  fun _ _ _ ⟨cs, fp, h1, h2, h4, h5, h6, _⟩ hb => ⟨cs, fp, h1, E.same h2 (Same.below hb (E.lt h2)), h4, h5, h6.same (Same.below hb (E.lt h2)), some_ne (E.lt h2)⟩⟩,
  fun _ _ _ _ ⟨cs, fp, h1, h2, h4, h5, h6, h3⟩ hb => ⟨cs, fp, h1, E.same h2 (hb.same (E.lt h2) h3), h4, h5, h6.same (hb.same (E.lt h2) h3), h3⟩⟩
theorem st_boxO {n : Nat} : StG .alloc (boxO n) :=
 ⟨⟨fun _ _ _ _ ⟨b, h1, h2, h3, h4⟩ hb => ⟨b, h1, h2, Nat.lt_of_lt_of_le h3 hb.size, fun j hj => ⟨let ⟨u, hu⟩ := (h4 j hj).1; ⟨u, (hb.cell (p := ⟨b, j, none⟩) h3).trans hu⟩, (hb.frozen (p := ⟨b, j, none⟩) h3).trans (h4 j hj).2⟩⟩, fun _ _ _ ⟨b, h1, _⟩ _ => by cases h1⟩,
  fun b' _ _ _ ⟨b, h1, h2, h3, h4⟩ hb => by
   obtain rfl : b' = b := by simpa using h1
   exact ⟨_, rfl, h2, Nat.lt_of_lt_of_le h3 hb.size, fun j hj => ⟨hb.cells j (h4 j hj).1, (hb.frozen j).trans (h4 j hj).2⟩⟩⟩
theorem st_heldO {α : Type} {E : Ty α} {base : Nat} {x : α} : StG .store (heldO E base x) :=
 ⟨⟨fun _ _ _ _ ⟨b, cs, fp, h1, h2, h4, h5, h6, h3, h7⟩ hb => ⟨b, cs, fp, h1, E.same h2 (Same.below hb (E.lt h2)), h4, h5, h6.same (Same.below hb (E.lt h2)), h3, fun j hj => (hb.cell (p := ⟨b, j, none⟩) (cell_lt (h7 j hj))).trans (h7 j hj)⟩, fun _ _ _ ⟨b, _, _, h1, _⟩ _ => by cases h1⟩, fun _ _ _ _ h => h⟩
theorem HAll2_cons {w : World} {b : Option Nat} {o : Oper} {l : List Oper} {Φ : Tag × OP} {Φs : List (Tag × OP)} {vs : List Value} (h : HAll2 w b (o :: l) (Φ :: Φs) vs) : ∃ v r, vs = v :: r ∧ Φ.2 b v w ∧ HAll2 w b l Φs r := by
 cases vs with
 | nil => cases h
 | cons v r => exact ⟨v, r, rfl, h.1, h.2⟩
theorem HAll2_nil {w : World} {b : Option Nat} {vs : List Value} (h : HAll2 w b [] [] vs) : vs = [] := by
 cases vs with
 | nil => rfl
 | cons v r => cases h
theorem slot_w2 {l : List Oper} {Φs : List (Tag × OP)} {a a' : Act} {w' : World} {o : Oper} {b : Option Nat} (hd : ∀ t, readsB o t = true → slotP2 l Φs a t b (a'.eval (.tmp t)) w') (t : Tmp) (Φ : OP) (hr : readsB o t = true) (hw : writer2 l Φs t = some Φ) : Φ b (a'.eval (.tmp t)) w' := by
 have h := hd t hr
 unfold slotP2 at h
 rw [hw] at h
 exact h
theorem slot_o2 {l : List Oper} {Φs : List (Tag × OP)} {a a' : Act} {w' : World} {o : Oper} {b : Option Nat} (hd : ∀ t, readsB o t = true → slotP2 l Φs a t b (a'.eval (.tmp t)) w') (t : Tmp) (hr : readsB o t = true) (hw : writer2 l Φs t = none) : a'.eval (.tmp t) = a.eval (.tmp t) := by
 have h := hd t hr
 unfold slotP2 at h
 rw [hw] at h
 exact h
theorem rdSO.rd {α : Type} {E : Ty α} {x : α} {W : World} {u : Value} {o : Option Nat} (h : rdSO E x o u W) : E.Rd W [u] x := let ⟨fp, h, _⟩ := h; ⟨fp, h⟩
theorem set3_bx {b : Nat} {w : World} {x y z : Value} : Bx b w (((w.setCell ⟨b, 0, none⟩ x).setCell ⟨b, 1, none⟩ y).setCell ⟨b, 2, none⟩ z) := ((Bx.setCell _ _ _ _).trans (Bx.setCell _ _ _ _)).trans (Bx.setCell _ _ _ _)
theorem held3 {α : Type} {E : Ty α} {base : Nat} {x : α} {b : Nat} {w : World} {v0 v1 v2 y0 y1 y2 : Value} (h0 : w.cell? ⟨b, 0, none⟩ = some y0) (h1 : w.cell? ⟨b, 1, none⟩ = some y1) (h2 : w.cell? ⟨b, 2, none⟩ = some y2) {fp : List Nat} (hr : E.rd w [v0, v1, v2] x fp)
  (hn : fp.Nodup) (hb : ∀ k ∈ fp, base ≤ k) (hu : Unf w fp) (ho : ∀ k ∈ fp, (some b : Option Nat) ≠ some k) (v : Value) :
  ∃ o', StepT .store (some b) w o' (((w.setCell ⟨b, 0, none⟩ v0).setCell ⟨b, 1, none⟩ v1).setCell ⟨b, 2, none⟩ v2) ∧ heldO E base x o' v (((w.setCell ⟨b, 0, none⟩ v0).setCell ⟨b, 1, none⟩ v1).setCell ⟨b, 2, none⟩ v2) := by
 have hs := set3_bx (b := b) (w := w) (x := v0) (y := v1) (z := v2)
 have e1 : (w.setCell ⟨b, 0, none⟩ v0).cell? ⟨b, 1, none⟩ = some y1 := (World.cell?_setCell_other _ _ _ _ (by simp)).trans h1
 have e2 : ((w.setCell ⟨b, 0, none⟩ v0).setCell ⟨b, 1, none⟩ v1).cell? ⟨b, 2, none⟩ = some y2 := (World.cell?_setCell_other _ _ _ _ (by simp)).trans ((World.cell?_setCell_other _ _ _ _ (by simp)).trans h2)
 refine ⟨some b, ⟨b, rfl, rfl, hs⟩, b, [v0, v1, v2], fp, rfl, E.same hr (hs.same (E.lt hr) ho), hn, hb, hu.same (hs.same (E.lt hr) ho), ho, fun j hj => ?_⟩
 rcases (show j = 0 ∨ j = 1 ∨ j = 2 by simp at hj; omega) with rfl | rfl | rfl
 ·exact (World.cell?_setCell_other _ _ _ _ (by simp)).trans ((World.cell?_setCell_other _ _ _ _ (by simp)).trans (World.cell?_setCell_same _ _ _ h0))
 ·exact (World.cell?_setCell_other _ _ _ _ (by simp)).trans (World.cell?_setCell_same _ _ _ e1)
 ·exact World.cell?_setCell_same _ _ _ e2
theorem box3 {w : World} {x y z : Value} {T : TypeId} : ∀ j, j < 3 → (∃ u, (w.alloc (.cells #[x, y, z] T)).cell? ⟨w.heap.size, j, none⟩ = some u) ∧ (w.alloc (.cells #[x, y, z] T)).frozen? ⟨w.heap.size, j, none⟩ = false := fun j hj => by
 rcases (show j = 0 ∨ j = 1 ∨ j = 2 by omega) with rfl | rfl | rfl <;> exact ⟨by simp, by simp⟩
end Go.Proofs.YtajmjfbejfiipaaGreat
namespace Go.Proofs.YtajmjfbejfiipaaGreat
open Go.RowKit Go.Sort
end Go.Proofs.YtajmjfbejfiipaaGreat
namespace Go.Proofs.YtajmjfbejfiipaaGreat
open Go.RowKit Go.Sort
theorem l03SameAtom_quiet (w : World) {v v' : Value} {x y : Int × List Int} (h : opT.Pt w v x) (h' : opT.Pt w v' y) :
  Calls Tryz.prog 150 #[v, v'] w fun e w' => e = .returned (.bool (eqB x y)) ∧ Quiet w w' := by
 obtain ⟨b, o, ad, cap, rfl, hb, hI, c0, c1, hx⟩ := pt_pair h
 obtain ⟨b', o', ad', cap', rfl, hb', hI', c0', c1', hx'⟩ := pt_pair h'
 clear h h'
 cases hn : (x.1 == y.1)
 ·go_enter Tryz.func150, Tryz.ntmps150
  go_wp2_with fail
  go_quiet (fail)
  go_wp2_with fail
  go_ret
  exact ⟨ret_bool (eqB_fst (by simpa using hn)).symm, (by first | exact Quiet.refl _ | exact Quiet.drewN _ _ | exact (Quiet.drewN _ _).then (Quiet.drewN _ _) | exact ((Quiet.drewN _ _).then (Quiet.drewN _ _)).then (Quiet.drewN _ _))⟩
 have HN : Hid (x.1 = y.1) := by simpa [Hid] using hn
 have cQ : ∀ n, Calls Tryz.prog 94 #[.slice ad x.2.length cap, .slice ad' y.2.length cap'] (w.drewN n) fun e w'' => e = .returned (.bool (eqB x.2 y.2)) ∧ ∃ m, w'' = w.drewN m := fun n =>
  quiet_call (l00Same_quiet _ (hx.below (Quiet.drewN w n).below) (hx'.below (Quiet.drewN w n).below))
 go_enter Tryz.func150, Tryz.ntmps150
 go_wp2_with fail
 go_quiet (exact cQ _)
 go_wp2_with fail
 go_ret
 exact ⟨ret_bool (eqB_snd HN.out rfl).symm, (by first | exact Quiet.refl _ | exact Quiet.drewN _ _ | exact (Quiet.drewN _ _).then (Quiet.drewN _ _) | exact ((Quiet.drewN _ _).then (Quiet.drewN _ _)).then (Quiet.drewN _ _))⟩
end Go.Proofs.YtajmjfbejfiipaaGreat
namespace Go.Proofs.YtajmjfbejfiipaaGreat
open Go.RowKit Go.Sort
end Go.Proofs.YtajmjfbejfiipaaGreat
namespace Go.Proofs.YtajmjfbejfiipaaGreat
open Go.RowKit Go.Sort
end Go.Proofs.YtajmjfbejfiipaaGreat
namespace Go.Proofs.YtajmjfbejfiipaaGreat
open Go.RowKit Go.Sort
end Go.Proofs.YtajmjfbejfiipaaGreat
namespace Go.Proofs.YtajmjfbejfiipaaGreat
open Go.RowKit Go.Sort
section
variable {t : Tpl} {ar k : Int}
end
end Go.Proofs.YtajmjfbejfiipaaGreat
namespace Go.Proofs.YtajmjfbejfiipaaGreat
open Go.RowKit Go.Sort
section
variable {t : Tpl} {ar : Int} {ls : List (List Int)} {vs f : List Int}
end
end Go.Proofs.YtajmjfbejfiipaaGreat
namespace Go.Proofs.YtajmjfbejfiipaaGreat
open Go.RowKit Go.Sort
/-- the first one of a list for which p, or none -/
def FstR {α : Type} (p : α → Bool) (K : List α) (hit : List α → α → Prop) (miss : Prop) : Prop := (∃ K1 x K2, K = K1 ++ x :: K2 ∧ (∀ y ∈ K1, p y = false) ∧ p x = true ∧ hit K1 x) ∨ ((∀ y ∈ K, p y = false) ∧ miss)
theorem FstR.pre {α : Type} {p : α → Bool} {A B : List α} {hit hit' : List α → α → Prop} {miss miss' : Prop} (hA : ∀ y ∈ A, p y = false) (h : FstR p B hit miss) (h1 : ∀ K x, hit K x → hit' (A ++ K) x) (h2 : miss → miss') : FstR p (A ++ B) hit' miss' := by
 rcases h with ⟨K1, x, K2, rfl, g1, g2, g3⟩ | ⟨g1, g2⟩
 ·refine .inl ⟨A ++ K1, x, K2, by simp, fun y hy => (List.mem_append.1 hy).elim (hA y) (g1 y), g2, h1 _ _ g3⟩
 ·exact .inr ⟨fun y hy => (List.mem_append.1 hy).elim (hA y) (g1 y), h2 g2⟩
theorem FstR.post {α : Type} {p : α → Bool} {A B : List α} {hit' : List α → α → Prop} {K1 : List α} {x : α} {K2 : List α} {miss : Prop} (hA : A = K1 ++ x :: K2) (g1 : ∀ y ∈ K1, p y = false) (g2 : p x = true) (g3 : hit' K1 x) : FstR p (A ++ B) hit' miss :=
 .inl ⟨K1, x, K2 ++ B, by rw [hA]; simp, g1, g2, g3⟩
end Go.Proofs.YtajmjfbejfiipaaGreat
namespace Go.Proofs.YtajmjfbejfiipaaGreat
open Go.RowKit Go.Sort
theorem FstR.map {α β : Type} {g : α → β} {p : α → Bool} {p' : β → Bool} {K : List α} {hit : List α → α → Prop} {hit' : β → Prop} {miss miss' : Prop} (hp : ∀ y, p' (g y) = p y) (h : FstR p K hit miss) (h1 : ∀ K1 x, hit K1 x → hit' (g x)) (h2 : miss → miss') : FstR p' (K.map g) (fun _ x => hit' x) miss' := by
 rcases h with ⟨K1, x, K2, rfl, g1, g2, g3⟩ | ⟨g1, g2⟩
 ·refine .inl ⟨K1.map g, g x, K2.map g, by simp, fun y hy => ?_, by rw [hp]; exact g2, h1 _ _ g3⟩
  obtain ⟨z, hz, rfl⟩ := List.mem_map.1 hy
  rw [hp]; exact g1 z hz
 ·refine .inr ⟨fun y hy => ?_, h2 g2⟩
  obtain ⟨z, hz, rfl⟩ := List.mem_map.1 hy
  rw [hp]; exact g1 z hz
theorem FstR.idx {α : Type} {p : α → Bool} {K : List α} {hit : α → Prop} {miss : Prop} (h : FstR p K (fun _ x => hit x) miss) :
  (∃ i, ∃ h : i < K.length, p K[i] = true ∧ (∀ j (hj : j < i), p (K[j]'(by omega)) = false) ∧ hit K[i]) ∨ ((∀ j (h : j < K.length), p K[j] = false) ∧ miss) := by
 rcases h with ⟨K1, x, K2, rfl, g1, g2, g3⟩ | ⟨g1, g2⟩
 ·refine .inl ⟨K1.length, by simp, ?_, fun j hj => ?_, ?_⟩
  ·simpa using g2
  ·rw [List.getElem_append_left hj]
   exact g1 _ (List.getElem_mem hj)
  ·simpa using g3
 ·exact .inr ⟨fun j hj => g1 _ (List.getElem_mem hj), g2⟩
section
variable {t : Tpl} {ar : Int}
end
end Go.Proofs.YtajmjfbejfiipaaGreat
namespace Go.Proofs.YtajmjfbejfiipaaGreat
open Go.RowKit Go.Sort
section
variable {t : Tpl} {ar : Int} {ls : List (List Int)} {vs : List Int}
end
end Go.Proofs.YtajmjfbejfiipaaGreat
namespace Go.Proofs.YtajmjfbejfiipaaGreat
open Go.RowKit Go.Sort
section
variable {t : Tpl} {ar : Int} {ls : List (List Int)} {vs : List Int}
end
end Go.Proofs.YtajmjfbejfiipaaGreat
namespace Go.Proofs.YtajmjfbejfiipaaGreat
open Go.RowKit Go.Sort
end Go.Proofs.YtajmjfbejfiipaaGreat
namespace Go.Proofs.YtajmjfbejfiipaaGreat
open Go.RowKit Go.Sort
end Go.Proofs.YtajmjfbejfiipaaGreat
namespace Go.Proofs.YtajmjfbejfiipaaGreat
open Go.RowKit Go.Sort
section
variable {t : Tpl} {u : List (List Int)}
end
end Go.Proofs.YtajmjfbejfiipaaGreat
namespace Go.Proofs.YtajmjfbejfiipaaGreat
open Go.RowKit Go.Sort
end Go.Proofs.YtajmjfbejfiipaaGreat
namespace Go.Proofs.YtajmjfbejfiipaaGreat
open Go.RowKit Go.Sort
section
variable {t : Tpl} {u : List (List Int)} {k : Nat}
end
end Go.Proofs.YtajmjfbejfiipaaGreat
namespace Go.Proofs.YtajmjfbejfiipaaGreat
open Go.RowKit Go.Sort
end Go.Proofs.YtajmjfbejfiipaaGreat
namespace Go.Proofs.YtajmjfbejfiipaaGreat
open Go.RowKit Go.Sort
end Go.Proofs.YtajmjfbejfiipaaGreat
namespace Go.Proofs.YtajmjfbejfiipaaGreat
open Go.RowKit Go.Sort
end Go.Proofs.YtajmjfbejfiipaaGreat
namespace Go.Proofs.YtajmjfbejfiipaaGreat
open Go.RowKit Go.Sort
section
variable {t : Tpl} {ar : Nat}
end
end Go.Proofs.YtajmjfbejfiipaaGreat
namespace Go.Proofs.YtajmjfbejfiipaaGreat
open Go.RowKit Go.Sort
section
variable {t : Tpl} {u : List (List Int)}
end
end Go.Proofs.YtajmjfbejfiipaaGreat
namespace Go.Proofs.YtajmjfbejfiipaaGreat
open Go.RowKit Go.Sort
section
variable {t : Tpl} {u : List (List Int)}
end
end Go.Proofs.YtajmjfbejfiipaaGreat
