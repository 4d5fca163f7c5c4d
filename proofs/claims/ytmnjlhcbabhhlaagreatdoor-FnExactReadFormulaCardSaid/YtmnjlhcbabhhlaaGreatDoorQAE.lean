/-
Plain mathematics: lists of digits in order; the tuples of a relation made by number are in order.
Plain: the operations that a search lists are those that keep a template; how many are counted; projections and compositions keep what is kept. No program is named here.
Choices from bytes: what the source of choices is; its contracts say what a choice's bounds are, not which one it is.
Choices from bytes: a drawn relation, a drawn template.
Choices from bytes: a drawn template.
Choices from bytes: a drawn template of few tuples.
Choices from bytes: a drawn template by its bytes; a projection.
Contracts: a formula read from its text, the reference's.
Contracts: a formula read from its text, the program's.
-/
import Derived.Test.YtmnjlhcbabhhlaaGreatDoorQAB
import Derived.Test.YtmnjlhcbabhhlaaGreatDoorQAD
import Derived.Test.YtmnjlhcbabhhlaaGreatDoorQAA
import Derived.Test.YtmnjlhcbabhhlaaGreatDoorQAC
import Derived.Deep.CutRange
namespace Go.Proofs.YtmnjlhcbabhhlaaGreatDoor
open Go.RowKit Go.Sort
theorem dig_idx {s idx : Int} {n : Nat} (hs : 1 ≤ s) (h0 : 0 ≤ idx) (h : idx < s ^ n) : ∀ k, k ≤ n → idxL s 0 ((digL s idx n).take k) = idx / s ^ (n - k)
 | 0, _ => by
  rw [List.take_zero, Nat.sub_zero, Int.ediv_eq_zero_of_lt h0 h]
  rfl
 | k + 1, hk => by
  have hl : k < (digL s idx n).length := by rw [digL_len]; omega
  rw [idxL_take hl, dig_idx hs h0 h k (by omega)]
  have hg : (digL s idx n)[k] = dig s idx (n - 1 - k) := by simp [digL]
  rw [hg, show n - k = (n - (k + 1)) + 1 by omega, show n - 1 - k = n - (k + 1) by omega, ← quo_succ hs]
  unfold dig
  have h1 := Int.ediv_mul_add_emod (idx / s ^ (n - (k + 1))) s
  exact h1
theorem digL_in {s idx : Int} {n : Nat} (hs : 1 ≤ s) : ∀ a ∈ digL s idx n, 0 ≤ a ∧ a ≤ s - 1 := fun a ha => by
 obtain ⟨i, -, rfl⟩ := List.mem_map.1 ha
 have := dig_nn (idx := idx) hs (n - 1 - i)
 omega
theorem idx_mono {s : Int} (hs : 1 ≤ s) : ∀ {xs ys : List Int} {a b : Int}, xs.length = ys.length → (∀ x ∈ xs, 0 ≤ x ∧ x ≤ s - 1) → (∀ y ∈ ys, 0 ≤ y ∧ y ≤ s - 1) → a < b → idxL s a xs < idxL s b ys
 | [], [], _, _, _, _, _, h => h
 | [], _ :: _, _, _, hl, _, _, _ => by simp at hl
 | _ :: _, [], _, _, hl, _, _, _ => by simp at hl
 | x :: xs, y :: ys, a, b, hl, hx, hy, h => by
  simp only [idxL]
  refine idx_mono hs (by simpa using hl) (fun z hz => hx z (List.mem_cons_of_mem _ hz)) (fun z hz => hy z (List.mem_cons_of_mem _ hz)) ?_
  have h1 := hx x (List.mem_cons_self ..)
  have h2 := hy y (List.mem_cons_self ..)
  have h3 := Int.mul_le_mul_of_nonneg_right (show a + 1 ≤ b by omega) (show (0 : Int) ≤ s by omega)
  rw [Int.add_mul, Int.one_mul] at h3
  omega
theorem lt_of_idx {s : Int} (hs : 1 ≤ s) : ∀ {xs ys : List Int} {a : Int}, xs.length = ys.length → (∀ x ∈ xs, 0 ≤ x ∧ x ≤ s - 1) → (∀ y ∈ ys, 0 ≤ y ∧ y ≤ s - 1) → idxL s a xs < idxL s a ys → ltL xs ys
 | [], [], _, _, _, _, h => absurd h (Int.lt_irrefl _)
 | [], _ :: _, _, hl, _, _, _ => by simp at hl
 | _ :: _, [], _, hl, _, _, _ => by simp at hl
 | x :: xs, y :: ys, a, hl, hx, hy, h => by
  simp only [idxL] at h
  have hx' := fun z hz => hx z (List.mem_cons_of_mem x hz)
  have hy' := fun z hz => hy z (List.mem_cons_of_mem y hz)
  unfold ltL
  rcases Int.lt_trichotomy x y with hc | hc | hc
  ·rw [cmpL, if_neg (by omega), cmpI_lt hc]
   decide
  ·subst hc
   rw [cmpL, if_pos rfl]
   exact lt_of_idx hs (by simpa using hl) hx' hy' h
  ·have := idx_mono hs (a := a * s + y) (b := a * s + x) (show ys.length = xs.length by simpa using hl.symm) hy' hx' (by omega)
   omega
theorem dig_lt {s : Int} {n : Nat} {k j : Int} (hs : 1 ≤ s) (h0 : 0 ≤ k) (h : k < j) (hj : j < s ^ n) : ltL (digL s k n) (digL s j n) := by
 refine lt_of_idx hs (a := 0) (by rw [digL_len, digL_len]) (digL_in hs) (digL_in hs) ?_
 have h1 := dig_idx (n := n) hs h0 (by omega) n (Nat.le_refl _)
 have h2 := dig_idx (n := n) hs (show 0 ≤ j by omega) hj n (Nat.le_refl _)
 rw [Nat.sub_self, Int.pow_zero, Int.ediv_one, List.take_of_length_le (by rw [digL_len]; exact Nat.le_refl _)] at h1 h2
 rw [h1, h2]
 exact h
end Go.Proofs.YtmnjlhcbabhhlaaGreatDoor
namespace Go.Proofs.YtmnjlhcbabhhlaaGreatDoor
open Go.RowKit Go.Sort
end Go.Proofs.YtmnjlhcbabhhlaaGreatDoor
namespace Go.Proofs.YtmnjlhcbabhhlaaGreatDoor
open Go.RowKit Go.Sort
def Ty.byte : Ty Int where
 sz := 1
 rd := fun _ cs n fp => cs = [.int .u8 n] ∧ (0 ≤ n ∧ n ≤ 255) ∧ fp = []
 len := by rintro _ _ _ _ ⟨rfl, _, _⟩; rfl
 same := fun h _ => h
 lt := by rintro _ _ _ _ ⟨rfl, _, rfl⟩ k hk; cases hk
 one := by rintro _ _ _ _ ⟨rfl, _, _⟩ u hu; simp at hu; subst hu; rfl
abbrev bytesT := Ty.slice Ty.byte
/-- a source of choices at block sb, whose bytes lie below block B, read at most K times -/
def SrcR (sb B : Nat) (K : Int) (w : World) : Prop :=
 ∃ (v : Value) (code : List Int) (pos sd : Int), w.cell? ⟨sb, 0, none⟩ = some v ∧ bytesT.RdP (fun q => q < B) w [v] code ∧ w.cell? ⟨sb, 1, none⟩ = some (.int .i64 pos) ∧ 0 ≤ pos ∧ pos ≤ K ∧
  w.cell? ⟨sb, 2, none⟩ = some (.int .u64 sd) ∧ 0 ≤ sd ∧ sd ≤ 18446744073709551615 ∧ w.frozen? ⟨sb, 1, none⟩ = false ∧ w.frozen? ⟨sb, 2, none⟩ = false ∧ B ≤ sb
theorem SrcR.lt {sb B : Nat} {K : Int} {w : World} (h : SrcR sb B K w) : sb < w.heap.size := let ⟨_, _, _, _, h, _⟩ := h; cell_lt h
theorem SrcR.mono {sb B : Nat} {K K' : Int} {w : World} (h : SrcR sb B K w) (hk : K ≤ K') : SrcR sb B K' w :=
 let ⟨v, c, p, s, h1, h2, h3, h4, h5, h6⟩ := h; ⟨v, c, p, s, h1, h2, h3, h4, Int.le_trans h5 hk, h6⟩
theorem SrcR.tch {sb B : Nat} {K : Int} {w w' : World} {O : Nat → Prop} (h : SrcR sb B K w) (ht : TchP O w w') (hs : ¬ O sb) (hO : ∀ q, q < B → ¬ O q) : SrcR sb B K w' := by
 have hl := h.lt
 obtain ⟨v, c, p, s, h1, h2, h3, h4, h5, h6, h7, h8, h9, h10, h11⟩ := h
 exact ⟨v, c, p, s, (ht.cell hl hs).trans h1, h2.tchP ht (fun q _ hq => hO q hq), (ht.cell hl hs).trans h3, h4, h5, (ht.cell hl hs).trans h6, h7, h8, (ht.frozen hl hs).trans h9, (ht.frozen hl hs).trans h10, h11⟩
theorem SrcR.below {sb B : Nat} {K : Int} {w w' : World} (h : SrcR sb B K w) (hb : Below w.heap.size w w') : SrcR sb B K w' := h.tch (TchP.of_below hb (fun _ => False)) (fun h => h) (fun _ _ h => h)
end Go.Proofs.YtmnjlhcbabhhlaaGreatDoor
namespace Go.Proofs.YtmnjlhcbabhhlaaGreatDoor
open Go.RowKit Go.Sort
/-- tuples of some numbers below k, in order -/
def DrW (s : Int) (n k : Nat) (R : List (List Int)) : Prop := ∃ J : List Nat, R = J.map (fun i : Nat => digL s i n) ∧ J.Pairwise (· < ·) ∧ (∀ j ∈ J, j < k) ∧ J.length ≤ k
section
variable {s : Int} {n k : Nat} {R : List (List Int)}
theorem DrW.zero : DrW s n 0 [] := ⟨[], rfl, List.Pairwise.nil, by simp, Nat.zero_le _⟩
theorem DrW.no (h : DrW s n k R) : DrW s n (k + 1) R := let ⟨J, h1, h2, h3, h4⟩ := h; ⟨J, h1, h2, fun j hj => Nat.lt_succ_of_lt (h3 j hj), Nat.le_succ_of_le h4⟩
theorem DrW.len (h : DrW s n k R) : R.length ≤ k := by obtain ⟨J, rfl, -, -, h4⟩ := h; simpa using h4
theorem DrW.ok (h : DrW s n k R) (hs : sizeOk s) (hn : 1 ≤ n ∧ n ≤ 4) (hk : (k : Int) ≤ s ^ n) : relOk s ((n : Int), R) := by
 obtain ⟨J, rfl, h2, h3, -⟩ := h
 have hs' := hs
 unfold sizeOk at hs'
 refine ⟨hs, ⟨by show (1 : Int) ≤ n; omega, by show (n : Int) ≤ 4; omega⟩, fun i hi => ?_⟩
 have hi' : i < J.length := by simpa using hi
 refine ⟨⟨by simp [digL_len], fun a ha => ?_⟩, fun h0 => ?_⟩
 ·have : a ∈ digL s ((J[i] : Nat) : Int) n := by simpa using ha
  exact digL_in (by omega) a this
 ·have h5 := (List.pairwise_iff_getElem.1 h2) (i - 1) i (by omega) hi' (by omega)
  have h6 := h3 _ (List.getElem_mem hi')
  show ltL ((J.map fun i : Nat => digL s i n)[i - 1]'(by simp; omega)) ((J.map fun i : Nat => digL s i n)[i]'hi)
  rw [List.getElem_map, List.getElem_map]
  exact dig_lt (by omega) (by omega) (by omega) (by omega)
end
end Go.Proofs.YtmnjlhcbabhhlaaGreatDoor
namespace Go.Proofs.YtmnjlhcbabhhlaaGreatDoor
open Go.RowKit Go.Sort
end Go.Proofs.YtmnjlhcbabhhlaaGreatDoor
namespace Go.Proofs.YtmnjlhcbabhhlaaGreatDoor
open Go.RowKit Go.Sort
/-- new data that avoid a block -/
def FrA {α : Type} (E : Ty α) (g base : Nat) (w : World) (cs : List Value) (x : α) : Prop := ∃ fp, E.rd w cs x fp ∧ fp.Nodup ∧ (∀ b ∈ fp, base ≤ b) ∧ Unf w fp ∧ g ∉ fp
section
variable {α : Type} {E : Ty α} {g base : Nat} {w w' : World} {cs : List Value} {x : α}
theorem FrA.fr (h : FrA E g base w cs x) : E.Fr base w cs x := let ⟨fp, h1, h2, h3, h4, _⟩ := h; ⟨fp, h1, h2, h3, h4⟩
theorem FrA.lo (h : E.Fr base w cs x) (hg : g < base) : FrA E g base w cs x := let ⟨fp, h1, h2, h3, h4⟩ := h; ⟨fp, h1, h2, h3, h4, fun hm => by have := h3 g hm; omega⟩
theorem FrA.hi (h : E.Fr base w cs x) (hg : w.heap.size ≤ g) : FrA E g base w cs x := let ⟨fp, h1, h2, h3, h4⟩ := h; ⟨fp, h1, h2, h3, h4, fun hm => by have := E.lt h1 g hm; omega⟩
theorem FrA.same (h : FrA E g base w cs x) (hs : ∀ k, k < w.heap.size → k ≠ g → w'.heap[k]? = w.heap[k]?) : FrA E g base w' cs x := by
 obtain ⟨fp, h1, h2, h3, h4, h5⟩ := h
 have hs' : Same fp w w' := fun k hk => hs k (E.lt h1 k hk) (fun e => h5 (e ▸ hk))
 exact ⟨fp, E.same h1 hs', h2, h3, h4.same hs', h5⟩
theorem FrA.set (h : FrA E g base w cs x) {i : Nat} {u : Value} : FrA E g base (w.setCell ⟨g, i, none⟩ u) cs x := h.same (fun k _ hn => Below.heap_setCell _ _ _ _ (fun e => hn (by simpa using e)))
theorem FrA.below (h : FrA E g base w cs x) (hb : Below w.heap.size w w') : FrA E g base w' cs x := h.same (fun k hk _ => hb.block k hk)
theorem FrA.mono {base' : Nat} (h : FrA E g base w cs x) (hb : base' ≤ base) : FrA E g base' w cs x := let ⟨fp, h1, h2, h3, h4, h5⟩ := h; ⟨fp, h1, h2, fun b hm => Nat.le_trans hb (h3 b hm), h4, h5⟩
end
end Go.Proofs.YtmnjlhcbabhhlaaGreatDoor
namespace Go.Proofs.YtmnjlhcbabhhlaaGreatDoor
open Go.RowKit Go.Sort
end Go.Proofs.YtmnjlhcbabhhlaaGreatDoor
namespace Go.Proofs.YtmnjlhcbabhhlaaGreatDoor
open Go.RowKit Go.Sort
theorem cut_in {b : UInt8} {n : Nat} : ∀ {t : List UInt8} {D : List (List UInt8)} {c : List UInt8}, (∀ x ∈ D, x.length ≤ n) → c.length + t.length ≤ n → (∀ x ∈ (t.foldl (cutStep b) (D, c)).1, x.length ≤ n) ∧ (t.foldl (cutStep b) (D, c)).2.length ≤ n
 | [], D, c, h, h2 => ⟨h, by simpa using h2⟩
 | x :: t, D, c, h, h2 => by
  rw [List.foldl_cons]
  simp only [List.length_cons] at h2
  cases hx : (x == b)
  ·have e : cutStep b (D, c) x = (D, c ++ [x]) := by simp only [cutStep, hx]
   rw [e]
   exact cut_in h (by simp only [List.length_append, List.length_singleton]; omega)
  ·have e : cutStep b (D, c) x = (D ++ [c], []) := by simp only [cutStep, hx]
   rw [e]
   refine cut_in (fun y hy => ?_) (by simp only [List.length_nil]; omega)
   rcases List.mem_append.1 hy with hy | hy
   ·exact h y hy
   ·rw [List.mem_singleton.1 hy]; omega
theorem cutS_in {b : UInt8} {t : List UInt8} : ∀ x ∈ cutS b t, x.length ≤ t.length := fun x hx => by
 obtain ⟨h1, h2⟩ := cut_in (b := b) (n := t.length) (t := t) (D := []) (c := []) (fun _ h => by cases h) (by simp)
 rcases List.mem_append.1 hx with hx | hx
 ·exact h1 x hx
 ·rw [List.mem_singleton.1 hx]; exact h2
theorem cutS_len {b : UInt8} {t : List UInt8} : (cutS b t).length ≤ t.length + 1 := by
 have := cut_len (b := b) (t := t) (D := []) (c := [])
 unfold cutS cutTo
 simp only [List.length_append, List.length_singleton]
 simp only [List.length_nil] at this
 omega
theorem bs_beq {s t : List UInt8} : ((bs s).toList == (bs t).toList) = (s == t) := by
 have e : ∀ l : List UInt8, (bs l).toList = l := fun l => ByteArray.toList_mk l
 rw [e, e]
theorem numS_bd {t : List UInt8} : 0 ≤ (numS t).1 ∧ (numS t).1 < 1000000000 := by
 unfold numS
 split
 ·exact ⟨Int.le_refl _, by decide⟩
 ·rename_i hc
  split
  ·rename_i hd
   simp only [Bool.or_eq_false_iff, decide_eq_false_iff_not] at hc
   obtain ⟨h0, h1⟩ := foldS_bd (w := t) (n := 0) (m := 0) (Int.le_refl _) (by decide) hd
   exact ⟨h0, Int.lt_of_lt_of_le h1 (ten_le (by omega))⟩
  ·exact ⟨Int.le_refl _, by decide⟩
set_option maxHeartbeats 6400000 in
set_option maxRecDepth 100000 in
theorem specReadFormula_any (w : World) {t : List UInt8} :
  Calls Tryz.prog 4 #[.string (bs t)] w (RetAC frmT w (rfV t) (rfC t)) := by
 obtain ⟨S, hS⟩ : ∃ S, S = bs t := ⟨_, rfl⟩
 have hsz : S.size = t.length := by rw [hS, bs_size]
 have HS := Lib.hid hS
 rw [← hS]
 clear hS
 cases hd : decide ((20000 : Int) < ((t.length : Nat) : Int))
 rotate_left
 ·obtain ⟨r1, r2⟩ := rf_big hd
  have HC := Lib.hid r1
  have HV := Lib.hid r2
  clear r1 r2
  go_enter Tryz.func4, Tryz.ntmps4
  go_wp2_with fail
  refine bodyPost_ret (v := .tuple #[.agg #[.int .i64 0, .int .i64 0, .slice none 0 0], .int .i64 2]) (by simp [results, Tryz.results4, go_sem]) rfl ⟨[.int .i64 0, .int .i64 0, .slice none 0 0], by rw [HC.out], by rw [HV.out]; exact fr_frm0, ?_⟩
  first | exact bA | exact set3_below bA (Nat.le_refl _) | exact (((bA).setCell (Nat.le_refl _) _).setCell (Nat.le_refl _) _).setCell (Nat.le_refl _) _
 have hln : t.length ≤ 20000 := by have := of_decide_eq_false hd; omega
 have hlt : ¬ (20000 : Int) < ((t.length : Nat) : Int) := by omega
 go_enter Tryz.func4, Tryz.ntmps4
 go_wp2_with fail
 generalize hW : World.alloc w _ = X
 have hbX : Below w.heap.size w X := hW ▸ bA
 have hsX : w.heap.size + 1 ≤ X.heap.size := by rw [← hW]; simp
 have r0 : X.cell? ⟨w.heap.size, 0, none⟩ = some (.int .i64 0) := by rw [← hW]; simp [go_sem]
 have r1 : X.cell? ⟨w.heap.size, 1, none⟩ = some (.int .i64 0) := by rw [← hW]; simp [go_sem]
 have r2 : X.cell? ⟨w.heap.size, 2, none⟩ = some (.slice none 0 0) := by rw [← hW]; simp [go_sem]
 have m0 : X.frozen? ⟨w.heap.size, 0, none⟩ = false := by rw [← hW]; simp [go_sem]
 have m1 : X.frozen? ⟨w.heap.size, 1, none⟩ = false := by rw [← hW]; simp [go_sem]
 have m2 : X.frozen? ⟨w.heap.size, 2, none⟩ = false := by rw [← hW]; simp [go_sem]
 clear hW
 rw [HS.out]
 refine (l01Split_any X (t := t) (b := 32) (by omega)).mono ?_
 rintro e w1 ⟨u, rfl, hfr, hb1⟩
 obtain ⟨wad, wcap, hwv, -, hwl, hwc⟩ := strs_ex hfr.rd
 obtain rfl : u = _ := by simpa using hwv
 have HWP : Hid (∀ f, rfP t f → topS (cutS 32 t) = true ∧ wrdS (cutS 32 t) = true ∧ frmS (cutS 32 t) = f) := fun f h => rfS_of h
 have HWI : Hid (∀ x ∈ cutS 32 t, x.length ≤ 20000) := fun x hx => Nat.le_trans (cutS_in x hx) hln
 have hWL : (cutS 32 t).length ≤ 20001 := Nat.le_trans cutS_len (by omega)
 have hbw1 := bthen hbX hb1
 have HWC := Lib.hid hwc
 generalize cutS 32 t = W at HWP HWI HWC hWL
 clear hwv hfr hwc hwl
 replace r0 := (cellB hb1 (by omega)).trans r0
 replace r1 := (cellB hb1 (by omega)).trans r1
 replace r2 := (cellB hb1 (by omega)).trans r2
 replace m0 := (frozenB hb1 (by omega)).trans m0
 replace m1 := (frozenB hb1 (by omega)).trans m1
 replace m2 := (frozenB hb1 (by omega)).trans m2
 have HNO : Hid (topS W = false → rfC t = 5 ∧ rfV t = (0, 0, [])) := fun h => rf_no hd (fun ⟨f, hf⟩ => by have := (HWP.out f hf).1; rw [h] at this; cases this)
 by_cases h3 : W.length < 3
 ·obtain ⟨q1, q2⟩ := HNO.out (by unfold topS; rw [show decide (W.length < 3) = true by simpa using h3]; rfl)
  have HC := Lib.hid q1
  have HV := Lib.hid q2
  clear q1 q2
  have hA : decide (((W.length : Nat) : Int) < 3) = true := by simpa using (by omega : ((W.length : Nat) : Int) < 3)
  have hA' : decide (W.length < 3) = true := by simpa using h3
  obtain ⟨g0, g1, g2⟩ := set3_cells (x := .int .i64 0) (y := .int .i64 0) (z := .slice none 0 0) r0 r1 r2
  go_wp2_with fail
  refine bodyPost_ret (v := .tuple #[.agg #[.int .i64 0, .int .i64 0, .slice none 0 0], .int .i64 5]) (by simp [results, Tryz.results4, go_sem, g0, g1, g2]) rfl ⟨[.int .i64 0, .int .i64 0, .slice none 0 0], by rw [HC.out], by rw [HV.out]; exact fr_frm0, set3_below hbw1 (by omega)⟩
 have hA : decide (((W.length : Nat) : Int) < 3) = false := by simpa using (by omega : ¬ ((W.length : Nat) : Int) < 3)
 have hA' : decide (W.length < 3) = false := by simpa using h3
 obtain ⟨wb, wo, rfl, hwb, hwc⟩ := HWC.out (by omega)
 have e0 : w1.cell? ⟨wb, wo, none⟩ = some (.string ⟨(W[0]).toArray⟩) := hwc 0 (by omega)
 have e1 := hwc 1 (by omega)
 have e2 := hwc 2 (by omega)
 have HWC2 := Lib.hid hwc
 have HH0 : Hid (W.headD [] = W[0]) := by
  unfold Hid
  cases W with
  | nil => simp at h3
  | cons x r => rfl
 have HG1 : Hid (W.getD 1 [] = W[1]) := by unfold Hid; rw [List.getD_eq_getElem?_getD, List.getElem?_eq_getElem]; rfl
 have HG2 : Hid (W.getD 2 [] = W[2]) := by unfold Hid; rw [List.getD_eq_getElem?_getD, List.getElem?_eq_getElem]; rfl
 have HL1 : Hid ((W[1]).length ≤ 20000) := HWI.out _ (List.getElem_mem _)
 have HL2 : Hid ((W[2]).length ≤ 20000) := HWI.out _ (List.getElem_mem _)
 clear hwc HWC
 cases hform : (W[0] == [102, 111, 114, 109, 117, 108, 97])
 ·obtain ⟨q1, q2⟩ := HNO.out (by unfold topS; rw [HH0.out, hform]; simp)
  have HC := Lib.hid q1
  have HV := Lib.hid q2
  clear q1 q2
  obtain ⟨g0, g1, g2⟩ := set3_cells (x := .int .i64 0) (y := .int .i64 0) (z := .slice none 0 0) r0 r1 r2
  go_wp2_with fail
  refine bodyPost_ret (v := .tuple #[.agg #[.int .i64 0, .int .i64 0, .slice none 0 0], .int .i64 5]) (by simp [results, Tryz.results4, go_sem, g0, g1, g2]) rfl ⟨[.int .i64 0, .int .i64 0, .slice none 0 0], by rw [HC.out], by rw [HV.out]; exact fr_frm0, set3_below hbw1 (by omega)⟩
 by_cases h19 : 19 < W.length
 ·obtain ⟨q1, q2⟩ := HNO.out (by unfold topS; rw [show decide (19 < W.length) = true by simpa using h19]; simp)
  have HC := Lib.hid q1
  have HV := Lib.hid q2
  clear q1 q2
  have hB : decide ((19 : Int) < ((W.length : Nat) : Int)) = true := by simpa using (by omega : (19 : Int) < ((W.length : Nat) : Int))
  have hB' : decide (19 < W.length) = true := by simpa using h19
  obtain ⟨g0, g1, g2⟩ := set3_cells (x := .int .i64 0) (y := .int .i64 0) (z := .slice none 0 0) r0 r1 r2
  go_wp2_with fail
  refine bodyPost_ret (v := .tuple #[.agg #[.int .i64 0, .int .i64 0, .slice none 0 0], .int .i64 5]) (by simp [results, Tryz.results4, go_sem, g0, g1, g2]) rfl ⟨[.int .i64 0, .int .i64 0, .slice none 0 0], by rw [HC.out], by rw [HV.out]; exact fr_frm0, set3_below hbw1 (by omega)⟩
 have hB : decide ((19 : Int) < ((W.length : Nat) : Int)) = false := by simpa using (by omega : ¬ (19 : Int) < ((W.length : Nat) : Int))
 have hB' : decide (19 < W.length) = false := by simpa using h19
 clear HNO
 generalize W[1] = W1 at e1 HG1 HL1
 generalize W[2] = W2 at e2 HG2 HL2
 obtain ⟨n1, o1, hn1⟩ : ∃ n1 o1, numS W1 = (n1, o1) := ⟨_, _, rfl⟩
 obtain ⟨n2, o2, hn2⟩ : ∃ n2 o2, numS W2 = (n2, o2) := ⟨_, _, rfl⟩
 have hi1 : 0 ≤ n1 ∧ n1 < 1000000000 := by have := numS_bd (t := W1); rw [hn1] at this; exact this
 have hi2 : 0 ≤ n2 ∧ n2 < 1000000000 := by have := numS_bd (t := W2); rw [hn2] at this; exact this
 have HN1 := Lib.hid hn1
 have HN2 := Lib.hid hn2
 have HFI : Hid (frmS W = (n1, n2, (W.drop 3).map atomS)) := by unfold Hid frmS; rw [HG1.out, HG2.out, hn1, hn2]
 have HWI2 : Hid (wrdS W = ((o1 && o2) && (W.drop 3).all okS)) := by unfold Hid wrdS; rw [HG1.out, HG2.out, hn1, hn2]
 have HNO : Hid (wrdS W = false → rfC t = 5 ∧ rfV t = (0, 0, [])) := fun h => rf_no hd (fun ⟨f, hf⟩ => by have := (HWP.out f hf).2.1; rw [h] at this; cases this)
 clear hn1 hn2
 go_wp2_with fail
 refine (l01Number_any w1 (t := W1) (by have := HL1.out; omega)).mono ?_
 rintro e _ ⟨rfl, rfl⟩
 rw [HN1.out]
 go_wp2_with fail
 refine (l01Number_any w1 (t := W2) (by have := HL2.out; omega)).mono ?_
 rintro e _ ⟨rfl, rfl⟩
 rw [HN2.out]
 have hzw1 : w.heap.size < w1.heap.size := by have := hbw1.size; have := hb1.size; omega
 have HR0 := Lib.hid (And.intro r0 (And.intro r1 (And.intro r2 (And.intro m0 (And.intro m1 m2)))))
 clear r0 r1 r2 m0 m1 m2 e0 e1 e2
 by_cases hoo : (o1 && o2) = true
 rotate_left
 ·have hoo' : (o1 && o2) = false := by simpa using hoo
  have HWF : Hid (wrdS W = false) := by unfold Hid; rw [HWI2.out, hoo']; rfl
  have hz12 : w1.heap.size ≤ w1.heap.size := Nat.le_refl _
  clear hoo HWI2
  cases o1 <;> cases o2
  rotate_left 3
  ·cases hoo'
  all_goals
   clear hoo'
   obtain ⟨q1, q2⟩ := HNO.out HWF.out
   have HC := Lib.hid q1
   have HV := Lib.hid q2
   clear q1 q2
   go_wp2_with fail
   generalize hW3 : World.alloc w1 _ = w2
   have hb2 : Below w1.heap.size w1 w2 := hW3 ▸ bA
   clear hW3
   go_loopw [11, 10] (fun i ok wr => i = .int .i64 3 ∧ ok = .bool false ∧ w2 = wr) (fun _ _ _ => 0)
   case atStart => exact ⟨rfl, rfl, rfl⟩
   case round =>
    obtain ⟨rfl, rfl, rfl⟩ := hrel
    obtain ⟨r0, r1, r2, m0, m1, m2⟩ := HR0.out
    replace r0 := (cellB hb2 hzw1).trans r0
    replace r1 := (cellB hb2 hzw1).trans r1
    replace r2 := (cellB hb2 hzw1).trans r2
    replace m0 := (frozenB hb2 hzw1).trans m0
    replace m1 := (frozenB hb2 hzw1).trans m1
    replace m2 := (frozenB hb2 hzw1).trans m2
    have hbw2 := bthen hbw1 hb2
    obtain ⟨g0, g1, g2⟩ := set3_cells (x := .int .i64 0) (y := .int .i64 0) (z := .slice none 0 0) r0 r1 r2
    go_wp2_with fail
    all_goals refine bodyPost_ret (v := .tuple #[.agg #[.int .i64 0, .int .i64 0, .slice none 0 0], .int .i64 5]) (by simp [results, Tryz.results4, go_sem, g0, g1, g2]) rfl ⟨[.int .i64 0, .int .i64 0, .slice none 0 0], by rw [HC.out], by rw [HV.out]; exact fr_frm0, set3_below hbw2 (by omega)⟩
 obtain ⟨rfl, rfl⟩ : o1 = true ∧ o2 = true := by simpa using hoo
 clear hoo
 have hw3 : 3 ≤ W.length := by omega
 have hw19 : W.length ≤ 19 := by omega
 go_wp2_with fail
 generalize hW3 : World.alloc w1 _ = w2
 have hb2 : Below w1.heap.size w1 w2 := hW3 ▸ bA
 have hsw2 : w1.heap.size + 1 ≤ w2.heap.size := by rw [← hW3]; simp
 have x0 : w2.cell? ⟨w1.heap.size, 0, none⟩ = some (.int .i64 n1) := by rw [← hW3]; simp [go_sem]
 have x1 : w2.cell? ⟨w1.heap.size, 1, none⟩ = some (.int .i64 n2) := by rw [← hW3]; simp [go_sem]
 have x2 : w2.cell? ⟨w1.heap.size, 2, none⟩ = some (.slice none 0 0) := by rw [← hW3]; simp [go_sem]
 have xm : w2.frozen? ⟨w1.heap.size, 2, none⟩ = false := by rw [← hW3]; simp [go_sem]
 clear hW3
 go_loopw [11, 10] (fun i ok wr => ∃ (k : Nat) (va : Value), 3 ≤ k ∧ k ≤ W.length ∧ i = .int .i64 k ∧ ok = .bool (((W.take k).drop 3).all okS) ∧ Bl opT 36 (w1.heap.size + 1) wr.heap.size wr va (((W.take k).drop 3).map atomS) ∧ wr.cell? ⟨w1.heap.size, 0, none⟩ = some (.int .i64 n1) ∧ wr.cell? ⟨w1.heap.size, 1, none⟩ = some (.int .i64 n2) ∧ wr.cell? ⟨w1.heap.size, 2, none⟩ = some va ∧ wr.frozen? ⟨w1.heap.size, 2, none⟩ = false ∧ Below w1.heap.size w1 wr ∧ w1.heap.size + 1 ≤ wr.heap.size) (fun i _ _ => W.length - (intOf i).toNat)
 case atStart => exact ⟨3, _, Nat.le_refl _, hw3, rfl, by rw [List.drop_eq_nil_of_le (List.length_take_le _ _)]; rfl, by rw [List.drop_eq_nil_of_le (List.length_take_le _ _)]; exact Bl.nil, x0, x1, x2, xm, hb2, hsw2⟩
 case round =>
  clear x0 x1 x2 xm
  obtain ⟨k, va, hk3, hkW, rfl, hok, hBl, x0, x1, x2, xm, hbe, hzr⟩ := hrel
  obtain ⟨wv, rfl⟩ : ∃ wv : World, wv = wr := ⟨_, rfl⟩
  obtain ⟨o, ho⟩ : ∃ o, ((W.take k).drop 3).all okS = o := ⟨_, rfl⟩
  rw [ho] at hok
  subst hok
  have HO := Lib.hid ho
  have HB := Lib.hid hBl
  have hml : (((W.take k).drop 3).map atomS).length ≤ 16 := by rw [List.length_map, List.length_drop, List.length_take]; omega
  have HPRE : Hid (o = false → (W.drop 3).all okS = false) := fun h => by
   rw [← ho] at h
   obtain ⟨x, hx, hx2⟩ := List.all_eq_false.1 h
   exact List.all_eq_false.2 ⟨x, by
    have e : (W.take k).drop 3 = (W.drop 3).take (k - 3) := by rw [List.drop_take]
    rw [e] at hx
    exact List.mem_of_mem_take hx, hx2⟩
  clear ho hBl
  cases o
  ·obtain ⟨q1, q2⟩ := HNO.out (by rw [HWI2.out, HPRE.out rfl]; rfl)
   have HC := Lib.hid q1
   have HV := Lib.hid q2
   clear q1 q2
   obtain ⟨r0, r1, r2, m0, m1, m2⟩ := HR0.out
   replace r0 := (cellB hbe hzw1).trans r0
   replace r1 := (cellB hbe hzw1).trans r1
   replace r2 := (cellB hbe hzw1).trans r2
   replace m0 := (frozenB hbe hzw1).trans m0
   replace m1 := (frozenB hbe hzw1).trans m1
   replace m2 := (frozenB hbe hzw1).trans m2
   have hbw2 := bthen hbw1 hbe
   obtain ⟨g0, g1, g2⟩ := set3_cells (x := .int .i64 0) (y := .int .i64 0) (z := .slice none 0 0) r0 r1 r2
   go_wp2_with fail
   all_goals refine bodyPost_ret (v := .tuple #[.agg #[.int .i64 0, .int .i64 0, .slice none 0 0], .int .i64 5]) (by simp [results, Tryz.results4, go_sem, g0, g1, g2]) rfl ⟨[.int .i64 0, .int .i64 0, .slice none 0 0], by rw [HC.out], by rw [HV.out]; exact fr_frm0, set3_below hbw2 (by omega)⟩
  by_cases hkl : k < W.length
  rotate_left
  ·obtain rfl : k = W.length := by omega
   rw [List.take_length] at HB HO hml
   have hfr := HB.out.fr (by unfold capMax; omega)
   obtain ⟨za, zn, zc, rfl⟩ := ex_slice hfr
   obtain ⟨r0, r1, r2, m0, m1, m2⟩ := HR0.out
   replace r0 := (cellB hbe hzw1).trans r0
   replace r1 := (cellB hbe hzw1).trans r1
   replace r2 := (cellB hbe hzw1).trans r2
   replace m0 := (frozenB hbe hzw1).trans m0
   replace m1 := (frozenB hbe hzw1).trans m1
   replace m2 := (frozenB hbe hzw1).trans m2
   have HFF : Hid (frmT.Fr (w1.heap.size + 1) wv [.int .i64 n1, .int .i64 n2, .slice za zn zc] (n1, n2, (W.drop 3).map atomS)) := fr_cons (I64.small (by omega) (by omega)) (fr_cons (I64.small (by omega) (by omega)) hfr)
   have HWR : Hid (wrdS W = true) := by unfold Hid; rw [HWI2.out, HO.out]; rfl
   have hbwv := bthen hbw1 hbe
   clear hfr HB HO HPRE HWI2
   generalize (W.drop 3).map atomS = A at HFF HFI hml
   have HPT : Hid (frmT.Pt wv (.pointer (some ⟨w1.heap.size, 0, none⟩)) (n1, n2, A)) := ⟨w1.heap.size, 0, _, rfl, by omega, HFF.out.rd, fun j hj => by
    rcases (show j = 0 ∨ j = 1 ∨ j = 2 by simp at hj; omega) with rfl | rfl | rfl
    ·exact x0
    ·exact x1
    ·exact x2⟩
   cases hS : tb (shF (n1, n2, A))
   ·obtain ⟨q1, q2⟩ := rf_no hd (fun ⟨f, hf⟩ => by
     have h1 := (HWP.out f hf).2.2
     rw [HFI.out] at h1
     have h2 := tb_true hf.1
     rw [← h1, hS] at h2
     cases h2)
    have HC := Lib.hid q1
    have HV := Lib.hid q2
    clear q1 q2
    go_wp2_with fail
    refine (l03Shown_quiet _ HPT.out).mono ?_
    rintro e w8 ⟨rfl, hq8⟩
    rw [hS]
    have hb8 := hq8.below
    have hB8 := bthen hbwv hb8
    have hzw : w.heap.size < wv.heap.size := by omega
    replace r0 := (cellB hb8 (by omega)).trans r0
    replace r1 := (cellB hb8 (by omega)).trans r1
    replace r2 := (cellB hb8 (by omega)).trans r2
    replace m0 := (frozenB hb8 (by omega)).trans m0
    replace m1 := (frozenB hb8 (by omega)).trans m1
    replace m2 := (frozenB hb8 (by omega)).trans m2
    obtain ⟨g0, g1, g2⟩ := set3_cells (x := .int .i64 0) (y := .int .i64 0) (z := .slice none 0 0) r0 r1 r2
    go_wp2_with fail
    refine bodyPost_ret (v := .tuple #[.agg #[.int .i64 0, .int .i64 0, .slice none 0 0], .int .i64 5]) (by simp [results, Tryz.results4, go_sem, g0, g1, g2]) rfl ⟨[.int .i64 0, .int .i64 0, .slice none 0 0], by rw [HC.out], by rw [HV.out]; exact fr_frm0, set3_below hB8 (by omega)⟩
   have HSH := Lib.hid (tb_iff.1 hS)
   go_wp2_with fail
   refine (l03Shown_quiet _ HPT.out).mono ?_
   rintro e w7 ⟨rfl, hq7⟩
   rw [hS]
   have hb7 := hq7.below
   have hbw7 := bthen hbwv hb7
   have hz7 := hb7.size
   have HPT7 := Lib.hid (HPT.out.below hb7)
   have HFF7 := Lib.hid (HFF.out.below hb7)
   have hzw : w.heap.size < wv.heap.size := by omega
   replace r0 := (cellB hb7 (by omega)).trans r0
   replace r1 := (cellB hb7 (by omega)).trans r1
   replace r2 := (cellB hb7 (by omega)).trans r2
   replace x0 := (cellB hb7 (by omega)).trans x0
   replace x1 := (cellB hb7 (by omega)).trans x1
   replace x2 := (cellB hb7 (by omega)).trans x2
   replace m0 := (frozenB hb7 (by omega)).trans m0
   replace m1 := (frozenB hb7 (by omega)).trans m1
   replace m2 := (frozenB hb7 (by omega)).trans m2
   go_wp2_with fail
   refine (l03Text_any _ HPT7.out HSH.out).mono ?_
   rintro e w8 ⟨rfl, hb8⟩
   have hcm : ((bs (txF (n1, n2, A))).toList == (bs t).toList) = (txF (n1, n2, A) == t) := bs_beq
   have hcm2 : (txF (n1, n2, A) == (bs t).toList) = (txF (n1, n2, A) == t) := by
    rw [show (bs t).toList = t from ByteArray.toList_mk _]
   have hcm3 : (txF (n1, n2, A) != (bs t).toList) = !(txF (n1, n2, A) == t) := by
    rw [show (bs t).toList = t from ByteArray.toList_mk _]; rfl
   have HFF8 := Lib.hid (HFF7.out.below hb8)
   have hB8 := bthen hbw7 hb8
   have hz8 := hb8.size
   replace r0 := (cellB hb8 (by omega)).trans r0
   replace r1 := (cellB hb8 (by omega)).trans r1
   replace r2 := (cellB hb8 (by omega)).trans r2
   replace x0 := (cellB hb8 (by omega)).trans x0
   replace x1 := (cellB hb8 (by omega)).trans x1
   replace x2 := (cellB hb8 (by omega)).trans x2
   replace m0 := (frozenB hb8 (by omega)).trans m0
   replace m1 := (frozenB hb8 (by omega)).trans m1
   replace m2 := (frozenB hb8 (by omega)).trans m2
   cases hc : (txF (n1, n2, A) == t)
   ·obtain ⟨q1, q2⟩ := rf_no hd (fun ⟨f, hf⟩ => by
     have h1 := (HWP.out f hf).2.2
     rw [HFI.out] at h1
     have h2 := hf.2
     rw [← h1] at h2
     rw [h2] at hc
     simp at hc)
    have HC := Lib.hid q1
    have HV := Lib.hid q2
    clear q1 q2
    rw [hc] at hcm hcm2 hcm3
    obtain ⟨g0, g1, g2⟩ := set3_cells (x := .int .i64 0) (y := .int .i64 0) (z := .slice none 0 0) r0 r1 r2
    go_wp2_with fail
    refine bodyPost_ret (v := .tuple #[.agg #[.int .i64 0, .int .i64 0, .slice none 0 0], .int .i64 5]) (by simp [results, Tryz.results4, go_sem, g0, g1, g2]) rfl ⟨[.int .i64 0, .int .i64 0, .slice none 0 0], by rw [HC.out], by rw [HV.out]; exact fr_frm0, set3_below hB8 (by omega)⟩
   ·obtain ⟨q1, q2⟩ := rf_ok hd (f := (n1, n2, A)) ⟨HSH.out, beq_iff_eq.1 hc⟩
    have HC := Lib.hid q1
    have HV := Lib.hid q2
    clear q1 q2
    rw [hc] at hcm hcm2 hcm3
    obtain ⟨g0, g1, g2⟩ := set3_cells (x := .int .i64 n1) (y := .int .i64 n2) (z := .slice za zn zc) r0 r1 r2
    go_wp2_with fail
    refine bodyPost_ret (v := .tuple #[.agg #[.int .i64 n1, .int .i64 n2, .slice za zn zc], .int .i64 0]) (by simp [results, Tryz.results4, go_sem, g0, g1, g2]) rfl ⟨[.int .i64 n1, .int .i64 n2, .slice za zn zc], by rw [HC.out], by rw [HV.out]; exact (((HFF8.out.set (a := ⟨w.heap.size, 0, none⟩) (show w.heap.size < w1.heap.size + 1 by omega)).set (a := ⟨w.heap.size, 1, none⟩) (show w.heap.size < w1.heap.size + 1 by omega)).set (a := ⟨w.heap.size, 2, none⟩) (show w.heap.size < w1.heap.size + 1 by omega)).mono (by omega), set3_below hB8 (by omega)⟩
  have ek : w1.cell? ⟨wb, wo + k, none⟩ = some (.string (bs W[k])) := HWC2.out k hkl
  replace ek := (cellB hbe hwb).trans ek
  have HLK : Hid ((W[k]).length ≤ 20000) := HWI.out _ (List.getElem_mem _)
  have hkd : k - 3 < (W.drop 3).length := by rw [List.length_drop]; omega
  have hget : (W.drop 3)[k - 3] = W[k] := by rw [List.getElem_drop]; congr 1; omega
  have HTK : Hid ((W.take (k + 1)).drop 3 = (W.take k).drop 3 ++ [W[k]]) := by
   unfold Hid
   rw [List.drop_take, List.drop_take, show k + 1 - 3 = k - 3 + 1 by omega, List.take_succ_eq_append_getElem hkd, hget]
  have HBAD : Hid (okS W[k] = false → (W.drop 3).all okS = false) := fun h => List.all_eq_false.2 ⟨W[k], hget ▸ List.getElem_mem hkd, by rw [h]; simp⟩
  clear hkd hget HPRE
  generalize W[k] = Wk at ek HLK HTK HBAD
  go_wp2_with fail
  refine (l01Split_any wv (t := Wk) (b := 58) (by have := HLK.out; omega)).mono ?_
  rintro e w3 ⟨u, rfl, hfr3, hb3⟩
  obtain ⟨pad, pcap, hpv, -, hpl, hpc⟩ := strs_ex hfr3.rd
  obtain rfl : u = _ := by simpa using hpv
  have HPC := Lib.hid hpc
  have HE : Hid (okS Wk = (((cutS 58 Wk).length == 2 && decide (0 < ((cutS 58 Wk).getD 0 []).length)) && (relS ((cutS 58 Wk).getD 0 [])).2)) := rfl
  have HAT : Hid (atomS Wk = ((relS ((cutS 58 Wk).getD 0 [])).1, ((cutS 58 Wk).getD 1 []).map dgV)) := rfl
  have HIN : Hid (∀ x ∈ cutS 58 Wk, x.length ≤ 20000) := fun x hx => Nat.le_trans (cutS_in x hx) HLK.out
  generalize cutS 58 Wk = P at HPC HE HAT HIN hpl
  have hbe3 : Below w1.heap.size w1 w3 := bthen hbe hb3
  have hz3 := hb3.size
  have hzx : w1.heap.size < wv.heap.size := by omega
  replace x0 := (cellB hb3 (by omega)).trans x0
  replace x1 := (cellB hb3 (by omega)).trans x1
  replace x2 := (cellB hb3 (by omega)).trans x2
  replace xm := (frozenB hb3 (by omega)).trans xm
  have HB3 : Hid (Bl opT 36 (w1.heap.size + 1) wv.heap.size w3 va (((W.take k).drop 3).map atomS)) := HB.out.below hb3 (Nat.le_refl _)
  have HR3 : Hid ((w3.cell? ⟨w.heap.size, 0, none⟩ = some (.int .i64 0) ∧ w3.cell? ⟨w.heap.size, 1, none⟩ = some (.int .i64 0) ∧ w3.cell? ⟨w.heap.size, 2, none⟩ = some (.slice none 0 0)) ∧ w3.frozen? ⟨w.heap.size, 0, none⟩ = false ∧ w3.frozen? ⟨w.heap.size, 1, none⟩ = false ∧ w3.frozen? ⟨w.heap.size, 2, none⟩ = false) := by
   obtain ⟨r0, r1, r2, m0, m1, m2⟩ := HR0.out
   exact ⟨⟨(cellB hbe3 hzw1).trans r0, (cellB hbe3 hzw1).trans r1, (cellB hbe3 hzw1).trans r2⟩, (frozenB hbe3 hzw1).trans m0, (frozenB hbe3 hzw1).trans m1, (frozenB hbe3 hzw1).trans m2⟩
  have hbw3 := bthen hbw1 hbe3
  have HBAD2 : Hid (okS Wk = false → rfC t = 5 ∧ rfV t = (0, 0, [])) := fun h => HNO.out (by rw [HWI2.out, HBAD.out h]; rfl)
  clear hpv hfr3 hpc HB ek
  by_cases hp2 : P.length = 2
  rotate_left
  ·obtain ⟨q1, q2⟩ := HBAD2.out (by rw [HE.out, show (P.length == 2) = false by simpa using hp2]; rfl)
   have HC := Lib.hid q1
   have HV := Lib.hid q2
   clear q1 q2
   obtain ⟨⟨r0, r1, r2⟩, m0, m1, m2⟩ := HR3.out
   have hpn : (((P.length : Nat) : Int) == 2) = false := by rw [beq_eq_false_iff_ne]; omega
   have hpn' : (P.length == 2) = false := by simpa using hp2
   obtain ⟨g0, g1, g2⟩ := set3_cells (x := .int .i64 0) (y := .int .i64 0) (z := .slice none 0 0) r0 r1 r2
   go_wp2_with fail
   refine bodyPost_ret (v := .tuple #[.agg #[.int .i64 0, .int .i64 0, .slice none 0 0], .int .i64 5]) (by simp [results, Tryz.results4, go_sem, g0, g1, g2]) rfl ⟨[.int .i64 0, .int .i64 0, .slice none 0 0], by rw [HC.out], by rw [HV.out]; exact fr_frm0, set3_below hbw3 (by omega)⟩
  obtain ⟨P0, P1, rfl⟩ : ∃ P0 P1, P = [P0, P1] := by
   match P, hp2 with
   | [a, b], _ => exact ⟨a, b, rfl⟩
  obtain ⟨pb, po, rfl, hpb, hpc⟩ := HPC.out (by simp)
  have p0 : w3.cell? ⟨pb, po, none⟩ = some (.string (bs P0)) := hpc 0 (by simp)
  have p1 : w3.cell? ⟨pb, po + 1, none⟩ = some (.string (bs P1)) := hpc 1 (by simp)
  have hl0 : P0.length ≤ 20000 := HIN.out _ (by simp)
  have hl1 : P1.length ≤ 20000 := HIN.out _ (by simp)
  clear hpc HPC HIN hp2 hpl
  have HE2 : Hid (okS Wk = (decide (0 < P0.length) && (relS P0).2)) := HE.out
  have HAT2 : Hid (atomS Wk = ((relS P0).1, P1.map dgV)) := HAT.out
  clear HE HAT
  obtain ⟨S0, hS0⟩ : ∃ S0, S0 = bs P0 := ⟨_, rfl⟩
  obtain ⟨S1, hS1⟩ : ∃ S1, S1 = bs P1 := ⟨_, rfl⟩
  have hs0 : S0.size = P0.length := by rw [hS0, bs_size]
  have hs1 : S1.size = P1.length := by rw [hS1, bs_size]
  have HX0 : Hid (S0.extract 1 P0.length = bs (P0.drop 1)) := by unfold Hid; rw [hS0, bs_sub, List.take_length]
  have HG0 : Hid (∀ i (h : i < S0.size) (h' : i < P0.length), S0[i] = P0[i]) := fun i h h' => by subst hS0; exact bs_get h
  have HGP : Hid (∀ i (h : i < S1.size) (h' : i < P1.length), S1[i] = P1[i]) := fun i h h' => by subst hS1; exact bs_get h
  have HS0 := Lib.hid hS0
  rw [← hS0] at p0
  rw [← hS1] at p1
  clear hS0 hS1
  by_cases hp00 : 0 < P0.length
  rotate_left
  ·obtain ⟨q1, q2⟩ := HBAD2.out (by rw [HE2.out, show decide (0 < P0.length) = false by simpa using hp00]; rfl)
   have HC := Lib.hid q1
   have HV := Lib.hid q2
   clear q1 q2
   obtain ⟨⟨r0, r1, r2⟩, m0, m1, m2⟩ := HR3.out
   obtain ⟨g0, g1, g2⟩ := set3_cells (x := .int .i64 0) (y := .int .i64 0) (z := .slice none 0 0) r0 r1 r2
   go_wp2_with fail
   refine bodyPost_ret (v := .tuple #[.agg #[.int .i64 0, .int .i64 0, .slice none 0 0], .int .i64 5]) (by simp [results, Tryz.results4, go_sem, g0, g1, g2]) rfl ⟨[.int .i64 0, .int .i64 0, .slice none 0 0], by rw [HC.out], by rw [HV.out]; exact fr_frm0, set3_below hbw3 (by omega)⟩
  have HE3 : Hid (okS Wk = (relS P0).2) := by unfold Hid; rw [HE2.out, show decide (0 < P0.length) = true by simpa using hp00]; rfl
  clear HE2 HBAD2 HR3
  have hq0 : (S0.toList == [61]) = (P0 == [61]) := by rw [HS0.out, show (bs P0).toList = P0 from ByteArray.toList_mk _]
  have hq1 : (S0.toList != [61]) = !(P0 == [61]) := by rw [HS0.out, show (bs P0).toList = P0 from ByteArray.toList_mk _]; rfl
  cases hq : (P0 == [61])
  all_goals rw [hq] at hq0 hq1
  focus
   have HRS : Hid (relS P0 = ((numS (P0.drop 1)).1, (numS (P0.drop 1)).2 && (P0.headD 0 == 82))) := by unfold Hid relS; rw [hq]
   have hx := HX0.out
   obtain ⟨n3, b3, hn3⟩ : ∃ n3 b3, numS (P0.drop 1) = (n3, b3) := ⟨_, _, rfl⟩
   have hi3 : 0 ≤ n3 ∧ n3 < 1000000000 := by have := numS_bd (t := P0.drop 1); rw [hn3] at this; exact this
   have HN3 := Lib.hid hn3
   have HRS2 : Hid (relS P0 = (n3, b3 && (P0.headD 0 == 82))) := by unfold Hid; rw [HRS.out, hn3]
   have hpd : (P0.drop 1).length ≤ 20000 := by rw [List.length_drop]; omega
   clear hn3 HRS
   generalize P0.drop 1 = PD at hx HN3 hpd
   go_wp2_with fail
   refine (l01Number_any _ (t := PD) (by omega)).mono ?_
   rintro e _ ⟨rfl, rfl⟩
   rw [HN3.out]
   have hlt0 : 0 < S0.size := by omega
   obtain ⟨h82, hh82⟩ : ∃ h82, (P0.headD 0 == 82) = h82 := ⟨_, rfl⟩
   have hg0 : ((((S0[0]).toNat : Nat) : Int) == 82) = h82 := by
    rw [HG0.out 0 hlt0 hp00, ← hh82]
    have e : P0.headD 0 = P0[0] := by
     cases P0 with
     | nil => simp at hp00
     | cons x r => rfl
    rw [e, Bool.eq_iff_iff]
    constructor
    ·intro h
     have := eq_of_beq h
     have h48 : (82 : UInt8).toNat = 82 := by decide
     exact beq_iff_eq.2 (UInt8.toNat_inj.1 (by omega))
    ·intro h
     rw [beq_iff_eq.1 h]
     decide
   rw [hh82] at HRS2
   generalize hW4 : World.alloc w3 _ = w4
   have hb4 : Below w3.heap.size w3 w4 := hW4 ▸ bA
   have hsw4 : w3.heap.size + 1 ≤ w4.heap.size := by rw [← hW4]; simp
   have g0 : ∃ z, w4.cell? ⟨w3.heap.size, 0, none⟩ = some z := ⟨_, by rw [← hW4]; simp [go_sem]; rfl⟩
   have g1 : w4.cell? ⟨w3.heap.size, 1, none⟩ = some (.slice none 0 0) := by rw [← hW4]; simp [go_sem]
   have gm0 : w4.frozen? ⟨w3.heap.size, 0, none⟩ = false := by rw [← hW4]; simp [go_sem]
   have gm : w4.frozen? ⟨w3.heap.size, 1, none⟩ = false := by rw [← hW4]; simp [go_sem]
   obtain ⟨z0, g0⟩ := g0
   clear hW4
   have p0' := (cellB hb4 hpb).trans p0
   have hrl : -5 ≤ n3 ∧ n3 < 1000000000 := by omega
   cases b3
   focus
    have HOKW : Hid (okS Wk = false) := by unfold Hid; rw [HE3.out, HRS2.out]; rfl
    go_wp2_with fail
   rotate_left
   focus
    have HOKW : Hid (okS Wk = h82) := by unfold Hid; rw [HE3.out, HRS2.out]; rfl
    go_wp2_with fail
   all_goals
    generalize hWa : World.setCell w4 _ _ = wa
    have g0' : wa.cell? ⟨w3.heap.size, 0, none⟩ = some (.int .i64 n3) := by rw [← hWa]; exact World.cell?_setCell_same _ _ _ g0
    have g1' : wa.cell? ⟨w3.heap.size, 1, none⟩ = some (.slice none 0 0) := by rw [← hWa]; exact (World.cell?_setCell_other _ _ _ _ (by simp)).trans g1
    have gm' : wa.frozen? ⟨w3.heap.size, 1, none⟩ = false := by rw [← hWa]; exact (World.frozen?_setCell _ _ _ _).trans gm
    have hba : Below w3.heap.size w3 wa := by rw [← hWa]; exact hb4.setCell (Nat.le_refl _) _
    have hza : w3.heap.size + 1 ≤ wa.heap.size := by rw [← hWa, size_set]; exact hsw4
    have HRL : Hid ((relS P0).1 = n3) := by unfold Hid; rw [HRS2.out]
    clear hWa g0 g1 gm gm0 hb4 hsw4 p0'
    generalize n3 = rl at HRL hrl g0'
    clear HRS2 HN3 hi3
  rotate_left 2
  focus
   have HRS : Hid (relS P0 = (-1, true)) := by unfold Hid relS; rw [hq]
   have HOKW : Hid (okS Wk = true) := by unfold Hid; rw [HE3.out, HRS.out]
   go_wp2_with fail
   generalize hWa : World.alloc w3 _ = wa
   have hba : Below w3.heap.size w3 wa := hWa ▸ bA
   have hza : w3.heap.size + 1 ≤ wa.heap.size := by rw [← hWa]; simp
   have g0' : wa.cell? ⟨w3.heap.size, 0, none⟩ = some (.int .i64 (-1)) := by rw [← hWa]; simp [go_sem]
   have g1' : wa.cell? ⟨w3.heap.size, 1, none⟩ = some (.slice none 0 0) := by rw [← hWa]; simp [go_sem]
   have gm' : wa.frozen? ⟨w3.heap.size, 1, none⟩ = false := by rw [← hWa]; simp [go_sem]
   have HRL : Hid ((relS P0).1 = -1) := by unfold Hid; rw [HRS.out]
   have hrl : -5 ≤ (-1 : Int) ∧ (-1 : Int) < 1000000000 := by decide
   clear hWa HRS
   generalize (-1 : Int) = rl at HRL hrl g0'
  all_goals
   have HAT3 : Hid (atomS Wk = (rl, P1.map dgV)) := by unfold Hid; rw [HAT2.out, HRL.out]
   clear HRL HAT2 HE3 hq0 hq1
   go_loopw [16] (fun j wr => ∃ (m : Nat) (vb : Value), m ≤ P1.length ∧ j = .int .i64 m ∧ Bl Ty.int 2 wa.heap.size wr.heap.size wr vb ((P1.take m).map dgV) ∧ wr.cell? ⟨w3.heap.size, 0, none⟩ = some (.int .i64 rl) ∧ wr.cell? ⟨w3.heap.size, 1, none⟩ = some vb ∧ wr.frozen? ⟨w3.heap.size, 1, none⟩ = false ∧ Below w3.heap.size w3 wr ∧ wa.heap.size ≤ wr.heap.size) (fun j _ => P1.length - (intOf j).toNat)
   case atStart => exact ⟨0, _, Nat.zero_le _, rfl, Bl.nil, g0', g1', gm', hba, Nat.le_refl _⟩
   case round =>
    clear g0' g1' gm' hba
    obtain ⟨m, vb, hm, rfl, hBb, g0, g1, gm, hbq, hzq⟩ := hrel
    obtain ⟨wq, rfl⟩ : ∃ wq : World, wq = wr := ⟨_, rfl⟩
    have hll : ((P1.take m).map dgV).length = m := by rw [List.length_map, List.length_take]; omega
    have hlm : ((P1.take m).map dgV).length ≤ 20000 := by omega
    obtain ⟨ya, yn, yc, rfl⟩ := ex_slice (hBb.fr (by unfold capMax; omega))
    have HBB := Lib.hid hBb
    clear hBb hll
    have p1r := (cellB hbq hpb).trans p1
    by_cases hml1 : m < P1.length
    ·have hms : m < S1.size := by omega
     have hgk := HGP.out m hms hml1
     have HSN : Hid ((P1.take (m + 1)).map dgV = (P1.take m).map dgV ++ [dgV P1[m]]) := by
      unfold Hid
      rw [List.take_succ_eq_append_getElem hml1, List.map_append]
      rfl
     generalize P1[m] = c at hgk HSN
     have hcb : c.toNat < 256 := c.toNat_lt
     obtain ⟨dd, hdd⟩ : ∃ dd : Int, ((c.toNat : Nat) : Int) - 48 = dd := ⟨_, rfl⟩
     have hdw : IntKind.i64.wrap (((c.toNat : Nat) : Int) - 48) = dd := by rw [hdd]; exact wrap_small (by omega) (by omega)
     have hcw : IntKind.i64.wrap ((c.toNat : Nat) : Int) = ((c.toNat : Nat) : Int) := wrap_small (by omega) (by omega)
     have HDD : Hid (dgV c = dd) := hdd
     have HI : Hid (I64 dd) := I64.small (by omega) (by omega)
     clear hdd
     go_wp2_with fail
     refine wp_region_T (fun w' => w'.cell? ⟨w3.heap.size, 1, none⟩ = some (.slice ya yn yc) ∧ w'.cell? ⟨pb, po + 1, none⟩ = some (.string S1)) [10, 12] (by kernel_rfl) ⟨g1, p1r⟩ (fun hHeld => ?_)
     refine wpAnyT_take (i := 0) (v := ?_) rfl (by kernel_rfl) (fun _ _ _ h => h) (Or.inl ⟨by rfl, ?_⟩) (by assumption) ?_
     rotate_left
     ·(intro w hSw; (try dsimp only at hSw); go_simp <;> with_reducible rfl)
     go_simp
     refine wpAnyT_take (i := 1) (v := ?_) rfl (by kernel_rfl) (fun _ _ _ h => h) (Or.inl ⟨by rfl, ?_⟩) (by assumption) ?_
     rotate_left
     ·(intro w hSw; (try dsimp only at hSw); go_simp <;> with_reducible rfl)
     go_simp
     refine wpAnyT_take (i := 2) (v := ?_) rfl (by kernel_rfl) (fun _ _ _ h => h) (Or.inl ⟨by rfl, ?_⟩) (by assumption) ?_
     rotate_left
     ·(intro w hSw; (try dsimp only at hSw); go_simp <;> with_reducible rfl)
     go_simp
     refine wpAnyT_take (i := 3) (v := ?_) rfl (by kernel_rfl) (fun _ _ _ h => h) (Or.inl ⟨by rfl, ?_⟩) (by assumption) ?_
     rotate_left
     ·(intro w hSw; (try dsimp only at hSw); go_simp <;> with_reducible rfl)
     go_simp
     refine wpAnyT_take (i := 4) (v := ?_) rfl (by kernel_rfl) (fun _ _ _ h => h) (Or.inl ⟨by rfl, ?_⟩) (by assumption) ?_
     rotate_left
     ·(intro w hSw; (try dsimp only at hSw); go_simp <;> with_reducible rfl)
     go_simp
     refine wpAnyT_take (i := 5) (v := ?_) rfl (by kernel_rfl) (fun _ _ _ h => h) (Or.inl ⟨by rfl, ?_⟩) (by assumption) ?_
     rotate_left
     ·(intro w hSw; (try dsimp only at hSw); go_simp <;> with_reducible rfl)
     go_simp
     refine wpAnyT_take (i := 6) (v := ?_) rfl (by kernel_rfl) (fun _ _ _ h => h) (Or.inl ⟨by rfl, ?_⟩) (by assumption) ?_
     rotate_left
     ·(intro w hSw; (try dsimp only at hSw); go_simp <;> with_reducible rfl)
     go_simp
     refine wpAnyT_take (i := 7) (v := ?_) rfl (by kernel_rfl) (fun _ _ _ h => h) (Or.inl ⟨by rfl, ?_⟩) (by assumption) ?_
     rotate_left
     ·(intro w hSw; (try dsimp only at hSw); go_simp <;> with_reducible rfl)
     go_simp
     refine wpAnyT_take (i := 8) (v := ?_) rfl (by kernel_rfl) (fun _ _ _ h => h) (Or.inl ⟨by rfl, ?_⟩) (by assumption) ?_
     rotate_left
     ·(intro w hSw; (try dsimp only at hSw); go_simp <;> with_reducible rfl)
     go_simp
     have hv0 : Below wq.heap.size wq wq.drew := bD
     have HB0 : Hid (Bl Ty.int 2 wa.heap.size wq.heap.size wq.drew (.slice ya yn yc) ((P1.take m).map dgV)) := HBB.out.below hv0 (Nat.le_refl _)
     have g0' := (cellB hv0 (show w3.heap.size < wq.heap.size by omega)).trans g0
     have gm' := (frozenB hv0 (show w3.heap.size < wq.heap.size by omega)).trans gm
     have hbq0 : Below w3.heap.size w3 wq.drew := bthen hbq hv0
     have hz0 := hv0.size
     clear g0 g1 gm p1r HBB hbq
     obtain ⟨x0', hx0'⟩ : ∃ x0 : World, x0 = wq.drew := ⟨_, rfl⟩
     rw [← hx0'] at hHeld hv0 HB0 g0' gm' hbq0 hz0 ⊢
     clear hx0'
     obtain ⟨g1, e1⟩ := hHeld
     refine wpAnyT_one (i := 9) rfl (by kernel_rfl) (fun K' hK' => ?_)
     go_simp
     refine hK'.out _ _ ⟨by go_keep, by go_keep⟩ (fun hHeld => ?_)
     clear hK' K'
     refine wpAnyT_last (i := 10) rfl (by kernel_rfl) (by kernel_rfl) (fun K' hK' => ?_)
     refine step_push (E := Ty.int) _ rfl _ _ 34 2 rfl elInt rfl (HB0.out.below ((bA (w := x0')).mono (by omega)) (Nat.le_refl _)) rfl news1 (fr_int HI.out) (by omega) (by decide) (by omega) (by first | (simp; done) | (simp; omega)) ?_
     intro v7 w7 hB7 hg7 _
     rw [← HDD.out, ← HSN.out] at hB7
     obtain ⟨za, zn, zc, rfl⟩ := ex_slice (hB7.fr (by rw [List.length_map, List.length_take]; unfold capMax; omega))
     have hb7 : Below wa.heap.size x0' w7 := ((bA (w := x0')).mono (by omega)).grown hg7 (by first | (simp; done) | (simp; omega)) (fun q hq => HB0.out.own hq)
     have i0 := (cellB hb7 (show w3.heap.size < wa.heap.size by omega)).trans g0'
     have i1 := (cellB hb7 (show w3.heap.size < wa.heap.size by omega)).trans g1
     have im := (frozenB hb7 (show w3.heap.size < wa.heap.size by omega)).trans gm'
     have hz7 := hb7.size
     have HB7 := Lib.hid hB7
     have hbq7 : Below w3.heap.size w3 w7 := hbq0.trans (hb7.mono (by omega))
     clear hB7 hg7 HB0
     refine hK'.out _ _ ?_
     clear hK' K'
     refine wpAnyT_any (i := 11) (v := ?_) rfl (by kernel_rfl) (fun _ _ _ h => h) (Or.inl ⟨by rfl, ?_⟩) (by first | exact fun _ => by assumption | (intro hp; exact absurd hp (by rw [show pastB _ _ = true by kernel_rfl]; simp))) ?_
     rotate_left
     ·(intro w hSw; (try dsimp only at hSw); go_simp <;> with_reducible rfl)
     try simp only [Act.put]
     refine wpAnyT_last (i := 12) rfl (by kernel_rfl) (by kernel_rfl) (fun K' hK' => ?_)
     go_simp
     refine hK'.out _ _ ?_
     clear hK' K'
     refine wpAnyT_done (by kernel_rfl) ?_ _
     go_simp
     go_wp2_with fail
     go_roundw
     case rel => exact ⟨m + 1, _, by omega, by go_num, by rw [size_set]; exact HB7.out.sameB (fun q h1 h2 => Below.heap_setCell _ _ _ _ (by simp; omega)), (World.cell?_setCell_other _ _ _ _ (by simp)).trans i0, World.cell?_setCell_same _ _ _ i1, (World.frozen?_setCell _ _ _ _).trans im, hbq7.setCell (Nat.le_refl _) _, by rw [size_set]; omega⟩
     case measure => simp [intOf]; omega
    ·obtain rfl : m = P1.length := by omega
     rw [List.take_length] at HBB hlm
     have HF := Lib.hid (HBB.out.fr (by unfold capMax; omega))
     have HFA : Hid (opT.Fr wa.heap.size wq [.int .i64 rl, .slice ya yn yc] (atomS Wk)) := by rw [HAT3.out]; exact fr_cons (I64.small (by omega) (by omega)) HF.out
     have HBQ : Hid (Bl opT 36 (w1.heap.size + 1) wv.heap.size wq va (((W.take k).drop 3).map atomS)) := HB3.out.below hbq hz3
     have k0 := (cellB hbq (show w1.heap.size < w3.heap.size by omega)).trans x0
     have k1 := (cellB hbq (show w1.heap.size < w3.heap.size by omega)).trans x1
     have k2 := (cellB hbq (show w1.heap.size < w3.heap.size by omega)).trans x2
     have km := (frozenB hbq (show w1.heap.size < w3.heap.size by omega)).trans xm
     have hbe5 : Below w1.heap.size w1 wq := bthen hbe3 hbq
     have hz5 := hbq.size
     have HTK2 : Hid (((W.take k).drop 3).map atomS ++ [atomS Wk] = ((W.take (k + 1)).drop 3).map atomS) := by unfold Hid; rw [HTK.out, List.map_append]; rfl
     have HOK2 : Hid (((W.take (k + 1)).drop 3).all okS = okS Wk) := by unfold Hid; rw [HTK.out, List.all_append, HO.out]; simp
     obtain ⟨xa, xn, xc, rfl⟩ := ex_slice (HBQ.out.fr (by unfold capMax; omega))
     clear HF HBB x0 x1 x2 xm HB3 hbq
     go_wp2_with (at_builtin; go_loud (refine wpList_push (E := opT) _ rfl _ _ 22 36 rfl elAtomS rfl (HBQ.out.below ((bA (w := wq)).mono (by omega)) (Nat.le_refl _)) rfl news2 ((HFA.out.below bA).mono (by omega)) (by omega) (by decide) (by omega) (by first | (simp; done) | (simp; omega)) ?_); intro v7 w7 hB7 hg7 hown; rw [HTK2.out] at hB7; obtain ⟨a7, n7, c7, rfl⟩ := ex_slice (hB7.fr (by rw [List.length_map, List.length_drop, List.length_take]; unfold capMax; omega)); have hb7 : Below (w1.heap.size + 1) wq w7 := ((bA (w := wq)).mono (by omega)).grown hg7 (by first | (simp; done) | (simp; omega)) (fun q hq => HBQ.out.own hq); have i0 := (cellB hb7 (by omega)).trans k0; have i1 := (cellB hb7 (by omega)).trans k1; have i2 := (cellB hb7 (by omega)).trans k2; have im := (frozenB hb7 (by omega)).trans km)
     have hz7 := hb7.size
     have HB7 := Lib.hid hB7
     have hbe7 : Below w1.heap.size w1 w7 := hbe5.trans (hb7.mono (by omega))
     have HOK3 := Lib.hid (HOK2.out.trans HOKW.out)
     clear hB7 hg7 hown
     go_wp2_with fail
     go_roundw
     case rel => exact ⟨k + 1, _, by omega, by omega, by go_num, by rw [HOK3.out], by rw [size_set]; exact HB7.out.sameB (fun q h1 h2 => Below.heap_setCell _ _ _ _ (by simp; omega)), (World.cell?_setCell_other _ _ _ _ (by simp)).trans i0, (World.cell?_setCell_other _ _ _ _ (by simp)).trans i1, World.cell?_setCell_same _ _ _ i2, (World.frozen?_setCell _ _ _ _).trans im, hbe7.setCell (Nat.le_refl _) _, by rw [size_set]; omega⟩
     case measure => simp [intOf]; omega
end Go.Proofs.YtmnjlhcbabhhlaaGreatDoor
namespace Go.Proofs.YtmnjlhcbabhhlaaGreatDoor
open Go.RowKit Go.Sort
/-- the pieces that Split lays -/
theorem split_row {t : List UInt8} : ((Lib.splitB ⟨#[32]⟩ 0 (Lib.countB (bs t) ⟨#[32]⟩) (bs t)).map Value.string) = (Lib.split t [32]).map (fun l => Value.string (bs l)) ∧ (Lib.split t [32]).length = Lib.countB (bs t) ⟨#[32]⟩ + 1 := by
 have h1 := Lib.splitB_data ⟨#[32]⟩ 0 (Lib.countB (bs t) ⟨#[32]⟩) (bs t)
 have h2 := Lib.splitB_all ⟨#[32]⟩ (by decide) 0 _ (bs t) rfl
 have hd : (bs t).data.toList = t := by simp [bs]
 have hc : Lib.countB (bs t) ⟨#[32]⟩ = Lib.count t [32] := by unfold Lib.countB; rw [hd]
 rw [hd, show (⟨#[32]⟩ : ByteArray).data.toList = [32] from rfl] at h1
 have h3 : Lib.split t [32] = (Lib.splitB ⟨#[32]⟩ 0 (Lib.countB (bs t) ⟨#[32]⟩) (bs t)).map (·.data.toList) := by
  rw [h1]; unfold Lib.split; rw [hc]
 refine ⟨?_, by rw [h3, List.length_map, h2]⟩
 rw [h3, List.map_map]
 refine List.map_congr_left fun x _ => ?_
 show Value.string x = Value.string (bs x.data.toList)
 simp [bs]
theorem splitK_in {sep : List UInt8} : ∀ {k : Nat} {s : List UInt8}, ∀ x ∈ Lib.splitK sep 0 k s, x.length ≤ s.length
 | 0, s, x, h => by rw [List.mem_singleton.1 h]; exact Nat.le_refl _
 | k + 1, s, x, h => by
  unfold Lib.splitK at h
  split at h
  ·rw [List.mem_singleton.1 h]; exact Nat.le_refl _
  ·rcases List.mem_cons.1 h with rfl | h
   ·simp only [List.length_take]; omega
   ·have := splitK_in x h
    simp only [List.length_drop] at this
    omega
set_option maxHeartbeats 6400000 in
set_option maxRecDepth 100000 in
theorem ReadFormula_any (w : World) (hp : RfPre w) {t : List UInt8} :
  Calls Tryz.prog 5 #[.string (bs t)] w (RetAC frmT w (rfV t) (rfC t)) := by
 obtain ⟨S, hS⟩ : ∃ S, S = bs t := ⟨_, rfl⟩
 have hsz : S.size = t.length := by rw [hS, bs_size]
 have HS := Lib.hid hS
 have HP := Lib.hid hp
 rw [← hS]
 clear hS hp
 cases hd : decide ((20000 : Int) < ((t.length : Nat) : Int))
 rotate_left
 ·obtain ⟨r1, r2⟩ := rf_big hd
  have HC := Lib.hid r1
  have HV := Lib.hid r2
  clear r1 r2
  go_enter Tryz.func5, Tryz.ntmps5
  go_wp2_with fail
  refine bodyPost_ret (v := .tuple #[.agg #[.int .i64 0, .int .i64 0, .slice none 0 0], .int .i64 2]) (by simp [results, Tryz.results5, go_sem]) rfl ⟨[.int .i64 0, .int .i64 0, .slice none 0 0], by rw [HC.out], by rw [HV.out]; exact fr_frm0, ?_⟩
  first | exact bA | exact set3_below bA (Nat.le_refl _) | exact (((bA).setCell (Nat.le_refl _) _).setCell (Nat.le_refl _) _).setCell (Nat.le_refl _) _
 have hln : t.length ≤ 20000 := by have := of_decide_eq_false hd; omega
 have hlt : ¬ (20000 : Int) < ((t.length : Nat) : Int) := by omega
 go_enter Tryz.func5, Tryz.ntmps5
 go_wp2_with fail
 generalize hW : World.alloc w _ = X
 have hbX : Below w.heap.size w X := hW ▸ bA
 have hsX : w.heap.size + 1 ≤ X.heap.size := by rw [← hW]; simp
 have r0 : X.cell? ⟨w.heap.size, 0, none⟩ = some (.int .i64 0) := by rw [← hW]; simp [go_sem]
 have r1 : X.cell? ⟨w.heap.size, 1, none⟩ = some (.int .i64 0) := by rw [← hW]; simp [go_sem]
 have r2 : X.cell? ⟨w.heap.size, 2, none⟩ = some (.slice none 0 0) := by rw [← hW]; simp [go_sem]
 have m0 : X.frozen? ⟨w.heap.size, 0, none⟩ = false := by rw [← hW]; simp [go_sem]
 have m1 : X.frozen? ⟨w.heap.size, 1, none⟩ = false := by rw [← hW]; simp [go_sem]
 have m2 : X.frozen? ⟨w.heap.size, 2, none⟩ = false := by rw [← hW]; simp [go_sem]
 clear hW
 rw [HS.out]
 obtain ⟨m, hm⟩ := (HP.out.below hbX).len
 refine (Tryz.strings_Split (bs t) ⟨#[32]⟩ m X (by rw [bs_size]; omega) hm (by decide)).mono ?_
 rintro e w1 ⟨rfl, hw1⟩
 obtain ⟨hrow, hlen⟩ := split_row (t := t)
 rw [hrow] at hw1
 rw [← hlen]
 have hb1 : Below X.heap.size X w1 := hw1 ▸ bA
 have HWC : Hid (∀ i (h : i < (Lib.split t [32]).length), w1.cell? ⟨X.heap.size, i, none⟩ = some (.string (bs (Lib.split t [32])[i]))) := fun i h => by
  rw [hw1]
  simp [h]
 have hsz1 : X.heap.size + 1 ≤ w1.heap.size := by rw [hw1]; simp
 have HRI : Hid (3 ≤ (Lib.split t [32]).length → (ftV (frmI (Lib.split t [32])) = t ↔ ∃ f, rfP t f)) := rfI_iff
 have HRV : Hid (∀ f, rfP t f → frmI (Lib.split t [32]) = f) := fun f h => rfI_val h
 have hWL : (Lib.split t [32]).length ≤ 20001 := by
  rw [hlen]
  have := Lib.countB_le ⟨#[32]⟩ (by decide) _ (bs t) (Nat.le_refl _)
  rw [bs_size] at this
  omega
 have HTW : Hid (∀ f, rfP t f → 3 ≤ (Lib.split t [32]).length) := fun f h => by
  have e := words_I h.1
  rw [h.2] at e
  rw [e]
  simp [fmW]
 have HWI : Hid (∀ x ∈ Lib.split t [32], x.length ≤ 20000) := fun x hx => Nat.le_trans (splitK_in x hx) hln
 generalize Lib.split t [32] = W at HWI HWC HRI HRV hWL HTW ⊢
 clear hw1 hrow hlen hm
 have hbw1 := bthen hbX hb1
 replace r0 := (cellB hb1 (by omega)).trans r0
 replace r1 := (cellB hb1 (by omega)).trans r1
 replace r2 := (cellB hb1 (by omega)).trans r2
 replace m0 := (frozenB hb1 (by omega)).trans m0
 replace m1 := (frozenB hb1 (by omega)).trans m1
 replace m2 := (frozenB hb1 (by omega)).trans m2
 have hz0 : w.heap.size < X.heap.size := by omega
 by_cases h3 : W.length < 3
 ·obtain ⟨q1, q2⟩ := rf_no hd (fun ⟨f, hf⟩ => by have := HTW.out f hf; omega)
  have HC := Lib.hid q1
  have HV := Lib.hid q2
  clear q1 q2
  have hA : decide (((W.length : Nat) : Int) < 3) = true := by simpa using (by omega : ((W.length : Nat) : Int) < 3)
  have hA' : decide (W.length < 3) = true := by simpa using h3
  obtain ⟨g0, g1, g2⟩ := set3_cells (x := .int .i64 0) (y := .int .i64 0) (z := .slice none 0 0) r0 r1 r2
  go_wp2_with fail
  refine bodyPost_ret (v := .tuple #[.agg #[.int .i64 0, .int .i64 0, .slice none 0 0], .int .i64 5]) (by simp [results, Tryz.results5, go_sem, g0, g1, g2]) rfl ⟨[.int .i64 0, .int .i64 0, .slice none 0 0], by rw [HC.out], by rw [HV.out]; exact fr_frm0, set3_below hbw1 (by omega)⟩
 have hA : decide (((W.length : Nat) : Int) < 3) = false := by simpa using (by omega : ¬ ((W.length : Nat) : Int) < 3)
 have hA' : decide (W.length < 3) = false := by simpa using h3
 have e1 := HWC.out 1 (by omega)
 have e2 := HWC.out 2 (by omega)
 have hl1 : (W[1]).length ≤ 20000 := HWI.out _ (List.getElem_mem _)
 have hl2 : (W[2]).length ≤ 20000 := HWI.out _ (List.getElem_mem _)
 have HG1 : Hid (W.getD 1 [] = W[1]) := by unfold Hid; rw [List.getD_eq_getElem?_getD, List.getElem?_eq_getElem]; rfl
 have HG2 : Hid (W.getD 2 [] = W[2]) := by unfold Hid; rw [List.getD_eq_getElem?_getD, List.getElem?_eq_getElem]; rfl
 have HP1 := Lib.hid (HP.out.below hbw1)
 generalize W[1] = W1 at e1 hl1 HG1
 generalize W[2] = W2 at e2 hl2 HG2
 go_wp2_with fail
 refine wp_region_box [(.plain, exO (.slice (some ⟨X.heap.size, 0, none⟩) W.length W.length)), (.plain, exO (.pointer (some ⟨X.heap.size, 1, none⟩))), (.plain, exO (.string (bs W1))), (.plain, exO (.int .i64 (numI W1))), (.plain, exO (.slice (some ⟨X.heap.size, 0, none⟩) W.length W.length)), (.plain, exO (.pointer (some ⟨X.heap.size, 2, none⟩))), (.plain, exO (.string (bs W2))), (.plain, exO (.int .i64 (numI W2))), (.plain, exO (.agg #[.int .i64 (numI W1), .int .i64 (numI W2), .slice none 0 0])), (.alloc, boxO 3), (.store, heldO (Ty.cons (Ty.cons Ty.val)) w1.heap.size (numI W1, numI W2, Value.slice none 0 0))] (by kernel_rfl) (by kernel_rfl) ⟨st_exO, st_exO, st_exO, st_exO, st_exO, st_exO, st_exO, st_exO, st_exO, st_boxO, st_heldO, trivial⟩ ⟨?j8_0, ?j8_1, ?j8_2, ?j8_3, ?j8_4, ?j8_5, ?j8_6, ?j8_7, ?j8_8, ?j8_9, ?j8_10, trivial⟩ ?hQ8
 case j8_0 =>
  intro a' w' ob hb hbo hal hd
  have e0 : a'.tmps[4]?.getD undef = .slice (some ⟨X.heap.size, 0, none⟩) W.length W.length := ev (slot_o2 hd 4 rfl rfl)
  go_simp
  exact ⟨_, ⟨rfl, Below.refl _ _⟩, rfl⟩
 case j8_1 =>
  intro a' w' ob hb hbo hal hd
  have e0 := ev (slot_w2 hd 18 (exO (.slice (some ⟨X.heap.size, 0, none⟩) W.length W.length)) rfl rfl)
  have hwl : (1 : Int) < ((W.length : Nat) : Int) := by omega
  have hwl' : 1 < W.length := by omega
  go_simp
  exact ⟨_, ⟨rfl, Below.refl _ _⟩, rfl⟩
 case j8_2 =>
  intro a' w' ob hb hbo hal hd
  have e0 := ev (slot_w2 hd 19 (exO (.pointer (some ⟨X.heap.size, 1, none⟩))) rfl rfl)
  have q0 := (cellB hb (show X.heap.size < w1.heap.size by omega)).trans e1
  go_simp
  exact ⟨_, ⟨rfl, Below.refl _ _⟩, rfl⟩
 case j8_3 =>
  intro a' w' ob hb hbo hal hd
  have e0 := ev (slot_w2 hd 20 (exO (.string (bs W1))) rfl rfl)
  go_simp
  exact ⟨rfl, Below.refl _ _, (readNumber_any w' (HP1.out.below hb) (t := W1) (by omega)).mono fun e w'' ⟨he, hb2⟩ => ⟨_, he, hb2, rfl⟩⟩
 case j8_4 =>
  intro a' w' ob hb hbo hal hd
  have e0 : a'.tmps[4]?.getD undef = .slice (some ⟨X.heap.size, 0, none⟩) W.length W.length := ev (slot_o2 hd 4 rfl rfl)
  go_simp
  exact ⟨_, ⟨rfl, Below.refl _ _⟩, rfl⟩
 case j8_5 =>
  intro a' w' ob hb hbo hal hd
  have e0 := ev (slot_w2 hd 22 (exO (.slice (some ⟨X.heap.size, 0, none⟩) W.length W.length)) rfl rfl)
  have hwl : (2 : Int) < ((W.length : Nat) : Int) := by omega
  have hwl' : 2 < W.length := by omega
  go_simp
  exact ⟨_, ⟨rfl, Below.refl _ _⟩, rfl⟩
 case j8_6 =>
  intro a' w' ob hb hbo hal hd
  have e0 := ev (slot_w2 hd 23 (exO (.pointer (some ⟨X.heap.size, 2, none⟩))) rfl rfl)
  have q0 := (cellB hb (show X.heap.size < w1.heap.size by omega)).trans e2
  go_simp
  exact ⟨_, ⟨rfl, Below.refl _ _⟩, rfl⟩
 case j8_7 =>
  intro a' w' ob hb hbo hal hd
  have e0 := ev (slot_w2 hd 24 (exO (.string (bs W2))) rfl rfl)
  go_simp
  exact ⟨rfl, Below.refl _ _, (readNumber_any w' (HP1.out.below hb) (t := W2) (by omega)).mono fun e w'' ⟨he, hb2⟩ => ⟨_, he, hb2, rfl⟩⟩
 case j8_8 =>
  intro a' w' ob hb hbo hal hd
  have e0 := ev (slot_w2 hd 21 (exO (.int .i64 (numI W1))) rfl rfl)
  have e3 := ev (slot_w2 hd 25 (exO (.int .i64 (numI W2))) rfl rfl)
  go_simp
  exact ⟨_, ⟨rfl, Below.refl _ _⟩, rfl⟩
 case j8_9 =>
  intro a' w' ob hb hbo hal hd
  obtain rfl := hal rfl
  go_simp
  exact ⟨_, ⟨rfl, by simp, bA⟩, _, rfl, rfl, by simp, box3⟩
 case j8_10 =>
  intro a' w' ob hb hbo hal hd
  obtain ⟨bb, rfl, e10, hbb, hcl⟩ := slot_w2 hd 5 (boxO 3) rfl rfl
  have e10' := ev e10
  have e47' := ev (slot_w2 hd 26 (exO (.agg #[.int .i64 (numI W1), .int .i64 (numI W2), .slice none 0 0])) rfl rfl)
  obtain ⟨⟨y0, c0⟩, f0⟩ := hcl 0 (by decide)
  obtain ⟨⟨y1, c1⟩, f1⟩ := hcl 1 (by decide)
  obtain ⟨⟨y2, c2⟩, f2⟩ := hcl 2 (by decide)
  go_simp
  exact held3 (E := Ty.cons (Ty.cons Ty.val)) (base := w1.heap.size) (x := (numI W1, numI W2, Value.slice none 0 0)) c0 c1 c2 (fp := []) ⟨_, rfl, numI_I, _, rfl, numI_I, rfl, rfl, rfl⟩ List.nodup_nil (by simp) (fun b hb => by cases hb) (by simp) undef
 intro vs8 w2 ob8 hb2 hbo8 J0
 obtain ⟨v8_0, _, rfl, q0, J1⟩ := HAll2_cons J0
 obtain ⟨v8_1, _, rfl, q1, J2⟩ := HAll2_cons J1
 obtain ⟨v8_2, _, rfl, q2, J3⟩ := HAll2_cons J2
 obtain ⟨v8_3, _, rfl, q3, J4⟩ := HAll2_cons J3
 obtain ⟨v8_4, _, rfl, q4, J5⟩ := HAll2_cons J4
 obtain ⟨v8_5, _, rfl, q5, J6⟩ := HAll2_cons J5
 obtain ⟨v8_6, _, rfl, q6, J7⟩ := HAll2_cons J6
 obtain ⟨v8_7, _, rfl, q7, J8⟩ := HAll2_cons J7
 obtain ⟨v8_8, _, rfl, q8, J9⟩ := HAll2_cons J8
 obtain ⟨v8_9, _, rfl, q9, J10⟩ := HAll2_cons J9
 obtain ⟨v8_10, _, rfl, q10, J11⟩ := HAll2_cons J10
 obtain rfl := HAll2_nil J11
 obtain rfl := id q0
 obtain rfl := id q1
 obtain rfl := id q2
 obtain rfl := id q3
 obtain rfl := id q4
 obtain rfl := id q5
 obtain rfl := id q6
 obtain rfl := id q7
 obtain rfl := id q8
 obtain ⟨bb, rfl, rfl, hltbb, hcl⟩ := id q9
 obtain ⟨_, cs, fpx, hob, hr1, -, -, -, -, kk⟩ := id q10
 simp only [Option.some.injEq] at hob
 subst hob
 obtain ⟨_, rfl, -, _, rfl, -, rfl, -⟩ := hr1
 have x0 : w2.cell? ⟨bb, 0, none⟩ = some (.int .i64 (numI W1)) := kk 0 (by simp)
 have x1 : w2.cell? ⟨bb, 1, none⟩ = some (.int .i64 (numI W2)) := kk 1 (by simp)
 have x2 : w2.cell? ⟨bb, 2, none⟩ = some (.slice none 0 0) := kk 2 (by simp)
 have xm := (hcl 2 (by decide)).2
 obtain ⟨hbb1, hbb2⟩ := hbo8 bb rfl
 have hbw2 := bthen hbw1 hb2
 have hz2 := hb2.size
 have hX1 : X.heap.size < w1.heap.size := by omega
 have h33 : (3 : Int) ≤ ((W.length : Nat) : Int) := by omega
 have h33' : 3 ≤ W.length := by omega
 have HR0 := Lib.hid (And.intro r0 (And.intro r1 (And.intro r2 (And.intro m0 (And.intro m1 m2)))))
 have HFI : Hid (frmI W = (numI W1, numI W2, (W.drop 3).map atomI)) := by unfold Hid frmI; rw [HG1.out, HG2.out]
 clear r0 r1 r2 m0 m1 m2 kk q0 q1 q2 q3 q4 q5 q6 q7 q8 q9 q10 hcl e1 e2 hbo8
 simp only [putAll, Act.put]
 go_simp
 by_cases h4 : 3 < W.length
 rotate_left
 ·have h4' : W.length = 3 := by omega
  have hfr : opsT.Fr w2.heap.size w2 [.slice none 0 0] ((W.drop 3).map atomI) := by
   rw [List.drop_eq_nil_of_le (by omega)]
   exact fr_nil
  go_wp2_with fail
  go_loopw [30] (fun i wr => i = .int .i64 0 ∧ w2 = wr) (fun _ _ => 0)
  case atStart => exact ⟨rfl, rfl⟩
  case round =>
   obtain ⟨rfl, rfl⟩ := hrel
   obtain ⟨r0, r1, r2, m0, m1, m2⟩ := HR0.out
   replace r0 := (cellB hb2 (show w.heap.size < w1.heap.size by omega)).trans r0
   replace r1 := (cellB hb2 (show w.heap.size < w1.heap.size by omega)).trans r1
   replace r2 := (cellB hb2 (show w.heap.size < w1.heap.size by omega)).trans r2
   replace m0 := (frozenB hb2 (show w.heap.size < w1.heap.size by omega)).trans m0
   replace m1 := (frozenB hb2 (show w.heap.size < w1.heap.size by omega)).trans m1
   replace m2 := (frozenB hb2 (show w.heap.size < w1.heap.size by omega)).trans m2
   have HFF : Hid (frmT.Fr w2.heap.size w2 [.int .i64 (numI W1), .int .i64 (numI W2), .slice none 0 0] (numI W1, numI W2, (W.drop 3).map atomI)) := fr_cons numI_I (fr_cons numI_I hfr)
   have hbwv := bthen hbw1 hb2
   clear hfr
   generalize (W.drop 3).map atomI = A at HFF HFI
   go_wp2_with fail
   refine (FormulaText_any w2 (cs := #[.int .i64 (numI W1), .int .i64 (numI W2), .slice none 0 0]) (x := (numI W1, numI W2, A)) HFF.out.rd).mono ?_
   rintro e w8 ⟨rfl, hb8⟩
   have hcm : ((bs (ftV (numI W1, numI W2, A))).toList == (bs t).toList) = (ftV (numI W1, numI W2, A) == t) := by
    rw [show (bs (ftV (numI W1, numI W2, A))).toList = ftV (numI W1, numI W2, A) from ByteArray.toList_mk _, show (bs t).toList = t from ByteArray.toList_mk _]
   have hcm2 : (ftV (numI W1, numI W2, A) == (bs t).toList) = (ftV (numI W1, numI W2, A) == t) := by
    rw [show (bs t).toList = t from ByteArray.toList_mk _]
   have hcm3 : (ftV (numI W1, numI W2, A) != (bs t).toList) = !(ftV (numI W1, numI W2, A) == t) := by
    rw [show (bs t).toList = t from ByteArray.toList_mk _]; rfl
   have HFF8 := Lib.hid (HFF.out.below hb8)
   have hB8 := bthen hbwv hb8
   have hz8 := hb8.size
   have hzw : w1.heap.size ≤ w2.heap.size := hb2.size
   replace r0 := (cellB hb8 (by omega)).trans r0
   replace r1 := (cellB hb8 (by omega)).trans r1
   replace r2 := (cellB hb8 (by omega)).trans r2
   replace x0 := (cellB hb8 (by omega)).trans x0
   replace x1 := (cellB hb8 (by omega)).trans x1
   replace x2 := (cellB hb8 (by omega)).trans x2
   replace m0 := (frozenB hb8 (by omega)).trans m0
   replace m1 := (frozenB hb8 (by omega)).trans m1
   replace m2 := (frozenB hb8 (by omega)).trans m2
   cases hc : (ftV (numI W1, numI W2, A) == t)
   ·obtain ⟨q1, q2⟩ := rf_no hd (fun hx => by have := (HRI.out h33').2 hx; rw [HFI.out] at this; rw [this] at hc; simp at hc)
    have HC := Lib.hid q1
    have HV := Lib.hid q2
    clear q1 q2
    rw [hc] at hcm hcm2 hcm3
    obtain ⟨g0, g1, g2⟩ := set3_cells (x := .int .i64 0) (y := .int .i64 0) (z := .slice none 0 0) r0 r1 r2
    go_wp2_with fail
    refine bodyPost_ret (v := .tuple #[.agg #[.int .i64 0, .int .i64 0, .slice none 0 0], .int .i64 5]) (by simp [results, Tryz.results5, go_sem, g0, g1, g2]) rfl ⟨[.int .i64 0, .int .i64 0, .slice none 0 0], by rw [HC.out], by rw [HV.out]; exact fr_frm0, set3_below hB8 (by omega)⟩
   ·obtain ⟨f, hf⟩ := (HRI.out h33').1 (by rw [HFI.out]; exact beq_iff_eq.1 hc)
    have hv := HRV.out f hf
    rw [HFI.out] at hv
    obtain ⟨q1, q2⟩ := rf_ok hd hf
    have HC := Lib.hid q1
    have HV : Hid (rfV t = (numI W1, numI W2, A)) := by unfold Hid; rw [q2, hv]
    clear q1 q2 hv hf
    rw [hc] at hcm hcm2 hcm3
    obtain ⟨g0, g1, g2⟩ := set3_cells (x := .int .i64 (numI W1)) (y := .int .i64 (numI W2)) (z := .slice none 0 0) r0 r1 r2
    go_wp2_with fail
    refine bodyPost_ret (v := .tuple #[.agg #[.int .i64 (numI W1), .int .i64 (numI W2), .slice none 0 0], .int .i64 0]) (by simp [results, Tryz.results5, go_sem, g0, g1, g2]) rfl ⟨[.int .i64 (numI W1), .int .i64 (numI W2), .slice none 0 0], by rw [HC.out], by rw [HV.out]; exact (((HFF8.out.set (a := ⟨w.heap.size, 0, none⟩) (show w.heap.size < w2.heap.size by omega)).set (a := ⟨w.heap.size, 1, none⟩) (show w.heap.size < w2.heap.size by omega)).set (a := ⟨w.heap.size, 2, none⟩) (show w.heap.size < w2.heap.size by omega)).mono (by omega), set3_below hB8 (by omega)⟩
 have h44 : (3 : Int) < ((W.length : Nat) : Int) := by omega
 have h45 : 0 < W.length - 3 := by omega
 go_wp2_with fail
 go_loopw [30] (fun i wr => ∃ (k : Nat) (va : Value), k + 3 ≤ W.length ∧ i = .int .i64 k ∧ Bl opT 36 w2.heap.size wr.heap.size wr va (((W.drop 3).take k).map atomI) ∧ wr.cell? ⟨bb, 0, none⟩ = some (.int .i64 (numI W1)) ∧ wr.cell? ⟨bb, 1, none⟩ = some (.int .i64 (numI W2)) ∧ wr.cell? ⟨bb, 2, none⟩ = some va ∧ wr.frozen? ⟨bb, 2, none⟩ = false ∧ Below w1.heap.size w1 wr ∧ w2.heap.size ≤ wr.heap.size) (fun i _ => W.length - (intOf i).toNat)
 case atStart => exact ⟨0, _, by omega, rfl, by simpa using Bl.nil, x0, x1, x2, xm, hb2, Nat.le_refl _⟩
 case round =>
  clear x0 x1 x2 xm
  obtain ⟨k, va, hk, rfl, hBl, x0, x1, x2, xm, hbe, hzr⟩ := hrel
  obtain ⟨wv, rfl⟩ : ∃ wv : World, wv = wr := ⟨_, rfl⟩
  have HB := Lib.hid hBl
  clear hBl
  by_cases hkl : k + 3 < W.length
  ·have e0 := (cellB hbe hX1).trans (HWC.out (3 + k) (by omega))
   have hwl : (W[3 + k]).length ≤ 20000 := HWI.out _ (List.getElem_mem _)
   have HTK : Hid ((((W.drop 3).take k).map atomI) ++ [atomI W[3 + k]] = ((W.drop 3).take (k + 1)).map atomI) := by
    have hkd : k < (W.drop 3).length := by rw [List.length_drop]; omega
    unfold Hid
    rw [List.take_succ_eq_append_getElem hkd, List.map_append]
    simp
   have hml : (((W.drop 3).take k).map atomI).length ≤ 30000 := by rw [List.length_map, List.length_take, List.length_drop]; omega
   generalize W[3 + k] = Wk at e0 hwl HTK
   go_wp2_with fail
   refine wp_region_T (fun w' => w'.cell? ⟨bb, 2, none⟩ = some va) [5, 7] (by kernel_rfl) x2 (fun hHeld => ?_)
   refine wpAnyT_take (i := 0) (v := ?_) rfl (by kernel_rfl) (fun _ _ _ h => h) (Or.inl ⟨by rfl, ?_⟩) (by assumption) ?_
   rotate_left
   ·(intro w hSw; (try dsimp only at hSw); go_simp <;> with_reducible rfl)
   go_simp
   refine wpAnyT_take (i := 1) (v := ?_) rfl (by kernel_rfl) (fun _ _ _ h => h) (Or.inl ⟨by rfl, ?_⟩) (by assumption) ?_
   rotate_left
   ·(intro w hSw; (try dsimp only at hSw); go_simp <;> with_reducible rfl)
   go_simp
   refine wpAnyT_take (i := 2) (v := ?_) rfl (by kernel_rfl) (fun _ _ _ h => h) (Or.inl ⟨by rfl, ?_⟩) (by assumption) ?_
   rotate_left
   ·(intro w hSw; (try dsimp only at hSw); go_simp <;> with_reducible rfl)
   go_simp
   have hv0 : Below wv.heap.size wv wv.drew := bD
   have HB0 : Hid (Bl opT 36 w2.heap.size wv.heap.size wv.drew va (((W.drop 3).take k).map atomI)) := HB.out.below hv0 (Nat.le_refl _)
   have hbv : bb < wv.heap.size := by omega
   replace x0 := (cellB hv0 hbv).trans x0
   replace x1 := (cellB hv0 hbv).trans x1
   replace xm := (frozenB hv0 hbv).trans xm
   have hbe0 : Below w1.heap.size w1 wv.drew := bthen hbe hv0
   have hz0' := hv0.size
   clear x2 hv0
   obtain ⟨y0, hy0⟩ : ∃ y0 : World, y0 = wv.drew := ⟨_, rfl⟩
   rw [← hy0] at hHeld HB0 x0 x1 xm hbe0 hz0' ⊢
   clear hy0
   refine wpAnyT_one (i := 3) rfl (by kernel_rfl) (fun K' hK' => ?_)
   go_simp
   go_at_call 15
   refine (readAtom_any y0 (HP1.out.below hbe0) (t := Wk) (by omega)).mono ?_
   rintro e y1 ⟨cs, rfl, hf, hb6⟩
   obtain ⟨fa, fc, rfl⟩ := fr_pair hf
   have HF := Lib.hid hf
   have hz6 := hb6.size
   have HB6 : Hid (Bl opT 36 w2.heap.size wv.heap.size y1 va (((W.drop 3).take k).map atomI)) := HB0.out.below hb6 hz0'
   have x2 := (cellB hb6 (by omega)).trans hHeld
   replace x0 := (cellB hb6 (by omega)).trans x0
   replace x1 := (cellB hb6 (by omega)).trans x1
   replace xm := (frozenB hb6 (by omega)).trans xm
   have hbe6 := bthen hbe0 hb6
   clear hf hHeld HB0
   dsimp only
   refine hK'.out _ _ x2 (fun hHeld => ?_)
   clear hK' K'
   refine wpAnyT_one (i := 4) rfl (by kernel_rfl) (fun K' hK' => ?_)
   go_simp
   refine hK'.out _ _ (by go_keep) (fun hHeld => ?_)
   clear hK' K'
   refine wpAnyT_last (i := 5) rfl (by kernel_rfl) (by kernel_rfl) (fun K' hK' => ?_)
   refine step_push (E := opT) _ rfl _ _ 22 36 rfl elAtomS rfl (HB6.out.below ((bA (w := y1)).mono (by omega)) (Nat.le_refl _)) rfl news2 ((HF.out.below bA).mono (by omega)) (by omega) (by decide) (by omega) (by first | (simp; done) | (simp; omega)) ?_
   intro v7 w7 hB7 hg7 _
   have hb7 : Below w2.heap.size y1 w7 := ((bA (w := y1)).mono (by omega)).grown hg7 (by first | (simp; done) | (simp; omega)) (fun q hq => HB6.out.own hq)
   have i0 := (cellB hb7 hbb2).trans x0
   have i1 := (cellB hb7 hbb2).trans x1
   have i2 := (cellB hb7 hbb2).trans x2
   have im := (frozenB hb7 hbb2).trans xm
   have hz7 := hb7.size
   have hbe7 : Below w1.heap.size w1 w7 := hbe6.trans (hb7.mono hz2)
   rw [HTK.out] at hB7
   obtain ⟨za, zn, zc, rfl⟩ := ex_slice (hB7.fr (by rw [List.length_map, List.length_take, List.length_drop]; unfold capMax; omega))
   have HB7 := Lib.hid hB7
   clear hB7 hg7 HB6
   refine hK'.out _ _ ?_
   clear hK' K'
   refine wpAnyT_any (i := 6) (v := ?_) rfl (by kernel_rfl) (fun _ _ _ h => h) (Or.inl ⟨by rfl, ?_⟩) (by first | exact fun _ => by assumption | (intro hp; exact absurd hp (by rw [show pastB _ _ = true by kernel_rfl]; simp))) ?_
   rotate_left
   ·(intro w hSw; (try dsimp only at hSw); go_simp <;> with_reducible rfl)
   try simp only [Act.put]
   refine wpAnyT_last (i := 7) rfl (by kernel_rfl) (by kernel_rfl) (fun K' hK' => ?_)
   go_simp
   refine hK'.out _ _ ?_
   clear hK' K'
   refine wpAnyT_done (by kernel_rfl) ?_ _
   go_simp
   go_wp2_with fail
   go_roundw
   case rel => exact ⟨k + 1, _, by omega, by go_num, by rw [size_set]; exact HB7.out.sameB (fun q h1 h2 => Below.heap_setCell _ _ _ _ (by simp; omega)), (World.cell?_setCell_other _ _ _ _ (by simp)).trans i0, (World.cell?_setCell_other _ _ _ _ (by simp)).trans i1, World.cell?_setCell_same _ _ _ i2, (World.frozen?_setCell _ _ _ _).trans im, hbe7.setCell hbb1 _, by rw [size_set]; omega⟩
   case measure => simp [intOf]; omega
  ·have hfr := HB.out.fr (by rw [List.length_map, List.length_take, List.length_drop]; unfold capMax; omega)
   rw [List.take_of_length_le (by rw [List.length_drop]; omega)] at hfr
   obtain ⟨za, zn, zc, rfl⟩ := ex_slice hfr
   obtain ⟨r0, r1, r2, m0, m1, m2⟩ := HR0.out
   replace r0 := (cellB hbe (show w.heap.size < w1.heap.size by omega)).trans r0
   replace r1 := (cellB hbe (show w.heap.size < w1.heap.size by omega)).trans r1
   replace r2 := (cellB hbe (show w.heap.size < w1.heap.size by omega)).trans r2
   replace m0 := (frozenB hbe (show w.heap.size < w1.heap.size by omega)).trans m0
   replace m1 := (frozenB hbe (show w.heap.size < w1.heap.size by omega)).trans m1
   replace m2 := (frozenB hbe (show w.heap.size < w1.heap.size by omega)).trans m2
   have HFF : Hid (frmT.Fr w2.heap.size wv [.int .i64 (numI W1), .int .i64 (numI W2), .slice za zn zc] (numI W1, numI W2, (W.drop 3).map atomI)) := fr_cons numI_I (fr_cons numI_I hfr)
   have hbwv := bthen hbw1 hbe
   clear hfr
   generalize (W.drop 3).map atomI = A at HFF HFI
   go_wp2_with fail
   refine (FormulaText_any wv (cs := #[.int .i64 (numI W1), .int .i64 (numI W2), .slice za zn zc]) (x := (numI W1, numI W2, A)) HFF.out.rd).mono ?_
   rintro e w8 ⟨rfl, hb8⟩
   have hcm : ((bs (ftV (numI W1, numI W2, A))).toList == (bs t).toList) = (ftV (numI W1, numI W2, A) == t) := by
    rw [show (bs (ftV (numI W1, numI W2, A))).toList = ftV (numI W1, numI W2, A) from ByteArray.toList_mk _, show (bs t).toList = t from ByteArray.toList_mk _]
   have hcm2 : (ftV (numI W1, numI W2, A) == (bs t).toList) = (ftV (numI W1, numI W2, A) == t) := by
    rw [show (bs t).toList = t from ByteArray.toList_mk _]
   have hcm3 : (ftV (numI W1, numI W2, A) != (bs t).toList) = !(ftV (numI W1, numI W2, A) == t) := by
    rw [show (bs t).toList = t from ByteArray.toList_mk _]; rfl
   have HFF8 := Lib.hid (HFF.out.below hb8)
   have hB8 := bthen hbwv hb8
   have hz8 := hb8.size
   have hzw : w1.heap.size ≤ wv.heap.size := hbe.size
   replace r0 := (cellB hb8 (by omega)).trans r0
   replace r1 := (cellB hb8 (by omega)).trans r1
   replace r2 := (cellB hb8 (by omega)).trans r2
   replace x0 := (cellB hb8 (by omega)).trans x0
   replace x1 := (cellB hb8 (by omega)).trans x1
   replace x2 := (cellB hb8 (by omega)).trans x2
   replace m0 := (frozenB hb8 (by omega)).trans m0
   replace m1 := (frozenB hb8 (by omega)).trans m1
   replace m2 := (frozenB hb8 (by omega)).trans m2
   cases hc : (ftV (numI W1, numI W2, A) == t)
   ·obtain ⟨q1, q2⟩ := rf_no hd (fun hx => by have := (HRI.out h33').2 hx; rw [HFI.out] at this; rw [this] at hc; simp at hc)
    have HC := Lib.hid q1
    have HV := Lib.hid q2
    clear q1 q2
    rw [hc] at hcm hcm2 hcm3
    obtain ⟨g0, g1, g2⟩ := set3_cells (x := .int .i64 0) (y := .int .i64 0) (z := .slice none 0 0) r0 r1 r2
    go_wp2_with fail
    refine bodyPost_ret (v := .tuple #[.agg #[.int .i64 0, .int .i64 0, .slice none 0 0], .int .i64 5]) (by simp [results, Tryz.results5, go_sem, g0, g1, g2]) rfl ⟨[.int .i64 0, .int .i64 0, .slice none 0 0], by rw [HC.out], by rw [HV.out]; exact fr_frm0, set3_below hB8 (by omega)⟩
   ·obtain ⟨f, hf⟩ := (HRI.out h33').1 (by rw [HFI.out]; exact beq_iff_eq.1 hc)
    have hv := HRV.out f hf
    rw [HFI.out] at hv
    obtain ⟨q1, q2⟩ := rf_ok hd hf
    have HC := Lib.hid q1
    have HV : Hid (rfV t = (numI W1, numI W2, A)) := by unfold Hid; rw [q2, hv]
    clear q1 q2 hv hf
    rw [hc] at hcm hcm2 hcm3
    obtain ⟨g0, g1, g2⟩ := set3_cells (x := .int .i64 (numI W1)) (y := .int .i64 (numI W2)) (z := .slice za zn zc) r0 r1 r2
    go_wp2_with fail
    refine bodyPost_ret (v := .tuple #[.agg #[.int .i64 (numI W1), .int .i64 (numI W2), .slice za zn zc], .int .i64 0]) (by simp [results, Tryz.results5, go_sem, g0, g1, g2]) rfl ⟨[.int .i64 (numI W1), .int .i64 (numI W2), .slice za zn zc], by rw [HC.out], by rw [HV.out]; exact (((HFF8.out.set (a := ⟨w.heap.size, 0, none⟩) (show w.heap.size < w2.heap.size by omega)).set (a := ⟨w.heap.size, 1, none⟩) (show w.heap.size < w2.heap.size by omega)).set (a := ⟨w.heap.size, 2, none⟩) (show w.heap.size < w2.heap.size by omega)).mono (by omega), set3_below hB8 (by omega)⟩
end Go.Proofs.YtmnjlhcbabhhlaaGreatDoor
