/-
The order of tuples; tuples at places; search in a relation.
Contracts: the tuple that an operation makes of tuples, the reference's.
Rows whose elements point into older memory of the call's own: they read as new data. No program is named here.
Rows of truth values; rows of slices that lie in older memory; indices of lists are one to one.
Plain: a relation that has all tuples; what an operation makes of tuples of a relation; whether it keeps the relation.
Contracts: the set of a relation's tuples, the reference's.
Contracts: the set of a relation's tuples, filled.
Constraints that hold for values: the program's and the reference's.
Contracts: counting lists, formulas of one atom; results that lie in new memory.
Contracts: atoms whose variables are renamed.
Contracts: hiding a variable of a formula: the reference's.
Contracts: hiding a variable of a formula: the program's.
Contracts: hiding a variable of a formula: the program's.
Contracts: a copy of a list by append, the limits of formulas; the law of an append of many numbers.
Contracts: whether an operation breaks a relation, the reference's.
A region that draws its order, with loads ahead of writes: one condition on the world lets the loads be taken first; it need hold no more once one of the last writes ('tail') has come up. Every load waits for none of these, and these wait for every load. No program is named here.
Contracts: slices.Clone, an instance in new memory.
Contracts: atoms that hold; the greatest number of a row.
Plain mathematics: the lists of tuples that a finder of operations looks at; which are due at each place; whether they go.
Plain mathematics of the search: the lists of values that begin with some and go all the way, in order; what a listener is told of them. No program is named here.
Readings that avoid some blocks; a search's own data; what a listener keeps and touches; an append to a full row. No program is named here.
A row of rows whose elements point into older memory, built by appends to its own elements; what it reads as. No program is named here.
Memory of a search for operations: blocks that may be written, as a property; rows whose data lie in such blocks; a row cut short; rows of truth values; pointers to sets. No program is named here.
-/
import Derived.Test.YtmnjlhcbabhhlaaGreatQAB
import Derived.Test.YtmnjlhcbabhhlaaGreatQAA
import Derived.Deep.RegionHeldLaw
import Derived.Deep.RegionLaw
import Derived.Deep.RegionHeld
import Derived.Below
namespace Go.Proofs.YtmnjlhcbabhhlaaGreat
open Go.RowKit Go.Sort
theorem cmpI_neg {x y : Int} : cmpI x y < 0 ↔ x < y := by
 unfold cmpI
 split
 ·simpa
 ·split <;> omega
theorem ltL_trans : ∀ {a b c : List Int}, ltL a b → ltL b c → ltL a c
 | [], [], _, h, _ => by simp [ltL, cmpL] at h
 | _ :: _, [], _, h, _ => by simp [ltL, cmpL] at h
 | _, _ :: _, [], _, h => by simp [ltL, cmpL] at h
 | [], _ :: _, _ :: _, _, _ => by simp [ltL, cmpL]
 | x :: a, y :: b, z :: c, h, h' => by
  unfold ltL at h h' ⊢
  simp only [cmpL] at h h' ⊢
  by_cases e1 : x = y
  ·by_cases e2 : y = z
   ·subst e1; subst e2
    simp only [if_true] at h h' ⊢
    exact ltL_trans h h'
   ·subst e1
    rw [if_neg e2] at h' ⊢
    exact h'
  ·rw [if_neg e1] at h
   rw [cmpI_neg] at h
   by_cases e2 : y = z
   ·subst e2
    rw [if_neg e1, cmpI_neg]; exact h
   ·rw [if_neg e2, cmpI_neg] at h'
    rw [if_neg (by omega), cmpI_neg]; omega
theorem cmpL_zero : ∀ {a b : List Int}, cmpL a b = 0 → a = b
 | [], [], _ => rfl
 | [], _ :: _, h => by simp [cmpL] at h
 | _ :: _, [], h => by simp [cmpL] at h
 | x :: a, y :: b, h => by
  simp only [cmpL] at h
  by_cases e : x = y
  ·subst e
   rw [if_pos rfl] at h
   rw [cmpL_zero h]
  ·rw [if_neg e] at h
   unfold cmpI at h
   split at h
   ·omega
   ·split at h <;> omega
/-- sorted in the order of lists -/
def sortedL (xs : List (List Int)) : Prop := ∀ i (h : i < xs.length), 0 < i → ltL (xs[i - 1]'(by omega)) xs[i]
theorem sortedL_lt {xs : List (List Int)} (hs : sortedL xs) : ∀ {a b : Nat} (hb : b < xs.length) (hab : a < b), ltL (xs[a]'(by omega)) xs[b] := by
 intro a b hb hab
 induction b with
 | zero => omega
 | succ b ih =>
  have h1 := hs (b + 1) hb (by omega)
  simp only [Nat.add_sub_cancel] at h1
  by_cases e : a = b
  ·subst e; exact h1
  ·exact ltL_trans (ih (by omega) (by omega)) h1
theorem relOk_sorted {size : Int} {r : Int × List (List Int)} (h : relOk size r) : sortedL r.2 := fun i hi h0 => (h.2.2 i hi).2 h0
/-- the elements of a list at places -/
def atL (l places : List Int) : List Int := places.map fun p => l.getD p.toNat 0
theorem atL_len {l places : List Int} : (atL l places).length = places.length := by simp [atL]
theorem atL_take {l places : List Int} {k j : Nat} (hk : k < places.length) (hj : places[k] = (j : Int)) (hl : j < l.length) : atL l (places.take k) ++ [l[j]] = atL l (places.take (k + 1)) := by
 rw [← take_snoc hk]
 simp [atL, hj, hl]
theorem Bl.own {α : Type} {E : Ty α} {e base top : Nat} {w : World} {v : Value} {ys : List α} (h : Bl E e base top w v ys) {g : Nat} (hg : v.ownBlock = some g) : base ≤ g := by
 obtain ⟨L, fps, h1, _⟩ := h
 exact (h1.lt g hg).1
theorem news1 {w : World} {u : Value} {T : TypeId} : ∀ j x, [u][j]? = some x → (w.alloc (.cells #[u] T)).cell? ((⟨w.heap.size, 0, none⟩ : Addr).add j) = some x := by
 intro j x h
 match j with
 | 0 => simp at h; subst h; simp [Addr.add]
 | j + 1 => simp at h
theorem bs_found {xs : List (List Int)} {ys : List Int} {i : Nat} (hi : i ≤ xs.length) (h1 : ∀ a (h : a < xs.length), a < i → cmpL xs[a] ys < 0) (h2 : ∀ a (h : a < xs.length), i ≤ a → ¬ cmpL xs[a] ys < 0) (hs : sortedL xs) :
  (ys ∈ xs) ↔ ∃ h : i < xs.length, cmpL xs[i] ys = 0 := by
 constructor
 ·intro hm
  obtain ⟨a, ha, rfl⟩ := List.getElem_of_mem hm
  have h3 : ¬ a < i := fun hlt => by have := h1 a ha hlt; rw [cmpL_self] at this; omega
  have h4 : i = a := by
   rcases Nat.lt_or_ge i a with hlt | hge
   ·exact absurd (sortedL_lt hs ha hlt) (h2 i (by omega) (Nat.le_refl _))
   ·omega
  subst h4
  exact ⟨ha, cmpL_self _⟩
 ·rintro ⟨h, he⟩
  rw [← cmpL_zero he]
  exact List.getElem_mem h
theorem ret_ib {i : Int} {b d : Bool} (h : b = d) : Ending.returned (.tuple #[.int .i64 i, .bool b]) = .returned (.tuple #[.int .i64 i, .bool d]) := by rw [h]
set_option maxHeartbeats 1600000 in
set_option maxRecDepth 100000 in
theorem BSearch_any (w : World) {v u : Value} {xs : List (List Int)} {ys : List Int} (h : rowsT.Rd w [v] xs) (_h' : intsT.Rd w [u] ys) (hs : sortedL xs) (g : Nat) (eg : ∀ args w, (callFunc g args).run Tryz.prog w = .ok (.enter g args) w)
  (hp : Hid (∀ k (h : k < xs.length) (c : Value), intsT.Rd w [c] xs[k] → Calls Tryz.prog g #[c, u] w fun e w' => e = .returned (.int .i64 (cmpL xs[k] ys)) ∧ w = w')) :
  Calls Tryz.prog 58 #[v, u, .func (.func g) #[] #[]] w fun e w' => (∃ i : Int, e = .returned (.tuple #[.int .i64 i, .bool (tb (ys ∈ xs))])) ∧ w = w' := by
 obtain ⟨ad, cap, hv, hl, hc, hcell⟩ := slices_ex h
 obtain rfl : v = _ := by simpa using hv
 have HS := Lib.hid hs
 clear h hv hs
 go_enter Tryz.func58, Tryz.ntmps58
 go_wp2_with fail
 go_loop [9, 10, 11] (fun i j _ => ∃ a b : Nat, a ≤ b ∧ b ≤ xs.length ∧ i = .int .i64 a ∧ j = .int .i64 b ∧ (∀ c (h : c < xs.length), c < a → cmpL xs[c] ys < 0) ∧ (∀ c (h : c < xs.length), b ≤ c → 0 ≤ cmpL xs[c] ys)) (fun i j _ => (intOf j).toNat - (intOf i).toNat)
 case atStart => exact ⟨0, xs.length, Nat.zero_le _, Nat.le_refl _, rfl, rfl, fun c _ h => absurd h (Nat.not_lt_zero c), fun c h h' => by omega⟩
 case round =>
  obtain ⟨a, b, hab, hbl, rfl, rfl, h1, h2⟩ := hrel
  have H1 := Lib.hid h1
  have H2 := Lib.hid h2
  clear h1 h2
  by_cases hlt : a < b
  ·obtain ⟨m, hm⟩ : ∃ m : Nat, ((a : Int) + b) / 2 = m := ⟨(a + b) / 2, by omega⟩
   have ham : a ≤ m := by omega
   have hmb : m < b := by omega
   have hml : m < xs.length := by omega
   obtain ⟨bk, o, rfl, hb, hce⟩ := hcell (by omega)
   obtain ⟨c, hc0, hcc⟩ := hce m hml
   clear hcell hce
   cases hq : decide (cmpL xs[m] ys < 0)
   ·have HQ := Lib.hid hq
    go_wp2_with fail
    refine (hp.out m hml c hc0).mono ?_
    rintro e w' ⟨rfl, rfl⟩
    go_wp2_with fail
    go_round
    case rel =>
     refine ⟨a, m, ham, by omega, rfl, rfl, H1.out, fun c h hmc => Int.not_lt.1 fun hlt => ?_⟩
     have h3 : ¬ cmpL xs[m] ys < 0 := by simpa using HQ.out
     by_cases e : m = c
     ·subst e; exact h3 hlt
     ·exact h3 (ltL_trans (sortedL_lt HS.out h (show m < c by omega)) hlt)
    case measure => simp [intOf]; omega
   ·have HQ := Lib.hid hq
    go_wp2_with fail
    refine (hp.out m hml c hc0).mono ?_
    rintro e w' ⟨rfl, rfl⟩
    go_wp2_with fail
    go_round
    case rel =>
     refine ⟨m + 1, b, by omega, hbl, by go_num, rfl, fun c h hmc => ?_, H2.out⟩
     have h3 : cmpL xs[m] ys < 0 := by simpa using HQ.out
     by_cases e : c = m
     ·subst e; exact h3
     ·exact ltL_trans (sortedL_lt HS.out hml (show c < m by omega)) h3
    case measure => simp [intOf]; omega
  ·obtain rfl : a = b := by omega
   have HF := Lib.hid (bs_found hbl H1.out (fun c h h4 => Int.not_lt.2 (H2.out c h h4)) HS.out)
   by_cases hn : a < xs.length
   ·obtain ⟨bk, o, rfl, hb, hce⟩ := hcell (by omega)
    obtain ⟨c, hc0, hcc⟩ := hce a hn
    clear hcell hce
    have HR : Hid ((cmpL xs[a] ys == 0) = tb (ys ∈ xs)) := by
     unfold Hid
     rw [Bool.eq_iff_iff, tb_iff, HF.out]
     simp [hn]
    go_wp2_with fail
    refine (hp.out a hn c hc0).mono ?_
    rintro e w' ⟨rfl, rfl⟩
    go_wp2_with fail
    go_ret2
    exact ⟨⟨a, ret_ib HR.out⟩, rfl⟩
   ·have HR : Hid (false = tb (ys ∈ xs)) := (tb_false (fun hh => hn (HF.out.1 hh).1)).symm
    clear hcell
    go_wp2_with fail
    go_ret2
    exact ⟨⟨a, ret_ib HR.out⟩, rfl⟩
theorem has1_any (w : World) {v u : Value} {xs ys : List Int} (h : intsT.Rd w [v] xs) (h' : intsT.Rd w [u] ys) :
  Calls Tryz.prog 59 #[v, u] w fun e w' => e = .returned (.int .i64 (cmpL xs ys)) ∧ w = w' := by
 go_enter Tryz.func59, Tryz.ntmps59
 go_wp2_with fail
 refine (Compare_any _ h h').mono ?_
 rintro e w' ⟨rfl, rfl⟩
 go_wp2_with fail
 go_ret
 exact ⟨rfl, rfl⟩
theorem has_any (w : World) {cs : Array Value} {r : Int × List (List Int)} (h : relT.Rd w cs.toList r) {u : Value} {ys : List Int} (h' : intsT.Rd w [u] ys) (hs : sortedL r.2) :
  Calls Tryz.prog 29 #[.agg cs, u] w fun e w' => e = .returned (.bool (tb (ys ∈ r.2))) ∧ Below w.heap.size w w' := by
 obtain ⟨v, hv, hI, hx⟩ := pair_ex h
 obtain rfl := agg_of hv
 obtain ⟨ad, cap, rfl⟩ := rd_slice hx
 obtain ⟨ad', cap', rfl⟩ := rd_slice h'
 clear h hv
 go_enter Tryz.func29, Tryz.ntmps29
 go_wp2_with fail
 refine (BSearch_any _ (hx.below bA) (h'.below bA) hs 59 (enters Tryz.func59 (by kernel_rfl) rfl) (fun k hk c hc => has1_any _ hc (h'.below bA))).mono ?_
 rintro e w' ⟨⟨i, rfl⟩, rfl⟩
 go_wp2_with fail
 go_ret
 exact ⟨rfl, (by repeat (first | exact Below.refl _ _ | exact bA | assumption | refine Below.setCell ?_ (by first | omega | (simp; try omega)) _ | refine Below.alloc ?_ (by first | omega | (simp; try omega)) _ | refine Below.drew ?_ | refine bDN ?_ | refine bthen ?_ (by assumption)))⟩
theorem l01Has_quiet (w : World) {v : Value} {r : Int × List (List Int)} (h : relT.Pt w v r) {u : Value} {ys : List Int} (h' : intsT.Rd w [u] ys) :
  Calls Tryz.prog 36 #[v, u] w fun e w' => e = .returned (.bool (tb (ys ∈ r.2))) ∧ Quiet w w' := by
 obtain ⟨b, o, ad, cap, rfl, hb, -, c0, c1, hx⟩ := pt_pair h
 obtain ⟨_, _, e1, hle, hle2, hcell⟩ := slices_ex hx
 simp only [List.cons.injEq, Value.slice.injEq, and_true, true_and] at e1
 obtain ⟨rfl, rfl⟩ := e1
 clear h
 go_enter Tryz.func36, Tryz.ntmps36
 go_wp2_with fail
 go_loopw [5] (fun i wr => ∃ k : Nat, k ≤ r.2.length ∧ i = .int .i64 k ∧ noneB (fun t => eqB t ys) (r.2.take k) ∧ Quiet w wr) (fun i _ => r.2.length - (intOf i).toNat)
 case atStart => exact ⟨0, Nat.zero_le _, rfl, noneB_zero _ _, Quiet.refl _⟩
 case round =>
  obtain ⟨k, hk, rfl, ht, hqw⟩ := hrel
  have HT := Lib.hid ht
  have d1 := (hqw.below.cell hb).trans c1
  clear ht c0 c1
  by_cases hkl : k < r.2.length
  ·obtain ⟨a, q, rfl, haa, hce⟩ := hcell (by omega)
   obtain ⟨c, hc0, hcc⟩ := hce k hkl
   have e0 := (hqw.below.cell haa).trans hcc
   clear hcell hce hcc
   cases hq : eqB r.2[k] ys
   ·go_wp2_with fail
    refine (l00Same_quiet _ (hc0.below hqw.below) (h'.below hqw.below)).mono ?_
    rintro e w1 ⟨rfl, hq1⟩
    rw [hq]
    have hq2 := hqw.then hq1
    have f1 := (hq1.below.cell (by have := hqw.below.size; simp; omega)).trans d1
    go_wp2_with fail
    go_roundw
    case rel => exact ⟨k + 1, by omega, by go_num, noneB_succ hkl HT.out hq, hq2⟩
    case measure => simp [intOf]; omega
   ·have HM : Hid (ys ∈ r.2) := by
     have := eqB_iff.1 hq
     unfold Hid
     rw [← this]
     exact List.getElem_mem hkl
    go_wp2_with fail
    refine (l00Same_quiet _ (hc0.below hqw.below) (h'.below hqw.below)).mono ?_
    rintro e w1 ⟨rfl, hq1⟩
    rw [hq]
    go_wp2_with fail
    go_ret
    exact ⟨ret_bool (tb_true HM.out).symm, hqw.then hq1⟩
  ·obtain rfl : k = r.2.length := by omega
   have HM : Hid (¬ ys ∈ r.2) := fun hm => by
    have := HT.out ys (by rw [List.take_length]; exact hm)
    simp [eqB] at this
   clear hcell
   go_wp2_with fail
   go_ret
   exact ⟨ret_bool (tb_false HM.out).symm, hqw⟩
end Go.Proofs.YtmnjlhcbabhhlaaGreat
namespace Go.Proofs.YtmnjlhcbabhhlaaGreat
open Go.RowKit Go.Sort
end Go.Proofs.YtmnjlhcbabhhlaaGreat
namespace Go.Proofs.YtmnjlhcbabhhlaaGreat
open Go.RowKit
/-- a value as it is: for rows whose elements point into older memory -/
def Ty.val : Ty Value where
 sz := 1
 rd := fun _ cs x fp => cs = [x] ∧ x.oneCell' = true ∧ fp = []
 len := by rintro _ _ _ _ ⟨rfl, _, _⟩; rfl
 same := fun h _ => h
 lt := by rintro _ _ _ _ ⟨rfl, _, rfl⟩ k hk; cases hk
 one := by rintro _ _ _ _ ⟨rfl, h, _⟩ u hu; simp at hu; subst hu; exact h
theorem fr_val {base : Nat} {w : World} {x : Value} (h : x.oneCell' = true) : Ty.val.Fr base w [x] x := ⟨[], ⟨rfl, h, rfl⟩, List.nodup_nil, by simp, fun b hb => by cases hb⟩
/-- a number and a value -/
abbrev pvT : Ty (Int × Value) := Ty.cons Ty.val
theorem fr_pv {base : Nat} {w : World} {n : Int} {x : Value} (hn : I64 n) (h : x.oneCell' = true) : pvT.Fr base w [.int .i64 n, x] (n, x) := ⟨[], ⟨[x], rfl, hn, rfl, h, rfl⟩, List.nodup_nil, by simp, fun b hb => by cases hb⟩
end Go.Proofs.YtmnjlhcbabhhlaaGreat
namespace Go.Proofs.YtmnjlhcbabhhlaaGreat
open Go.RowKit Go.Sort
/-- a row of truth values of the call's own -/
def BR (e base : Nat) (w : World) (g n cap : Nat) (L : List Bool) : Prop := L.length = n ∧ base ≤ g ∧ w.ownsRow base e 1 (.slice (some ⟨g, 0, none⟩) n cap) n (L.map Value.bool)
section
variable {e base g n cap : Nat} {w w' : World} {L : List Bool}
theorem BR.cell (h : BR e base w g n cap L) {j : Nat} (hj : j < L.length) : w.cell? ⟨g, j, none⟩ = some (.bool L[j]) := by
 rw [World.ownsRow.cellAt h.2.2 j (by have := h.1; omega)]
 simp [hj]
theorem BR.free (h : BR e base w g n cap L) (j : Nat) : w.frozen? ⟨g, j, none⟩ = false := World.ownsRow.frozenAt h.2.2 j
theorem BR.lt (h : BR e base w g n cap L) : g < w.heap.size := (h.2.2.lt g rfl).2
theorem BR.set (h : BR e base w g n cap L) (j : Nat) (a : Bool) : BR e base (w.setCell ⟨g, j, none⟩ (.bool a)) g n cap (L.set j a) := by
 refine ⟨by rw [List.length_set]; exact h.1, h.2.1, ?_⟩
 rw [List.map_set]
 exact (h.2.2.stored j _).1
theorem BR.below {B : Nat} (h : BR e base w g n cap L) (hb : Below B w w') (hg : g < B) : BR e base w' g n cap L := by
 refine ⟨h.1, h.2.1, h.2.2.1, ?_⟩
 rcases h.2.2.2 with ⟨h', _⟩ | ⟨g', cap', cur, hg', hbg, hh, r⟩
 ·simp at h'
 ·simp only [Value.slice.injEq, Option.some.injEq, Addr.mk.injEq, and_true, true_and] at hg'
  obtain ⟨rfl, rfl⟩ := hg'
  exact .inr ⟨g, _, cur, rfl, hbg, by rw [hb.block g hg]; exact hh, r⟩
end
/-- lists of one length with the same index are the same -/
theorem idxL_inj {s : Int} (hs : 1 ≤ s) : ∀ (n : Nat) {xs ys : List Int}, xs.length = n → ys.length = n → (∀ a ∈ xs, 0 ≤ a ∧ a ≤ s - 1) → (∀ a ∈ ys, 0 ≤ a ∧ a ≤ s - 1) → idxL s 0 xs = idxL s 0 ys → xs = ys
 | 0, xs, ys, hx, hy, _, _, _ => by rw [List.eq_nil_of_length_eq_zero hx, List.eq_nil_of_length_eq_zero hy]
 | n + 1, xs, ys, hx, hy, hxi, hyi, he => by
  have hx1 : n < xs.length := by omega
  have hy1 : n < ys.length := by omega
  have ex := idxL_take (s := s) hx1
  have ey := idxL_take (s := s) hy1
  rw [List.take_of_length_le (by omega)] at ex ey
  rw [ex, ey] at he
  have ax := hxi _ (List.getElem_mem hx1)
  have ay := hyi _ (List.getElem_mem hy1)
  have h1 : (idxL s 0 (xs.take n) * s + xs[n]) % s = xs[n] := by
   rw [Int.add_comm, Int.add_mul_emod_self_right]; exact Int.emod_eq_of_lt ax.1 (by omega)
  have h2 : (idxL s 0 (ys.take n) * s + ys[n]) % s = ys[n] := by
   rw [Int.add_comm, Int.add_mul_emod_self_right]; exact Int.emod_eq_of_lt ay.1 (by omega)
  have hn : xs[n] = ys[n] := by rw [← h1, ← h2, he]
  have hq : idxL s 0 (xs.take n) = idxL s 0 (ys.take n) := by
   have h3 : idxL s 0 (xs.take n) * s = idxL s 0 (ys.take n) * s := by omega
   exact Int.eq_of_mul_eq_mul_right (by omega) h3
  have ih := idxL_inj hs n (xs := xs.take n) (ys := ys.take n) (by rw [List.length_take]; omega) (by rw [List.length_take]; omega) (fun a ha => hxi a (List.mem_of_mem_take ha)) (fun a ha => hyi a (List.mem_of_mem_take ha)) hq
  rw [← List.take_of_length_le (l := xs) (i := n + 1) (by omega), ← List.take_of_length_le (l := ys) (i := n + 1) (by omega), List.take_succ_eq_append_getElem hx1, List.take_succ_eq_append_getElem hy1, ih, hn]
end Go.Proofs.YtmnjlhcbabhhlaaGreat
namespace Go.Proofs.YtmnjlhcbabhhlaaGreat
open Go.RowKit Go.Sort
theorem idx_lt {s : Int} (hs : 1 ≤ s) {xs : List Int} {m : Nat} (hl : xs.length = m) (h : ∀ a ∈ xs, 0 ≤ a ∧ a ≤ s - 1) : 0 ≤ idxL s 0 xs ∧ idxL s 0 xs ≤ s ^ m - 1 := by
 have := idx_bd hs h xs.length (Nat.le_refl _)
 rwa [List.take_length, hl] at this
/-- the tuples of a relation that an index picks -/
def picks (ts : List (List Int)) (ar : Nat) (i : Int) : List (List Int) := (digL ts.length i ar).map fun k => ts.getD k.toNat []
/-- what the operation makes of them -/
def makes (s : Int) (f : Int × List Int) (r : Int × List (List Int)) (i : Int) : List Int := madeL s f.2 (picks r.2 f.1.toNat i) r.1.toNat
end Go.Proofs.YtmnjlhcbabhhlaaGreat
namespace Go.Proofs.YtmnjlhcbabhhlaaGreat
open Go.RowKit Go.Sort
/-- a set of tuples in new memory: a box whose third cell is a row of truth values -/
def SetAt (e base : Nat) (w : World) (bx g n : Nat) (L : List Bool) : Prop := base ≤ bx ∧ bx < w.heap.size ∧ g ≠ bx ∧ w.cell? ⟨bx, 2, none⟩ = some (.slice (some ⟨g, 0, none⟩) n n) ∧ BR e base w g n n L
theorem SetAt.below {e base bx g n B : Nat} {w w' : World} {L : List Bool} (h : SetAt e base w bx g n L) (hb : Below B w w') (hB : w.heap.size ≤ B) : SetAt e base w' bx g n L :=
 let ⟨h1, h2, h3, h4, h5⟩ := h
 ⟨h1, Nat.lt_of_lt_of_le h2 hb.size, h3, (hb.cell (p := ⟨bx, 2, none⟩) (Nat.lt_of_lt_of_le h2 hB)).trans h4, h5.below hb (Nat.lt_of_lt_of_le h5.lt hB)⟩
/-- the indices that have come up among the first k tuples -/
def seenL (s : Int) (N : Nat) (ts : List (List Int)) : List Bool := (List.range N).map fun j : Nat => ts.any fun t => idxL s 0 t == (j : Int)
end Go.Proofs.YtmnjlhcbabhhlaaGreat
namespace Go.Proofs.YtmnjlhcbabhhlaaGreat
open Go.RowKit Go.Sort
end Go.Proofs.YtmnjlhcbabhhlaaGreat
namespace Go.Proofs.YtmnjlhcbabhhlaaGreat
open Go.RowKit Go.Sort
set_option maxHeartbeats 1600000 in
set_option maxRecDepth 100000 in
theorem l01At_any (w : World) {v u : Value} {xs ps : List Int} (h : intsT.Rd w [v] xs) (h' : intsT.Rd w [u] ps) (hin : ∀ p ∈ ps, 0 ≤ p ∧ p < (xs.length : Int)) (hlen : ps.length ≤ 1000000) :
  Calls Tryz.prog 103 #[v, u] w (RetS intsT w (atL xs ps)) := by
 obtain ⟨ad, cap, hv, hl, hc, hcell⟩ := ints_ex h
 obtain rfl : v = _ := by simpa using hv
 obtain ⟨ad', cap', hv', hl', hc', hcell'⟩ := ints_ex h'
 obtain rfl : u = _ := by simpa using hv'
 have HIN := Lib.hid hin
 clear h hv h' hv' hin
 go_enter Tryz.func103, Tryz.ntmps103
 go_wp2_with fail
 go_loopw [6, 5] (fun i o wr => ∃ k : Nat, k ≤ ps.length ∧ i = .int .i64 k ∧ Bl Ty.int 2 w.heap.size wr.heap.size wr o (atL xs (ps.take k)) ∧ Below w.heap.size w wr) (fun i _ _ => ps.length - (intOf i).toNat)
 case atStart => exact ⟨0, Nat.zero_le _, rfl, by simpa [atL] using Bl.lit0 (E := Ty.int) (e := 2) (w := w) (Nat.le_refl _), bA⟩
 case round =>
  obtain ⟨k, hk, rfl, hBl, hbel⟩ := hrel
  have HB := Lib.hid hBl
  clear hBl
  by_cases hkl : k < ps.length
  ·obtain ⟨b', o', rfl, hb', hce'⟩ := hcell' (by omega)
   have hin := HIN.out ps[k] (List.getElem_mem hkl)
   obtain ⟨j, hj⟩ : ∃ j : Nat, ps[k] = j := ⟨ps[k].toNat, by omega⟩
   have hjl : j < xs.length := by omega
   obtain ⟨b, o, rfl, hb, hce⟩ := hcell (by omega)
   have e0 := (hbel.cell hb').trans (hce' k hkl).2
   rw [hj] at e0
   have e1 := (hbel.cell hb).trans (hce j hjl).2
   have hI := (hce j hjl).1
   clear hcell hcell' hce hce' hin
   have hrec := atL_take hkl hj hjl
   have HR := Lib.hid hrec
   clear hrec
   go_wp2_with (refine wpList_push (E := Ty.int) _ rfl _ _ 50 2 rfl elInt rfl (HB.out.below bA (Nat.le_refl _)) rfl news1 (fr_int hI) (by rw [atL_len, take_len hk]; omega) (by decide) hbel.size (by simp) ?_; intro v1 w1 hB1 hg1 _)
   have hbel1 : Below w.heap.size w w1 := (hbel.alloc hbel.size _).grown hg1 (by have := hbel.size; simp; omega) (fun k hk => HB.out.own hk)
   rw [HR.out] at hB1
   have HB1 := Lib.hid hB1
   clear hB1
   go_wp2_with fail
   go_roundw
   case rel => exact ⟨k + 1, by omega, by go_num, HB1.out, hbel1⟩
   case measure => simp [intOf]; omega
  ·obtain rfl : k = ps.length := by omega
   go_wp2_with fail
   go_ret
   rw [List.take_length] at HB
   exact ⟨_, rfl, HB.out.fr (by rw [atL_len]; unfold capMax; omega), hbel⟩
/-- the relation with a number; a constraint holds for values -/
def relAt (t : Int × List (Int × List (List Int))) (k : Int) : Int × List (List Int) := t.2.getD k.toNat (0, [])
def holdsC (t : Int × List (Int × List (List Int))) (vals : List Int) (c : Int × List Int) : Prop := atL vals c.2 ∈ (relAt t c.1).2
theorem relAt_nat {t : Int × List (Int × List (List Int))} {k : Nat} (h : k < t.2.length) : relAt t (k : Int) = t.2[k] := by simp [relAt, h]
theorem scope_short {t : Int × List (Int × List (List Int))} {vars : Int} {c : Int × List Int} (hT : tplOk t) (h : conOk t vars c) : c.2.length ≤ 4 := by
 obtain ⟨k, hck⟩ : ∃ k : Nat, c.1 = k := ⟨c.1.toNat, by have := h.1; omega⟩
 have hkl : k < t.2.length := by have := h.1; omega
 have h1 := h.2.1
 rw [hck, arOf_nat hkl] at h1
 have h2 := (hT.2.2 _ (List.getElem_mem hkl)).2.1.2
 omega
set_option maxHeartbeats 1600000 in
set_option maxRecDepth 100000 in
theorem l05Holds_any (w : World) {vt vc u : Value} {c : Int × List Int} {t : Int × List (Int × List (List Int))} {vals : List Int} (ht : tplT.Pt w vt t) (hc : opT.Pt w vc c) (hvr : intsT.Rd w [u] vals)
  {vars : Int} (hok : conOk t vars c) (hin : ∀ p ∈ c.2, 0 ≤ p ∧ p < (vals.length : Int)) (hv10 : c.2.length ≤ 1000000) :
  Calls Tryz.prog 101 #[vt, vc, u] w fun e w' => e = .returned (.bool (tb (holdsC t vals c))) ∧ Below w.heap.size w w' := by
 obtain ⟨b2, o2, asc, caps, rfl, hb2, hI, c0', c1', hus⟩ := pt_pair hc
 obtain ⟨av, capv, rfl⟩ := rd_slice hvr
 obtain ⟨b, o, ad, cap, rfl, hb, -, c0, c1, hx⟩ := pt_pair ht
 have HS := Lib.hid hin
 have hk := hok.1
 obtain ⟨k, hck⟩ : ∃ k : Nat, c.1 = k := ⟨c.1.toNat, by omega⟩
 have hkl : k < t.2.length := by omega
 obtain ⟨a, q, rfl, hp⟩ := rd_elem hx hkl
 have hp' : relT.Pt w (.pointer (some ⟨a, q + k * 2, none⟩)) t.2[k] := hp
 have HH : Hid (tb (atL vals c.2 ∈ (t.2[k]).2) = tb (holdsC t vals c)) := by
  unfold Hid holdsC
  rw [hck, relAt_nat hkl]
 rw [hck] at c0'
 clear ht hc hp hok hin hk
 go_enter Tryz.func101, Tryz.ntmps101
 go_wp2_with fail
 refine wp_region_loose [exV (.pointer (some ⟨b, o, none⟩)), exV (.pointer (some ⟨b, o, none⟩)), exV (.pointer (some ⟨b, o + 1, none⟩)), exV (.slice (some ⟨a, q, none⟩) t.2.length cap), exV (.pointer (some ⟨b2, o2, none⟩)), exV (.pointer (some ⟨b2, o2, none⟩)), exV (.pointer (some ⟨b2, o2, none⟩)), exV (.int .i64 k), exV (.pointer (some ⟨a, q + k * 2, none⟩)), exV (.slice av vals.length capv), exV (.pointer (some ⟨b2, o2, none⟩)), exV (.pointer (some ⟨b2, o2, none⟩)), exV (.pointer (some ⟨b2, o2 + 1, none⟩)), exV (.slice asc c.2.length caps), rdS intsT (atL vals c.2), exV (.bool (tb (atL vals c.2 ∈ (t.2[k]).2))), exV (.bool (tb (atL vals c.2 ∈ (t.2[k]).2)))] (by kernel_rfl) (by kernel_rfl) ⟨st_exV, st_exV, st_exV, st_exV, st_exV, st_exV, st_exV, st_exV, st_exV, st_exV, st_exV, st_exV, st_exV, st_exV, st_rdS, st_exV, st_exV, trivial⟩ ⟨?j1_0, ?j1_1, ?j1_2, ?j1_3, ?j1_4, ?j1_5, ?j1_6, ?j1_7, ?j1_8, ?j1_9, ?j1_10, ?j1_11, ?j1_12, ?j1_13, ?j1_14, ?j1_15, ?j1_16, trivial⟩ ?hQ1
 case j1_0 =>
  intro a' w' hb hd
  have e0 : a'.tmps[0]?.getD undef = .pointer (some ⟨b, o, none⟩) := ev (slot_o hd 0 rfl rfl)
  go_simp
  exact ⟨Below.refl _ _, rfl⟩
 case j1_1 =>
  intro a' w' hb hd
  have e7 : a'.tmps[7]?.getD undef = .pointer (some ⟨b, o, none⟩) := ev (slot_w hd 7 (exV (.pointer (some ⟨b, o, none⟩))) rfl rfl)
  go_simp
  exact ⟨Below.refl _ _, rfl⟩
 case j1_2 =>
  intro a' w' hb hd
  have e8 : a'.tmps[8]?.getD undef = .pointer (some ⟨b, o, none⟩) := ev (slot_w hd 8 (exV (.pointer (some ⟨b, o, none⟩))) rfl rfl)
  go_simp
  exact ⟨Below.refl _ _, rfl⟩
 case j1_3 =>
  intro a' w' hb hd
  have e9 : a'.tmps[9]?.getD undef = .pointer (some ⟨b, o + 1, none⟩) := ev (slot_w hd 9 (exV (.pointer (some ⟨b, o + 1, none⟩))) rfl rfl)
  have q : ∀ b o, b < w.heap.size → w'.cell? ⟨b, o, none⟩ = w.cell? ⟨b, o, none⟩ := (bcell hb).1
  go_simp
  exact ⟨Below.refl _ _, rfl⟩
 case j1_4 =>
  intro a' w' hb hd
  have e1 : a'.tmps[1]?.getD undef = .pointer (some ⟨b2, o2, none⟩) := ev (slot_o hd 1 rfl rfl)
  go_simp
  exact ⟨Below.refl _ _, rfl⟩
 case j1_5 =>
  intro a' w' hb hd
  have e11 : a'.tmps[11]?.getD undef = .pointer (some ⟨b2, o2, none⟩) := ev (slot_w hd 11 (exV (.pointer (some ⟨b2, o2, none⟩))) rfl rfl)
  go_simp
  exact ⟨Below.refl _ _, rfl⟩
 case j1_6 =>
  intro a' w' hb hd
  have e12 : a'.tmps[12]?.getD undef = .pointer (some ⟨b2, o2, none⟩) := ev (slot_w hd 12 (exV (.pointer (some ⟨b2, o2, none⟩))) rfl rfl)
  go_simp
  exact ⟨Below.refl _ _, rfl⟩
 case j1_7 =>
  intro a' w' hb hd
  have e13 : a'.tmps[13]?.getD undef = .pointer (some ⟨b2, o2, none⟩) := ev (slot_w hd 13 (exV (.pointer (some ⟨b2, o2, none⟩))) rfl rfl)
  have q : ∀ b o, b < w.heap.size → w'.cell? ⟨b, o, none⟩ = w.cell? ⟨b, o, none⟩ := (bcell hb).1
  go_simp
  exact ⟨Below.refl _ _, rfl⟩
 case j1_8 =>
  intro a' w' hb hd
  have e10 : a'.tmps[10]?.getD undef = .slice (some ⟨a, q, none⟩) t.2.length cap := ev (slot_w hd 10 (exV (.slice (some ⟨a, q, none⟩) t.2.length cap)) rfl rfl)
  have e14 : a'.tmps[14]?.getD undef = .int .i64 k := ev (slot_w hd 14 (exV (.int .i64 k)) rfl rfl)
  go_simp
  exact ⟨Below.refl _ _, rfl⟩
 case j1_9 =>
  intro a' w' hb hd
  have e2 : a'.tmps[2]?.getD undef = .slice av vals.length capv := ev (slot_o hd 2 rfl rfl)
  go_simp
  exact ⟨Below.refl _ _, rfl⟩
 case j1_10 =>
  intro a' w' hb hd
  have e1 : a'.tmps[1]?.getD undef = .pointer (some ⟨b2, o2, none⟩) := ev (slot_o hd 1 rfl rfl)
  go_simp
  exact ⟨Below.refl _ _, rfl⟩
 case j1_11 =>
  intro a' w' hb hd
  have e17 : a'.tmps[17]?.getD undef = .pointer (some ⟨b2, o2, none⟩) := ev (slot_w hd 17 (exV (.pointer (some ⟨b2, o2, none⟩))) rfl rfl)
  go_simp
  exact ⟨Below.refl _ _, rfl⟩
 case j1_12 =>
  intro a' w' hb hd
  have e18 : a'.tmps[18]?.getD undef = .pointer (some ⟨b2, o2, none⟩) := ev (slot_w hd 18 (exV (.pointer (some ⟨b2, o2, none⟩))) rfl rfl)
  go_simp
  exact ⟨Below.refl _ _, rfl⟩
 case j1_13 =>
  intro a' w' hb hd
  have e19 : a'.tmps[19]?.getD undef = .pointer (some ⟨b2, o2 + 1, none⟩) := ev (slot_w hd 19 (exV (.pointer (some ⟨b2, o2 + 1, none⟩))) rfl rfl)
  have q : ∀ b o, b < w.heap.size → w'.cell? ⟨b, o, none⟩ = w.cell? ⟨b, o, none⟩ := (bcell hb).1
  go_simp
  exact ⟨Below.refl _ _, rfl⟩
 case j1_14 =>
  intro a' w' hb hd
  have e16 : a'.tmps[16]?.getD undef = .slice av vals.length capv := ev (slot_w hd 16 (exV (.slice av vals.length capv)) rfl rfl)
  have e20 : a'.tmps[20]?.getD undef = .slice asc c.2.length caps := ev (slot_w hd 20 (exV (.slice asc c.2.length caps)) rfl rfl)
  have r1 := hvr.below hb
  have r2 := hus.below hb
  go_simp
  exact ⟨Below.refl _ _, (l01At_any w' r1 r2 HS.out hv10).mono fun e w'' ⟨u, he, hf, hb⟩ => ⟨_, he, hb, hf.rd⟩⟩
 case j1_15 =>
  intro a' w' hb hd
  have e15 : a'.tmps[15]?.getD undef = .pointer (some ⟨a, q + k * 2, none⟩) := ev (slot_w hd 15 (exV (.pointer (some ⟨a, q + k * 2, none⟩))) rfl rfl)
  have d21 := slot_w hd 21 (rdS intsT (atL vals c.2)) rfl rfl
  have r1 := hp'.below hb
  obtain ⟨ad21, cap21, e21⟩ := rd_slice d21
  rw [e21] at d21
  have e21' := ev e21
  go_simp
  exact ⟨Below.refl _ _, (l01Has_quiet w' r1 d21).mono fun e w'' ⟨he, hb⟩ => ⟨_, he, hb.below, rfl⟩⟩
 case j1_16 =>
  intro a' w' hb hd
  have e22 : a'.tmps[22]?.getD undef = .bool (tb (atL vals c.2 ∈ (t.2[k]).2)) := ev (slot_w hd 22 (exV (.bool (tb (atL vals c.2 ∈ (t.2[k]).2)))) rfl rfl)
  go_simp
  exact ⟨Below.refl _ _, rfl⟩
 intro vs1 w1 hb1 H0
 obtain ⟨v1_0, _, rfl, p0, H1⟩ := HAll_cons H0
 obtain ⟨v1_1, _, rfl, p1, H2⟩ := HAll_cons H1
 obtain ⟨v1_2, _, rfl, p2, H3⟩ := HAll_cons H2
 obtain ⟨v1_3, _, rfl, p3, H4⟩ := HAll_cons H3
 obtain ⟨v1_4, _, rfl, p4, H5⟩ := HAll_cons H4
 obtain ⟨v1_5, _, rfl, p5, H6⟩ := HAll_cons H5
 obtain ⟨v1_6, _, rfl, p6, H7⟩ := HAll_cons H6
 obtain ⟨v1_7, _, rfl, p7, H8⟩ := HAll_cons H7
 obtain ⟨v1_8, _, rfl, p8, H9⟩ := HAll_cons H8
 obtain ⟨v1_9, _, rfl, p9, H10⟩ := HAll_cons H9
 obtain ⟨v1_10, _, rfl, p10, H11⟩ := HAll_cons H10
 obtain ⟨v1_11, _, rfl, p11, H12⟩ := HAll_cons H11
 obtain ⟨v1_12, _, rfl, p12, H13⟩ := HAll_cons H12
 obtain ⟨v1_13, _, rfl, p13, H14⟩ := HAll_cons H13
 obtain ⟨v1_14, _, rfl, p14, H15⟩ := HAll_cons H14
 obtain ⟨v1_15, _, rfl, p15, H16⟩ := HAll_cons H15
 obtain ⟨v1_16, _, rfl, p16, H17⟩ := HAll_cons H16
 obtain rfl := HAll_nil H17
 obtain rfl := p0 rfl
 obtain rfl := p1 rfl
 obtain rfl := p2 rfl
 obtain rfl := p3 rfl
 obtain rfl := p4 rfl
 obtain rfl := p5 rfl
 obtain rfl := p6 rfl
 obtain rfl := p7 rfl
 obtain rfl := p8 rfl
 obtain rfl := p9 rfl
 obtain rfl := p10 rfl
 obtain rfl := p11 rfl
 obtain rfl := p12 rfl
 obtain rfl := p13 rfl
 obtain rfl := p15 rfl
 obtain rfl := p16 rfl
 clear p0 p1 p2 p3 p4 p5 p6 p7 p8 p9 p10 p11 p12 p13 p14 p15 p16 H0 H1 H2 H3 H4 H5 H6 H7 H8 H9 H10 H11 H12 H13 H14 H15 H16 H17
 simp only [putAll, Act.put]
 go_simp
 go_wp2_with fail
 go_ret
 exact ⟨ret_bool HH.out, hb1⟩
end Go.Proofs.YtmnjlhcbabhhlaaGreat
namespace Go.Proofs.YtmnjlhcbabhhlaaGreat
open Go.RowKit Go.Sort

/-- a slice in new memory, and a code -/
def RetSC {α : Type} (E : Ty α) (w : World) (x : α) (c : Int) (e : Ending) (w' : World) : Prop := ∃ u, e = .returned (.tuple #[u, .int .i64 c]) ∧ E.Fr w.heap.size w' [u] x ∧ Below w.heap.size w w'
section
variable {t : Int × List (Int × List (List Int))} {rel : Int}
end
end Go.Proofs.YtmnjlhcbabhhlaaGreat
namespace Go.Proofs.YtmnjlhcbabhhlaaGreat
open Go.RowKit Go.Sort
theorem news2 {w : World} {u u' : Value} {T : TypeId} : ∀ j x, [u, u'][j]? = some x → (w.alloc (.cells #[u, u'] T)).cell? ((⟨w.heap.size, 0, none⟩ : Addr).add j) = some x := by
 intro j x h
 match j with
 | 0 => simp at h; subst h; simp [Addr.add]
 | 1 => simp at h; subst h; simp [Addr.add]
 | j + 2 => simp at h
end Go.Proofs.YtmnjlhcbabhhlaaGreat
namespace Go.Proofs.YtmnjlhcbabhhlaaGreat
open Go.RowKit Go.Sort
section
variable (t : Int × List (Int × List (List Int))) (f : Int × Int × List (Int × List Int)) (v : Int)
end
section
variable {t : Int × List (Int × List (List Int))} {f : Int × Int × List (Int × List Int)} {v : Int}
end
theorem wrap_small {n : Int} (h0 : -1000000000000000000 ≤ n) (h1 : n ≤ 1000000000000000000) : IntKind.i64.wrap n = n := by
 simp [IntKind.wrap, IntKind.signed, IntKind.bits]
 omega
end Go.Proofs.YtmnjlhcbabhhlaaGreat
namespace Go.Proofs.YtmnjlhcbabhhlaaGreat
open Go.RowKit Go.Sort
theorem size_set {w : World} {a : Addr} {u : Value} : (w.setCell a u).heap.size = w.heap.size := by simp [World.setCell]
theorem ex_slice {α : Type} {E : Ty α} {base : Nat} {w : World} {u : Value} {x : List α} (h : (Ty.slice E).Fr base w [u] x) : ∃ ad n cap, u = .slice ad n cap := let ⟨a, c, h⟩ := fr_slice h; ⟨a, _, c, h⟩
theorem rd_sl {α : Type} {E : Ty α} {w : World} {u : Value} {x : List α} (h : (Ty.slice E).Rd w [u] x) : ∃ ad n cap, u = .slice ad n cap := let ⟨a, c, h⟩ := rd_slice h; ⟨a, _, c, h⟩
end Go.Proofs.YtmnjlhcbabhhlaaGreat
namespace Go.Proofs.YtmnjlhcbabhhlaaGreat
open Go.RowKit Go.Sort
end Go.Proofs.YtmnjlhcbabhhlaaGreat
namespace Go.Proofs.YtmnjlhcbabhhlaaGreat
open Go.RowKit Go.Sort
theorem flat_nil (n : Nat) : flat (fun _ => []) n = [] := List.eq_nil_iff_forall_not_mem.2 fun x hx => by obtain ⟨_, _, h⟩ := List.mem_flatMap.1 hx; cases h
theorem wpList_appI {P : Program} (w : World) {ops : Array Oper} {rest : List Oper} {o : Oper} {a : Act} {Q : Exit → Act → World → Prop} (hgd : o.guard = none) (s x : Operand) (t e : TypeId) {bytes : Nat}
  (ho : o.op = .call { callee := .builtin .append, args := #[s, x], argTypes := #[t, t] }) (hT : ElT P t e 1 bytes)
  {base top : Nat} {v : Value} {ys : List Int} (hs : a.eval s = v) (hB : Bl Ty.int e base top w v ys)
  {u : Value} {xs : List Int} (hx : a.eval x = u) (hr : intsT.Rd w [u] xs) (h0 : 0 < xs.length)
  (hlen : ys.length + xs.length ≤ 1000000000) (hby : bytes ≤ 100000) (hbt : base ≤ top) (htop : top ≤ w.heap.size)
  (h : ∀ v' w', Bl Ty.int e base w'.heap.size w' v' (ys ++ xs) → w.grownBy w' v.ownBlock → (v'.ownBlock = v.ownBlock ∨ v'.ownBlock = some w.heap.size) → wpList P ops Q rest (a.put o.dst v') w') : wpList P ops Q (o :: rest) a w := by
 obtain ⟨L, fps, g1, g2, g3, g4, g5, g6⟩ := hB
 obtain ⟨ad', cap', hu, hl, hc, hcell⟩ := ints_ex hr
 obtain ⟨b, o', rfl, hb, hce⟩ := hcell h0
 obtain rfl : u = .slice (some ⟨b, o', none⟩) xs.length cap' := by simpa using hu
 obtain ⟨i, z, ht, hi, hz, hsz, hbt', hzs, hp⟩ := id hT
 have hnews : ∀ (j : Nat) (u : Value), (xs.map (Value.int .i64))[j]? = some u → w.cell? ((⟨b, o', none⟩ : Addr).add j) = some u := by
  intro j u hj
  rw [List.getElem?_map] at hj
  by_cases hjl : j < xs.length
  ·rw [List.getElem?_eq_getElem hjl] at hj
   simp only [Option.map_some, Option.some.injEq] at hj
   subst hj
   have := (hce j hjl).2
   by_cases hj0 : j = 0
   ·subst hj0
    simpa [Addr.add] using this
   ·simpa [Addr.add, hj0] using this
  ·rw [List.getElem?_eq_none (by omega)] at hj
   simp at hj
 have hone : ∀ u ∈ xs.map (Value.int .i64), u.oneCell' = true := by
  intro u hu
  obtain ⟨n, _, rfl⟩ := List.mem_map.1 hu
  rfl
 have hnl : (xs.map (Value.int .i64)).length = xs.length * 1 := by simp
 have hlen' : (ys.length + xs.length) * bytes ≤ 140737488355328 := Nat.le_trans (Nat.mul_le_mul hlen hby) (by decide)
 have hbase : base ≤ w.heap.size := Nat.le_trans hbt htop
 have hLl : L.length = ys.length := by have := g1.1; simpa [Ty.int] using this
 refine wpList_plain hgd fun K hK => ?_
 obtain ⟨v', w', hr', h2, h3, h4⟩ := run_append_own (P := P) w base t o.type e i z 1 bytes ht hi hz hsz hbt' hzs hp v ys.length L g1 ⟨b, o', none⟩ xs.length cap' _ hnl hnews hone (by unfold maxLen; omega) hlen' hbase
 have hblk := run_push_block w base t o.type e hT v ys.length L g1 ⟨b, o', none⟩ xs.length cap' _ hnl hnews hone (by unfold maxLen; omega) hlen' h0 v' w' hr'
 have hBl : Bl Ty.int e base w'.heap.size w' v' (ys ++ xs) := by
  refine ⟨L ++ xs.map (Value.int .i64), fun _ => [], by simpa [Ty.int] using h2, fun j hj => ?_, by rw [flat_nil]; exact List.nodup_nil, by rw [flat_nil]; simp, fun g hg => (h2.lt g hg).2, by rw [flat_nil]; intro b hb; cases hb⟩
  by_cases hjy : j < ys.length
  ·obtain ⟨cs, ⟨rfl, hI, _⟩, hk⟩ := g2 j hjy
   refine ⟨[.int .i64 (ys ++ xs)[j]], ⟨rfl, by rw [List.getElem_append_left hjy]; exact hI, rfl⟩, fun q hq => ?_⟩
   obtain rfl : q = 0 := by simpa using hq
   have := hk 0 (by simp)
   rw [List.getElem?_append_left (by rw [hLl]; simp [Ty.int]; exact hjy)]
   simpa [List.getElem_append_left hjy] using this
  ·have hj' : j - ys.length < xs.length := by rw [List.length_append] at hj; omega
   have hge : (ys ++ xs)[j] = xs[j - ys.length] := List.getElem_append_right (by omega)
   refine ⟨[.int .i64 (ys ++ xs)[j]], ⟨rfl, by rw [hge]; exact (hce _ hj').1, rfl⟩, fun q hq => ?_⟩
   obtain rfl : q = 0 := by simpa using hq
   rw [List.getElem?_append_right (by rw [hLl]; simp [Ty.int]; omega), hLl]
   simp [Ty.int, hge, hj']
 unfold Oper.wp execOp
 simp only [ho, resolve, invoke, builtin, Sem.run_bind, Sem.run_pure, Result.andThen_ok, List.map_toArray, List.map_cons, List.map_nil, hs, hx, hr']
 exact hK _ _ (h v' w' hBl h3 hblk)
set_option maxHeartbeats 800000 in
theorem l00Own_any (w : World) {v : Value} {xs : List Int} (h : intsT.Rd w [v] xs) (hlen : xs.length ≤ 1000000) :
  Calls Tryz.prog 92 #[v] w fun e w' => ∃ u, e = .returned u ∧ Bl Ty.int 2 w.heap.size w'.heap.size w' u xs ∧ Below w.heap.size w w' := by
 have hx := h
 obtain ⟨ad, cap, rfl⟩ := rd_slice h
 have HX := Lib.hid hx
 rcases Nat.eq_zero_or_pos xs.length with h0 | h0
 ·obtain rfl := List.eq_nil_of_length_eq_zero h0
  clear h hx h0 HX
  cases ad
  all_goals
   go_enter Tryz.func92, Tryz.ntmps92
   go_wp2_with fail
   go_ret
   exact ⟨_, rfl, by simpa using Bl.lit0 (E := Ty.int) (e := 2) (w := w) (Nat.le_refl _), bA⟩
 ·clear h hx
  have HB := Lib.hid (Bl.lit0 (E := Ty.int) (e := 2) (base := w.heap.size) (w := w) (Nat.le_refl _))
  go_enter Tryz.func92, Tryz.ntmps92
  go_wp2_with (refine wpList_appI _ rfl _ _ 50 2 rfl elInt rfl HB.out rfl (HX.out.below bA) h0 (by simp; omega) (by decide) (by omega) (by simp) ?_; intro v1 w1 hB1 hg1 _)
  have HB1 := Lib.hid hB1
  have hb1 : Below w.heap.size w w1 := (bA (w := w)).grown hg1 (by simp) (fun k hk => HB.out.own hk)
  clear hB1
  go_wp2_with fail
  go_ret
  exact ⟨_, rfl, HB1.out, hb1⟩
end Go.Proofs.YtmnjlhcbabhhlaaGreat
namespace Go.Proofs.YtmnjlhcbabhhlaaGreat
open Go.RowKit Go.Sort
/-- the slices that stand in a row read as the first tuples -/
def picked (w : World) (vs : List Value) (ts : List (List Int)) : Prop := vs.length ≤ ts.length ∧ ∀ i (h : i < vs.length) (h' : i < ts.length), intsT.Rd w [vs[i]] ts[i]
theorem picked.below {w w' : World} {vs : List Value} {ts : List (List Int)} (h : picked w vs ts) (hb : Below w.heap.size w w') : picked w' vs ts := ⟨h.1, fun i h1 h2 => (h.2 i h1 h2).below hb⟩
end Go.Proofs.YtmnjlhcbabhhlaaGreat
namespace Go.Proofs.YtmnjlhcbabhhlaaGreat
theorem cellB {B b o : Nat} {w w' : World} (hb : RowKit.Below B w w') (h : b < B) : w'.cell? ⟨b, o, none⟩ = w.cell? ⟨b, o, none⟩ := hb.cell (p := ⟨b, o, none⟩) h
theorem frozenB {B b o : Nat} {w w' : World} (hb : RowKit.Below B w w') (h : b < B) : w'.frozen? ⟨b, o, none⟩ = w.frozen? ⟨b, o, none⟩ := hb.frozen (p := ⟨b, o, none⟩) h


section
variable {P : Program} {ops : Array Oper} {Q : Exit → Act → World → Prop} {md : Region.Mode} {S : World → Prop} {tail : List Nat}

/-- one of the last writes has come up -/
def pastB (tail : List Nat) (listed : Array Bool) : Bool := tail.any fun t => listed.getD t false

def wpAnyT (P : Program) (md : Region.Mode) (ops : Array Oper) (Q : Exit → Act → World → Prop) (S : World → Prop) (tail : List Nat) : Nat → Array Bool → Act → World → Prop
 | 0, listed, a, w => Region.ready md ops listed = [] ∧ Q .normal a w
 | fuel + 1, listed, a, w =>
  (Region.ready md ops listed = [] → Q .normal a w) ∧
  ∀ i ∈ Region.ready md ops listed, wpOp P ops Q i (fun a' w' => (pastB tail (listed.setIfInBounds i true) = false → S w') ∧ wpAnyT P md ops Q S tail fuel (listed.setIfInBounds i true) a' w') a w

theorem wpAny_of_T : ∀ (fuel : Nat) (listed : Array Bool) (a : Act) (w : World), wpAnyT P md ops Q S tail fuel listed a w → wpAny P md ops Q fuel listed a w
 | 0, _, _, _, h => h
 | fuel + 1, _, _, _, h => ⟨h.1, fun i hi => wpOp_mono (fun a' w' h' => wpAny_of_T fuel _ a' w' h'.2) (h.2 i hi)⟩

/-- what can come up while number i has not: all that are in R -/
def lowB (md : Region.Mode) (ops : Array Oper) (i : Nat) (listed R : Array Bool) (tail : List Nat) : Bool :=
 ((List.range ops.size).all fun k => k == i || R.getD k false || match ops[k]? with
  | some o => o.after.any fun e => Region.binds md e && !R.getD e.on false
  | none => true) && ((List.range ops.size).all fun k => !listed.getD k false || R.getD k false) && tail.all fun t => !R.getD t false && decide (t < ops.size) && t != i
/-- these -/
def grow1 (md : Region.Mode) (ops : Array Oper) (i : Nat) (R : Array Bool) : Array Bool :=
 (Array.range ops.size).map fun k => R.getD k false || (k != i && match ops[k]? with
  | some o => o.after.all fun e => !Region.binds md e || R.getD e.on false
  | none => false)
def lowSet (md : Region.Mode) (ops : Array Oper) (i : Nat) (listed : Array Bool) : Nat → Array Bool
 | 0 => listed
 | n + 1 => grow1 md ops i (lowSet md ops i listed n)
def lateB (md : Region.Mode) (ops : Array Oper) (i : Nat) (listed : Array Bool) (tail : List Nat) : Bool := lowB md ops i listed (lowSet md ops i listed ops.size) tail

structure Low (md : Region.Mode) (ops : Array Oper) (i : Nat) (R : Array Bool) (tail : List Nat) : Prop where
 up : ∀ (k : Nat) (o : Oper), ops[k]? = some o → k ≠ i → (∀ e ∈ o.after, Region.binds md e = true → R.getD e.on false = true) → R.getD k false = true
 out : ∀ t ∈ tail, R.getD t false = false
 ne : ∀ t ∈ tail, t ≠ i
theorem lowB_spec {i : Nat} {listed R : Array Bool} (h : lowB md ops i listed R tail = true) : Low md ops i R tail ∧ ∀ k, k < ops.size → listed.getD k false = true → R.getD k false = true := by
 unfold lowB at h
 simp only [Bool.and_eq_true, List.all_eq_true, List.mem_range] at h
 obtain ⟨⟨h1, h2⟩, h3⟩ := h
 refine ⟨⟨fun k o ho hk hd => ?_, fun t ht => by have := (h3 t ht).1.1; simpa using this, fun t ht => by have := (h3 t ht).2; simpa using this⟩, fun k hk hl => ?_⟩
 ·have hks : k < ops.size := by
   rcases Nat.lt_or_ge k ops.size with h' | h'
   ·exact h'
   ·rw [Array.getElem?_eq_none h'] at ho; cases ho
  have := h1 k hks
  rw [ho] at this
  simp only [Bool.or_eq_true, beq_iff_eq] at this
  rcases this with (rfl | h') | h'
  ·exact absurd rfl hk
  ·exact h'
  ·simp only [Array.any_eq_true, Bool.and_eq_true, Bool.not_eq_true'] at h'
   obtain ⟨x, hx, hb⟩ := h'
   rw [hd _ (Array.getElem_mem hx) hb.1] at hb
   cases hb.2
 ·have := h2 k hk
  rw [hl] at this
  simpa using this

theorem low_step {i j : Nat} {listed R : Array Bool} (hL : Low md ops i R tail) (hsub : ∀ k, k < ops.size → listed.getD k false = true → R.getD k false = true) (hbd : ∀ (k : Nat) (o : Oper), ops[k]? = some o → ∀ e ∈ o.after, Region.binds md e = true → e.on < ops.size)
  (hj : j ∈ Region.ready md ops listed) (hji : j ≠ i) : R.getD j false = true ∧ ∀ k, k < ops.size → (listed.setIfInBounds j true).getD k false = true → R.getD k false = true := by
 obtain ⟨-, oj, hoj, hall⟩ := mem_ready.1 hj
 have hR : R.getD j false = true := hL.up j oj hoj hji fun e he hb => hsub e.on (hbd j oj hoj e he hb) (hall e he hb)
 refine ⟨hR, fun k hk hl => ?_⟩
 by_cases e : j = k
 ·subst e; exact hR
 ·rw [getD_set_ne false e] at hl; exact hsub k hk hl

theorem past_false {R listed : Array Bool} {i : Nat} (hL : Low md ops i R tail) (ht : ∀ t ∈ tail, t < ops.size) (hsub : ∀ k, k < ops.size → listed.getD k false = true → R.getD k false = true) : pastB tail listed = false := by
 unfold pastB
 rw [List.any_eq_false]
 intro t htl hh
 have := hsub t (ht t htl) hh
 rw [hL.out t htl] at this
 cases this

theorem wpAnyT_first {i : Nat} {oi : Oper} {v : Value} (hi : ops[i]? = some oi) (hsel : ∀ (j : Nat) (o : Oper) cs b, ops[j]? = some o → o.op ≠ .select cs b)
  (hQ : ∀ c a w, Q (.panic c) (a.put oi.dst v) w → Q (.panic c) a w) {R : Array Bool} (hL : Low md ops i R tail) (ht : ∀ t ∈ tail, t < ops.size) (hbd : ∀ (k : Nat) (o : Oper), ops[k]? = some o → ∀ e ∈ o.after, Region.binds md e = true → e.on < ops.size) :
  ∀ (fuel : Nat) (listed : Array Bool) (a : Act) (w : World),
   (∀ j oj, ops[j]? = some oj → j ≠ i → listed.getD j true = false → (∀ e ∈ oj.after, Region.binds md e = true → e.on ≠ i) → oi.apart ops oj = true) →
   i ∈ Region.ready md ops listed → YieldsIf P ops S oi v a → S w → (∀ k, k < ops.size → listed.getD k false = true → R.getD k false = true) →
   wpAnyT P md ops Q S tail fuel (listed.setIfInBounds i true) (a.put oi.dst v) w → wpAnyT P md ops Q S tail (fuel + 1) listed a w := by
 intro fuel
 induction fuel with
 | zero =>
  intro listed a w _ hr hy hS hsub H
  refine ⟨fun h => (by rw [h] at hr; cases hr), fun j hj => ?_⟩
  by_cases hji : j = i
  ·subst hji; exact hy.wpOp hi hS ⟨fun _ => hS, H⟩
  ·have := ready_mono hj hji
   rw [H.1] at this
   cases this
 | succ fuel ih =>
  intro listed a w hfree hr hy hS hsub H
  refine ⟨fun h => (by rw [h] at hr; cases hr), fun j hj => ?_⟩
  by_cases hji : j = i
  ·subst hji; exact hy.wpOp hi hS ⟨fun _ => hS, H⟩
  ·have h1 := H.2 j (ready_mono hj hji)
   obtain ⟨hjun, oj, hoj, hall⟩ := mem_ready.1 hj
   have hnot : ∀ e ∈ oj.after, Region.binds md e = true → e.on ≠ i := fun e he hb heq => by
    have h1 := hall e he hb
    have h0 := (mem_ready.1 hr).1
    rw [heq] at h1
    rcases Nat.lt_or_ge i listed.size with h' | h'
    ·simp [h'] at h0 h1; rw [h0] at h1; cases h1
    ·simp [Array.getElem?_eq_none h'] at h1
   have h2 := wpOp_putIf hoj (hfree j oj hoj hji hjun hnot) (fun cs b => hsel i oi cs b hi) (fun cs b => hsel j oj cs b hoj) hQ hy h1
   have hfree' : ∀ k ok, ops[k]? = some ok → k ≠ i → (listed.setIfInBounds j true).getD k true = false →
     (∀ e ∈ ok.after, Region.binds md e = true → e.on ≠ i) → oi.apart ops ok = true := fun k ok hk hki hun hno => by
    refine hfree k ok hk hki ?_ hno
    by_cases hjk : j = k
    ·subst hjk; exact hjun
    ·rw [getD_set_ne true hjk] at hun; exact hun
   obtain ⟨-, hsub'⟩ := low_step hL hsub hbd hj hji
   have hp : pastB tail ((listed.setIfInBounds i true).setIfInBounds j true) = false := by
    have h0 := past_false hL ht hsub'
    rw [Array.setIfInBounds_comm _ _ (Ne.symm hji)]
    unfold pastB at h0 ⊢
    rw [List.any_eq_false] at h0 ⊢
    intro t htl hh
    rw [getD_set_ne false (Ne.symm (hL.ne t htl))] at hh
    exact h0 t htl hh
   refine wpOp_mono (fun a' w' h3 => ⟨fun _ => h3.2.1 hp, ih (listed.setIfInBounds j true) a' w' hfree' (ready_mono hr (Ne.symm hji)) h3.1 (h3.2.1 hp) hsub' ?_⟩) h2
   rw [Array.setIfInBounds_comm _ _ hji]
   exact h3.2.2

/-- every edge leads to an operation -/
def edgesB (md : Region.Mode) (ops : Array Oper) : Bool := ops.all fun o => o.after.all fun e => !Region.binds md e || decide (e.on < ops.size)
theorem edgesB_spec (h : edgesB md ops = true) : ∀ (k : Nat) (o : Oper), ops[k]? = some o → ∀ e ∈ o.after, Region.binds md e = true → e.on < ops.size := by
 intro k o ho e he hb
 have h1 := Array.all_eq_true_iff_forall_mem.1 h o (Array.mem_of_getElem? ho)
 have h2 := Array.all_eq_true_iff_forall_mem.1 h1 e he
 simpa [hb] using h2

/-- take number i first -/
theorem wpAnyT_take {i : Nat} {oi : Oper} {v : Value} {fuel : Nat} {listed : Array Bool} {a : Act} {w : World} (hi : ops[i]? = some oi)
  (hs : (Region.noSelect ops && edgesB md ops && Region.free md ops listed i && (Region.ready md ops listed).contains i && lateB md ops i listed tail) = true)
  (hQ : ∀ c a w, Q (.panic c) (a.put oi.dst v) w → Q (.panic c) a w) (hy : YieldsIf P ops S oi v a) (hS : S w)
  (h : wpAnyT P md ops Q S tail fuel (listed.setIfInBounds i true) (a.put oi.dst v) w) : wpAnyT P md ops Q S tail (fuel + 1) listed a w := by
 simp only [Bool.and_eq_true] at hs
 obtain ⟨⟨⟨⟨s1, s2⟩, s3⟩, s4⟩, s5⟩ := hs
 obtain ⟨hL, hsub⟩ := lowB_spec s5
 have ht : ∀ t ∈ tail, t < ops.size := fun t ht => by
  unfold lateB lowB at s5
  simp only [Bool.and_eq_true, List.all_eq_true] at s5
  simpa using (s5.2 t ht).1.2
 exact wpAnyT_first hi (Region.noSelect_spec s1) hQ hL ht (edgesB_spec s2) fuel listed a w (Region.free_spec hi s3) (by simpa using s4) hy hS hsub h

/-- what yields in whatever world: taken first, also where the condition holds no more -/
theorem wpAnyT_free {i : Nat} {oi : Oper} {v : Value} (hi : ops[i]? = some oi) (hsel : ∀ (j : Nat) (o : Oper) cs b, ops[j]? = some o → o.op ≠ .select cs b)
  (hQ : ∀ c a w, Q (.panic c) (a.put oi.dst v) w → Q (.panic c) a w) (hti : i ∉ tail) :
  ∀ (fuel : Nat) (listed : Array Bool) (a : Act) (w : World),
   (∀ j oj, ops[j]? = some oj → j ≠ i → listed.getD j true = false → (∀ e ∈ oj.after, Region.binds md e = true → e.on ≠ i) → oi.apart ops oj = true) →
   i ∈ Region.ready md ops listed → YieldsIf P ops (fun _ => True) oi v a → (pastB tail listed = false → S w) →
   wpAnyT P md ops Q S tail fuel (listed.setIfInBounds i true) (a.put oi.dst v) w → wpAnyT P md ops Q S tail (fuel + 1) listed a w := by
 have hpi : ∀ L : Array Bool, pastB tail (L.setIfInBounds i true) = pastB tail L := fun L => by
  unfold pastB
  rw [Bool.eq_iff_iff]
  simp only [List.any_eq_true]
  constructor
  ·rintro ⟨t, h1, h2⟩; exact ⟨t, h1, by rwa [getD_set_ne false (show i ≠ t from fun e => hti (by rw [e]; exact h1))] at h2⟩
  ·rintro ⟨t, h1, h2⟩; exact ⟨t, h1, by rwa [getD_set_ne false (show i ≠ t from fun e => hti (by rw [e]; exact h1))]⟩
 intro fuel
 induction fuel with
 | zero =>
  intro listed a w _ hr hy hS H
  refine ⟨fun h => (by rw [h] at hr; cases hr), fun j hj => ?_⟩
  by_cases hji : j = i
  ·subst hji; exact hy.wpOp hi trivial ⟨fun hp => hS (by rw [← hpi]; exact hp), H⟩
  ·have := ready_mono hj hji
   rw [H.1] at this
   cases this
 | succ fuel ih =>
  intro listed a w hfree hr hy hS H
  refine ⟨fun h => (by rw [h] at hr; cases hr), fun j hj => ?_⟩
  by_cases hji : j = i
  ·subst hji; exact hy.wpOp hi trivial ⟨fun hp => hS (by rw [← hpi]; exact hp), H⟩
  ·have h1 := H.2 j (ready_mono hj hji)
   obtain ⟨hjun, oj, hoj, hall⟩ := mem_ready.1 hj
   have hnot : ∀ e ∈ oj.after, Region.binds md e = true → e.on ≠ i := fun e he hb heq => by
    have h1 := hall e he hb
    have h0 := (mem_ready.1 hr).1
    rw [heq] at h1
    rcases Nat.lt_or_ge i listed.size with h' | h'
    ·simp [h'] at h0 h1; rw [h0] at h1; cases h1
    ·simp [Array.getElem?_eq_none h'] at h1
   have h2 := wpOp_putIf hoj (hfree j oj hoj hji hjun hnot) (fun cs b => hsel i oi cs b hi) (fun cs b => hsel j oj cs b hoj) hQ hy h1
   have hfree' : ∀ k ok, ops[k]? = some ok → k ≠ i → (listed.setIfInBounds j true).getD k true = false →
     (∀ e ∈ ok.after, Region.binds md e = true → e.on ≠ i) → oi.apart ops ok = true := fun k ok hk hki hun hno => by
    refine hfree k ok hk hki ?_ hno
    by_cases hjk : j = k
    ·subst hjk; exact hjun
    ·rw [getD_set_ne true hjk] at hun; exact hun
   refine wpOp_mono (fun a' w' h3 => ⟨fun hp => h3.2.1 (by rw [Array.setIfInBounds_comm _ _ (Ne.symm hji), hpi]; exact hp), ih (listed.setIfInBounds j true) a' w' hfree' (ready_mono hr (Ne.symm hji)) h3.1 (fun hp => h3.2.1 (by rw [Array.setIfInBounds_comm _ _ (Ne.symm hji), hpi]; exact hp)) ?_⟩) h2
   rw [Array.setIfInBounds_comm _ _ hji]
   exact h3.2.2
theorem wpAnyT_any {i : Nat} {oi : Oper} {v : Value} {fuel : Nat} {listed : Array Bool} {a : Act} {w : World} (hi : ops[i]? = some oi)
  (hs : (Region.noSelect ops && Region.free md ops listed i && (Region.ready md ops listed).contains i && !tail.contains i) = true)
  (hQ : ∀ c a w, Q (.panic c) (a.put oi.dst v) w → Q (.panic c) a w) (hy : YieldsIf P ops (fun _ => True) oi v a) (hS : pastB tail listed = false → S w)
  (h : wpAnyT P md ops Q S tail fuel (listed.setIfInBounds i true) (a.put oi.dst v) w) : wpAnyT P md ops Q S tail (fuel + 1) listed a w := by
 simp only [Bool.and_eq_true] at hs
 obtain ⟨⟨⟨s1, s2⟩, s3⟩, s4⟩ := hs
 exact wpAnyT_free hi (Region.noSelect_spec s1) hQ (by simpa using s4) fuel listed a w (Region.free_spec hi s2) (by simpa using s3) hy hS h

/-- one alone may come up: not one of the last -/
theorem wpAnyT_one {i : Nat} {o : Oper} {fuel : Nat} {listed : Array Bool} {a : Act} {w : World} (ho : ops[i]? = some o) (hr : Region.ready md ops listed = [i])
  (h : ∀ K' : Act → World → Prop, Shut (∀ a w, S w → (S w → wpAnyT P md ops Q S tail fuel (listed.setIfInBounds i true) a w) → K' a w) → if Region.wanted o (yielded ops a.tmps) = true then Oper.wp P o a w K' Q else K' (a.put o.dst undef) w) :
  wpAnyT P md ops Q S tail (fuel + 1) listed a w := by
 refine ⟨fun h0 => (by rw [h0] at hr; cases hr), fun j hj => ?_⟩
 rw [hr] at hj
 obtain rfl : j = i := by simpa using hj
 exact wpOp_step ho (fun K' hK => h K' (fun a w hS hW => hK a w ⟨fun _ => hS, hW hS⟩))
/-- one alone may come up: one of the last, or behind them -/
theorem wpAnyT_last {i : Nat} {o : Oper} {fuel : Nat} {listed : Array Bool} {a : Act} {w : World} (ho : ops[i]? = some o) (hr : Region.ready md ops listed = [i]) (hp : pastB tail (listed.setIfInBounds i true) = true)
  (h : ∀ K' : Act → World → Prop, Shut (∀ a w, wpAnyT P md ops Q S tail fuel (listed.setIfInBounds i true) a w → K' a w) → if Region.wanted o (yielded ops a.tmps) = true then Oper.wp P o a w K' Q else K' (a.put o.dst undef) w) :
  wpAnyT P md ops Q S tail (fuel + 1) listed a w := by
 refine ⟨fun h0 => (by rw [h0] at hr; cases hr), fun j hj => ?_⟩
 rw [hr] at hj
 obtain rfl : j = i := by simpa using hj
 exact wpOp_step ho (fun K' hK => h K' (fun a w hW => hK a w ⟨fun h => (by rw [hp] at h; cases h), hW⟩))
theorem wpAnyT_done {listed : Array Bool} {a : Act} {w : World} (hr : Region.ready md ops listed = []) (h : Q .normal a w) :
  ∀ fuel, wpAnyT P md ops Q S tail fuel listed a w
 | 0 => ⟨hr, h⟩
 | _ + 1 => ⟨fun _ => h, by rw [hr]; simp⟩
theorem wp_region_T (S : World → Prop) (tail : List Nat) {id : Nat} {a : Act} {w : World} (hm : P.follows .mixedOrders = true) (hS : S w.drew)
  (h : S w.drew → wpAnyT P .any ops Q S tail ops.size (Array.replicate ops.size false) a w.drew) : (Code.region id ops true).wp P Q a w :=
 wp_region_any hm (wpAny_of_T _ _ _ _ (h hS))
end
end Go.Proofs.YtmnjlhcbabhhlaaGreat
namespace Go.Proofs.YtmnjlhcbabhhlaaGreat
open Go.RowKit Go.Sort
theorem news2' {w : World} {u u' : Value} {T : TypeId} {B : Nat} (hB : B = w.heap.size) : ∀ j x, [u, u'][j]? = some x → (w.alloc (.cells #[u, u'] T)).cell? ((⟨B, 0, none⟩ : Addr).add j) = some x := by subst hB; exact news2
theorem news1' {w : World} {u : Value} {T : TypeId} {B : Nat} (hB : B = w.heap.size) : ∀ j x, [u][j]? = some x → (w.alloc (.cells #[u] T)).cell? ((⟨B, 0, none⟩ : Addr).add j) = some x := by subst hB; exact news1
theorem set2_cells {w : World} {b : Nat} {x y u v : Value} (h0 : w.cell? ⟨b, 0, none⟩ = some u) (h1 : w.cell? ⟨b, 1, none⟩ = some v) :
  ((w.setCell ⟨b, 0, none⟩ x).setCell ⟨b, 1, none⟩ y).cell? ⟨b, 0, none⟩ = some x ∧ ((w.setCell ⟨b, 0, none⟩ x).setCell ⟨b, 1, none⟩ y).cell? ⟨b, 1, none⟩ = some y :=
 ⟨(World.cell?_setCell_other _ _ _ _ (by simp)).trans (World.cell?_setCell_same _ _ _ h0), World.cell?_setCell_same _ _ _ ((World.cell?_setCell_other _ _ _ _ (by simp)).trans h1)⟩
theorem fr_set2 {α : Type} {E : Ty α} {base : Nat} {w : World} {cs : List Value} {x : α} {b : Nat} {u v : Value} (h : E.Fr base w cs x) (ha : b < base) : E.Fr base ((w.setCell ⟨b, 0, none⟩ u).setCell ⟨b, 1, none⟩ v) cs x := (h.set (a := ⟨b, 0, none⟩) ha).set (a := ⟨b, 1, none⟩) ha
end Go.Proofs.YtmnjlhcbabhhlaaGreat
namespace Go.Proofs.YtmnjlhcbabhhlaaGreat
open Go.RowKit Go.Sort
def topI (xs : List Int) : Int := xs.foldl max 0
theorem topI_take {xs : List Int} {k : Nat} (h : k < xs.length) : topI (xs.take (k + 1)) = max (topI (xs.take k)) xs[k] := by
 unfold topI
 rw [List.take_succ_eq_append_getElem h, List.foldl_append]
 rfl
theorem foldl_max_ge : ∀ {xs : List Int} {a : Int}, a ≤ xs.foldl max a ∧ ∀ x ∈ xs, x ≤ xs.foldl max a
 | [], a => ⟨Int.le_refl _, fun x hx => by cases hx⟩
 | y :: r, a => by
  obtain ⟨h1, h2⟩ := foldl_max_ge (xs := r) (a := max a y)
  rw [List.foldl_cons]
  refine ⟨by omega, fun x hx => ?_⟩
  rcases List.mem_cons.1 hx with rfl | hx
  ·omega
  ·exact h2 x hx
theorem topI_ge {xs : List Int} {x : Int} (h : x ∈ xs) : x ≤ topI xs := foldl_max_ge.2 x h
theorem topI_nn {xs : List Int} : 0 ≤ topI xs := foldl_max_ge.1
theorem foldl_max_le {c : Int} : ∀ {xs : List Int} {a : Int}, a ≤ c → (∀ x ∈ xs, x ≤ c) → xs.foldl max a ≤ c
 | [], _, h, _ => h
 | y :: r, a, h, h2 => by
  rw [List.foldl_cons]
  exact foldl_max_le (by have := h2 y (List.mem_cons_self ..); omega) fun x hx => h2 x (List.mem_cons_of_mem _ hx)
theorem topI_le {xs : List Int} {c : Int} (h0 : 0 ≤ c) (h : ∀ x ∈ xs, x ≤ c) : topI xs ≤ c := foldl_max_le h0 h
/-- does an atom hold for values? -/
noncomputable def holdsA (t : Int × List (Int × List (List Int))) (vals : List Int) (a : Int × List Int) : Bool := match (a.1 == -1) with
 | true => (atL vals a.2).getD 0 0 == (atL vals a.2).getD 1 0
 | false => tb (holdsC t vals a)
theorem holdsA_rel {t : Int × List (Int × List (List Int))} {vals : List Int} {a : Int × List Int} (h : (a.1 == -1) = false) : holdsA t vals a = tb (holdsC t vals a) := by simp only [holdsA, h]
end Go.Proofs.YtmnjlhcbabhhlaaGreat
namespace Go.Proofs.YtmnjlhcbabhhlaaGreat
open Go.RowKit Go.Sort
abbrev Tpl := Int × List (Int × List (List Int))
/-- the truth values of a template's relations -/
def insF (t : Tpl) : List (List Bool) := t.2.map fun r => seenL t.1 (t.1 ^ r.1.toNat).toNat r.2
end Go.Proofs.YtmnjlhcbabhhlaaGreat
namespace Go.Proofs.YtmnjlhcbabhhlaaGreat
/-- all lists of m more values that go, in order -/
def solsL (s : Nat) (sure : List Int → Bool) : Nat → List Int → List (List Int)
 | 0, vals => [vals]
 | m + 1, vals => (List.range s).flatMap fun a : Nat => if sure (vals ++ [(a : Int)]) then solsL s sure m (vals ++ [(a : Int)]) else []
/-- those of the first k values at the next place -/
def solsTo (s : Nat) (sure : List Int → Bool) (m : Nat) (vals : List Int) (k : Nat) : List (List Int) :=
 (List.range k).flatMap fun a : Nat => if sure (vals ++ [(a : Int)]) then solsL s sure m (vals ++ [(a : Int)]) else []
section
variable {s m k : Nat} {sure : List Int → Bool} {vals : List Int}
theorem solsL_zero : solsL s sure 0 vals = [vals] := rfl
theorem solsL_succ : solsL s sure (m + 1) vals = solsTo s sure m vals s := rfl
theorem solsTo_zero : solsTo s sure m vals 0 = [] := by simp [solsTo]
theorem solsTo_yes (h : sure (vals ++ [(k : Int)]) = true) : solsTo s sure m vals (k + 1) = solsTo s sure m vals k ++ solsL s sure m (vals ++ [(k : Int)]) := by simp [solsTo, List.range_succ, h]
theorem solsTo_no (h : sure (vals ++ [(k : Int)]) = false) : solsTo s sure m vals (k + 1) = solsTo s sure m vals k := by simp [solsTo, List.range_succ, h]
theorem solsTo_append {s m k : Nat} {sure : List Int → Bool} {vals : List Int} : ∀ {j : Nat}, k ≤ j → ∃ r, solsTo s sure m vals j = solsTo s sure m vals k ++ r
 | 0, h => by
  obtain rfl : k = 0 := by omega
  exact ⟨[], by simp⟩
 | j + 1, h => by
  by_cases e : k = j + 1
  ·subst e; exact ⟨[], by simp⟩
  ·obtain ⟨r, hr⟩ := solsTo_append (s := s) (m := m) (k := k) (sure := sure) (vals := vals) (j := j) (by omega)
   cases hs : sure (vals ++ [(j : Int)])
   ·exact ⟨r, by rw [solsTo_no hs, hr]⟩
   ·exact ⟨r ++ solsL s sure m (vals ++ [(j : Int)]), by rw [solsTo_yes hs, hr, List.append_assoc]⟩
end
theorem flat_len {α β : Type} (f : α → List β) (c : Nat) : ∀ {xs : List α}, (∀ x ∈ xs, (f x).length ≤ c) → (xs.flatMap f).length ≤ xs.length * c
 | [], _ => by simp
 | x :: r, h => by
  rw [List.flatMap_cons, List.length_append, List.length_cons, Nat.add_mul]
  have h1 := h x (List.mem_cons_self ..)
  have h2 := flat_len f c (xs := r) fun y hy => h y (List.mem_cons_of_mem _ hy)
  omega
/-- there are not more than that -/
theorem solsL_len {s : Nat} {sure : List Int → Bool} : ∀ {m : Nat} {vals : List Int}, (solsL s sure m vals).length ≤ s ^ m
 | 0, vals => by simp [solsL]
 | m + 1, vals => by
  have h := flat_len (fun a : Nat => if sure (vals ++ [(a : Int)]) then solsL s sure m (vals ++ [(a : Int)]) else []) (s ^ m) (xs := List.range s) fun a _ => by
   cases hs : sure (vals ++ [(a : Int)])
   ·simp
   ·simpa using solsL_len
  rw [List.length_range] at h
  rw [Nat.pow_succ, Nat.mul_comm]
  exact h
section
variable {go : List (List Int) → Bool} {told xs ys : List (List Int)} {x : List Int}
end
/-- the first ones, as many as a list may hold -/
theorem take_app {α : Type} {n : Nat} {a b : List α} : ((a.take n) ++ b).take n = (a ++ b).take n := by
 rw [List.take_append, List.take_append, List.take_take, Nat.min_self, List.length_take]
 congr 2
 omega
end Go.Proofs.YtmnjlhcbabhhlaaGreat
namespace Go.Proofs.YtmnjlhcbabhhlaaGreat
open Go.RowKit
/-- read in blocks for which something is so -/
def Ty.RdP {α : Type} (E : Ty α) (ok : Nat → Prop) (w : World) (cs : List Value) (x : α) : Prop := ∃ fp, E.rd w cs x fp ∧ ∀ k ∈ fp, ok k
section
variable {α : Type} {E : Ty α} {ok ok' : Nat → Prop} {w w' : World} {cs : List Value} {x : α}
theorem Ty.RdP.rd (h : E.RdP ok w cs x) : E.Rd w cs x := let ⟨fp, h, _⟩ := h; ⟨fp, h⟩
theorem Ty.RdP.mono (h : E.RdP ok w cs x) (hk : ∀ k, k < w.heap.size → ok k → ok' k) : E.RdP ok' w cs x := let ⟨fp, h, hf⟩ := h; ⟨fp, h, fun k hk' => hk k (E.lt h k hk') (hf k hk')⟩
theorem Ty.Rd.P (h : E.Rd w cs x) : E.RdP (fun k => k < w.heap.size) w cs x := let ⟨fp, h⟩ := h; ⟨fp, h, E.lt h⟩
theorem Ty.RdP.tch {O : List Nat} (h : E.RdP ok w cs x) (ht : TchF O w w') (hO : ∀ k, k < w.heap.size → ok k → k ∉ O) : E.RdP ok w' cs x :=
 let ⟨fp, h, hf⟩ := h; ⟨fp, E.same h (ht.same fun k hk => ⟨E.lt h k hk, hO k (E.lt h k hk) (hf k hk)⟩), hf⟩
theorem Ty.RdP.below (h : E.RdP ok w cs x) (hb : Below w.heap.size w w') : E.RdP ok w' cs x := h.tch (O := []) (Below.tchF hb []) (fun _ _ _ => List.not_mem_nil)
theorem Ty.rd.below {fp : List Nat} (h : E.rd w cs x fp) (hb : Below w.heap.size w w') : E.rd w' cs x fp := E.same h (Same.below hb (E.lt h))
theorem Ty.rd.tch {fp O : List Nat} (h : E.rd w cs x fp) (ht : TchF O w w') (hO : ∀ k ∈ fp, k ∉ O) : E.rd w' cs x fp := E.same h (ht.same fun k hk => ⟨E.lt h k hk, hO k hk⟩)
end
theorem TchF.then {O O' : List Nat} {a b c : World} (h : TchF O a b) (h' : TchF O' b c) (hO : ∀ k ∈ O', k ∈ O ∨ a.heap.size ≤ k) : TchF O a c :=
 ⟨h'.os.trans h.os, h'.tape.trans h.tape, h'.output.trans h.output, Nat.le_trans h.size h'.size, fun k hk hn => (h'.block k (Nat.lt_of_lt_of_le hk h.size) fun hm => by
  rcases hO k hm with hm | hm
  ·exact hn hm
  ·omega).trans (h.block k hk hn)⟩
theorem TchF.below {O : List Nat} {a b : World} {B : Nat} (h : TchF O a b) (hB : B ≤ a.heap.size) (hO : ∀ k ∈ O, B ≤ k) : Below B a b :=
 ⟨h.os, h.tape, h.output, h.size, fun k hk => h.block k (Nat.lt_of_lt_of_le hk hB) fun hm => Nat.not_lt.2 (hO k hm) hk⟩
abbrev duesT : Ty (List (List (Int × List Int))) := Ty.slice opsT
/-- a search's data, at block bs: the template, how many variables, the atoms that are due at each -/
def Sv (ok : Nat → Prop) (w : World) (bs : Nat) (t : Int × List (Int × List (List Int))) (vars : Int) (due : List (List (Int × List Int))) : Prop :=
 bs < w.heap.size ∧ ok bs ∧ ∃ v1 v3, w.cell? ⟨bs, 0, none⟩ = some (.int .i64 t.1) ∧ w.cell? ⟨bs, 1, none⟩ = some v1 ∧ w.cell? ⟨bs, 2, none⟩ = some (.int .i64 vars) ∧ w.cell? ⟨bs, 3, none⟩ = some v3 ∧ tplT.RdP ok w [.int .i64 t.1, v1] t ∧ duesT.RdP ok w [v3] due
section
variable {ok ok' : Nat → Prop} {w w' : World} {bs : Nat} {t : Int × List (Int × List (List Int))} {vars : Int} {due : List (List (Int × List Int))}
theorem Sv.tch {O : List Nat} (h : Sv ok w bs t vars due) (ht : TchF O w w') (hO : ∀ k, k < w.heap.size → ok k → k ∉ O) : Sv ok w' bs t vars due := by
 obtain ⟨h1, h2, v1, v3, c0, c1, c2, c3, h3, h4⟩ := h
 have hn := hO bs h1 h2
 exact ⟨Nat.lt_of_lt_of_le h1 ht.size, h2, v1, v3, (ht.cell h1 hn).trans c0, (ht.cell h1 hn).trans c1, (ht.cell h1 hn).trans c2, (ht.cell h1 hn).trans c3, h3.tch ht hO, h4.tch ht hO⟩
theorem Sv.below (h : Sv ok w bs t vars due) (hb : Below w.heap.size w w') : Sv ok w' bs t vars due := h.tch (O := []) (Below.tchF hb []) (fun _ _ _ => List.not_mem_nil)
theorem Sv.mono (h : Sv ok w bs t vars due) (hk : ∀ k, k < w.heap.size → ok k → ok' k) : Sv ok' w bs t vars due := by
 obtain ⟨h1, h2, v1, v3, c0, c1, c2, c3, h3, h4⟩ := h
 exact ⟨h1, hk _ h1 h2, v1, v3, c0, c1, c2, c3, h3.mono hk, h4.mono hk⟩
end
/-- a listener of lists of values: what it keeps (I), and the blocks that it may write (O) -/
structure Yl (P : Program) (g : FuncId) (caps : Array Value) (go : List (List Int) → Bool) (I : List (List Int) → List Nat → World → Prop) : Prop where
 stable : ∀ {told O w w'}, I told O w → Below w.heap.size w w' → I told O w'
 lt : ∀ {told O w}, I told O w → ∀ k ∈ O, k < w.heap.size
 step : ∀ {told O w0 w u x}, I told O w0 → Below w0.heap.size w0 w → intsT.Fr w0.heap.size w [u] x → x.length ≤ 10 → told.length ≤ 2000000 →
  Calls P g (#[u] ++ caps) w fun e w' => e = .returned (.bool (go (told ++ [x]))) ∧ ∃ O', I (told ++ [x]) O' w' ∧ TchF O w w' ∧ ∀ k ∈ O', k ∈ O ∨ w0.heap.size ≤ k
end Go.Proofs.YtmnjlhcbabhhlaaGreat
namespace Go.Proofs.YtmnjlhcbabhhlaaGreat
open Go.RowKit
theorem slice_exP {α : Type} {E : Ty α} {ok : Nat → Prop} {w : World} {cs : List Value} {xs : List α} (h : (Ty.slice E).RdP ok w cs xs) :
  ∃ ad cap, cs = [.slice ad xs.length cap] ∧ xs.length ≤ cap ∧ xs.length ≤ 140737488351232 ∧
   (0 < xs.length → ∃ b o, ad = some ⟨b, o, none⟩ ∧ b < w.heap.size ∧ ok b ∧ ∀ i (h : i < xs.length), ∃ cs, E.RdP ok w cs xs[i] ∧ ∀ j (hj : j < cs.length), w.cell? ⟨b, o + i * E.sz + j, none⟩ = some cs[j]) := by
 obtain ⟨fp, ⟨ad, cap, rfl, h1, h2, h3⟩, hok⟩ := h
 refine ⟨ad, cap, rfl, h1, h2, fun hp => ?_⟩
 rcases h3 with h3 | ⟨h3, b, o, fps, rfl, hb, rfl, h4⟩
 ·omega
 ·exact ⟨b, o, rfl, hb, hok b (List.mem_cons_self ..), fun i hi => let ⟨cs, h5, h6⟩ := h4 i hi; ⟨cs, ⟨_, h5, fun k hk => hok k (List.mem_cons_of_mem _ (List.mem_flatMap.2 ⟨i, by simpa using hi, hk⟩))⟩, h6⟩⟩
/-- from its elements -/
theorem slice_mkP {α : Type} {E : Ty α} {ok : Nat → Prop} {w : World} {ad : Option Addr} {n cap : Nat} {xs : List α} (hn : n = xs.length) (h1 : n ≤ cap) (h2 : n ≤ capMax)
  (h : 0 < n → ∃ b o, ad = some ⟨b, o, none⟩ ∧ b < w.heap.size ∧ ok b ∧ ∀ i (h : i < xs.length), ∃ cs, E.RdP ok w cs xs[i] ∧ ∀ j (hj : j < cs.length), w.cell? ⟨b, o + i * E.sz + j, none⟩ = some cs[j]) :
  (Ty.slice E).RdP ok w [.slice ad n cap] xs := by
 subst hn
 rcases Nat.eq_zero_or_pos xs.length with h0 | h0
 ·exact ⟨[], ⟨ad, cap, rfl, h1, h2, .inl ⟨h0, rfl⟩⟩, fun k hk => by cases hk⟩
 ·obtain ⟨b, o, rfl, hb, hok, he⟩ := h h0
  have key : ∀ i, ∃ cf : List Value × List Nat, ∀ (h : i < xs.length), E.rd w cf.1 xs[i] cf.2 ∧ (∀ k ∈ cf.2, ok k) ∧ ∀ j (hj : j < cf.1.length), w.cell? ⟨b, o + i * E.sz + j, none⟩ = some cf.1[j] := fun i => by
   by_cases hi : i < xs.length
   ·obtain ⟨cs, ⟨fp, h3, h4⟩, h5⟩ := he i hi
    exact ⟨(cs, fp), fun _ => ⟨h3, h4, h5⟩⟩
   ·exact ⟨([], []), fun h => absurd h hi⟩
  obtain ⟨F, hF⟩ := Classical.axiomOfChoice key
  refine ⟨b :: (List.range xs.length).flatMap fun i => (F i).2, ⟨_, cap, rfl, h1, h2, .inr ⟨h0, b, o, fun i => (F i).2, rfl, hb, rfl, fun i hi => ⟨(F i).1, (hF i hi).1, (hF i hi).2.2⟩⟩⟩, fun k hk => ?_⟩
  rcases List.mem_cons.1 hk with rfl | hk
  ·exact hok
  ·obtain ⟨i, hi, hk⟩ := List.mem_flatMap.1 hk
   exact (hF i (by simpa using hi)).2.1 k hk
/-- what a value of a row's cells reads as -/
def pvR (ok : Nat → Prop) (w : World) (z : (Int × List Int) × (Int × Value)) : Prop := z.2.1 = z.1.1 ∧ I64 z.1.1 ∧ intsT.RdP ok w [z.2.2] z.1.2
theorem pvR.below {ok : Nat → Prop} {w w' : World} {z : (Int × List Int) × (Int × Value)} (h : pvR ok w z) (hb : Below w.heap.size w w') : pvR ok w' z := ⟨h.1, h.2.1, h.2.2.below hb⟩
theorem pvR.mono {ok ok' : Nat → Prop} {w : World} {z : (Int × List Int) × (Int × Value)} (h : pvR ok w z) (hk : ∀ k, k < w.heap.size → ok k → ok' k) : pvR ok' w z := ⟨h.1, h.2.1, h.2.2.mono hk⟩
/-- a row of these cells reads as the data do -/
theorem ops_of {ok : Nat → Prop} {w : World} {v : Value} {Z : List ((Int × List Int) × (Int × Value))} (h : (Ty.slice pvT).RdP ok w [v] (Z.map (·.2))) (hr : ∀ z ∈ Z, pvR ok w z) : opsT.RdP ok w [v] (Z.map (·.1)) := by
 obtain ⟨ad, cap, hv, h1, h2, h3⟩ := slice_exP h
 obtain rfl : v = _ := by simpa using hv
 have h1' : Z.length ≤ cap := by simpa using h1
 have h2' : Z.length ≤ capMax := by unfold capMax; simpa using h2
 have h3' : 0 < Z.length → _ := fun h => h3 (by simpa using h)
 refine slice_mkP (by simp) h1' h2' fun h0 => ?_
 obtain ⟨b, o, rfl, hb, hok, he⟩ := h3' h0
 refine ⟨b, o, rfl, hb, hok, fun i hi => ?_⟩
 rw [List.length_map] at hi
 obtain ⟨cs, ⟨fp, ⟨cs', rfl, _, rfl, _, _⟩, hf⟩, h6⟩ := he i (by simpa using hi)
 obtain ⟨e1, e2, fq, e3, e4⟩ := hr _ (List.getElem_mem hi)
 simp only [List.getElem_map] at h6 ⊢
 exact ⟨_, ⟨fq, ⟨_, by rw [e1], e2, e3⟩, e4⟩, h6⟩
theorem Bl.ge {α : Type} {E : Ty α} {e base top : Nat} {w : World} {v : Value} {ys : List α} (h : Bl E e base top w v ys) {g : Nat} (hg : v.ownBlock = some g) : base ≤ g := by
 obtain ⟨L, fps, h1, _⟩ := h
 exact (h1.lt g hg).1
theorem Bl.lt_top {α : Type} {E : Ty α} {e base top : Nat} {w : World} {v : Value} {ys : List α} (h : Bl E e base top w v ys) {g : Nat} (hg : v.ownBlock = some g) : g < top := by
 obtain ⟨L, fps, _, _, _, _, h5, _⟩ := h
 exact h5 g hg
theorem grown_cell' {w w' : World} {row : Option Nat} {b i : Nat} (h : w.grownBy w' row) (hlt : b < w.heap.size) (hne : row ≠ some b) : w'.cell? ⟨b, i, none⟩ = w.cell? ⟨b, i, none⟩ := World.cell?_of_block (h.block b hlt fun e => hne e.symm)
theorem grown_tchF {w w' : World} {row : Option Nat} (h : w.grownBy w' row) : TchF row.toList w w' := ⟨h.os, h.tape, h.output, h.size, fun k hk hn => h.block k hk fun e => hn (by rw [← e]; simp)⟩
/-- a datum that does not lie in one block -/
def Ty.off {α : Type} (E : Ty α) (bx : Nat) : Ty α where
 sz := E.sz
 rd := fun w cs x fp => E.rd w cs x fp ∧ bx ∉ fp
 len := fun h => E.len h.1
 same := fun h hs => ⟨E.same h.1 hs, h.2⟩
 lt := fun h => E.lt h.1
 one := fun h => E.one h.1
theorem fr_off {α : Type} {E : Ty α} {bx base : Nat} {w : World} {cs : List Value} {x : α} (h : E.Fr base w cs x) (hb : bx < base) : (E.off bx).Fr base w cs x :=
 let ⟨fp, h1, h2, h3, h4⟩ := h; ⟨fp, ⟨h1, fun hm => by have := h3 bx hm; omega⟩, h2, h3, h4⟩
theorem off_same {α : Type} {E : Ty α} {bx e base top : Nat} {w w' : World} {v : Value} {ys : List α} (h : Bl (E.off bx) e base top w v ys) (hv : v.ownBlock ≠ some bx) (hs : ∀ k, k ≠ bx → w'.heap[k]? = w.heap[k]?) : Bl (E.off bx) e base top w' v ys := by
 obtain ⟨L, fps, h1, h2, h3, h4, h5, h6⟩ := h
 have hne : ∀ b ∈ flat fps ys.length, b ≠ bx := by
  intro b hb he
  obtain ⟨i, hi, hb⟩ := List.mem_flatMap.1 hb
  obtain ⟨cs, h7, _⟩ := h2 i (by simpa using hi)
  rw [he] at hb
  exact h7.2 hb
 have hS : Same (flat fps ys.length) w w' := fun k hk => hs k (hne k hk)
 refine ⟨L, fps, ⟨h1.1, ?_⟩, fun i hi => ?_, h3, h4, h5, h6.same hS⟩
 ·rcases h1.2 with h | ⟨g, cap, cur, rfl, hg, hh, r⟩
  ·exact .inl h
  ·exact .inr ⟨g, cap, cur, rfl, hg, by rw [hs g (fun e => hv (by rw [e]; rfl))]; exact hh, r⟩
 ·obtain ⟨cs, h7, h8⟩ := h2 i hi
  exact ⟨cs, (E.off bx).same h7 (fun k hk => hS k (List.mem_flatMap.2 ⟨i, by simpa using hi, hk⟩)), h8⟩
theorem pv_same {e base top top' : Nat} {w w' : World} {v : Value} {ys : List (Int × Value)} (h : Bl pvT e base top w v ys) (hs : ∀ b, v.ownBlock = some b → w'.heap[b]? = w.heap[b]?) (ht : top ≤ top') : Bl pvT e base top' w' v ys := by
 obtain ⟨L, fps, h1, h2, h3, h4, h5, h6⟩ := h
 have hnil : ∀ b, b ∉ flat fps ys.length := by
  intro b hb
  obtain ⟨i, hi, hb⟩ := List.mem_flatMap.1 hb
  obtain ⟨cs, ⟨cs', _, _, _, _, hf⟩, _⟩ := h2 i (by simpa using hi)
  rw [hf] at hb
  cases hb
 refine ⟨L, fps, ⟨h1.1, ?_⟩, fun i hi => ?_, h3, fun b hb => absurd hb (hnil b), fun g hg => Nat.lt_of_lt_of_le (h5 g hg) ht, fun b hb => absurd hb (hnil b)⟩
 ·rcases h1.2 with h | ⟨g, cap, cur, rfl, hg, hh, r⟩
  ·exact .inl h
  ·exact .inr ⟨g, cap, cur, rfl, hg, by rw [hs g rfl]; exact hh, r⟩
 ·obtain ⟨cs, h7, h8⟩ := h2 i hi
  exact ⟨cs, h7, h8⟩
/-- a row of n rows at block g: its cells are us; each is a row of the call's own, from base on, and no two share a block -/
def DU (eA eR base top : Nat) (w : World) (g n : Nat) (us : Nat → Value) (Ls : Nat → List (Int × Value)) : Prop :=
 w.ownsRow g eR 1 (.slice (some ⟨g, 0, none⟩) n n) n ((List.range n).map us) ∧ g < base ∧ (∀ v, v < n → Bl pvT eA base top w (us v) (Ls v)) ∧ ∀ v, v < n → ∀ b, (us v).ownBlock = some b → ∀ v', v' < n → v' ≠ v → (us v').ownBlock ≠ some b
section
variable {eA eR base top g n : Nat} {w w' : World} {us : Nat → Value} {Ls : Nat → List (Int × Value)}
theorem owns_same {b e sz : Nat} {g n cap : Nat} {xs : List Value} (h : w.ownsRow b e sz (.slice (some ⟨g, 0, none⟩) n cap) n xs) (hs : w'.heap[g]? = w.heap[g]?) : w'.ownsRow b e sz (.slice (some ⟨g, 0, none⟩) n cap) n xs := by
 refine ⟨h.1, ?_⟩
 rcases h.2 with h | ⟨g', cap, cur, hg', hg, hh, r⟩
 ·exact .inl h
 ·simp only [Value.slice.injEq, Option.some.injEq, Addr.mk.injEq, and_true, true_and] at hg'
  obtain ⟨rfl, rfl⟩ := hg'
  exact .inr ⟨g, _, cur, rfl, hg, by rw [hs]; exact hh, r⟩
theorem DU.lt (h : DU eA eR base top w g n us Ls) : g < w.heap.size := (h.1.lt g rfl).2
theorem DU.cell (h : DU eA eR base top w g n us Ls) {j : Nat} (hj : j < n) : w.cell? ⟨g, j, none⟩ = some (us j) := by
 rw [World.ownsRow.cellAt h.1 j (by omega)]
 simp [hj]
theorem DU.free (h : DU eA eR base top w g n us Ls) (j : Nat) : w.frozen? ⟨g, j, none⟩ = false := World.ownsRow.frozenAt h.1 j
theorem DU.below {B : Nat} (h : DU eA eR base top w g n us Ls) (hb : Below B w w') (ht : top ≤ B) (hB : base ≤ B) : DU eA eR base top w' g n us Ls :=
 ⟨owns_same h.1 (hb.block g (by have := h.2.1; omega)), h.2.1, fun v hv => (h.2.2.1 v hv).below hb ht, h.2.2.2⟩
theorem DU.mono {top' : Nat} (h : DU eA eR base top w g n us Ls) (ht : top ≤ top') : DU eA eR base top' w g n us Ls := ⟨h.1, h.2.1, fun v hv => (h.2.2.1 v hv).mono ht, h.2.2.2⟩
theorem DU.push {l : Nat} {v1 : Value} {y : Int × Value} (h : DU eA eR base top w g n us Ls) (hl : l < n) (hB : Bl pvT eA base w'.heap.size w' v1 (Ls l ++ [y])) (hg : w.grownBy w' (us l).ownBlock) (hv : v1.ownBlock = (us l).ownBlock ∨ v1.ownBlock = some w.heap.size) (ht : top ≤ w.heap.size) :
  DU eA eR base w'.heap.size (w'.setCell ⟨g, l, none⟩ v1) g n (fun v => if v = l then v1 else us v) (fun v => if v = l then Ls l ++ [y] else Ls v) := by
 obtain ⟨h1, h2, h3, h4⟩ := h
 have hbl : (us l).ownBlock ≠ some g := fun e => by have := (h3 l hl).ge e; omega
 have hgl := (h1.lt g rfl).2
 have hg' : w'.heap[g]? = w.heap[g]? := hg.block g hgl (fun e => hbl e.symm)
 have hset : ∀ b, b ≠ g → (w'.setCell ⟨g, l, none⟩ v1).heap[b]? = w'.heap[b]? := fun b hb => Below.heap_setCell w' ⟨g, l, none⟩ v1 b hb
 refine ⟨?_, h2, fun v hv' => ?_, fun v hv' b hb v' hv2 hne => ?_⟩
 ·have h5 := ((owns_same h1 hg').stored l v1).1
  have e : ((List.range n).map us).set l v1 = (List.range n).map (fun v => if v = l then v1 else us v) := by
   apply List.ext_getElem (by simp)
   intro i hi hi'
   rw [List.getElem_set]
   simp only [List.getElem_map, List.getElem_range]
   by_cases e : l = i
   ·subst e; simp
   ·rw [if_neg e, if_neg (fun h => e h.symm)]
  rw [← e]
  exact h5
 ·by_cases e : v = l
  ·subst e
   simp only [if_pos]
   exact pv_same hB (fun b hb => hset b (by have := hB.ge hb; omega)) (Nat.le_refl _)
  ·simp only [if_neg e]
   refine pv_same (h3 v hv') (fun b hb => ?_) (Nat.le_trans ht hg.size)
   have hbl := (h3 v hv').ge hb
   have hbt : b < w.heap.size := by
    obtain ⟨L, fps, _, _, _, _, h5, _⟩ := h3 v hv'
    exact Nat.lt_of_lt_of_le (h5 b hb) ht
   rw [hset b (by omega)]
   exact hg.block b hbt (fun he => h4 v hv' b hb l hl (fun h => e h.symm) he.symm)
 ·have hbt : ∀ u b, u < n → (us u).ownBlock = some b → b < w.heap.size := fun u b hu hb => by
   obtain ⟨L, fps, _, _, _, _, h5, _⟩ := h3 u hu
   exact Nat.lt_of_lt_of_le (h5 b hb) ht
  by_cases e : v = l
  ·subst e
   simp only [if_pos] at hb
   simp only [if_neg hne]
   rcases hv with hv | hv
   ·rw [hv] at hb; exact h4 v hv' b hb v' hv2 hne
   ·rw [hv] at hb
    intro he
    have := hbt v' b hv2 he
    simp at hb
    omega
  ·simp only [if_neg e] at hb
   by_cases e' : v' = l
   ·subst e'
    simp only [if_pos]
    rcases hv with hv | hv
    ·rw [hv]; exact h4 v hv' b hb v' hv2 hne
    ·rw [hv]
     intro he
     have := hbt v b hv' hb
     simp at he
     omega
   ·simp only [if_neg e']
    exact h4 v hv' b hb v' hv2 hne
end
end Go.Proofs.YtmnjlhcbabhhlaaGreat
namespace Go.Proofs.YtmnjlhcbabhhlaaGreat
open Go.RowKit
/-- only blocks of which O holds are written, and new ones -/
structure TchP (O : Nat → Prop) (w w' : World) : Prop where
 os : w'.os = w.os
 tape : w'.tape = w.tape
 output : w'.output = w.output
 size : w.heap.size ≤ w'.heap.size
 block : ∀ k, k < w.heap.size → ¬ O k → w'.heap[k]? = w.heap[k]?
section
variable {O O' : Nat → Prop} {w w' w'' : World}
theorem TchP.refl (O : Nat → Prop) (w : World) : TchP O w w := ⟨rfl, rfl, rfl, Nat.le_refl _, fun _ _ _ => rfl⟩
theorem TchP.of_below (h : Below w.heap.size w w') (O : Nat → Prop) : TchP O w w' := ⟨h.os, h.tape, h.output, h.size, fun k hk _ => h.block k hk⟩
theorem TchP.then (h : TchP O w w') (h' : TchP O' w' w'') (hO : ∀ k, k < w.heap.size → O' k → O k) : TchP O w w'' :=
 ⟨h'.os.trans h.os, h'.tape.trans h.tape, h'.output.trans h.output, Nat.le_trans h.size h'.size, fun k hk hn => (h'.block k (Nat.lt_of_lt_of_le hk h.size) fun hm => hn (hO k hk hm)).trans (h.block k hk hn)⟩
theorem TchP.mono (h : TchP O w w') (hO : ∀ k, k < w.heap.size → O k → O' k) : TchP O' w w' := ⟨h.os, h.tape, h.output, h.size, fun k hk hn => h.block k hk fun hm => hn (hO k hk hm)⟩
theorem TchP.below {B : Nat} (h : TchP O w w') (hB : B ≤ w.heap.size) (hO : ∀ k, k < B → ¬ O k) : Below B w w' := ⟨h.os, h.tape, h.output, h.size, fun k hk => h.block k (Nat.lt_of_lt_of_le hk hB) (hO k hk)⟩
theorem TchP.cell (h : TchP O w w') {b i : Nat} (hb : b < w.heap.size) (hn : ¬ O b) : w'.cell? ⟨b, i, none⟩ = w.cell? ⟨b, i, none⟩ := World.cell?_of_block (a := ⟨b, i, none⟩) (h.block b hb hn)
theorem TchP.frozen (h : TchP O w w') {b i : Nat} (hb : b < w.heap.size) (hn : ¬ O b) : w'.frozen? ⟨b, i, none⟩ = w.frozen? ⟨b, i, none⟩ := World.frozen?_of_block (a := ⟨b, i, none⟩) (h.block b hb hn)
theorem TchP.set {b i : Nat} {v : Value} (hO : O b) : TchP O w (w.setCell ⟨b, i, none⟩ v) := ⟨rfl, rfl, rfl, by simp [World.setCell], fun k _ hn => Below.heap_setCell _ _ _ _ fun e => hn (by simp at e; rw [e]; exact hO)⟩
theorem TchP.grown {row : Option Nat} (h : w.grownBy w' row) (hO : ∀ k, row = some k → O k) : TchP O w w' := ⟨h.os, h.tape, h.output, h.size, fun k hk hn => h.block k hk fun e => hn (hO k e.symm)⟩
theorem Ty.RdP.tchP {α : Type} {E : Ty α} {ok : Nat → Prop} {cs : List Value} {x : α} (h : E.RdP ok w cs x) (ht : TchP O w w') (hO : ∀ k, k < w.heap.size → ok k → ¬ O k) : E.RdP ok w' cs x :=
 let ⟨fp, h, hf⟩ := h; ⟨fp, E.same h (fun k hk => ht.block k (E.lt h k hk) (hO k (E.lt h k hk) (hf k hk))), hf⟩
theorem pvR.tchP {ok : Nat → Prop} {z : (Int × List Int) × (Int × Value)} (h : pvR ok w z) (ht : TchP O w w') (hO : ∀ k, k < w.heap.size → ok k → ¬ O k) : pvR ok w' z := ⟨h.1, h.2.1, h.2.2.tchP ht hO⟩
end
/-- a datum that lies in blocks of which O holds -/
def Ty.on {α : Type} (E : Ty α) (O : Nat → Prop) : Ty α where
 sz := E.sz
 rd := fun w cs x fp => E.rd w cs x fp ∧ ∀ k ∈ fp, O k
 len := fun h => E.len h.1
 same := fun h hs => ⟨E.same h.1 hs, h.2⟩
 lt := fun h => E.lt h.1
 one := fun h => E.one h.1
section
variable {α : Type} {E : Ty α} {O O' : Nat → Prop} {e base top : Nat} {w w' : World} {v : Value} {ys : List α}
/-- a row of numbers: all that it hangs on is its own block -/
theorem bl_int_same {top' : Nat} {ys : List Int} (h : Bl Ty.int e base top w v ys) (hs : ∀ b, v.ownBlock = some b → w'.heap[b]? = w.heap[b]?) (ht : top ≤ top') : Bl Ty.int e base top' w' v ys := by
 obtain ⟨L, fps, h1, h2, h3, h4, h5, h6⟩ := h
 have hnil : ∀ b, b ∉ flat fps ys.length := by
  intro b hb
  obtain ⟨i, hi, hb⟩ := List.mem_flatMap.1 hb
  obtain ⟨cs, ⟨_, _, hf⟩, _⟩ := h2 i (by simpa using hi)
  rw [hf] at hb
  cases hb
 refine ⟨L, fps, ⟨h1.1, ?_⟩, fun i hi => ?_, h3, fun b hb => absurd hb (hnil b), fun g hg => Nat.lt_of_lt_of_le (h5 g hg) ht, fun b hb => absurd hb (hnil b)⟩
 ·rcases h1.2 with h | ⟨g, cap, cur, rfl, hg, hh, r⟩
  ·exact .inl h
  ·exact .inr ⟨g, cap, cur, rfl, hg, by rw [hs g rfl]; exact hh, r⟩
 ·obtain ⟨cs, h7, h8⟩ := h2 i hi
  exact ⟨cs, h7, h8⟩
/-- a row of values as they are -/
theorem bl_val_same {top' : Nat} {ys : List Value} (h : Bl Ty.val e base top w v ys) (hs : ∀ b, v.ownBlock = some b → w'.heap[b]? = w.heap[b]?) (ht : top ≤ top') : Bl Ty.val e base top' w' v ys := by
 obtain ⟨L, fps, h1, h2, h3, h4, h5, h6⟩ := h
 have hnil : ∀ b, b ∉ flat fps ys.length := by
  intro b hb
  obtain ⟨i, hi, hb⟩ := List.mem_flatMap.1 hb
  obtain ⟨cs, ⟨_, _, hf⟩, _⟩ := h2 i (by simpa using hi)
  rw [hf] at hb
  cases hb
 refine ⟨L, fps, ⟨h1.1, ?_⟩, fun i hi => ?_, h3, fun b hb => absurd hb (hnil b), fun g hg => Nat.lt_of_lt_of_le (h5 g hg) ht, fun b hb => absurd hb (hnil b)⟩
 ·rcases h1.2 with h | ⟨g, cap, cur, rfl, hg, hh, r⟩
  ·exact .inl h
  ·exact .inr ⟨g, cap, cur, rfl, hg, by rw [hs g rfl]; exact hh, r⟩
 ·obtain ⟨cs, h7, h8⟩ := h2 i hi
  exact ⟨cs, h7, h8⟩
end
abbrev boolsT : Ty (List Bool) := Ty.slice Ty.bool
theorem BR.rdP {e base : Nat} {w : World} {g n cap : Nat} {L : List Bool} {ok : Nat → Prop} (h : BR e base w g n cap L) (hl : n ≤ capMax) (hg : ok g) : boolsT.RdP ok w [.slice (some ⟨g, 0, none⟩) n cap] L := by
 obtain ⟨h1, h2, h3⟩ := id h
 subst h1
 have hlt := h.lt
 have hcap : L.length ≤ cap := by
  rcases h3.2 with ⟨h', _⟩ | ⟨g', cap', cur, hg', hbg, hh, hn, r⟩
  ·simp at h'
  ·simp only [Value.slice.injEq, Option.some.injEq, Addr.mk.injEq, and_true, true_and] at hg'
   omega
 refine slice_mkP rfl hcap hl fun h0 => ⟨g, 0, rfl, hlt, hg, fun i hi => ⟨[.bool L[i]], ⟨[], ⟨rfl, rfl⟩, fun k hk => by cases hk⟩, fun j hj => ?_⟩⟩
 obtain rfl : j = 0 := by simpa using hj
 have := h.cell hi
 simpa [Ty.bool] using this
/-- a row of values as they are, each of which reads as a datum of one cell -/
theorem rows_ofP {α : Type} {E : Ty α} {ok : Nat → Prop} {w : World} {v : Value} {vs : List Value} {ts : List α} (hE : E.sz = 1) (h : (Ty.slice Ty.val).RdP ok w [v] vs) (hl : vs.length = ts.length) (hr : ∀ i (h : i < vs.length) (h' : i < ts.length), E.RdP ok w [vs[i]] ts[i]) : (Ty.slice E).RdP ok w [v] ts := by
 obtain ⟨ad, cap, hv, h1, h2, h3⟩ := slice_exP h
 obtain rfl : v = _ := by simpa using hv
 refine slice_mkP hl h1 h2 fun h0 => ?_
 obtain ⟨b, o, rfl, hb, hok, he⟩ := h3 h0
 refine ⟨b, o, rfl, hb, hok, fun i hi => ?_⟩
 obtain ⟨cs, ⟨fp, ⟨rfl, _, _⟩, hf⟩, h6⟩ := he i (by omega)
 refine ⟨_, hr i (by omega) hi, fun j hj => ?_⟩
 have h7 := h6 j hj
 rw [hE]
 exact h7
theorem bl_val_rdP {e base top : Nat} {w : World} {v : Value} {vs : List Value} {ok : Nat → Prop} (h : Bl Ty.val e base top w v vs) (hl : vs.length ≤ capMax) (hv : ∀ g, v.ownBlock = some g → ok g) : (Ty.slice Ty.val).RdP ok w [v] vs := by
 obtain ⟨fp, h1, -, -, -⟩ := h.fr hl
 refine ⟨fp, h1, fun k hk => ?_⟩
 obtain ⟨ad, cap, hv', -, -, h3⟩ := h1
 obtain rfl : v = _ := by simpa using hv'
 rcases h3 with ⟨_, rfl⟩ | ⟨_, b, o, fps, rfl, _, rfl, h4⟩
 ·cases hk
 ·rcases List.mem_cons.1 hk with rfl | hk
  ·exact hv _ rfl
  ·obtain ⟨i, hi, hk⟩ := List.mem_flatMap.1 hk
   obtain ⟨cs, ⟨_, _, hf⟩, _⟩ := h4 i (by simpa using hi)
   rw [hf] at hk
   cases hk
/-- a pointer to a box whose third cell is a row of truth values -/
def Ty.setp : Ty (List Bool) where
 sz := 1
 rd := fun w cs L fp => ∃ bx v fp', cs = [.pointer (some ⟨bx, 0, none⟩)] ∧ bx < w.heap.size ∧ w.cell? ⟨bx, 2, none⟩ = some v ∧ boolsT.rd w [v] L fp' ∧ fp = bx :: fp'
 len := by rintro _ _ _ _ ⟨_, _, _, rfl, _⟩; rfl
 same := by
  rintro w w' _ L _ ⟨bx, v, fp', rfl, h1, h2, h3, rfl⟩ hs
  have hb := hs bx (List.mem_cons_self ..)
  refine ⟨bx, v, fp', rfl, ?_, (World.cell?_of_block (a := ⟨bx, 2, none⟩) hb).trans h2, boolsT.same h3 (fun k hk => hs k (List.mem_cons_of_mem _ hk)), rfl⟩
  rcases Nat.lt_or_ge bx w'.heap.size with h' | h'
  ·exact h'
  ·rw [Array.getElem?_eq_none h', Array.getElem?_eq_getElem h1] at hb
   cases hb
 lt := by
  rintro w _ L _ ⟨bx, v, fp', rfl, h1, h2, h3, rfl⟩ k hk
  rcases List.mem_cons.1 hk with rfl | hk
  ·exact h1
  ·exact boolsT.lt h3 k hk
 one := by rintro _ _ _ _ ⟨_, _, _, rfl, _⟩ u hu; simp at hu; subst hu; rfl
end Go.Proofs.YtmnjlhcbabhhlaaGreat
