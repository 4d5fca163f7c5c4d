/-
The order of tuples; tuples at places; search in a relation.
Contracts: valid relations and templates, in the program and in the reference.
Contracts: valid relations and templates (the program's), valid templates (the reference's).
Contracts: what a number of a relation tells; atoms' places; counts of formulas.
Contracts: valid instances and formulas, the program's.
Contracts: valid instances and formulas, the reference's.
Constraints that hold for values: the program's and the reference's.
Marks: what a write into all numbers of a datum's memory changes, and what the datum then reads as. No program is named here.
Contracts: counting lists, formulas of one atom; results that lie in new memory.
Contracts: atoms whose variables are renamed.
Contracts: hiding a variable of a formula: the reference's.
-/
import Derived.Test.YtnhdohednekhjaaGreatDoorQAA
import Derived.Deep.RegionHeldLaw
namespace Go.Proofs.YtnhdohednekhjaaGreatDoor
open Go.RowKit Go.Sort
theorem cmpI_neg {x y : Int} : cmpI x y < 0 ↔ x < y := by
 unfold cmpI
 split
 ·simpa
 ·split <;> omega
theorem ltL_trans : ∀ {a b c : List Int}, ltL a b → ltL b c → ltL a c
 | [], [], _, h, _ => by simp [ltL, cmpL] at h
 | _ :: _, [], _, h, _ => by simp [ltL, cmpL] at h
 | _, _ :: _, [], _, h => by simp [ltL, cmpL] at h
 | [], _ :: _, _ :: _, _, _ => by simp [ltL, cmpL]
 | x :: a, y :: b, z :: c, h, h' => by
  unfold ltL at h h' ⊢
  simp only [cmpL] at h h' ⊢
  by_cases e1 : x = y
  ·by_cases e2 : y = z
   ·subst e1; subst e2
    simp only [if_true] at h h' ⊢
    exact ltL_trans h h'
   ·subst e1
    rw [if_neg e2] at h' ⊢
    exact h'
  ·rw [if_neg e1] at h
   rw [cmpI_neg] at h
   by_cases e2 : y = z
   ·subst e2
    rw [if_neg e1, cmpI_neg]; exact h
   ·rw [if_neg e2, cmpI_neg] at h'
    rw [if_neg (by omega), cmpI_neg]; omega
theorem cmpL_zero : ∀ {a b : List Int}, cmpL a b = 0 → a = b
 | [], [], _ => rfl
 | [], _ :: _, h => by simp [cmpL] at h
 | _ :: _, [], h => by simp [cmpL] at h
 | x :: a, y :: b, h => by
  simp only [cmpL] at h
  by_cases e : x = y
  ·subst e
   rw [if_pos rfl] at h
   rw [cmpL_zero h]
  ·rw [if_neg e] at h
   unfold cmpI at h
   split at h
   ·omega
   ·split at h <;> omega
/-- sorted in the order of lists -/
def sortedL (xs : List (List Int)) : Prop := ∀ i (h : i < xs.length), 0 < i → ltL (xs[i - 1]'(by omega)) xs[i]
theorem sortedL_lt {xs : List (List Int)} (hs : sortedL xs) : ∀ {a b : Nat} (hb : b < xs.length) (hab : a < b), ltL (xs[a]'(by omega)) xs[b] := by
 intro a b hb hab
 induction b with
 | zero => omega
 | succ b ih =>
  have h1 := hs (b + 1) hb (by omega)
  simp only [Nat.add_sub_cancel] at h1
  by_cases e : a = b
  ·subst e; exact h1
  ·exact ltL_trans (ih (by omega) (by omega)) h1
theorem relOk_sorted {size : Int} {r : Int × List (List Int)} (h : relOk size r) : sortedL r.2 := fun i hi h0 => (h.2.2 i hi).2 h0
/-- the elements of a list at places -/
def atL (l places : List Int) : List Int := places.map fun p => l.getD p.toNat 0
theorem atL_len {l places : List Int} : (atL l places).length = places.length := by simp [atL]
theorem atL_take {l places : List Int} {k j : Nat} (hk : k < places.length) (hj : places[k] = (j : Int)) (hl : j < l.length) : atL l (places.take k) ++ [l[j]] = atL l (places.take (k + 1)) := by
 rw [← take_snoc hk]
 simp [atL, hj, hl]
theorem Bl.own {α : Type} {E : Ty α} {e base top : Nat} {w : World} {v : Value} {ys : List α} (h : Bl E e base top w v ys) {g : Nat} (hg : v.ownBlock = some g) : base ≤ g := by
 obtain ⟨L, fps, h1, _⟩ := h
 exact (h1.lt g hg).1
theorem news1 {w : World} {u : Value} {T : TypeId} : ∀ j x, [u][j]? = some x → (w.alloc (.cells #[u] T)).cell? ((⟨w.heap.size, 0, none⟩ : Addr).add j) = some x := by
 intro j x h
 match j with
 | 0 => simp at h; subst h; simp [Addr.add]
 | j + 1 => simp at h
set_option maxHeartbeats 1600000 in
set_option maxRecDepth 100000 in
theorem chosen_any (w : World) {v u : Value} {xs ps : List Int} (h : intsT.Rd w [v] xs) (h' : intsT.Rd w [u] ps) (hin : ∀ p ∈ ps, 0 ≤ p ∧ p < (xs.length : Int)) (hlen : ps.length ≤ 1000000) :
  Calls Tryz.prog 119 #[v, u] w (RetS intsT w (atL xs ps)) := by
 obtain ⟨ad, cap, hv, hl, hc, hcell⟩ := ints_ex h
 obtain rfl : v = _ := by simpa using hv
 obtain ⟨ad', cap', hv', hl', hc', hcell'⟩ := ints_ex h'
 obtain rfl : u = _ := by simpa using hv'
 have HIN := Lib.hid hin
 clear h hv h' hv' hin
 go_enter Tryz.func119, Tryz.ntmps119
 go_wp2_with fail
 go_loopw [11, 5] (fun i o wr => ∃ k : Nat, k ≤ ps.length ∧ i = .int .i64 k ∧ Bl Ty.int 2 w.heap.size wr.heap.size wr o (atL xs (ps.take k)) ∧ Below w.heap.size w wr) (fun i _ _ => ps.length - (intOf i).toNat)
 case atStart => exact ⟨0, Nat.zero_le _, rfl, by simpa [atL] using Bl.lit0 (E := Ty.int) (e := 2) (w := w) (Nat.le_refl _), bA⟩
 case round =>
  obtain ⟨k, hk, rfl, hBl, hbel⟩ := hrel
  have HB := Lib.hid hBl
  clear hBl
  by_cases hkl : k < ps.length
  ·obtain ⟨b', o', rfl, hb', hce'⟩ := hcell' (by omega)
   have hin := HIN.out ps[k] (List.getElem_mem hkl)
   obtain ⟨j, hj⟩ : ∃ j : Nat, ps[k] = j := ⟨ps[k].toNat, by omega⟩
   have hjl : j < xs.length := by omega
   obtain ⟨b, o, rfl, hb, hce⟩ := hcell (by omega)
   have e0 := (hbel.cell hb').trans (hce' k hkl).2
   rw [hj] at e0
   have e1 := (hbel.cell hb).trans (hce j hjl).2
   have hI := (hce j hjl).1
   clear hcell hcell' hce hce' hin
   have hrec := atL_take hkl hj hjl
   have HR := Lib.hid hrec
   clear hrec
   go_wp2_with (refine wpList_push (E := Ty.int) _ rfl _ _ 48 2 rfl elInt rfl (HB.out.below bA (Nat.le_refl _)) rfl news1 (fr_int hI) (by rw [atL_len, take_len hk]; omega) (by decide) hbel.size (by simp) ?_; intro v1 w1 hB1 hg1 _)
   have hbel1 : Below w.heap.size w w1 := (hbel.alloc hbel.size _).grown hg1 (by have := hbel.size; simp; omega) (fun k hk => HB.out.own hk)
   rw [HR.out] at hB1
   have HB1 := Lib.hid hB1
   clear hB1
   go_wp2_with fail
   go_roundw
   case rel => exact ⟨k + 1, by omega, by go_num, HB1.out, hbel1⟩
   case measure => simp [intOf]; omega
  ·obtain rfl : k = ps.length := by omega
   go_wp2_with fail
   go_ret
   rw [List.take_length] at HB
   exact ⟨_, rfl, HB.out.fr (by rw [atL_len]; unfold capMax; omega), hbel⟩
theorem bs_found {xs : List (List Int)} {ys : List Int} {i : Nat} (hi : i ≤ xs.length) (h1 : ∀ a (h : a < xs.length), a < i → cmpL xs[a] ys < 0) (h2 : ∀ a (h : a < xs.length), i ≤ a → ¬ cmpL xs[a] ys < 0) (hs : sortedL xs) :
  (ys ∈ xs) ↔ ∃ h : i < xs.length, cmpL xs[i] ys = 0 := by
 constructor
 ·intro hm
  obtain ⟨a, ha, rfl⟩ := List.getElem_of_mem hm
  have h3 : ¬ a < i := fun hlt => by have := h1 a ha hlt; rw [cmpL_self] at this; omega
  have h4 : i = a := by
   rcases Nat.lt_or_ge i a with hlt | hge
   ·exact absurd (sortedL_lt hs ha hlt) (h2 i (by omega) (Nat.le_refl _))
   ·omega
  subst h4
  exact ⟨ha, cmpL_self _⟩
 ·rintro ⟨h, he⟩
  rw [← cmpL_zero he]
  exact List.getElem_mem h
theorem ret_ib {i : Int} {b d : Bool} (h : b = d) : Ending.returned (.tuple #[.int .i64 i, .bool b]) = .returned (.tuple #[.int .i64 i, .bool d]) := by rw [h]
set_option maxHeartbeats 1600000 in
set_option maxRecDepth 100000 in
theorem BSearch_any (w : World) {v u : Value} {xs : List (List Int)} {ys : List Int} (h : rowsT.Rd w [v] xs) (_h' : intsT.Rd w [u] ys) (hs : sortedL xs) (g : Nat) (eg : ∀ args w, (callFunc g args).run Tryz.prog w = .ok (.enter g args) w)
  (hp : Hid (∀ k (h : k < xs.length) (c : Value), intsT.Rd w [c] xs[k] → Calls Tryz.prog g #[c, u] w fun e w' => e = .returned (.int .i64 (cmpL xs[k] ys)) ∧ w = w')) :
  Calls Tryz.prog 178 #[v, u, .func (.func g) #[] #[]] w fun e w' => (∃ i : Int, e = .returned (.tuple #[.int .i64 i, .bool (tb (ys ∈ xs))])) ∧ w = w' := by
 obtain ⟨ad, cap, hv, hl, hc, hcell⟩ := slices_ex h
 obtain rfl : v = _ := by simpa using hv
 have HS := Lib.hid hs
 clear h hv hs
 go_enter Tryz.func178, Tryz.ntmps178
 go_wp2_with fail
 go_loop [9, 10, 11] (fun i j _ => ∃ a b : Nat, a ≤ b ∧ b ≤ xs.length ∧ i = .int .i64 a ∧ j = .int .i64 b ∧ (∀ c (h : c < xs.length), c < a → cmpL xs[c] ys < 0) ∧ (∀ c (h : c < xs.length), b ≤ c → 0 ≤ cmpL xs[c] ys)) (fun i j _ => (intOf j).toNat - (intOf i).toNat)
 case atStart => exact ⟨0, xs.length, Nat.zero_le _, Nat.le_refl _, rfl, rfl, fun c _ h => absurd h (Nat.not_lt_zero c), fun c h h' => by omega⟩
 case round =>
  obtain ⟨a, b, hab, hbl, rfl, rfl, h1, h2⟩ := hrel
  have H1 := Lib.hid h1
  have H2 := Lib.hid h2
  clear h1 h2
  by_cases hlt : a < b
  ·obtain ⟨m, hm⟩ : ∃ m : Nat, ((a : Int) + b) / 2 = m := ⟨(a + b) / 2, by omega⟩
   have ham : a ≤ m := by omega
   have hmb : m < b := by omega
   have hml : m < xs.length := by omega
   obtain ⟨bk, o, rfl, hb, hce⟩ := hcell (by omega)
   obtain ⟨c, hc0, hcc⟩ := hce m hml
   clear hcell hce
   cases hq : decide (cmpL xs[m] ys < 0)
   ·have HQ := Lib.hid hq
    go_wp2_with fail
    refine (hp.out m hml c hc0).mono ?_
    rintro e w' ⟨rfl, rfl⟩
    go_wp2_with fail
    go_round
    case rel =>
     refine ⟨a, m, ham, by omega, rfl, rfl, H1.out, fun c h hmc => Int.not_lt.1 fun hlt => ?_⟩
     have h3 : ¬ cmpL xs[m] ys < 0 := by simpa using HQ.out
     by_cases e : m = c
     ·subst e; exact h3 hlt
     ·exact h3 (ltL_trans (sortedL_lt HS.out h (show m < c by omega)) hlt)
    case measure => simp [intOf]; omega
   ·have HQ := Lib.hid hq
    go_wp2_with fail
    refine (hp.out m hml c hc0).mono ?_
    rintro e w' ⟨rfl, rfl⟩
    go_wp2_with fail
    go_round
    case rel =>
     refine ⟨m + 1, b, by omega, hbl, by go_num, rfl, fun c h hmc => ?_, H2.out⟩
     have h3 : cmpL xs[m] ys < 0 := by simpa using HQ.out
     by_cases e : c = m
     ·subst e; exact h3
     ·exact ltL_trans (sortedL_lt HS.out hml (show c < m by omega)) h3
    case measure => simp [intOf]; omega
  ·obtain rfl : a = b := by omega
   have HF := Lib.hid (bs_found hbl H1.out (fun c h h4 => Int.not_lt.2 (H2.out c h h4)) HS.out)
   by_cases hn : a < xs.length
   ·obtain ⟨bk, o, rfl, hb, hce⟩ := hcell (by omega)
    obtain ⟨c, hc0, hcc⟩ := hce a hn
    clear hcell hce
    have HR : Hid ((cmpL xs[a] ys == 0) = tb (ys ∈ xs)) := by
     unfold Hid
     rw [Bool.eq_iff_iff, tb_iff, HF.out]
     simp [hn]
    go_wp2_with fail
    refine (hp.out a hn c hc0).mono ?_
    rintro e w' ⟨rfl, rfl⟩
    go_wp2_with fail
    go_ret2
    exact ⟨⟨a, ret_ib HR.out⟩, rfl⟩
   ·have HR : Hid (false = tb (ys ∈ xs)) := (tb_false (fun hh => hn (HF.out.1 hh).1)).symm
    clear hcell
    go_wp2_with fail
    go_ret2
    exact ⟨⟨a, ret_ib HR.out⟩, rfl⟩
theorem has1_any (w : World) {v u : Value} {xs ys : List Int} (h : intsT.Rd w [v] xs) (h' : intsT.Rd w [u] ys) :
  Calls Tryz.prog 179 #[v, u] w fun e w' => e = .returned (.int .i64 (cmpL xs ys)) ∧ w = w' := by
 go_enter Tryz.func179, Tryz.ntmps179
 go_wp2_with fail
 refine (Compare_any _ h h').mono ?_
 rintro e w' ⟨rfl, rfl⟩
 go_wp2_with fail
 go_ret
 exact ⟨rfl, rfl⟩
theorem has_any (w : World) {cs : Array Value} {r : Int × List (List Int)} (h : relT.Rd w cs.toList r) {u : Value} {ys : List Int} (h' : intsT.Rd w [u] ys) (hs : sortedL r.2) :
  Calls Tryz.prog 97 #[.agg cs, u] w fun e w' => e = .returned (.bool (tb (ys ∈ r.2))) ∧ Below w.heap.size w w' := by
 obtain ⟨v, hv, hI, hx⟩ := pair_ex h
 obtain rfl := agg_of hv
 obtain ⟨ad, cap, rfl⟩ := rd_slice hx
 obtain ⟨ad', cap', rfl⟩ := rd_slice h'
 clear h hv
 go_enter Tryz.func97, Tryz.ntmps97
 go_wp2_with fail
 refine (BSearch_any _ (hx.below bA) (h'.below bA) hs 179 (enters Tryz.func179 (by kernel_rfl) rfl) (fun k hk c hc => has1_any _ hc (h'.below bA))).mono ?_
 rintro e w' ⟨⟨i, rfl⟩, rfl⟩
 go_wp2_with fail
 go_ret
 exact ⟨rfl, (by repeat (first | exact Below.refl _ _ | exact bA | assumption | refine Below.setCell ?_ (by first | omega | (simp; try omega)) _ | refine Below.alloc ?_ (by first | omega | (simp; try omega)) _ | refine Below.drew ?_ | refine bDN ?_ | refine bthen ?_ (by assumption)))⟩
theorem l01Has_quiet (w : World) {v : Value} {r : Int × List (List Int)} (h : relT.Pt w v r) {u : Value} {ys : List Int} (h' : intsT.Rd w [u] ys) :
  Calls Tryz.prog 104 #[v, u] w fun e w' => e = .returned (.bool (tb (ys ∈ r.2))) ∧ Quiet w w' := by
 obtain ⟨b, o, ad, cap, rfl, hb, -, c0, c1, hx⟩ := pt_pair h
 obtain ⟨_, _, e1, hle, hle2, hcell⟩ := slices_ex hx
 simp only [List.cons.injEq, Value.slice.injEq, and_true, true_and] at e1
 obtain ⟨rfl, rfl⟩ := e1
 clear h
 go_enter Tryz.func104, Tryz.ntmps104
 go_wp2_with fail
 go_loopw [5] (fun i wr => ∃ k : Nat, k ≤ r.2.length ∧ i = .int .i64 k ∧ noneB (fun t => eqB t ys) (r.2.take k) ∧ Quiet w wr) (fun i _ => r.2.length - (intOf i).toNat)
 case atStart => exact ⟨0, Nat.zero_le _, rfl, noneB_zero _ _, Quiet.refl _⟩
 case round =>
  obtain ⟨k, hk, rfl, ht, hqw⟩ := hrel
  have HT := Lib.hid ht
  have d1 := (hqw.below.cell hb).trans c1
  clear ht c0 c1
  by_cases hkl : k < r.2.length
  ·obtain ⟨a, q, rfl, haa, hce⟩ := hcell (by omega)
   obtain ⟨c, hc0, hcc⟩ := hce k hkl
   have e0 := (hqw.below.cell haa).trans hcc
   clear hcell hce hcc
   cases hq : eqB r.2[k] ys
   ·go_wp2_with fail
    refine (l00Same_quiet _ (hc0.below hqw.below) (h'.below hqw.below)).mono ?_
    rintro e w1 ⟨rfl, hq1⟩
    rw [hq]
    have hq2 := hqw.then hq1
    have f1 := (hq1.below.cell (by have := hqw.below.size; simp; omega)).trans d1
    go_wp2_with fail
    go_roundw
    case rel => exact ⟨k + 1, by omega, by go_num, noneB_succ hkl HT.out hq, hq2⟩
    case measure => simp [intOf]; omega
   ·have HM : Hid (ys ∈ r.2) := by
     have := eqB_iff.1 hq
     unfold Hid
     rw [← this]
     exact List.getElem_mem hkl
    go_wp2_with fail
    refine (l00Same_quiet _ (hc0.below hqw.below) (h'.below hqw.below)).mono ?_
    rintro e w1 ⟨rfl, hq1⟩
    rw [hq]
    go_wp2_with fail
    go_ret
    exact ⟨ret_bool (tb_true HM.out).symm, hqw.then hq1⟩
  ·obtain rfl : k = r.2.length := by omega
   have HM : Hid (¬ ys ∈ r.2) := fun hm => by
    have := HT.out ys (by rw [List.take_length]; exact hm)
    simp [eqB] at this
   clear hcell
   go_wp2_with fail
   go_ret
   exact ⟨ret_bool (tb_false HM.out).symm, hqw⟩
end Go.Proofs.YtnhdohednekhjaaGreatDoor
namespace Go.Proofs.YtnhdohednekhjaaGreatDoor
open Go.RowKit Go.Sort
set_option maxHeartbeats 400000 in
theorem l01Before_quiet (w : World) {v u : Value} {xs ys : List Int} (h : intsT.Rd w [v] xs) (h' : intsT.Rd w [u] ys) (hn : xs.length ≤ ys.length) (hs : xs.length = ys.length) :
  Calls Tryz.prog 162 #[v, u] w fun e w' => e = .returned (.bool (tb (ltL xs ys))) ∧ Quiet w w' := by
 obtain ⟨ad, cap, hv, hl, hc, hcell⟩ := ints_ex h
 obtain ⟨ad', cap', hv', hl', hc', hcell'⟩ := ints_ex h'
 obtain rfl : v = _ := by simpa using hv
 obtain rfl : u = _ := by simpa using hv'
 have HS := Lib.hid hs
 clear h hv h' hv' hs
 go_enter Tryz.func162, Tryz.ntmps162
 go_wp2_with fail
 go_loopw [5] (fun i wr => ∃ k : Nat, k ≤ xs.length ∧ i = .int .i64 k ∧ xs.take k = ys.take k ∧ Quiet w wr) (fun i _ => xs.length - (intOf i).toNat)
 case atStart => exact ⟨0, Nat.zero_le _, rfl, rfl, Quiet.refl _⟩
 case round =>
  obtain ⟨k, hk, rfl, ht, nq, rfl⟩ := hrel
  have HT := Lib.hid ht
  clear ht
  by_cases hkl : k < xs.length
  ·have hkl' : k < ys.length := by omega
   obtain ⟨b, o, rfl, hb, hce⟩ := hcell (by omega)
   obtain ⟨b', o', rfl, hb', hce'⟩ := hcell' (by omega)
   have d0 := (hce k hkl).2
   have d1 := (hce' k hkl').2
   clear hce hce' hcell hcell'
   cases hq : (xs[k] != ys[k])
   ·go_wp2_with fail
    go_quiet (fail)
    go_wp2_with fail
    go_roundw
    case rel => exact ⟨k + 1, by omega, by go_num, take_eq_succ hkl hkl' HT.out (by simpa using hq), (by first | exact Quiet.refl _ | exact Quiet.drewN _ _ | exact (Quiet.drewN _ _).then (Quiet.drewN _ _) | exact ((Quiet.drewN _ _).then (Quiet.drewN _ _)).then (Quiet.drewN _ _))⟩
    case measure => simp [intOf]; omega
   ·have hc := cmpL_ne HT.out hkl hkl' (by simpa using hq)
    have hr : decide (xs[k] < ys[k]) = tb (ltL xs ys) := by
     rw [Bool.eq_iff_iff, tb_iff, ltL, hc, decide_eq_true_iff]
     rcases ilt xs[k] ys[k] with h | h
     ·rw [cmpI_lt h]; simp [h]
     ·have hne : xs[k] ≠ ys[k] := by simpa using hq
      rw [cmpI_gt (by omega)]; simp; omega
    have HR := Lib.hid hr
    clear hr hc
    go_wp2_with fail
    go_quiet (fail)
    go_wp2_with fail
    go_quiet (fail)
    go_wp2_with fail
    go_ret
    exact ⟨ret_bool HR.out, (by first | exact Quiet.refl _ | exact Quiet.drewN _ _ | exact (Quiet.drewN _ _).then (Quiet.drewN _ _) | exact ((Quiet.drewN _ _).then (Quiet.drewN _ _)).then (Quiet.drewN _ _))⟩
  ·obtain rfl : k = xs.length := by omega
   go_wp2_with fail
   go_ret
   have e : xs = ys := by have := HT.out; rwa [List.take_length, HS.out, List.take_length] at this
   exact ⟨ret_bool (tb_false (by rw [e, ltL, cmpL_self]; omega)).symm, (by first | exact Quiet.refl _ | exact Quiet.drewN _ _ | exact (Quiet.drewN _ _).then (Quiet.drewN _ _) | exact ((Quiet.drewN _ _).then (Quiet.drewN _ _)).then (Quiet.drewN _ _))⟩
set_option maxHeartbeats 1600000 in
theorem l01Ok_quiet (w : World) {v : Value} {r : Int × List (List Int)} (h : relT.Pt w v r) (size : Int) :
  Calls Tryz.prog 86 #[.int .i64 size, v] w fun e w' => e = .returned (.bool (tb (relOk size r))) ∧ Quiet w w' := by
 obtain ⟨b, o, ad, cap, rfl, hb, hI, c0, c1, hx⟩ := pt_pair h
 clear h
 cases hs : inB size 1 4
 ·go_enter Tryz.func86, Tryz.ntmps86
  go_wp2_with (go_at_call 161; refine (l01Size_any _ _).mono ?_; rintro e w' ⟨rfl, rfl⟩)
  go_ret
  exact ⟨ret_bool (tb_false (fun hr => by have := inB_true.2 hr.1; rw [hs] at this; cases this)).symm, Quiet.refl _⟩
 cases ha : inB r.1 1 4
 ·go_enter Tryz.func86, Tryz.ntmps86
  go_wp2_with (first | (go_at_call 161; refine (l01Size_any _ _).mono ?_; rintro e w' ⟨rfl, rfl⟩) | (go_at_call 87; refine (l01Arity_any _ _).mono ?_; rintro e w' ⟨rfl, rfl⟩))
  go_ret
  exact ⟨ret_bool (tb_false (fun hr => by have := inB_true.2 hr.2.1; rw [ha] at this; cases this)).symm, Quiet.refl _⟩
 have hs' := inB_true.1 hs
 have ha' := inB_true.1 ha
 obtain ⟨_, _, e1, hle, hle2, hcell⟩ := slices_ex hx
 simp only [List.cons.injEq, Value.slice.injEq, and_true, true_and] at e1
 obtain ⟨rfl, rfl⟩ := e1
 go_enter Tryz.func86, Tryz.ntmps86
 go_wp2_with (first | (go_at_call 161; refine (l01Size_any _ _).mono ?_; rintro e w' ⟨rfl, rfl⟩) | (go_at_call 87; refine (l01Arity_any _ _).mono ?_; rintro e w' ⟨rfl, rfl⟩))
 go_loopw [5] (fun i wr => ∃ k : Nat, k ≤ r.2.length ∧ i = .int .i64 k ∧ relUp size r k ∧ Quiet w wr) (fun i _ => r.2.length - (intOf i).toNat)
 case atStart => exact ⟨0, Nat.zero_le _, rfl, relUp_zero _ _, Quiet.refl _⟩
 case round =>
  obtain ⟨k, hk, rfl, ht, hqw⟩ := hrel
  have HT := Lib.hid ht
  have d0 := (hqw.below.cell hb).trans c0
  have d1 := (hqw.below.cell hb).trans c1
  clear ht c0 c1
  by_cases hkl : k < r.2.length
  ·obtain ⟨a, q, rfl, haa, hce⟩ := hcell (by omega)
   obtain ⟨u, hu, f0⟩ := hce k hkl
   have g0 := (hqw.below.cell haa).trans f0
   have hu' := hu.below hqw.below
   have cT : ∀ n, Calls Tryz.prog 121 #[.int .i64 size, .int .i64 r.1, u] (wr.drewN n) fun e w'' => e = .returned (.bool (tb (rowOk size r.1 r.2[k]))) ∧ ∃ m, w'' = wr.drewN m := fun n =>
    quiet_call ((l01Tuple_any _ _ _ (hu'.below (Quiet.drewN wr n).below) (by omega) (by omega)).mono fun _ _ ⟨p, q⟩ => ⟨p, q ▸ Quiet.refl _⟩)
   cases hr : tb (rowOk size r.1 r.2[k])
   ·rw [hr] at cT
    clear hcell hce
    go_wp2_with fail
    go_quiet (exact cT _)
    go_wp2_with fail
    go_ret
    exact ⟨ret_bool (tb_false (fun hh => by have := tb_true (hh.2.2 k hkl).1; rw [hr] at this; cases this)).symm, hqw.then (by first | exact Quiet.refl _ | exact Quiet.drewN _ _ | exact (Quiet.drewN _ _).then (Quiet.drewN _ _) | exact ((Quiet.drewN _ _).then (Quiet.drewN _ _)).then (Quiet.drewN _ _))⟩
   have hrow := tb_iff.1 hr
   have HROW := Lib.hid hrow
   rw [hr] at cT
   clear hrow
   by_cases h0 : k = 0
   ·have H0 := Lib.hid h0
    have hg : decide (0 < k) = false := by rw [h0]; rfl
    clear hcell hce h0
    go_wp2_with fail
    go_quiet (exact cT _)
    go_wp2_with fail
    go_roundw
    case rel => exact ⟨k + 1, by omega, by go_num, relUp_succ hkl HT.out HROW.out (fun h => by have := H0.out; omega), hqw.then (by first | exact Quiet.refl _ | exact Quiet.drewN _ _ | exact (Quiet.drewN _ _).then (Quiet.drewN _ _) | exact ((Quiet.drewN _ _).then (Quiet.drewN _ _)).then (Quiet.drewN _ _))⟩
    case measure => simp [intOf]; omega
   ·have h1 : k - 1 < r.2.length := by omega
    obtain ⟨u1, hu1, f1⟩ := hce (k - 1) h1
    have g1 := (hqw.below.cell haa).trans f1
    have hu1' := hu1.below hqw.below
    have hg : decide (0 < k) = true := by simp; omega
    have hl1 : r.2[k - 1].length = r.2[k].length := by
     have p1 := (HT.out (k - 1) h1 (by omega)).1.1
     have p2 := HROW.out.1
     omega
    have cB : ∀ n, Calls Tryz.prog 162 #[u1, u] (wr.drewN n) fun e w'' => e = .returned (.bool (tb (ltL r.2[k - 1] r.2[k]))) ∧ ∃ m, w'' = wr.drewN m := fun n =>
     quiet_call (l01Before_quiet _ (hu1'.below (Quiet.drewN wr n).below) (hu'.below (Quiet.drewN wr n).below) (by omega) hl1)
    have HL := Lib.hid hl1
    clear hcell hce hl1
    go_wp2_with fail
    cases hlt : tb (ltL r.2[k - 1] r.2[k])
    ·rw [hlt] at cB
     go_quiet (first | exact cT _ | exact cB _)
     go_wp2_with fail
     go_ret
     exact ⟨ret_bool (tb_false (fun hh => by have := tb_true ((hh.2.2 k hkl).2 (by omega)); rw [hlt] at this; cases this)).symm, hqw.then (by first | exact Quiet.refl _ | exact Quiet.drewN _ _ | exact (Quiet.drewN _ _).then (Quiet.drewN _ _) | exact ((Quiet.drewN _ _).then (Quiet.drewN _ _)).then (Quiet.drewN _ _))⟩
    ·rw [hlt] at cB
     go_quiet (first | exact cT _ | exact cB _)
     go_wp2_with fail
     go_roundw
     case rel => exact ⟨k + 1, by omega, by go_num, relUp_succ hkl HT.out HROW.out (fun _ => tb_iff.1 hlt), hqw.then (by first | exact Quiet.refl _ | exact Quiet.drewN _ _ | exact (Quiet.drewN _ _).then (Quiet.drewN _ _) | exact ((Quiet.drewN _ _).then (Quiet.drewN _ _)).then (Quiet.drewN _ _))⟩
     case measure => simp [intOf]; omega
  ·obtain rfl : k = r.2.length := by omega
   go_wp2_with fail
   go_ret
   exact ⟨ret_bool (tb_true ⟨hs', ha', fun i h => HT.out i h h⟩).symm, hqw⟩
end Go.Proofs.YtnhdohednekhjaaGreatDoor
namespace Go.Proofs.YtnhdohednekhjaaGreatDoor
open Go.RowKit Go.Sort
theorem geq_cmp (xs ys : List Int) : decide (0 ≤ cmpL xs ys) = !tb (ltL xs ys) := by
 rw [tb_not, Bool.eq_iff_iff, tb_iff, ltL, decide_eq_true_iff]; omega
set_option maxHeartbeats 1600000 in
theorem ValidRel_any (w : World) {cs : Array Value} {r : Int × List (List Int)} (h : relT.Rd w cs.toList r) (size : Int) :
  Calls Tryz.prog 131 #[.int .i64 size, .agg cs] w fun e w' => e = .returned (.bool (tb (relOk size r))) ∧ Below w.heap.size w w' := by
 obtain ⟨v, hv, hI, hx⟩ := pair_ex h
 obtain rfl := agg_of hv
 obtain ⟨ad, cap, rfl⟩ := rd_slice hx
 clear h hv
 cases hs : inB size 1 4
 ·go_enter Tryz.func131, Tryz.ntmps131
  go_wp2_with (go_at_call 113; refine (isSize_any _ _).mono ?_; rintro e w' ⟨rfl, rfl⟩)
  go_ret
  exact ⟨ret_bool (tb_false (fun hr => by have := inB_true.2 hr.1; rw [hs] at this; cases this)).symm, (by repeat (first | exact Below.refl _ _ | exact bA | assumption | refine Below.setCell ?_ (by first | omega | (simp; try omega)) _ | refine Below.alloc ?_ (by first | omega | (simp; try omega)) _ | refine Below.drew ?_ | refine bDN ?_ | refine bthen ?_ (by assumption)))⟩
 cases ha : inB r.1 1 4
 ·go_enter Tryz.func131, Tryz.ntmps131
  go_wp2_with (first | (go_at_call 113; refine (isSize_any _ _).mono ?_; rintro e w' ⟨rfl, rfl⟩) | (go_at_call 90; refine (isArity_any _ _).mono ?_; rintro e w' ⟨rfl, rfl⟩))
  go_ret
  exact ⟨ret_bool (tb_false (fun hr => by have := inB_true.2 hr.2.1; rw [ha] at this; cases this)).symm, (by repeat (first | exact Below.refl _ _ | exact bA | assumption | refine Below.setCell ?_ (by first | omega | (simp; try omega)) _ | refine Below.alloc ?_ (by first | omega | (simp; try omega)) _ | refine Below.drew ?_ | refine bDN ?_ | refine bthen ?_ (by assumption)))⟩
 have hs' := inB_true.1 hs
 have ha' := inB_true.1 ha
 obtain ⟨_, _, e1, hle, hle2, hcell⟩ := slices_ex hx
 simp only [List.cons.injEq, Value.slice.injEq, and_true, true_and] at e1
 obtain ⟨rfl, rfl⟩ := e1
 go_enter Tryz.func131, Tryz.ntmps131
 go_wp2_with (first | (go_at_call 113; refine (isSize_any _ _).mono ?_; rintro e w' ⟨rfl, rfl⟩) | (go_at_call 90; refine (isArity_any _ _).mono ?_; rintro e w' ⟨rfl, rfl⟩))
 go_loopw [19] (fun i wr => ∃ k : Nat, k ≤ r.2.length ∧ i = .int .i64 k ∧ relUp size r k ∧ Below w.heap.size w wr ∧ w.heap.size < wr.heap.size ∧ wr.cell? ⟨w.heap.size, 0, none⟩ = some (.int .i64 r.1) ∧ wr.cell? ⟨w.heap.size, 1, none⟩ = some (.slice ad r.2.length cap)) (fun i _ => r.2.length - (intOf i).toNat)
 case atStart => exact ⟨0, Nat.zero_le _, rfl, relUp_zero _ _, (by repeat (first | exact Below.refl _ _ | exact bA | assumption | refine Below.setCell ?_ (by first | omega | (simp; try omega)) _ | refine Below.alloc ?_ (by first | omega | (simp; try omega)) _ | refine Below.drew ?_ | refine bDN ?_ | refine bthen ?_ (by assumption))), by simp, by simp, by simp⟩
 case round =>
  obtain ⟨k, hk, rfl, ht, hbel, hz, b0, b1⟩ := hrel
  have HT := Lib.hid ht
  clear ht
  by_cases hkl : k < r.2.length
  ·obtain ⟨a, q, rfl, haa, hce⟩ := hcell (by omega)
   obtain ⟨u, hu, f0⟩ := hce k hkl
   have g0 := (hbel.cell haa).trans f0
   cases hr : tb (rowOk size r.1 r.2[k])
   ·clear hcell hce
    go_wp2_with fail
    refine (areValues_any _ (hu.below hbel) _ _ (by omega) (by omega)).mono ?_
    rintro e w1 ⟨rfl, hb1⟩
    rw [hr]
    go_wp2_with fail
    go_ret
    exact ⟨ret_bool (tb_false (fun hh => by have := tb_true (hh.2.2 k hkl).1; rw [hr] at this; cases this)).symm, bthen hbel hb1⟩
   have HROW := Lib.hid (tb_iff.1 hr)
   by_cases h0 : k = 0
   ·have H0 := Lib.hid h0
    have hg : decide (0 < k) = false := by rw [h0]; rfl
    clear hcell hce h0
    go_wp2_with fail
    refine (areValues_any _ (hu.below hbel) _ _ (by omega) (by omega)).mono ?_
    rintro e w1 ⟨rfl, hb1⟩
    rw [hr]
    have c0 := (hb1.cell hz).trans b0
    have c1 := (hb1.cell hz).trans b1
    have hz1 : w.heap.size < w1.heap.size := Nat.lt_of_lt_of_le hz hb1.size
    go_wp2_with fail
    go_roundw
    case rel => exact ⟨k + 1, by omega, by go_num, relUp_succ hkl HT.out HROW.out (fun h => by have := H0.out; omega), bthen hbel hb1, hz1, c0, c1⟩
    case measure => simp [intOf]; omega
   ·have h1 : k - 1 < r.2.length := by omega
    obtain ⟨u1, hu1, f1⟩ := hce (k - 1) h1
    have hg : decide (0 < k) = true := by simp; omega
    have hgeq := geq_cmp r.2[k - 1] r.2[k]
    clear hcell hce
    go_wp2_with fail
    refine (areValues_any _ (hu.below hbel) _ _ (by omega) (by omega)).mono ?_
    rintro e w1 ⟨rfl, hb1⟩
    rw [hr]
    have hbel1 := bthen hbel hb1
    have c0 := (hb1.cell hz).trans b0
    have c1 := (hb1.cell hz).trans b1
    have g1 := (hbel1.cell haa).trans f1
    have hz1 : w.heap.size < w1.heap.size := Nat.lt_of_lt_of_le hz hb1.size
    clear b0 b1 g0 hb1 hbel
    cases hlt : tb (ltL r.2[k - 1] r.2[k])
    ·rw [hlt] at hgeq
     go_wp2_with fail
     refine (Compare_any _ (hu1.below hbel1) (hu.below hbel1)).mono ?_
     rintro e w2 ⟨rfl, rfl⟩
     go_wp2_with fail
     go_ret
     exact ⟨ret_bool (tb_false (fun hh => by have := tb_true ((hh.2.2 k hkl).2 (by omega)); rw [hlt] at this; cases this)).symm, hbel1⟩
    ·rw [hlt] at hgeq
     go_wp2_with fail
     refine (Compare_any _ (hu1.below hbel1) (hu.below hbel1)).mono ?_
     rintro e w2 ⟨rfl, rfl⟩
     go_wp2_with fail
     go_roundw
     case rel => exact ⟨k + 1, by omega, by go_num, relUp_succ hkl HT.out HROW.out (fun _ => tb_iff.1 hlt), hbel1, hz1, c0, c1⟩
     case measure => simp [intOf]; omega
  ·obtain rfl : k = r.2.length := by omega
   go_wp2_with fail
   go_ret
   exact ⟨ret_bool (tb_true ⟨hs', ha', fun i h => HT.out i h h⟩).symm, hbel⟩
theorem ValidTemplate1_any (w : World) {cs : Array Value} {r : Int × List (List Int)} (h : relT.Rd w cs.toList r) (size : Int) (b : Nat) (hb : b < w.heap.size) (hc : w.cell? ⟨b, 0, none⟩ = some (.int .i64 size)) :
  Calls Tryz.prog 148 #[.agg cs, .pointer (some ⟨b, 0, none⟩)] w fun e w' => e = .returned (.bool (!tb (relOk size r))) ∧ Below w.heap.size w w' := by
 have hx := h
 obtain ⟨v, hv, hI, -⟩ := pair_ex h
 obtain rfl := agg_of hv
 clear h hv
 go_enter Tryz.func148, Tryz.ntmps148
 go_wp2_with fail
 refine (ValidRel_any _ (hx.below bA) size).mono ?_
 rintro e w1 ⟨rfl, hb1⟩
 go_wp2_with fail
 go_ret
 exact ⟨rfl, (by repeat (first | exact Below.refl _ _ | exact bA | assumption | refine Below.setCell ?_ (by first | omega | (simp; try omega)) _ | refine Below.alloc ?_ (by first | omega | (simp; try omega)) _ | refine Below.drew ?_ | refine bDN ?_ | refine bthen ?_ (by assumption)))⟩
theorem tplOk_any {t : Int × List (Int × List (List Int))} (h0 : sizeOk t.1) (h1 : t.2.length ≤ 6) : (!anyB (fun r => !tb (relOk t.1 r)) t.2) = tb (tplOk t) := by
 rw [Bool.eq_iff_iff, tb_iff]
 simp only [anyB, tplOk, h0, h1, true_and, Bool.not_eq_true', List.any_eq_false, Bool.not_eq_false, tb_iff]
theorem ValidTemplate_any (w : World) {cs : Array Value} {t : Int × List (Int × List (List Int))} (h : tplT.Rd w cs.toList t) :
  Calls Tryz.prog 61 #[.agg cs] w fun e w' => e = .returned (.bool (tb (tplOk t))) ∧ Below w.heap.size w w' := by
 obtain ⟨v, hv, hI, hx⟩ := pair_ex h
 obtain rfl := agg_of hv
 obtain ⟨ad, cap, rfl⟩ := rd_slice hx
 clear h hv
 cases hs : inB t.1 1 4
 ·go_enter Tryz.func61, Tryz.ntmps61
  go_wp2_with (go_at_call 113; refine (isSize_any _ _).mono ?_; rintro e w' ⟨rfl, rfl⟩)
  go_ret
  exact ⟨ret_bool (tb_false (fun hr => by have := inB_true.2 hr.1; rw [hs] at this; cases this)).symm, (by repeat (first | exact Below.refl _ _ | exact bA | assumption | refine Below.setCell ?_ (by first | omega | (simp; try omega)) _ | refine Below.alloc ?_ (by first | omega | (simp; try omega)) _ | refine Below.drew ?_ | refine bDN ?_ | refine bthen ?_ (by assumption)))⟩
 have hs' := inB_true.1 hs
 by_cases hl : t.2.length ≤ 6
 rotate_left
 ·have hl' : decide (t.2.length ≤ 6) = false := by simpa using hl
  have hl2 : decide ((t.2.length : Int) ≤ 6) = false := by simp; omega
  have HL := Lib.hid hl
  clear hl
  go_enter Tryz.func61, Tryz.ntmps61
  go_wp2_with (go_at_call 113; refine (isSize_any _ _).mono ?_; rintro e w' ⟨rfl, rfl⟩)
  go_ret
  exact ⟨ret_bool (tb_false (fun hr => HL.out hr.2.1)).symm, (by repeat (first | exact Below.refl _ _ | exact bA | assumption | refine Below.setCell ?_ (by first | omega | (simp; try omega)) _ | refine Below.alloc ?_ (by first | omega | (simp; try omega)) _ | refine Below.drew ?_ | refine bDN ?_ | refine bthen ?_ (by assumption)))⟩
 have hl2 : decide ((t.2.length : Int) ≤ 6) = true := by simp; omega
 have HT := Lib.hid (tplOk_any hs' hl)
 clear hs'
 go_enter Tryz.func61, Tryz.ntmps61
 go_wp2_with (go_at_call 113; refine (isSize_any _ _).mono ?_; rintro e w' ⟨rfl, rfl⟩)
 refine (ContainsFuncRel_any _ (hx.below bA) (fun r => !tb (relOk t.1 r)) 148 #[.pointer (some ⟨w.heap.size, 0, none⟩)] (enters Tryz.func148 (by kernel_rfl) rfl) (fun W hW k hk cs hcs => ValidTemplate1_any W hcs t.1 w.heap.size ?_ ?_)).mono ?_
 ·have := hW.size; simp at this; omega
 ·rw [hW.cell (by simp)]; simp
 rintro e w1 ⟨rfl, hb1⟩
 go_wp2_with fail
 go_ret
 exact ⟨ret_bool HT.out, (by repeat (first | exact Below.refl _ _ | exact bA | assumption | refine Below.setCell ?_ (by first | omega | (simp; try omega)) _ | refine Below.alloc ?_ (by first | omega | (simp; try omega)) _ | refine Below.drew ?_ | refine bDN ?_ | refine bthen ?_ (by assumption)))⟩
theorem pt_tpl_elem {w : World} {b o n cap : Nat} {xs : List (Int × List (List Int))} (h : relsT.Rd w [.slice (some ⟨b, o, none⟩) n cap] xs) {k : Nat} (hk : k < xs.length) : relT.Pt w (.pointer (some ⟨b, o + k * 2, none⟩)) xs[k] := pt_elem h hk
set_option maxHeartbeats 800000 in
theorem l01Template_quiet (w : World) {v : Value} {t : Int × List (Int × List (List Int))} (h : tplT.Pt w v t) :
  Calls Tryz.prog 143 #[v] w fun e w' => e = .returned (.bool (tb (tplOk t))) ∧ Quiet w w' := by
 obtain ⟨b, o, ad, cap, rfl, hb, hI, c0, c1, hx⟩ := pt_pair h
 clear h
 obtain ⟨_, _, e1, hle, hle2, hcell⟩ := pairs_ex hx
 simp only [List.cons.injEq, Value.slice.injEq, and_true, true_and] at e1
 obtain ⟨rfl, rfl⟩ := e1
 go_enter Tryz.func143, Tryz.ntmps143
 go_wp2_with fail
 go_loopw [3] (fun i wr => ∃ k : Nat, k ≤ t.2.length ∧ i = .int .i64 k ∧ noneB (fun r => !tb (relOk t.1 r)) (t.2.take k) ∧ Quiet w wr) (fun i _ => t.2.length - (intOf i).toNat)
 case atStart => exact ⟨0, Nat.zero_le _, rfl, noneB_zero _ _, Quiet.refl _⟩
 case round =>
  obtain ⟨k, hk, rfl, ht, hqw⟩ := hrel
  have HT := Lib.hid ht
  have d0 := (hqw.below.cell hb).trans c0
  have d1 := (hqw.below.cell hb).trans c1
  clear ht c0 c1
  by_cases hkl : k < t.2.length
  ·obtain ⟨a, q, rfl, haa, -⟩ := hcell (by omega)
   have p := (pt_tpl_elem hx hkl).below hqw.below
   have cT : ∀ n, Calls Tryz.prog 86 #[.int .i64 t.1, .pointer (some ⟨a, q + k * 2, none⟩)] (wr.drewN n) fun e w'' => e = .returned (.bool (tb (relOk t.1 t.2[k]))) ∧ ∃ m, w'' = wr.drewN m := fun n =>
    quiet_call (l01Ok_quiet _ (p.below (Quiet.drewN wr n).below) t.1)
   cases hr : tb (relOk t.1 t.2[k])
   ·rw [hr] at cT
    go_wp2_with fail
    go_quiet (exact cT _)
    go_wp2_with fail
    go_ret
    exact ⟨ret_bool (tb_false (fun hh => by have := tb_true (hh.2.2 _ (List.getElem_mem hkl)); rw [hr] at this; cases this)).symm, hqw.then (by first | exact Quiet.refl _ | exact Quiet.drewN _ _ | exact (Quiet.drewN _ _).then (Quiet.drewN _ _) | exact ((Quiet.drewN _ _).then (Quiet.drewN _ _)).then (Quiet.drewN _ _))⟩
   ·rw [hr] at cT
    go_wp2_with fail
    go_quiet (exact cT _)
    go_wp2_with fail
    go_roundw
    case rel => exact ⟨k + 1, by omega, by go_num, noneB_succ hkl HT.out (by rw [hr]; rfl), hqw.then (by first | exact Quiet.refl _ | exact Quiet.drewN _ _ | exact (Quiet.drewN _ _).then (Quiet.drewN _ _) | exact ((Quiet.drewN _ _).then (Quiet.drewN _ _)).then (Quiet.drewN _ _))⟩
    case measure => simp [intOf]; omega
  ·obtain rfl : k = t.2.length := by omega
   have hall : ∀ r ∈ t.2, relOk t.1 r := fun r hr => by
    have := HT.out r (by rw [List.take_length]; exact hr)
    simpa [tb_iff] using this
   have HALL := Lib.hid hall
   clear hall
   cases hs : inB t.1 1 4
   ·go_wp2_with (go_at_call 161; refine (l01Size_any _ _).mono ?_; rintro e w' ⟨rfl, rfl⟩)
    go_ret
    exact ⟨ret_bool (tb_false (fun hr => by have := inB_true.2 hr.1; rw [hs] at this; cases this)).symm, hqw⟩
   have hs' := inB_true.1 hs
   have HR : Hid (decide ((t.2.length : Int) ≤ 6) = tb (tplOk t)) := by
    unfold Hid
    rw [Bool.eq_iff_iff, tb_iff, decide_eq_true_iff]
    exact ⟨fun h => ⟨hs', by omega, HALL.out⟩, fun h => by have := h.2.1; omega⟩
   go_wp2_with (go_at_call 161; refine (l01Size_any _ _).mono ?_; rintro e w' ⟨rfl, rfl⟩)
   go_ret
   exact ⟨ret_bool HR.out, hqw⟩
end Go.Proofs.YtnhdohednekhjaaGreatDoor
namespace Go.Proofs.YtnhdohednekhjaaGreatDoor
open Go.RowKit Go.Sort
theorem rd_elem {α : Type} {E : Ty α} {w : World} {ad : Option Addr} {cap : Nat} {xs : List α} (h : (Ty.slice E).Rd w [.slice ad xs.length cap] xs) {k : Nat} (hk : k < xs.length) :
  ∃ b o, ad = some ⟨b, o, none⟩ ∧ E.Pt w (.pointer (some ⟨b, o + k * E.sz, none⟩)) xs[k] := by
 obtain ⟨ad', cap', hv, _, _, h3⟩ := Ty.slice_ex h
 simp only [List.cons.injEq, Value.slice.injEq, and_true] at hv
 obtain ⟨rfl, -, rfl⟩ := hv
 obtain ⟨b, o, rfl, _⟩ := h3 (by omega)
 exact ⟨b, o, rfl, pt_elem h hk⟩
theorem arityOf_any (w : World) {cs : Array Value} {t : Int × List (Int × List (List Int))} (h : tplT.Rd w cs.toList t) (rel : Int) :
  Calls Tryz.prog 65 #[.agg cs, .int .i64 rel] w fun e w' => e = .returned (.int .i64 (arOf t rel)) ∧ Below w.heap.size w w' := by
 obtain ⟨v, hv, hI, hx⟩ := pair_ex h
 obtain rfl := agg_of hv
 obtain ⟨ad, cap, rfl⟩ := rd_slice hx
 clear h hv
 obtain ⟨_, _, -, hle, hle2, -⟩ := pairs_ex hx
 cases h1 : (rel == -1)
 rotate_left
 ·have HE : Hid (arOf t rel = 2) := by unfold Hid; rw [eq_of_beq h1]; exact arOf_eq t
  go_enter Tryz.func65, Tryz.ntmps65
  go_wp2_with fail
  go_ret
  exact ⟨ret_int HE.out.symm, (by repeat (first | exact Below.refl _ _ | exact bA | assumption | refine Below.setCell ?_ (by first | omega | (simp; try omega)) _ | refine Below.alloc ?_ (by first | omega | (simp; try omega)) _ | refine Below.drew ?_ | refine bDN ?_ | refine bthen ?_ (by assumption)))⟩
 have HN : Hid (rel ≠ -1) := by unfold Hid; simpa using h1
 cases h2 : inB rel 0 ((t.2.length : Int) - 1)
 ·go_enter Tryz.func65, Tryz.ntmps65
  go_wp2_with (go_at_call 84; refine (within_any _ _ _ _).mono ?_; rintro e w' ⟨rfl, rfl⟩)
  go_ret
  exact ⟨ret_int (arOf_no HN.out h2).symm, (by repeat (first | exact Below.refl _ _ | exact bA | assumption | refine Below.setCell ?_ (by first | omega | (simp; try omega)) _ | refine Below.alloc ?_ (by first | omega | (simp; try omega)) _ | refine Below.drew ?_ | refine bDN ?_ | refine bthen ?_ (by assumption)))⟩
 have hk := inB_true.1 h2
 obtain ⟨k, rfl⟩ : ∃ k : Nat, rel = k := ⟨rel.toNat, by omega⟩
 have hkl : k < t.2.length := by omega
 obtain ⟨a, q, rfl, hp⟩ := rd_elem hx hkl
 have hp' : relT.Pt w (.pointer (some ⟨a, q + k * 2, none⟩)) t.2[k] := hp
 obtain ⟨b, o, ad', cap', hbo, hb, -, c0, -, -⟩ := pt_pair hp'
 clear hp hp'
 simp only [Value.pointer.injEq, Option.some.injEq, Addr.mk.injEq, and_true] at hbo
 obtain ⟨rfl, rfl⟩ := hbo
 go_enter Tryz.func65, Tryz.ntmps65
 go_wp2_with (go_at_call 84; refine (within_any _ _ _ _).mono ?_; rintro e w' ⟨rfl, rfl⟩)
 go_ret
 exact ⟨ret_int (arOf_nat hkl).symm, (by repeat (first | exact Below.refl _ _ | exact bA | assumption | refine Below.setCell ?_ (by first | omega | (simp; try omega)) _ | refine Below.alloc ?_ (by first | omega | (simp; try omega)) _ | refine Below.drew ?_ | refine bDN ?_ | refine bthen ?_ (by assumption)))⟩
theorem isAtom_any (w : World) {cs : Array Value} {a : Int × List Int} (h : opT.Rd w cs.toList a) (ar vars : Int) (h0 : 0 ≤ vars) (h1 : vars ≤ 1000000000000) :
  Calls Tryz.prog 66 #[.agg cs, .int .i64 ar, .int .i64 vars] w fun e w' => e = .returned (.bool (tb (rowOk vars ar a.2))) ∧ Below w.heap.size w w' := by
 obtain ⟨v, hv, hI, hx⟩ := pair_ex h
 obtain rfl := agg_of hv
 clear h hv
 go_enter Tryz.func66, Tryz.ntmps66
 go_wp2_with fail
 refine (areValues_any _ (hx.below bA) _ _ h0 h1).mono ?_
 rintro e w1 ⟨rfl, hb1⟩
 go_wp2_with fail
 go_ret
 exact ⟨rfl, (by repeat (first | exact Below.refl _ _ | exact bA | assumption | refine Below.setCell ?_ (by first | omega | (simp; try omega)) _ | refine Below.alloc ?_ (by first | omega | (simp; try omega)) _ | refine Below.drew ?_ | refine bDN ?_ | refine bthen ?_ (by assumption)))⟩
theorem isFrame_any (w : World) {cs : Array Value} {f : Int × Int × List (Int × List Int)} (h : frmT.Rd w cs.toList f) :
  Calls Tryz.prog 62 #[.agg cs] w fun e w' => e = .returned (.bool (tb (frameOk f))) ∧ Below w.heap.size w w' := by
 obtain ⟨v, hv, hI, hI2, hx⟩ := trip_ex h
 obtain rfl := agg_of hv
 obtain ⟨ad, cap, rfl⟩ := rd_slice hx
 clear h hv
 cases h1 : inB f.1 1 4
 ·go_enter Tryz.func62, Tryz.ntmps62
  go_wp2_with (go_at_call 90; refine (isArity_any _ _).mono ?_; rintro e w' ⟨rfl, rfl⟩)
  go_ret
  exact ⟨ret_bool (tb_false (fun hr => by have := inB_true.2 hr.1; rw [h1] at this; cases this)).symm, (by repeat (first | exact Below.refl _ _ | exact bA | assumption | refine Below.setCell ?_ (by first | omega | (simp; try omega)) _ | refine Below.alloc ?_ (by first | omega | (simp; try omega)) _ | refine Below.drew ?_ | refine bDN ?_ | refine bthen ?_ (by assumption)))⟩
 cases h2 : inB f.2.1 f.1 8
 ·go_enter Tryz.func62, Tryz.ntmps62
  go_wp2_with (first | (go_at_call 90; refine (isArity_any _ _).mono ?_; rintro e w' ⟨rfl, rfl⟩) | (go_at_call 84; refine (within_any _ _ _ _).mono ?_; rintro e w' ⟨rfl, rfl⟩))
  go_ret
  exact ⟨ret_bool (tb_false (fun hr => by have := inB_true.2 hr.2.1; rw [h2] at this; cases this)).symm, (by repeat (first | exact Below.refl _ _ | exact bA | assumption | refine Below.setCell ?_ (by first | omega | (simp; try omega)) _ | refine Below.alloc ?_ (by first | omega | (simp; try omega)) _ | refine Below.drew ?_ | refine bDN ?_ | refine bthen ?_ (by assumption)))⟩
 have HR : Hid (decide ((f.2.2.length : Int) ≤ 16) = tb (frameOk f)) := by
  unfold Hid
  rw [Bool.eq_iff_iff, tb_iff, decide_eq_true_iff]
  exact ⟨fun h => ⟨inB_true.1 h1, inB_true.1 h2, by omega⟩, fun h => by have := h.2.2; omega⟩
 go_enter Tryz.func62, Tryz.ntmps62
 go_wp2_with (first | (go_at_call 90; refine (isArity_any _ _).mono ?_; rintro e w' ⟨rfl, rfl⟩) | (go_at_call 84; refine (within_any _ _ _ _).mono ?_; rintro e w' ⟨rfl, rfl⟩))
 go_ret
 exact ⟨ret_bool HR.out, (by repeat (first | exact Below.refl _ _ | exact bA | assumption | refine Below.setCell ?_ (by first | omega | (simp; try omega)) _ | refine Below.alloc ?_ (by first | omega | (simp; try omega)) _ | refine Below.drew ?_ | refine bDN ?_ | refine bthen ?_ (by assumption)))⟩
theorem l01Places_any (size : Int) {v : Value} {xs : List Int} (w : World) (h : intsT.Rd w [v] xs) (h0 : 0 ≤ size) (h1 : size ≤ 1000000000000) :
  Calls Tryz.prog 88 #[v, .int .i64 size] w fun e w' => e = .returned (.bool (tb (rowOk size xs.length xs))) ∧ w = w' := by
 obtain ⟨ad, cap, hv, hl, hc, hcell⟩ := ints_ex h
 obtain rfl : v = _ := by simpa using hv
 clear h hv
 go_enter Tryz.func88, Tryz.ntmps88
 go_wp2_with fail
 go_loop [5] (fun i => ∃ k : Nat, k ≤ xs.length ∧ i = .int .i64 k ∧ noneB (fun a => !inB a 0 (size - 1)) (xs.take k)) (fun i => xs.length - (intOf i).toNat)
 case atStart => exact ⟨0, Nat.zero_le _, rfl, noneB_zero _ _⟩
 case round =>
  obtain ⟨k, hk, rfl, ht⟩ := hrel
  have HT := Lib.hid ht
  clear ht
  by_cases hlt : k < xs.length
  ·obtain ⟨b, o, rfl, hb, hce⟩ := hcell (by omega)
   have hck := (hce k hlt).2
   clear hcell hce
   cases hi : inB xs[k] 0 (size - 1)
   ·go_wp2_with (go_at_call 163; refine (l00In_any _ _ _ _).mono ?_; rintro e w' ⟨rfl, rfl⟩)
    go_ret
    exact ⟨ret_bool (tb_false (fun hr => by have := inB_true.2 (hr.2 _ (List.getElem_mem hlt)); rw [hi] at this; cases this)).symm, rfl⟩
   ·go_wp2_with (go_at_call 163; refine (l00In_any _ _ _ _).mono ?_; rintro e w' ⟨rfl, rfl⟩)
    go_round
    case rel => exact ⟨k + 1, by omega, by go_num, noneB_succ hlt HT.out (by simp [hi])⟩
    case measure => simp [intOf]; omega
  ·obtain rfl : k = xs.length := by omega
   have hall : ∀ a ∈ xs, 0 ≤ a ∧ a ≤ size - 1 := fun a ha => by
    have := HT.out a (by rw [List.take_length]; exact ha)
    simpa [inB_true] using this
   have HR : Hid (true = tb (rowOk size xs.length xs)) := (tb_true ⟨rfl, hall⟩).symm
   clear hall
   go_wp2_with fail
   go_ret
   exact ⟨ret_bool HR.out, rfl⟩
theorem l03Arity_any (w : World) {v : Value} {t : Int × List (Int × List (List Int))} (h : tplT.Pt w v t) (rel : Int) :
  Calls Tryz.prog 141 #[v, .int .i64 rel] w fun e w' => e = .returned (.int .i64 (arOf t rel)) ∧ w = w' := by
 obtain ⟨b, o, ad, cap, rfl, hb, hI, c0, c1, hx⟩ := pt_pair h
 clear h
 obtain ⟨_, _, -, hle, hle2, -⟩ := pairs_ex hx
 cases h1 : (rel == -1)
 rotate_left
 ·have HE : Hid (arOf t rel = 2) := by unfold Hid; rw [eq_of_beq h1]; exact arOf_eq t
  go_enter Tryz.func141, Tryz.ntmps141
  go_wp2_with fail
  go_ret
  exact ⟨ret_int HE.out.symm, rfl⟩
 have HN : Hid (rel ≠ -1) := by unfold Hid; simpa using h1
 cases h2 : inB rel 0 ((t.2.length : Int) - 1)
 ·go_enter Tryz.func141, Tryz.ntmps141
  go_wp2_with (go_at_call 163; refine (l00In_any _ _ _ _).mono ?_; rintro e w' ⟨rfl, rfl⟩)
  go_ret
  exact ⟨ret_int (arOf_no HN.out h2).symm, rfl⟩
 have hk := inB_true.1 h2
 obtain ⟨k, rfl⟩ : ∃ k : Nat, rel = k := ⟨rel.toNat, by omega⟩
 have hkl : k < t.2.length := by omega
 obtain ⟨a, q, rfl, hp⟩ := rd_elem hx hkl
 have hp' : relT.Pt w (.pointer (some ⟨a, q + k * 2, none⟩)) t.2[k] := hp
 obtain ⟨b', o', ad', cap', hbo, hb', -, d0, -, -⟩ := pt_pair hp'
 clear hp hp'
 simp only [Value.pointer.injEq, Option.some.injEq, Addr.mk.injEq, and_true] at hbo
 obtain ⟨rfl, rfl⟩ := hbo
 go_enter Tryz.func141, Tryz.ntmps141
 go_wp2_with (go_at_call 163; refine (l00In_any _ _ _ _).mono ?_; rintro e w' ⟨rfl, rfl⟩)
 go_ret
 exact ⟨ret_int (arOf_nat hkl).symm, rfl⟩
theorem l03Counts_quiet (w : World) {v : Value} {f : Int × Int × List (Int × List Int)} (h : frmT.Pt w v f) :
  Calls Tryz.prog 144 #[v] w fun e w' => e = .returned (.bool (tb (frameOk f))) ∧ Quiet w w' := by
 obtain ⟨b, o, ad, cap, rfl, hb, hI, hI2, c0, c1, c2, hx⟩ := pt_trip h
 clear h
 cases h1 : inB f.1 1 4
 ·go_enter Tryz.func144, Tryz.ntmps144
  go_wp2_with fail
  have cA : ∀ n, Calls Tryz.prog 87 #[.int .i64 f.1] (w.drewN n) fun e w'' => e = .returned (.bool (inB f.1 1 4)) ∧ ∃ m, w'' = w.drewN m := fun n => (l01Arity_any _ _).mono fun e w'' ⟨he, hw⟩ => ⟨he, n, hw.symm⟩
  rw [h1] at cA
  go_quiet (exact cA _)
  go_wp2_with fail
  go_ret
  exact ⟨ret_bool (tb_false (fun hr => by have := inB_true.2 hr.1; rw [h1] at this; cases this)).symm, (by first | exact Quiet.refl _ | exact Quiet.drewN _ _ | exact (Quiet.drewN _ _).then (Quiet.drewN _ _) | exact ((Quiet.drewN _ _).then (Quiet.drewN _ _)).then (Quiet.drewN _ _))⟩
 have cA : ∀ n, Calls Tryz.prog 87 #[.int .i64 f.1] (w.drewN n) fun e w'' => e = .returned (.bool (inB f.1 1 4)) ∧ ∃ m, w'' = w.drewN m := fun n => (l01Arity_any _ _).mono fun e w'' ⟨he, hw⟩ => ⟨he, n, hw.symm⟩
 have cI : ∀ n, Calls Tryz.prog 163 #[.int .i64 f.2.1, .int .i64 f.1, .int .i64 8] (w.drewN n) fun e w'' => e = .returned (.bool (inB f.2.1 f.1 8)) ∧ ∃ m, w'' = w.drewN m := fun n => (l00In_any _ _ _ _).mono fun e w'' ⟨he, hw⟩ => ⟨he, n, hw.symm⟩
 rw [h1] at cA
 cases h2 : inB f.2.1 f.1 8
 ·rw [h2] at cI
  go_enter Tryz.func144, Tryz.ntmps144
  go_wp2_with fail
  go_quiet (first | exact cA _ | exact cI _)
  go_wp2_with fail
  go_ret
  exact ⟨ret_bool (tb_false (fun hr => by have := inB_true.2 hr.2.1; rw [h2] at this; cases this)).symm, (by first | exact Quiet.refl _ | exact Quiet.drewN _ _ | exact (Quiet.drewN _ _).then (Quiet.drewN _ _) | exact ((Quiet.drewN _ _).then (Quiet.drewN _ _)).then (Quiet.drewN _ _))⟩
 have HR : Hid (decide ((f.2.2.length : Int) ≤ 16) = tb (frameOk f)) := by
  unfold Hid
  rw [Bool.eq_iff_iff, tb_iff, decide_eq_true_iff]
  exact ⟨fun h => ⟨inB_true.1 h1, inB_true.1 h2, by omega⟩, fun h => by have := h.2.2; omega⟩
 rw [h2] at cI
 go_enter Tryz.func144, Tryz.ntmps144
 go_wp2_with fail
 go_quiet (first | exact cA _ | exact cI _)
 go_wp2_with fail
 go_ret
 exact ⟨ret_bool HR.out, (by first | exact Quiet.refl _ | exact Quiet.drewN _ _ | exact (Quiet.drewN _ _).then (Quiet.drewN _ _) | exact ((Quiet.drewN _ _).then (Quiet.drewN _ _)).then (Quiet.drewN _ _))⟩
end Go.Proofs.YtnhdohednekhjaaGreatDoor
namespace Go.Proofs.YtnhdohednekhjaaGreatDoor
open Go.RowKit Go.Sort
set_option maxHeartbeats 1600000 in
theorem ValidFormula1_any (w : World) {cs : Array Value} {c : Int × List Int} (h : opT.Rd w cs.toList c) {vt vx : Value} {t : Int × List (Int × List (List Int))} {x : Int × Int × List (Int × List Int)}
  (ht : tplT.Pt w vt t) (hxp : frmT.Pt w vx x) (h0 : 0 ≤ x.2.1) (h1 : x.2.1 ≤ 1000000000000) :
  Calls Tryz.prog 64 #[.agg cs, vt, vx] w fun e w' => e = .returned (.bool (!tb (atomOk t x.2.1 c))) ∧ Below w.heap.size w w' := by
 have hc := h
 obtain ⟨u, hv, hI, hu⟩ := pair_ex h
 obtain rfl := agg_of hv
 obtain ⟨b, o, ad, cap, rfl, hb, hI', c0, c1, hx⟩ := pt_pair ht
 obtain ⟨b', o', ad', cap', rfl, hb', -, -, c0', c1', -, -⟩ := pt_trip hxp
 have htr : tplT.Rd w (#[.int .i64 t.1, .slice ad t.2.length cap] : Array Value).toList t := pair_mk hI' hx
 clear h hv ht hxp
 cases h2 : (arOf t c.1 == 0)
 rotate_left
 ·have HR : Hid ((!tb (atomOk t x.2.1 c)) = true) := by
   unfold Hid
   rw [tb_false (fun hh => hh.1 (eq_of_beq h2))]; rfl
  go_enter Tryz.func64, Tryz.ntmps64
  go_wp2_with fail
  generalize hW : w.alloc _ = wr
  have hB : Below w.heap.size w wr := hW ▸ bA
  have e0 : wr.cell? ⟨w.heap.size, 0, none⟩ = some (.int .i64 c.1) := by rw [← hW]; simp
  have d0 := (hB.cell hb).trans c0
  have d1 := (hB.cell hb).trans c1
  clear hW c0 c1 c0' c1'
  have k0 := cell_regrown e0
  have k1 := cell_regrown d0
  have k2 := cell_regrown d1
  have htr' := htr.below hB
  have cW : ∀ d os, Calls Tryz.prog 65 #[.agg #[.int .i64 t.1, .slice ad t.2.length cap], .int .i64 c.1] (grow (redrawn wr d) os) fun e w'' => e = .returned (.int .i64 (arOf t c.1)) ∧ ∃ p : Regrown, w'' = grow (redrawn wr p.d) p.os := fun d os =>
   Calls.regrown_of (arityOf_any _ (htr'.below (below_regrown _ d os)) _)
  refine wp_region_quiet_below (by kernel_rfl) (by kernel_rfl) ?_
  repeat (go_big_quiet_step (exact cW _ _))
  refine wpQuiet_nil ?_
  rintro w2 ⟨p, rfl⟩
  have hb2 := below_regrown wr p.d p.os
  go_wp2_with fail
  go_ret
  exact ⟨ret_bool HR.out.symm, bthen hB hb2⟩
 have HR : Hid ((!tb (rowOk x.2.1 (arOf t c.1) c.2)) = !tb (atomOk t x.2.1 c)) := by
  unfold Hid
  congr 1
  exact tb_congr ⟨fun hh => ⟨by simpa using h2, hh⟩, fun hh => hh.2⟩
 go_enter Tryz.func64, Tryz.ntmps64
 go_wp2_with fail
 generalize hW : w.alloc _ = wr
 have hB : Below w.heap.size w wr := hW ▸ bA
 have e0 : wr.cell? ⟨w.heap.size, 0, none⟩ = some (.int .i64 c.1) := by rw [← hW]; simp
 have e1 : wr.cell? ⟨w.heap.size, 1, none⟩ = some u := by rw [← hW]; simp
 have d0 := (hB.cell hb).trans c0
 have d1 := (hB.cell hb).trans c1
 have d1' := (hB.cell hb').trans c1'
 have hc' := hc.below hB
 have htr' := htr.below hB
 clear hW c0 c1 c0' c1'
 have k0 := cell_regrown e0
 have k0' := cell_regrown e1
 have k1 := cell_regrown d0
 have k2 := cell_regrown d1
 have k3 := cell_regrown d1'
 have cW : ∀ d os, Calls Tryz.prog 65 #[.agg #[.int .i64 t.1, .slice ad t.2.length cap], .int .i64 c.1] (grow (redrawn wr d) os) fun e w'' => e = .returned (.int .i64 (arOf t c.1)) ∧ ∃ p : Regrown, w'' = grow (redrawn wr p.d) p.os := fun d os =>
  Calls.regrown_of (arityOf_any _ (htr'.below (below_regrown _ d os)) _)
 have cV : ∀ d os, Calls Tryz.prog 66 #[.agg #[.int .i64 c.1, u], .int .i64 (arOf t c.1), .int .i64 x.2.1] (grow (redrawn wr d) os) fun e w'' => e = .returned (.bool (tb (rowOk x.2.1 (arOf t c.1) c.2))) ∧ ∃ p : Regrown, w'' = grow (redrawn wr p.d) p.os := fun d os =>
  Calls.regrown_of (isAtom_any _ (hc'.below (below_regrown _ d os)) _ _ h0 h1)
 refine wp_region_quiet_below (by kernel_rfl) (by kernel_rfl) ?_
 repeat (go_big_quiet_step (first | exact cW _ _ | exact cV _ _))
 refine wpQuiet_nil ?_
 rintro w2 ⟨p, rfl⟩
 have hb2 := below_regrown wr p.d p.os
 go_wp2_with fail
 go_ret
 exact ⟨ret_bool HR.out, bthen hB hb2⟩
theorem frmOk_any {t : Int × List (Int × List (List Int))} {f : Int × Int × List (Int × List Int)} (h0 : tplOk t) (h1 : frameOk f) : (!anyB (fun a => !tb (atomOk t f.2.1 a)) f.2.2) = tb (frmOk t f) := by
 rw [Bool.eq_iff_iff, tb_iff]
 simp only [anyB, frmOk, h0, h1, true_and, Bool.not_eq_true', List.any_eq_false, Bool.not_eq_false, tb_iff]
set_option maxHeartbeats 1600000 in
theorem ValidFormula_any (w : World) {cs cs' : Array Value} {t : Int × List (Int × List (List Int))} {x : Int × Int × List (Int × List Int)} (h : tplT.Rd w cs.toList t) (h' : frmT.Rd w cs'.toList x) :
  Calls Tryz.prog 12 #[.agg cs, .agg cs'] w fun e w' => e = .returned (.bool (tb (frmOk t x))) ∧ Below w.heap.size w w' := by
 have ht := h
 have hxx := h'
 obtain ⟨v, hv, hI, -⟩ := pair_ex h
 obtain rfl := agg_of hv
 obtain ⟨v', hv', hI', hI2', hx⟩ := trip_ex h'
 obtain rfl := agg_of hv'
 obtain ⟨ad, cap, rfl⟩ := rd_slice hx
 clear h hv h' hv'
 have p0 : tplT.Pt ((w.alloc (.cells #[.int .i64 t.1, v] 27)).alloc (.cells #[.int .i64 x.1, .int .i64 x.2.1, .slice ad x.2.2.length cap] 31)) (.pointer (some ⟨w.heap.size, 0, none⟩)) t := (pt_box ht).below bA
 have p1 : frmT.Pt ((w.alloc (.cells #[.int .i64 t.1, v] 27)).alloc (.cells #[.int .i64 x.1, .int .i64 x.2.1, .slice ad x.2.2.length cap] 31)) (.pointer (some ⟨w.heap.size + 1, 0, none⟩)) x := by
  simpa using pt_box (T := 31) (hxx.below (bA (o := .cells #[.int .i64 t.1, v] 27)))
 cases hT : tb (tplOk t)
 ·go_enter Tryz.func12, Tryz.ntmps12
  go_wp2_with fail
  refine (ValidTemplate_any _ (ht.below (by repeat (first | exact Below.refl _ _ | exact bA | assumption | refine Below.setCell ?_ (by first | omega | (simp; try omega)) _ | refine Below.alloc ?_ (by first | omega | (simp; try omega)) _ | refine Below.drew ?_ | refine bDN ?_ | refine bthen ?_ (by assumption))))).mono ?_
  rintro e w1 ⟨rfl, hb1⟩
  rw [hT]
  go_wp2_with fail
  go_ret
  exact ⟨ret_bool (tb_false (fun hh => by have := tb_true hh.1; rw [hT] at this; cases this)).symm, bthen (by repeat (first | exact Below.refl _ _ | exact bA | assumption | refine Below.setCell ?_ (by first | omega | (simp; try omega)) _ | refine Below.alloc ?_ (by first | omega | (simp; try omega)) _ | refine Below.drew ?_ | refine bDN ?_ | refine bthen ?_ (by assumption))) hb1⟩
 have hT' := tb_iff.1 hT
 cases hF : tb (frameOk x)
 ·clear hT'
  go_enter Tryz.func12, Tryz.ntmps12
  go_wp2_with fail
  refine (ValidTemplate_any _ (ht.below (by repeat (first | exact Below.refl _ _ | exact bA | assumption | refine Below.setCell ?_ (by first | omega | (simp; try omega)) _ | refine Below.alloc ?_ (by first | omega | (simp; try omega)) _ | refine Below.drew ?_ | refine bDN ?_ | refine bthen ?_ (by assumption))))).mono ?_
  rintro e w1 ⟨rfl, hb1⟩
  rw [hT]
  have q1 := p1.below hb1
  obtain ⟨_, _, ad2, cap2, hbo, z1, -, -, c0, c1, c2, hx1⟩ := pt_trip q1
  simp only [Value.pointer.injEq, Option.some.injEq, Addr.mk.injEq, and_true] at hbo
  obtain ⟨rfl, rfl⟩ := hbo
  have hB1 : Below w.heap.size w w1 := bthen (by repeat (first | exact Below.refl _ _ | exact bA | assumption | refine Below.setCell ?_ (by first | omega | (simp; try omega)) _ | refine Below.alloc ?_ (by first | omega | (simp; try omega)) _ | refine Below.drew ?_ | refine bDN ?_ | refine bthen ?_ (by assumption))) hb1
  have r1 : frmT.Rd w1 (#[.int .i64 x.1, .int .i64 x.2.1, .slice ad2 x.2.2.length cap2] : Array Value).toList x := trip_mk hI' hI2' hx1
  go_wp2_with fail
  refine (isFrame_any _ r1).mono ?_
  rintro e w2 ⟨rfl, hb2⟩
  rw [hF]
  go_wp2_with fail
  go_ret
  exact ⟨ret_bool (tb_false (fun hh => by have := tb_true hh.2.1; rw [hF] at this; cases this)).symm, bthen hB1 hb2⟩
 have hF' := tb_iff.1 hF
 have HT := Lib.hid (frmOk_any hT' hF')
 have hv1 : 0 ≤ x.2.1 := by have := hF'.1.1; have := hF'.2.1.1; omega
 have hv2 : x.2.1 ≤ 1000000000000 := by have := hF'.2.1.2; omega
 have HV := Lib.hid (And.intro hv1 hv2)
 clear hT' hF' hv1 hv2
 go_enter Tryz.func12, Tryz.ntmps12
 go_wp2_with fail
 refine (ValidTemplate_any _ (ht.below (by repeat (first | exact Below.refl _ _ | exact bA | assumption | refine Below.setCell ?_ (by first | omega | (simp; try omega)) _ | refine Below.alloc ?_ (by first | omega | (simp; try omega)) _ | refine Below.drew ?_ | refine bDN ?_ | refine bthen ?_ (by assumption))))).mono ?_
 rintro e w1 ⟨rfl, hb1⟩
 rw [hT]
 have hB1 : Below w.heap.size w w1 := bthen (by repeat (first | exact Below.refl _ _ | exact bA | assumption | refine Below.setCell ?_ (by first | omega | (simp; try omega)) _ | refine Below.alloc ?_ (by first | omega | (simp; try omega)) _ | refine Below.drew ?_ | refine bDN ?_ | refine bthen ?_ (by assumption))) hb1
 have q0 := p0.below hb1
 have q1 := p1.below hb1
 obtain ⟨_, _, ad2, cap2, hbo, z1, -, -, c0, c1, c2, hx1⟩ := pt_trip q1
 simp only [Value.pointer.injEq, Option.some.injEq, Addr.mk.injEq, and_true] at hbo
 obtain ⟨rfl, rfl⟩ := hbo
 have r1 : frmT.Rd w1 (#[.int .i64 x.1, .int .i64 x.2.1, .slice ad2 x.2.2.length cap2] : Array Value).toList x := trip_mk hI' hI2' hx1
 go_wp2_with fail
 refine (isFrame_any _ r1).mono ?_
 rintro e w2 ⟨rfl, hb2⟩
 rw [hF]
 have f2 := (hb2.cell z1).trans c2
 have q0' := q0.below hb2
 have q1' := q1.below hb2
 have hx2 := hx1.below hb2
 clear c0 c1 c2
 go_wp2_with fail
 refine (ContainsFuncAtom_any _ hx2 (fun c => !tb (atomOk t x.2.1 c)) 64 #[.pointer (some ⟨w.heap.size, 0, none⟩), .pointer (some ⟨w.heap.size + 1, 0, none⟩)] (enters Tryz.func64 (by kernel_rfl) rfl) (fun W hW k hk cs hcs => ValidFormula1_any W hcs (q0'.below hW) (q1'.below hW) HV.out.1 HV.out.2)).mono ?_
 rintro e w3 ⟨rfl, hb3⟩
 go_wp2_with fail
 go_ret
 exact ⟨ret_bool HT.out, bthen (bthen hB1 hb2) hb3⟩
end Go.Proofs.YtnhdohednekhjaaGreatDoor
namespace Go.Proofs.YtnhdohednekhjaaGreatDoor
open Go.RowKit Go.Sort
theorem pure_drawn {P : Program} {f : FuncId} {args : Array Value} {w : World} {n : Nat} {v : Value} (h : Calls P f args (w.drewN n) fun e w' => e = .returned v ∧ w.drewN n = w') :
  Calls P f args (w.drewN n) fun e w'' => e = .returned v ∧ ∃ m, w'' = w.drewN m := h.mono fun _ _ ⟨he, hw⟩ => ⟨he, n, hw.symm⟩
theorem noneB_all {α : Type} {p : α → Prop} {xs : List α} (h : noneB (fun c => !tb (p c)) (xs.take xs.length)) : ∀ c ∈ xs, p c := fun c hc => by
 have := h c (by rw [List.take_length]; exact hc)
 simpa [tb_iff] using this
set_option maxHeartbeats 1600000 in
theorem l03Ok_quiet (w : World) {vt vx : Value} {t : Int × List (Int × List (List Int))} {x : Int × Int × List (Int × List Int)} (ht : tplT.Pt w vt t) (hxp : frmT.Pt w vx x) :
  Calls Tryz.prog 58 #[vt, vx] w fun e w' => e = .returned (.bool (tb (frmOk t x))) ∧ Quiet w w' := by
 have htp := ht
 have hfp := hxp
 obtain ⟨b, o, ad, cap, rfl, hb, -, -, -, -⟩ := pt_pair ht
 obtain ⟨b', o', ad', cap', rfl, hb', -, -, c0', c1', c2', hx⟩ := pt_trip hxp
 obtain ⟨_, _, e1, hle', hle2', hcell⟩ := pairs_ex hx
 simp only [List.cons.injEq, Value.slice.injEq, and_true, true_and] at e1
 obtain ⟨rfl, rfl⟩ := e1
 clear ht hxp
 cases hT : tb (tplOk t)
 ·go_enter Tryz.func58, Tryz.ntmps58
  go_wp2_with fail
  refine (l01Template_quiet _ htp).mono ?_
  rintro e w1 ⟨rfl, hq1⟩
  rw [hT]
  go_wp2_with fail
  go_ret
  exact ⟨ret_bool (tb_false (fun hh => by have := tb_true hh.1; rw [hT] at this; cases this)).symm, hq1⟩
 have HT := Lib.hid (tb_iff.1 hT)
 cases hF : tb (frameOk x)
 ·go_enter Tryz.func58, Tryz.ntmps58
  go_wp2_with fail
  refine (l01Template_quiet _ htp).mono ?_
  rintro e w1 ⟨rfl, hq1⟩
  rw [hT]
  go_wp2_with fail
  refine (l03Counts_quiet _ (hfp.below hq1.below)).mono ?_
  rintro e w2 ⟨rfl, hq2⟩
  rw [hF]
  go_wp2_with fail
  go_ret
  exact ⟨ret_bool (tb_false (fun hh => by have := tb_true hh.2.1; rw [hF] at this; cases this)).symm, hq1.then hq2⟩
 have HF := Lib.hid (tb_iff.1 hF)
 go_enter Tryz.func58, Tryz.ntmps58
 go_wp2_with fail
 refine (l01Template_quiet _ htp).mono ?_
 rintro e w1 ⟨rfl, hq1⟩
 rw [hT]
 go_wp2_with fail
 refine (l03Counts_quiet _ (hfp.below hq1.below)).mono ?_
 rintro e w2 ⟨rfl, hq2⟩
 rw [hF]
 have hq := hq1.then hq2
 go_wp2_with fail
 go_loopw [5, 6] (fun i _ wr => ∃ k : Nat, k ≤ x.2.2.length ∧ i = .int .i64 k ∧ noneB (fun c => !tb (atomOk t x.2.1 c)) (x.2.2.take k) ∧ Quiet w wr) (fun i _ _ => x.2.2.length - (intOf i).toNat)
 case atStart => exact ⟨0, Nat.zero_le _, rfl, noneB_zero _ _, hq⟩
 case round =>
  obtain ⟨k, hk, rfl, hne, hqw⟩ := hrel
  have HNE := Lib.hid hne
  have g0 := (hqw.below.cell hb').trans c1'
  have g1 := (hqw.below.cell hb').trans c2'
  have htw := htp.below hqw.below
  clear hne c0' c1' c2' hq1 hq2 hq
  by_cases hkl : k < x.2.2.length
  ·obtain ⟨a, q, rfl, haa, hce⟩ := hcell (by omega)
   obtain ⟨u, hu, hI, f0, f1⟩ := hce k hkl
   have e0 := (hqw.below.cell haa).trans f0
   have e1 := (hqw.below.cell haa).trans f1
   obtain ⟨_, _, hu0, -, hlu, -⟩ := ints_ex hu
   simp only [List.cons.injEq, and_true] at hu0
   subst hu0
   clear hcell hce f0 f1
   cases hz : (arOf t (x.2.2[k]).1 == 0)
   rotate_left
   ·go_wp2_with fail
    refine (l03Arity_any _ htw _).mono ?_
    rintro e w3 ⟨rfl, rfl⟩
    go_wp2_with fail
    go_quiet (fail)
    go_wp2_with fail
    go_ret
    exact ⟨ret_bool (tb_false (fun hh => (hh.2.2 _ (List.getElem_mem hkl)).1 (eq_of_beq hz))).symm, hqw.then (by first | exact Quiet.refl _ | exact Quiet.drewN _ _ | exact (Quiet.drewN _ _).then (Quiet.drewN _ _) | exact ((Quiet.drewN _ _).then (Quiet.drewN _ _)).then (Quiet.drewN _ _))⟩
   have HZ : Hid (arOf t (x.2.2[k]).1 ≠ 0) := by unfold Hid; simpa using hz
   cases hm : (((x.2.2[k]).2.length : Int) != arOf t (x.2.2[k]).1)
   rotate_left
   ·go_wp2_with fail
    refine (l03Arity_any _ htw _).mono ?_
    rintro e w3 ⟨rfl, rfl⟩
    go_wp2_with fail
    go_quiet (fail)
    go_wp2_with fail
    go_ret
    exact ⟨ret_bool (tb_false (fun hh => by have := (hh.2.2 _ (List.getElem_mem hkl)).2.1; simp [this] at hm)).symm, hqw.then (by first | exact Quiet.refl _ | exact Quiet.drewN _ _ | exact (Quiet.drewN _ _).then (Quiet.drewN _ _) | exact ((Quiet.drewN _ _).then (Quiet.drewN _ _)).then (Quiet.drewN _ _))⟩
   have hm' : ((x.2.2[k]).2.length : Int) = arOf t (x.2.2[k]).1 := by simpa using hm
   have HM := Lib.hid hm'
   have hu' := hu.below hqw.below
   have h0 : 0 ≤ x.2.1 := by have := HF.out.1.1; have := HF.out.2.1.1; omega
   have h1 : x.2.1 ≤ 1000000000000 := by have := HF.out.2.1.2; omega
   have cV : ∀ n, Calls Tryz.prog 88 #[.slice _ _ _, .int .i64 x.2.1] (wr.drewN n) fun e w'' => e = .returned (.bool (tb (rowOk x.2.1 (x.2.2[k]).2.length (x.2.2[k]).2))) ∧ ∃ m, w'' = wr.drewN m := fun n => pure_drawn (l01Places_any _ _ (hu'.below (Quiet.drewN wr n).below) h0 h1)
   clear hm' h0 h1
   cases hv : tb (rowOk x.2.1 (x.2.2[k]).2.length (x.2.2[k]).2)
   ·rw [hv] at cV
    go_wp2_with fail
    refine (l03Arity_any _ htw _).mono ?_
    rintro e w3 ⟨rfl, rfl⟩
    go_wp2_with fail
    go_quiet (exact cV _)
    go_wp2_with fail
    go_ret
    exact ⟨ret_bool (tb_false (fun hh => by have h9 := (hh.2.2 _ (List.getElem_mem hkl)).2; rw [← HM.out] at h9; have := tb_true h9; rw [hv] at this; cases this)).symm, hqw.then (by first | exact Quiet.refl _ | exact Quiet.drewN _ _ | exact (Quiet.drewN _ _).then (Quiet.drewN _ _) | exact ((Quiet.drewN _ _).then (Quiet.drewN _ _)).then (Quiet.drewN _ _))⟩
   have HV := Lib.hid (tb_iff.1 hv)
   rw [hv] at cV
   go_wp2_with fail
   refine (l03Arity_any _ htw _).mono ?_
   rintro e w3 ⟨rfl, rfl⟩
   go_wp2_with fail
   go_quiet (exact cV _)
   go_wp2_with fail
   go_roundw
   case rel => exact ⟨k + 1, by omega, by go_num, noneB_succ hkl HNE.out (by rw [tb_true (show atomOk t x.2.1 x.2.2[k] from ⟨HZ.out, HM.out ▸ HV.out⟩)]; rfl), hqw.then (by first | exact Quiet.refl _ | exact Quiet.drewN _ _ | exact (Quiet.drewN _ _).then (Quiet.drewN _ _) | exact ((Quiet.drewN _ _).then (Quiet.drewN _ _)).then (Quiet.drewN _ _))⟩
   case measure => simp [intOf]; omega
  ·obtain rfl : k = x.2.2.length := by omega
   have HA := Lib.hid (noneB_all HNE.out)
   go_wp2_with fail
   go_ret
   exact ⟨ret_bool (tb_true ⟨HT.out, HF.out, HA.out⟩).symm, hqw⟩
end Go.Proofs.YtnhdohednekhjaaGreatDoor
namespace Go.Proofs.YtnhdohednekhjaaGreatDoor
open Go.RowKit Go.Sort
set_option maxHeartbeats 1600000 in
set_option maxRecDepth 100000 in
theorem l01At_any (w : World) {v u : Value} {xs ps : List Int} (h : intsT.Rd w [v] xs) (h' : intsT.Rd w [u] ps) (hin : ∀ p ∈ ps, 0 ≤ p ∧ p < (xs.length : Int)) (hlen : ps.length ≤ 1000000) :
  Calls Tryz.prog 123 #[v, u] w (RetS intsT w (atL xs ps)) := by
 obtain ⟨ad, cap, hv, hl, hc, hcell⟩ := ints_ex h
 obtain rfl : v = _ := by simpa using hv
 obtain ⟨ad', cap', hv', hl', hc', hcell'⟩ := ints_ex h'
 obtain rfl : u = _ := by simpa using hv'
 have HIN := Lib.hid hin
 clear h hv h' hv' hin
 go_enter Tryz.func123, Tryz.ntmps123
 go_wp2_with fail
 go_loopw [6, 5] (fun i o wr => ∃ k : Nat, k ≤ ps.length ∧ i = .int .i64 k ∧ Bl Ty.int 2 w.heap.size wr.heap.size wr o (atL xs (ps.take k)) ∧ Below w.heap.size w wr) (fun i _ _ => ps.length - (intOf i).toNat)
 case atStart => exact ⟨0, Nat.zero_le _, rfl, by simpa [atL] using Bl.lit0 (E := Ty.int) (e := 2) (w := w) (Nat.le_refl _), bA⟩
 case round =>
  obtain ⟨k, hk, rfl, hBl, hbel⟩ := hrel
  have HB := Lib.hid hBl
  clear hBl
  by_cases hkl : k < ps.length
  ·obtain ⟨b', o', rfl, hb', hce'⟩ := hcell' (by omega)
   have hin := HIN.out ps[k] (List.getElem_mem hkl)
   obtain ⟨j, hj⟩ : ∃ j : Nat, ps[k] = j := ⟨ps[k].toNat, by omega⟩
   have hjl : j < xs.length := by omega
   obtain ⟨b, o, rfl, hb, hce⟩ := hcell (by omega)
   have e0 := (hbel.cell hb').trans (hce' k hkl).2
   rw [hj] at e0
   have e1 := (hbel.cell hb).trans (hce j hjl).2
   have hI := (hce j hjl).1
   clear hcell hcell' hce hce' hin
   have hrec := atL_take hkl hj hjl
   have HR := Lib.hid hrec
   clear hrec
   go_wp2_with (refine wpList_push (E := Ty.int) _ rfl _ _ 48 2 rfl elInt rfl (HB.out.below bA (Nat.le_refl _)) rfl news1 (fr_int hI) (by rw [atL_len, take_len hk]; omega) (by decide) hbel.size (by simp) ?_; intro v1 w1 hB1 hg1 _)
   have hbel1 : Below w.heap.size w w1 := (hbel.alloc hbel.size _).grown hg1 (by have := hbel.size; simp; omega) (fun k hk => HB.out.own hk)
   rw [HR.out] at hB1
   have HB1 := Lib.hid hB1
   clear hB1
   go_wp2_with fail
   go_roundw
   case rel => exact ⟨k + 1, by omega, by go_num, HB1.out, hbel1⟩
   case measure => simp [intOf]; omega
  ·obtain rfl : k = ps.length := by omega
   go_wp2_with fail
   go_ret
   rw [List.take_length] at HB
   exact ⟨_, rfl, HB.out.fr (by rw [atL_len]; unfold capMax; omega), hbel⟩
/-- the relation with a number; a constraint holds for values -/
def relAt (t : Int × List (Int × List (List Int))) (k : Int) : Int × List (List Int) := t.2.getD k.toNat (0, [])
def holdsC (t : Int × List (Int × List (List Int))) (vals : List Int) (c : Int × List Int) : Prop := atL vals c.2 ∈ (relAt t c.1).2
theorem relAt_nat {t : Int × List (Int × List (List Int))} {k : Nat} (h : k < t.2.length) : relAt t (k : Int) = t.2[k] := by simp [relAt, h]
end Go.Proofs.YtnhdohednekhjaaGreatDoor
namespace Go.Proofs.YtnhdohednekhjaaGreatDoor
open Go.RowKit

/-- all blocks but some are as before -/
structure TchF (fp : List Nat) (w w' : World) : Prop where
 os : w'.os = w.os
 tape : w'.tape = w.tape
 output : w'.output = w.output
 size : w.heap.size ≤ w'.heap.size
 block : ∀ k, k < w.heap.size → k ∉ fp → w'.heap[k]? = w.heap[k]?
theorem TchF.refl (fp : List Nat) (w : World) : TchF fp w w := ⟨rfl, rfl, rfl, Nat.le_refl _, fun _ _ _ => rfl⟩
theorem TchF.trans {fp : List Nat} {w w' w'' : World} (h : TchF fp w w') (k : TchF fp w' w'') : TchF fp w w'' :=
 ⟨k.os.trans h.os, k.tape.trans h.tape, k.output.trans h.output, Nat.le_trans h.size k.size, fun i hi hb => (k.block i (Nat.lt_of_lt_of_le hi h.size) hb).trans (h.block i hi hb)⟩
theorem TchF.mono {fp fp' : List Nat} {w w' : World} (h : TchF fp w w') (hs : ∀ k ∈ fp, k ∈ fp') : TchF fp' w w' := ⟨h.os, h.tape, h.output, h.size, fun k hk hn => h.block k hk fun hm => hn (hs k hm)⟩
theorem Below.tchF {w w' : World} (h : Below w.heap.size w w') (fp : List Nat) : TchF fp w w' := ⟨h.os, h.tape, h.output, h.size, fun k hk _ => h.block k hk⟩
theorem TchF.setCell {fp : List Nat} {b : Nat} (hb : b ∈ fp) (o : Nat) (w : World) (u : Value) : TchF fp w (w.setCell ⟨b, o, none⟩ u) :=
 ⟨rfl, rfl, rfl, by simp [World.setCell], fun k _ hk => Below.heap_setCell _ _ _ _ (fun e => hk (by rw [e]; exact hb))⟩
theorem TchF.same {fp g : List Nat} {w w' : World} (h : TchF fp w w') (hg : ∀ k ∈ g, k < w.heap.size ∧ k ∉ fp) : Same g w w' := fun k hk => h.block k (hg k hk).1 (hg k hk).2
theorem TchF.cell {fp : List Nat} {w w' : World} (h : TchF fp w w') {b o : Nat} (hb : b < w.heap.size) (hn : b ∉ fp) : w'.cell? ⟨b, o, none⟩ = w.cell? ⟨b, o, none⟩ := World.cell?_of_block (w := w) (h.block b hb hn)
theorem TchF.frozen {fp : List Nat} {w w' : World} (h : TchF fp w w') {b o : Nat} (hb : b < w.heap.size) (hn : b ∉ fp) : w'.frozen? ⟨b, o, none⟩ = w.frozen? ⟨b, o, none⟩ := World.frozen?_of_block (w := w) (h.block b hb hn)

section
variable {α : Type} {f : Int → α → α} {c : α → Int} {k : Int} {xs : List α} {i : Nat}
end
theorem rowRd.put {α : Type} {E : Ty α} {w w' : World} {b o : Nat} {xs : List α} {fps : Nat → List Nat} {i : Nat} {y : α} (h : rowRd E w b o xs fps) (_hi : i < xs.length)
  (hother : ∀ j, j < xs.length → j ≠ i → Same (fps j) w w' ∧ ∀ q, q < E.sz → w'.cell? ⟨b, o + j * E.sz + q, none⟩ = w.cell? ⟨b, o + j * E.sz + q, none⟩)
  (hthis : ∃ cs, E.rd w' cs y (fps i) ∧ ∀ j (hj : j < cs.length), w'.cell? ⟨b, o + i * E.sz + j, none⟩ = some cs[j]) : rowRd E w' b o (xs.set i y) fps := by
 intro j hj
 by_cases e : i = j
 ·subst e
  simpa using hthis
 ·have hj' : j < xs.length := by simpa using hj
  obtain ⟨cs, h1, h2⟩ := h j hj'
  obtain ⟨h3, h4⟩ := hother j hj' (fun e' => e e'.symm)
  refine ⟨cs, by rw [List.getElem_set_ne e]; exact E.same h1 h3, fun q hq => ?_⟩
  rw [h4 q (by rw [← E.len h1]; exact hq)]
  exact h2 q hq

theorem rd_pair {α : Type} {E : Ty α} {w : World} {cs : List Value} {x : Int × List α} {fp : List Nat} (h : (Ty.cons (Ty.slice E)).rd w cs x fp) :
  ∃ u, cs = [.int .i64 x.1, u] ∧ (Ty.slice E).rd w [u] x.2 fp ∧ ∀ w' y, (Ty.slice E).rd w' [u] y fp → (Ty.cons (Ty.slice E)).rd w' [.int .i64 x.1, u] (x.1, y) fp := by
 obtain ⟨cs', rfl, hI, h1⟩ := h
 obtain ⟨_, _, rfl, _⟩ := id h1
 exact ⟨_, rfl, h1, fun w' y hy => ⟨_, rfl, hI, hy⟩⟩
theorem rd_trip {α : Type} {E : Ty α} {w : World} {cs : List Value} {x : Int × Int × List α} {fp : List Nat} (h : (Ty.cons (Ty.cons (Ty.slice E))).rd w cs x fp) :
  ∃ u, cs = [.int .i64 x.1, .int .i64 x.2.1, u] ∧ (Ty.slice E).rd w [u] x.2.2 fp ∧ ∀ w' y, (Ty.slice E).rd w' [u] y fp → (Ty.cons (Ty.cons (Ty.slice E))).rd w' [.int .i64 x.1, .int .i64 x.2.1, u] (x.1, x.2.1, y) fp := by
 obtain ⟨cs', rfl, hI, h1⟩ := h
 obtain ⟨u, rfl, h2, h3⟩ := rd_pair h1
 exact ⟨u, rfl, h2, fun w' y hy => ⟨_, rfl, hI, h3 _ _ hy⟩⟩

/-! memory between two numbers -/
/-- reads so in blocks from lo up to hi, each once, none frozen -/
def Ty.Fx {α : Type} (E : Ty α) (lo hi : Nat) (w : World) (cs : List Value) (x : α) : Prop := ∃ fp, E.rd w cs x fp ∧ fp.Nodup ∧ (∀ b ∈ fp, lo ≤ b ∧ b < hi) ∧ Unf w fp
theorem Ty.Fx.rd {α : Type} {E : Ty α} {lo hi : Nat} {w : World} {cs : List Value} {x : α} (h : E.Fx lo hi w cs x) : E.Rd w cs x := let ⟨fp, h, _⟩ := h; ⟨fp, h⟩
theorem Ty.Fr.fx {α : Type} {E : Ty α} {lo : Nat} {w : World} {cs : List Value} {x : α} (h : E.Fr lo w cs x) : E.Fx lo w.heap.size w cs x :=
 let ⟨fp, h1, h2, h3, h4⟩ := h; ⟨fp, h1, h2, fun b hb => ⟨h3 b hb, E.lt h1 b hb⟩, h4⟩
theorem Ty.Fx.below {α : Type} {E : Ty α} {lo hi : Nat} {w w' : World} {cs : List Value} {x : α} (h : E.Fx lo hi w cs x) (hb : Below w.heap.size w w') : E.Fx lo hi w' cs x :=
 let ⟨fp, h1, h2, h3, h4⟩ := h
 have hs : Same fp w w' := Same.below hb (E.lt h1)
 ⟨fp, E.same h1 hs, h2, h3, h4.same hs⟩
/-- all old blocks but those from lo up to hi are as before -/
structure Tch (lo hi : Nat) (w w' : World) : Prop where
 os : w'.os = w.os
 tape : w'.tape = w.tape
 output : w'.output = w.output
 size : w.heap.size ≤ w'.heap.size
 block : ∀ k, k < w.heap.size → (k < lo ∨ hi ≤ k) → w'.heap[k]? = w.heap[k]?
theorem TchF.tch {fp : List Nat} {lo hi : Nat} {w w' : World} (h : TchF fp w w') (hf : ∀ b ∈ fp, lo ≤ b ∧ b < hi) : Tch lo hi w w' :=
 ⟨h.os, h.tape, h.output, h.size, fun k hk hn => h.block k hk fun hm => by have := hf k hm; omega⟩
theorem Tch.cell {lo hi : Nat} {w w' : World} (h : Tch lo hi w w') {b o : Nat} (hb : b < w.heap.size) (hn : b < lo ∨ hi ≤ b) : w'.cell? ⟨b, o, none⟩ = w.cell? ⟨b, o, none⟩ := World.cell?_of_block (w := w) (h.block b hb hn)
theorem Ty.Fx.tch {α : Type} {E : Ty α} {lo hi lo' hi' : Nat} {w w' : World} {cs : List Value} {x : α} (h : E.Fx lo hi w cs x) (ht : Tch lo' hi' w w') (hd : hi ≤ lo' ∨ hi' ≤ lo) : E.Fx lo hi w' cs x :=
 let ⟨fp, h1, h2, h3, h4⟩ := h
 have hs : Same fp w w' := fun k hk => ht.block k (E.lt h1 k hk) (by have := h3 k hk; omega)
 ⟨fp, E.same h1 hs, h2, h3, h4.same hs⟩
/-- an append at a step of a region that draws its order -/
theorem step_push {P : Program} {K : Act → World → Prop} {Ee : Prop} {α : Type} {E : Ty α} (w : World) {ops : Array Oper} {o : Oper} {a : Act} {Q : Exit → Act → World → Prop} (hgd : o.guard = none) (s x : Operand) (t e : TypeId) {bytes : Nat}
  (ho : o.op = .call { callee := .builtin .append, args := #[s, x], argTypes := #[t, t] }) (hT : ElT P t e E.sz bytes)
  {base top : Nat} {v : Value} {ys : List α} (hs : a.eval s = v) (hB : Bl E e base top w v ys)
  {ad : Addr} {c : Nat} {cs : List Value} {y : α} (hx : a.eval x = .slice (some ad) 1 c) (hnews : ∀ j u, cs[j]? = some u → w.cell? (ad.add j) = some u) (hy : E.Fr top w cs y)
  (hlen : ys.length ≤ 1000000000) (hby : bytes ≤ 100000) (hbt : base ≤ top) (htop : top ≤ w.heap.size)
  (h : ∀ v' w', Bl E e base w'.heap.size w' v' (ys ++ [y]) → w.grownBy w' v.ownBlock → (v'.ownBlock = v.ownBlock ∨ v'.ownBlock = some w.heap.size) → K (a.put o.dst v') w') : if Region.wanted o (yielded ops a.tmps) = true then Oper.wp P o a w K Q else Ee := by
 rw [if_pos (by simp [Region.wanted, hgd])]
 obtain ⟨L, fps, g1, g2, g3, g4, g5, g6⟩ := hB
 obtain ⟨fp, k1, k2, k3, k4⟩ := hy
 obtain ⟨i, z, ht, hi, hz, hsz, hbt', hzs, hp⟩ := id hT
 have hcl := E.len k1
 have hlen' : (ys.length + 1) * bytes ≤ 140737488355328 := Nat.le_trans (Nat.mul_le_mul (show ys.length + 1 ≤ 1000000001 by omega) hby) (by decide)
 have hbase : base ≤ w.heap.size := Nat.le_trans hbt htop
 obtain ⟨v', w', hr, h2, h3, h4⟩ := run_append_own (P := P) w base t o.type e i z E.sz bytes ht hi hz hsz hbt' hzs hp v ys.length L g1 ad 1 c cs (by omega) hnews (E.one k1) (by unfold maxLen; omega) hlen' hbase
 have hblk := run_push_block w base t o.type e hT v ys.length L g1 ad 1 c cs (by omega) hnews (E.one k1) (by unfold maxLen; omega) hlen' (by omega) v' w' hr
 have hS : ∀ k, v.ownBlock ≠ some k → k < w.heap.size → w'.heap[k]? = w.heap[k]? := fun k hk hlt => h3.block k hlt (fun he => hk he.symm)
 have hlt1 : ∀ b ∈ flat fps ys.length, b < w.heap.size := fun b hb => Nat.lt_of_lt_of_le (g4 b hb).2.1 htop
 have hlt2 : ∀ b ∈ fp, b < w.heap.size := E.lt k1
 have hS1 : Same (flat fps ys.length) w w' := fun k hk => hS k (g4 k hk).2.2 (hlt1 k hk)
 have hne : ∀ b ∈ fp, v.ownBlock ≠ some b := fun b hb he => by have := g5 b he; have := k3 b hb; omega
 have hS2 : Same fp w w' := fun k hk => hS k (hne k hk) (hlt2 k hk)
 have hBl : Bl E e base w'.heap.size w' v' (ys ++ [y]) := by
  refine ⟨L ++ cs, fun i => if i = ys.length then fp else fps i, by simpa using h2, el_add (fun i hi => ?_) g1.1 (E.same k1 hS2), ?_, ?_, ?_, ?_⟩
  ·obtain ⟨cs', h7, h8⟩ := g2 i hi
   exact ⟨cs', E.same h7 (fun k hk => hS1 k (List.mem_flatMap.2 ⟨i, by simpa using hi, hk⟩)), h8⟩
  ·rw [List.length_append, List.length_singleton, flat_add]
   exact List.nodup_append.2 ⟨g3, k2, fun a ha b hb he => by subst he; have := (g4 a ha).2.1; have := k3 a hb; omega⟩
  ·rw [List.length_append, List.length_singleton, flat_add]
   intro b hb
   have hsz' := h3.size
   rcases List.mem_append.1 hb with hb | hb
   ·refine ⟨(g4 b hb).1, by have := hlt1 b hb; omega, ?_⟩
    rcases hblk with e1 | e1 <;> rw [e1]
    ·exact (g4 b hb).2.2
    ·intro he; have := hlt1 b hb; simp at he; omega
   ·refine ⟨by have := k3 b hb; omega, by have := hlt2 b hb; omega, ?_⟩
    rcases hblk with e1 | e1 <;> rw [e1]
    ·exact hne b hb
    ·intro he; have := hlt2 b hb; simp at he; omega
  ·intro g hg
   exact (h2.lt g hg).2
  ·rw [List.length_append, List.length_singleton, flat_add]
   intro b hb
   rcases List.mem_append.1 hb with hb | hb
   ·exact g6.same hS1 b hb
   ·exact k4.same hS2 b hb
 unfold Oper.wp execOp
 simp only [ho, resolve, invoke, builtin, Sem.run_bind, Sem.run_pure, Result.andThen_ok, List.map_toArray, List.map_cons, List.map_nil, hs, hx, hr]
 exact h v' w' hBl h3 hblk
end Go.Proofs.YtnhdohednekhjaaGreatDoor
namespace Go.Proofs.YtnhdohednekhjaaGreatDoor
open Go.RowKit Go.Sort

/-- a struct in new memory, and a code -/
def RetAC {α : Type} (E : Ty α) (w : World) (x : α) (c : Int) (e : Ending) (w' : World) : Prop := ∃ cs : List Value, e = .returned (.tuple #[.agg cs.toArray, .int .i64 c]) ∧ E.Fr w.heap.size w' cs x ∧ Below w.heap.size w w'
/-- a slice in new memory, and a code -/
def RetSC {α : Type} (E : Ty α) (w : World) (x : α) (c : Int) (e : Ending) (w' : World) : Prop := ∃ u, e = .returned (.tuple #[u, .int .i64 c]) ∧ E.Fr w.heap.size w' [u] x ∧ Below w.heap.size w w'
def frm0 : Int × Int × List (Int × List Int) := (0, 0, [])
theorem fr_frm0 {base : Nat} {w : World} : frmT.Fr base w [.int .i64 0, .int .i64 0, .slice none 0 0] frm0 := fr_cons (I64.small (by omega) (by omega)) (fr_cons (I64.small (by omega) (by omega)) fr_nil)
def upL (from0 : Int) (n : Nat) : List Int := (List.range n).map fun i : Nat => from0 + (i : Int)
theorem upL_len {a : Int} {n : Nat} : (upL a n).length = n := by simp [upL]
theorem upL_succ (a : Int) (n : Nat) : upL a n ++ [a + (n : Int)] = upL a (n + 1) := by simp [upL, List.range_succ]
/-- a result of three cells, stored -/
abbrev set3 (w : World) (b : Nat) (x y z : Value) : World := ((w.setCell ⟨b, 0, none⟩ x).setCell ⟨b, 1, none⟩ y).setCell ⟨b, 2, none⟩ z
theorem set3_cells {w : World} {b : Nat} {x y z x' y' z' : Value} (h0 : w.cell? ⟨b, 0, none⟩ = some x') (h1 : w.cell? ⟨b, 1, none⟩ = some y') (h2 : w.cell? ⟨b, 2, none⟩ = some z') :
  (set3 w b x y z).cell? ⟨b, 0, none⟩ = some x ∧ (set3 w b x y z).cell? ⟨b, 1, none⟩ = some y ∧ (set3 w b x y z).cell? ⟨b, 2, none⟩ = some z := by
 have e1 : (w.setCell ⟨b, 0, none⟩ x).cell? ⟨b, 1, none⟩ = some y' := (World.cell?_setCell_other _ _ _ _ (by simp)).trans h1
 have e2 : ((w.setCell ⟨b, 0, none⟩ x).setCell ⟨b, 1, none⟩ y).cell? ⟨b, 2, none⟩ = some z' := (World.cell?_setCell_other _ _ _ _ (by simp)).trans ((World.cell?_setCell_other _ _ _ _ (by simp)).trans h2)
 exact ⟨(World.cell?_setCell_other _ _ _ _ (by simp)).trans ((World.cell?_setCell_other _ _ _ _ (by simp)).trans (World.cell?_setCell_same _ _ _ h0)), (World.cell?_setCell_other _ _ _ _ (by simp)).trans (World.cell?_setCell_same _ _ _ e1), World.cell?_setCell_same _ _ _ e2⟩
theorem Ty.Fr.set3 {α : Type} {E : Ty α} {base : Nat} {w : World} {cs : List Value} {v : α} {b : Nat} {x y z : Value} (h : E.Fr base w cs v) (hb : b < base) : E.Fr base (set3 w b x y z) cs v := ((h.set hb).set hb).set hb
theorem set3_below {B : Nat} {a w : World} {b : Nat} {x y z : Value} (h : Below B a w) (hb : B ≤ b) : Below B a (set3 w b x y z) := ((h.setCell hb _).setCell hb _).setCell hb _

section
variable {t : Int × List (Int × List (List Int))} {rel : Int}
theorem arOf_bd (h : tplOk t) (h2 : inB rel 0 ((t.2.length : Int) - 1) = true) : 0 ≤ arOf t rel ∧ arOf t rel ≤ 4 := by
 have h3 := inB_true.1 h2
 obtain ⟨k, rfl⟩ : ∃ k : Nat, rel = k := ⟨rel.toNat, by omega⟩
 have hk : k < t.2.length := by omega
 rw [arOf_nat hk]
 have := (h.2.2 _ (List.getElem_mem hk)).2.1
 unfold sizeOk at this
 omega
end
end Go.Proofs.YtnhdohednekhjaaGreatDoor
namespace Go.Proofs.YtnhdohednekhjaaGreatDoor
open Go.RowKit Go.Sort
theorem news2 {w : World} {u u' : Value} {T : TypeId} : ∀ j x, [u, u'][j]? = some x → (w.alloc (.cells #[u, u'] T)).cell? ((⟨w.heap.size, 0, none⟩ : Addr).add j) = some x := by
 intro j x h
 match j with
 | 0 => simp at h; subst h; simp [Addr.add]
 | 1 => simp at h; subst h; simp [Addr.add]
 | j + 2 => simp at h
end Go.Proofs.YtnhdohednekhjaaGreatDoor
namespace Go.Proofs.YtnhdohednekhjaaGreatDoor
open Go.RowKit Go.Sort
/-- variables renamed by a function -/
def rnL (g : Int → Int) (xs : List (Int × List Int)) : List (Int × List Int) := xs.map fun a => (a.1, a.2.map g)
def hideTo (vars var v : Int) : Int := match decide (v = var), decide (var < v) with
 | true, _ => vars - 1
 | false, true => v - 1
 | false, false => v
theorem hideTo_eq {vars var v : Int} (h : v = var) : hideTo vars var v = vars - 1 := by simp [hideTo, h]
theorem hideTo_gt {vars var v : Int} (h : var < v) : hideTo vars var v = v - 1 := by
 have : ¬ v = var := by omega
 simp [hideTo, h, this]
theorem hideTo_lt {vars var v : Int} (h : v < var) : hideTo vars var v = v := by
 have h1 : ¬ v = var := by omega
 have h2 : ¬ var < v := by omega
 simp [hideTo, h1, h2]
theorem hideTo_I {vars var v : Int} (h : 0 ≤ v ∧ v ≤ 1000) (h2 : 0 ≤ vars ∧ vars ≤ 1000) : I64 (hideTo vars var v) := by
 rcases Int.lt_trichotomy v var with h3 | h3 | h3
 ·rw [hideTo_lt h3]; exact I64.small (by omega) (by omega)
 ·rw [hideTo_eq h3]; exact I64.small (by omega) (by omega)
 ·rw [hideTo_gt h3]; exact I64.small (by omega) (by omega)
section
variable (t : Int × List (Int × List (List Int))) (f : Int × Int × List (Int × List Int)) (v : Int)
noncomputable def hideC : Int := match tb (frmOk t f), inB v 0 (f.1 - 1), (f.1 == 1) with
 | false, _, _ => 1
 | true, false, _ => 2
 | true, true, true => 4
 | true, true, false => 0
noncomputable def hideV : Int × Int × List (Int × List Int) := match tb (frmOk t f), inB v 0 (f.1 - 1), (f.1 == 1) with
 | true, true, false => (f.1 - 1, f.2.1, rnL (hideTo f.2.1 v) f.2.2)
 | _, _, _ => frm0
end
section
variable {t : Int × List (Int × List (List Int))} {f : Int × Int × List (Int × List Int)} {v : Int}
theorem hide_1 (h : tb (frmOk t f) = false) : hideV t f v = frm0 ∧ hideC t f v = 1 := by simp [hideV, hideC, h]
theorem hide_2 (h : tb (frmOk t f) = true) (h2 : inB v 0 (f.1 - 1) = false) : hideV t f v = frm0 ∧ hideC t f v = 2 := by simp [hideV, hideC, h, h2]
theorem hide_4 (h : tb (frmOk t f) = true) (h2 : inB v 0 (f.1 - 1) = true) (h3 : (f.1 == 1) = true) : hideV t f v = frm0 ∧ hideC t f v = 4 := by simp [hideV, hideC, h, h2, h3]
theorem hide_0 (h : tb (frmOk t f) = true) (h2 : inB v 0 (f.1 - 1) = true) (h3 : (f.1 == 1) = false) : hideV t f v = (f.1 - 1, f.2.1, rnL (hideTo f.2.1 v) f.2.2) ∧ hideC t f v = 0 := by simp [hideV, hideC, h, h2, h3]
theorem arOf_le (h : tplOk t) (rel : Int) : 0 ≤ arOf t rel ∧ arOf t rel ≤ 4 := by
 by_cases h1 : rel = -1
 ·subst h1; rw [arOf_eq]; omega
 ·cases h2 : inB rel 0 ((t.2.length : Int) - 1)
  ·rw [arOf_no h1 h2]; omega
  ·exact arOf_bd h h2
theorem frm_bd (h : tb (frmOk t f) = true) : 1 ≤ f.1 ∧ f.1 ≤ f.2.1 ∧ f.2.1 ≤ 8 ∧ f.2.2.length ≤ 16 ∧ ∀ a ∈ f.2.2, (∀ p ∈ a.2, 0 ≤ p ∧ p < f.2.1) ∧ a.2.length ≤ 4 := by
 have h := tb_iff.1 h
 obtain ⟨h1, ⟨h2, h3, h4⟩, h5⟩ := h
 refine ⟨by omega, by omega, by omega, h4, fun a ha => ?_⟩
 obtain ⟨_, h6, h7⟩ := h5 a ha
 have h8 := arOf_le h1 a.1
 refine ⟨fun p hp => ?_, by omega⟩
 have := h7 p hp
 omega
end
theorem wrap_small {n : Int} (h0 : -1000000000000000000 ≤ n) (h1 : n ≤ 1000000000000000000) : IntKind.i64.wrap n = n := by
 simp [IntKind.wrap, IntKind.signed, IntKind.bits]
 omega
end Go.Proofs.YtnhdohednekhjaaGreatDoor
