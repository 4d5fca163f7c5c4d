/-
Contracts: powers, indices of lists, lists of indices.
Contracts: the list of an index.
Contracts: valid relations and templates, in the program and in the reference.
Contracts: valid relations and templates (the program's), valid templates (the reference's).
Contracts: what a number of a relation tells; atoms' places; counts of formulas.
Contracts: valid instances and formulas, the program's.
Contracts: valid instances and formulas, the reference's.
Contracts: valid operations.
Contracts: the tuple that an operation makes of tuples.
The order of tuples; tuples at places; search in a relation.
Contracts: the tuple that an operation makes of tuples, the reference's.
Rows whose elements point into older memory of the call's own: they read as new data. No program is named here.
Rows of truth values; rows of slices that lie in older memory; indices of lists are one to one.
Plain: a relation that has all tuples; what an operation makes of tuples of a relation; whether it keeps the relation.
Contracts: the set of a relation's tuples, the reference's.
Contracts: the set of a relation's tuples, filled.
Constraints that hold for values: the program's and the reference's.
Marks: what a write into all numbers of a datum's memory changes, and what the datum then reads as. No program is named here.
Contracts: counting lists, formulas of one atom; results that lie in new memory.
Contracts: atoms whose variables are renamed.
Contracts: hiding a variable of a formula: the reference's.
Contracts: hiding a variable of a formula: the program's.
Contracts: hiding a variable of a formula: the program's.
Contracts: a copy of a list by append, the limits of formulas; the law of an append of many numbers.
Contracts: whether an operation breaks a relation, the reference's.
A region that draws its order, with loads ahead of writes: one condition on the world lets the loads be taken first; it need hold no more once one of the last writes ('tail') has come up. Every load waits for none of these, and these wait for every load. No program is named here.
-/
import Derived.Test.YtnhdohednekhjaaGreatDoorQAA
import Derived.Laws.OwnMore
import Derived.Deep.RegionHeldLaw
import Derived.Deep.RegionLaw
import Derived.Deep.RegionHeld
import Derived.Below
namespace Go.Proofs.YtnhdohednekhjaaGreatDoor
open Go.RowKit Go.Sort
theorem wrap64_id {n : Int} (h0 : -1000000000000000000 ≤ n) (h1 : n ≤ 1000000000000000000) : wrap64 n = n := by unfold wrap64; omega
theorem pow_nn {s : Int} (h : 0 ≤ s) : ∀ k : Nat, 0 ≤ s ^ k
 | 0 => by rw [Int.pow_zero]; decide
 | k + 1 => by rw [Int.pow_succ]; exact Int.mul_nonneg (pow_nn h k) h
theorem pow_mono {s : Int} (h : 0 ≤ s) (h1 : s ≤ 1000) : ∀ k : Nat, s ^ k ≤ 1000 ^ k
 | 0 => by rw [Int.pow_zero, Int.pow_zero]; exact Int.le_refl _
 | k + 1 => by
  rw [Int.pow_succ, Int.pow_succ]
  exact Int.mul_le_mul (pow_mono h h1 k) h1 h (pow_nn (by decide) k)
theorem pow_le {s : Int} (h : 0 ≤ s) (h1 : s ≤ 1000) {k : Nat} (hk : k ≤ 5) : s ^ k ≤ 1000000000000000 := by
 refine Int.le_trans (pow_mono h h1 k) ?_
 rcases (show k = 0 ∨ k = 1 ∨ k = 2 ∨ k = 3 ∨ k = 4 ∨ k = 5 by omega) with rfl | rfl | rfl | rfl | rfl | rfl <;> decide
theorem pow_mono' {s c : Int} (h : 0 ≤ s) (h1 : s ≤ c) : ∀ k : Nat, s ^ k ≤ c ^ k
 | 0 => by rw [Int.pow_zero, Int.pow_zero]; exact Int.le_refl _
 | k + 1 => by
  rw [Int.pow_succ, Int.pow_succ]
  exact Int.mul_le_mul (pow_mono' h h1 k) h1 h (pow_nn (by omega) k)
set_option maxHeartbeats 800000 in
theorem power_any (w : World) (s m : Int) (hs : 0 ≤ s) (hs1 : s ≤ 1000) (hm : m ≤ 5) :
  Calls Tryz.prog 117 #[.int .i64 s, .int .i64 m] w fun e w' => e = .returned (.int .i64 (s ^ m.toNat)) ∧ w = w' := by
 go_enter Tryz.func117, Tryz.ntmps117
 go_wp2_with fail
 go_loop [7, 5] (fun i o => ∃ k : Nat, k ≤ m.toNat ∧ i = .int .i64 k ∧ o = .int .i64 (s ^ k)) (fun i _ => m.toNat - (intOf i).toNat)
 case atStart => exact ⟨0, Nat.zero_le _, rfl, by simp⟩
 case round =>
  obtain ⟨k, hk, rfl, rfl⟩ := hrel
  by_cases hkl : (k : Int) < m
  ·have h1 := pow_nn hs (k + 1)
   have h2 := pow_le hs hs1 (k := k + 1) (by omega)
   have HM : Hid (wrap64 (s ^ k * s) = s ^ (k + 1)) := by
    unfold Hid
    rw [← Int.pow_succ]; exact wrap64_id (Int.le_trans (by decide) h1) (Int.le_trans h2 (by decide))
   clear h1 h2
   go_wp2_with fail
   go_round
   case rel => exact ⟨k + 1, by omega, by go_num, by first | exact congrArg _ HM.out | (rw [← HM.out]; go_num)⟩
   case measure => simp [intOf]; omega
  ·obtain rfl : k = m.toNat := by omega
   go_wp2_with fail
   go_ret
   exact ⟨rfl, rfl⟩
set_option maxHeartbeats 800000 in
theorem l01Power_any (w : World) (s m : Int) (hs : 0 ≤ s) (hs1 : s ≤ 1000) (hm : m ≤ 5) :
  Calls Tryz.prog 145 #[.int .i64 s, .int .i64 m] w fun e w' => e = .returned (.int .i64 (s ^ m.toNat)) ∧ w = w' := by
 by_cases hm0 : m ≤ 0
 ·obtain h0 : m.toNat = 0 := by omega
  have HZ : Hid (s ^ m.toNat = 1) := by unfold Hid; rw [h0, Int.pow_zero]
  clear h0
  go_enter Tryz.func145, Tryz.ntmps145
  go_wp2_with fail
  go_loop [1, 5] (fun i o => i = .int .i64 m ∧ o = .int .i64 1) (fun i _ => (intOf i).toNat)
  case atStart => exact ⟨rfl, rfl⟩
  case round =>
   obtain ⟨rfl, rfl⟩ := hrel
   go_wp2_with fail
   go_ret
   exact ⟨ret_int HZ.out.symm, rfl⟩
 go_enter Tryz.func145, Tryz.ntmps145
 go_wp2_with fail
 go_loop [1, 5] (fun i o => ∃ k : Nat, k ≤ m.toNat ∧ i = .int .i64 (m - k) ∧ o = .int .i64 (s ^ k)) (fun i _ => (intOf i).toNat)
 case atStart => exact ⟨0, Nat.zero_le _, by simp, by simp⟩
 case round =>
  obtain ⟨k, hk, rfl, rfl⟩ := hrel
  by_cases hkl : (k : Int) < m
  ·have h1 := pow_nn hs (k + 1)
   have h2 := pow_le hs hs1 (k := k + 1) (by omega)
   have HM : Hid (wrap64 (s ^ k * s) = s ^ (k + 1)) := by
    unfold Hid
    rw [← Int.pow_succ]; exact wrap64_id (Int.le_trans (by decide) h1) (Int.le_trans h2 (by decide))
   clear h1 h2
   go_wp2_with fail
   go_round
   case rel => exact ⟨k + 1, by omega, by go_num, by first | exact congrArg _ HM.out | (rw [← HM.out]; go_num)⟩
   case measure => simp [intOf]; omega
  ·have hkm : (k : Int) = m := by omega
   have HK : Hid (s ^ k = s ^ m.toNat) := by unfold Hid; rw [show k = m.toNat by omega]
   go_wp2_with fail
   go_ret
   exact ⟨ret_int HK.out, rfl⟩
/-- a list's index in the order of lists -/
def idxL (s : Int) : Int → List Int → Int
 | acc, [] => acc
 | acc, a :: r => idxL s (acc * s + a) r
theorem idxL_append (s acc : Int) : ∀ (xs ys : List Int), idxL s acc (xs ++ ys) = idxL s (idxL s acc xs) ys := by
 intro xs
 induction xs generalizing acc with
 | nil => intro ys; rfl
 | cons a r ih => intro ys; exact ih _ ys
theorem idxL_take {s : Int} {xs : List Int} {k : Nat} (h : k < xs.length) : idxL s 0 (xs.take (k + 1)) = idxL s 0 (xs.take k) * s + xs[k] := by
 rw [List.take_succ_eq_append_getElem h, idxL_append]
 rfl
theorem idx_bd {s : Int} (hs : 1 ≤ s) {xs : List Int} (h : ∀ a ∈ xs, 0 ≤ a ∧ a ≤ s - 1) : ∀ k, k ≤ xs.length → 0 ≤ idxL s 0 (xs.take k) ∧ idxL s 0 (xs.take k) ≤ s ^ k - 1
 | 0, _ => by simp [idxL]
 | k + 1, hk => by
  have ih := idx_bd hs h k (by omega)
  have ha := h xs[k] (List.getElem_mem hk)
  have h1 := Int.mul_le_mul_of_nonneg_right ih.2 (show (0 : Int) ≤ s by omega)
  have h2 : (s ^ k - 1) * s = s ^ (k + 1) - s := by rw [Int.sub_mul, Int.pow_succ, Int.one_mul]
  have h3 := Int.mul_nonneg ih.1 (show (0 : Int) ≤ s by omega)
  rw [idxL_take hk]
  rw [h2] at h1
  generalize s ^ (k + 1) = P at *
  generalize idxL s 0 (xs.take k) * s = Q at *
  constructor <;> omega
set_option maxHeartbeats 800000 in
theorem indexOf_any (w : World) (s : Int) {v : Value} {xs : List Int} (h : intsT.Rd w [v] xs) (hs : 1 ≤ s) (hs1 : s ≤ 1000) (hl5 : xs.length ≤ 5) (hin : ∀ a ∈ xs, 0 ≤ a ∧ a ≤ s - 1) :
  Calls Tryz.prog 132 #[.int .i64 s, v] w fun e w' => e = .returned (.int .i64 (idxL s 0 xs)) ∧ w = w' := by
 obtain ⟨ad, cap, hv, hl, hc, hcell⟩ := ints_ex h
 obtain rfl : v = _ := by simpa using hv
 have HIN := Lib.hid hin
 clear h hv hin
 go_enter Tryz.func132, Tryz.ntmps132
 go_wp2_with fail
 go_loop [10, 5] (fun i o => ∃ k : Nat, k ≤ xs.length ∧ i = .int .i64 k ∧ o = .int .i64 (idxL s 0 (xs.take k))) (fun i _ => xs.length - (intOf i).toNat)
 case atStart => exact ⟨0, Nat.zero_le _, rfl, by simp [idxL]⟩
 case round =>
  obtain ⟨k, hk, rfl, rfl⟩ := hrel
  by_cases hkl : k < xs.length
  ·obtain ⟨b, o, rfl, hb, hce⟩ := hcell (by omega)
   have e0 := (hce k hkl).2
   have b0 := idx_bd hs HIN.out k hk
   have b1 := idx_bd hs HIN.out (k + 1) hkl
   have p0 := pow_le (s := s) (by omega) hs1 (k := k + 1) (by omega)
   have ha := HIN.out xs[k] (List.getElem_mem hkl)
   have hr := idxL_take (s := s) hkl
   have HM : Hid (wrap64 (wrap64 (idxL s 0 (xs.take k) * s) + xs[k]) = idxL s 0 (xs.take (k + 1))) := by
    unfold Hid
    have hq := Int.mul_nonneg b0.1 (show (0 : Int) ≤ s by omega)
    rw [hr] at b1 ⊢
    generalize s ^ (k + 1) = P at *
    generalize idxL s 0 (xs.take k) * s = Q at *
    rw [wrap64_id (n := Q) (by omega) (by omega), wrap64_id (by omega) (by omega)]
   clear hcell hce b0 b1 p0 ha hr
   go_wp2_with fail
   go_round
   case rel => exact ⟨k + 1, by omega, by go_num, by first | exact congrArg _ HM.out | (rw [← HM.out]; go_num)⟩
   case measure => simp [intOf]; omega
  ·obtain rfl : k = xs.length := by omega
   clear hcell
   rw [List.take_length]
   go_wp2_with fail
   go_ret
   exact ⟨rfl, rfl⟩
set_option maxHeartbeats 800000 in
theorem l01Code_any (w : World) (s : Int) {v : Value} {xs : List Int} (h : intsT.Rd w [v] xs) (hs : 1 ≤ s) (hs1 : s ≤ 1000) (hl5 : xs.length ≤ 5) (hin : ∀ a ∈ xs, 0 ≤ a ∧ a ≤ s - 1) :
  Calls Tryz.prog 195 #[.int .i64 s, v] w fun e w' => e = .returned (.int .i64 (idxL s 0 xs)) ∧ w = w' := by
 obtain ⟨ad, cap, hv, hl, hc, hcell⟩ := ints_ex h
 obtain rfl : v = _ := by simpa using hv
 have HIN := Lib.hid hin
 clear h hv hin
 go_enter Tryz.func195, Tryz.ntmps195
 go_wp2_with fail
 go_loop [6, 5] (fun i o => ∃ k : Nat, k ≤ xs.length ∧ i = .int .i64 k ∧ o = .int .i64 (idxL s 0 (xs.take k))) (fun i _ => xs.length - (intOf i).toNat)
 case atStart => exact ⟨0, Nat.zero_le _, rfl, by simp [idxL]⟩
 case round =>
  obtain ⟨k, hk, rfl, rfl⟩ := hrel
  by_cases hkl : k < xs.length
  ·obtain ⟨b, o, rfl, hb, hce⟩ := hcell (by omega)
   have e0 := (hce k hkl).2
   have b0 := idx_bd hs HIN.out k hk
   have b1 := idx_bd hs HIN.out (k + 1) hkl
   have p0 := pow_le (s := s) (by omega) hs1 (k := k + 1) (by omega)
   have ha := HIN.out xs[k] (List.getElem_mem hkl)
   have hr := idxL_take (s := s) hkl
   have HM : Hid (wrap64 (wrap64 (idxL s 0 (xs.take k) * s) + xs[k]) = idxL s 0 (xs.take (k + 1))) := by
    unfold Hid
    have hq := Int.mul_nonneg b0.1 (show (0 : Int) ≤ s by omega)
    rw [hr] at b1 ⊢
    generalize s ^ (k + 1) = P at *
    generalize idxL s 0 (xs.take k) * s = Q at *
    rw [wrap64_id (n := Q) (by omega) (by omega), wrap64_id (by omega) (by omega)]
   clear hcell hce b0 b1 p0 ha hr
   go_wp2_with fail
   go_round
   case rel => exact ⟨k + 1, by omega, by go_num, by first | exact congrArg _ HM.out | (rw [← HM.out]; go_num)⟩
   case measure => simp [intOf]; omega
  ·obtain rfl : k = xs.length := by omega
   clear hcell
   rw [List.take_length]
   go_wp2_with fail
   go_ret
   exact ⟨rfl, rfl⟩
end Go.Proofs.YtnhdohednekhjaaGreatDoor
namespace Go.Proofs.YtnhdohednekhjaaGreatDoor
open Go.RowKit Go.Sort
/-- a row of numbers of the call's own, made and then written at places -/
def IR (e base : Nat) (w : World) (g n cap : Nat) (L : List Int) : Prop := L.length = n ∧ (∀ a ∈ L, I64 a) ∧ base ≤ g ∧ w.ownsRow base e 1 (.slice (some ⟨g, 0, none⟩) n cap) n (L.map (Value.int .i64))
section
variable {e base g n cap : Nat} {w w' : World} {L : List Int}
theorem IR.cell (h : IR e base w g n cap L) {j : Nat} (hj : j < n) : ∃ u, w.cell? ⟨g, j, none⟩ = some u := by
 rw [World.ownsRow.cellAt h.2.2.2 j (by omega)]
 exact ⟨_, List.getElem?_eq_getElem (by rw [List.length_map, h.1]; exact hj)⟩
theorem IR.free (h : IR e base w g n cap L) (j : Nat) : w.frozen? ⟨g, j, none⟩ = false := World.ownsRow.frozenAt h.2.2.2 j
theorem IR.lt (h : IR e base w g n cap L) : g < w.heap.size := (h.2.2.2.lt g rfl).2
theorem IR.set (h : IR e base w g n cap L) (j : Nat) {a : Int} (ha : I64 a) : IR e base (w.setCell ⟨g, j, none⟩ (.int .i64 a)) g n cap (L.set j a) := by
 refine ⟨by rw [List.length_set]; exact h.1, fun b hb => ?_, h.2.2.1, ?_⟩
 ·rcases List.mem_or_eq_of_mem_set hb with hb | rfl
  ·exact h.2.1 b hb
  ·exact ha
 ·rw [List.map_set]
  exact (h.2.2.2.stored j _).1
theorem IR.fr (h : IR e base w g n cap L) (hl : n ≤ capMax) : intsT.Fr base w [.slice (some ⟨g, 0, none⟩) n cap] L := by
 obtain ⟨h1, h2, h3, h4⟩ := h
 subst h1
 have hlt := (h4.lt g rfl).2
 have hfl : flat (fun _ => []) L.length = [] := List.eq_nil_iff_forall_not_mem.2 fun x hx => by obtain ⟨_, _, h⟩ := List.mem_flatMap.1 hx; cases h
 refine Bl.fr (E := Ty.int) (e := e) (top := w.heap.size) ⟨L.map (Value.int .i64), fun _ => [], h4, fun i hi => ⟨[.int .i64 L[i]], ⟨rfl, h2 _ (List.getElem_mem hi), rfl⟩, fun j hj => ?_⟩, by rw [hfl]; exact List.nodup_nil, by rw [hfl]; simp, fun g' hg' => ?_, by rw [hfl]; intro b hb; cases hb⟩ hl
 ·obtain rfl : j = 0 := by simpa using hj
  simp [Ty.int, hi]
 ·simp [Value.ownBlock] at hg'
  omega
end
theorem wpList_mkI {P : Program} (w : World) {ops : Array Oper} {rest : List Oper} {o : Oper} {a : Act} {Q : Exit → Act → World → Prop} (hg : o.guard = none) (l c : Operand) (t e : TypeId) {bytes : Nat}
  (hop : o.op = Op.makeSlice t l c) (ht : P.underlying t = some (.slice e)) (hinfo : (P.info? e).map (fun i => (i.zero, i.size, i.bytes)) = some (some (.int .i64 0), 1, bytes)) (base : Nat) (n : Nat) (hl : a.eval l = .int .i64 (n : Int)) (hc : a.eval c = .int .i64 (n : Int)) (hn : n ≤ 1000000000) (hby : bytes ≤ 100000) (hb : base ≤ w.heap.size)
  (hK : ∀ w', IR e base w' w.heap.size n n (List.replicate n 0) → w.grownBy w' none → w'.heap.size = w.heap.size + 1 → wpList P ops Q rest (a.put o.dst (.slice (some ⟨w.heap.size, 0, none⟩) n n)) w') :
  wpList P ops Q (o :: rest) a w := by
 obtain ⟨i, hi, hz, hsz, hbt'⟩ := info_parts hinfo
 have hlen' : bytes * n ≤ 281474976710656 := Nat.le_trans (Nat.mul_le_mul hby hn) (by decide)
 refine wpList_plain hg fun K hK' => ?_
 have hb48 : (i.bytes : Int) * (n : Int) ≤ 281474976710656 := by
  have h : ((bytes * n : Nat) : Int) ≤ 281474976710656 := by omega
  rw [hbt']
  rwa [Int.natCast_mul] at h
 have hr := run_make (P := P) w t e i (.int .i64 0) ht hi hz .i64 .i64 (n : Int) (n : Int) (by omega) (Int.le_refl _) hb48 (by omega)
 simp only [Int.toNat_natCast] at hr
 unfold Oper.wp
 simp only [execOp, hop, hl, hc, hr, Result.andThen_ok, Sem.run_bind, Sem.run_pure]
 have hown := World.ownsRow_lit (base := base) (e := e) (size := 1) w (madeCells (Value.int .i64 0).cells (n * i.size)) n hb (by unfold maxLen; omega) (by rw [size_madeCells, hsz])
 refine hK' _ _ (hK _ ⟨by simp, fun a ha => ?_, hb, ?_⟩ (World.grownBy_alloc w _ none) (by simp))
 ·rw [List.eq_of_mem_replicate ha]; exact I64.small (by omega) (by omega)
 ·have e1 : (madeCells (Value.int .i64 0).cells (n * i.size)).toList = (List.replicate n (0 : Int)).map (Value.int .i64) := by
   rw [hsz, Nat.mul_one, List.map_replicate]
   have hc0 : (Value.int .i64 0).cells = #[.int .i64 0] := by simp [Value.cells]
   rw [hc0]
   exact toList_madeCells_one (.int .i64 0) n
  rw [← e1]
  exact hown
def dig (s idx : Int) (j : Nat) : Int := (idx / s ^ j) % s
def digL (s idx : Int) (n : Nat) : List Int := (List.range n).map fun i => dig s idx (n - 1 - i)
theorem digL_len {s idx : Int} {n : Nat} : (digL s idx n).length = n := by simp [digL]
theorem dig_nn {s idx : Int} (hs : 1 ≤ s) (j : Nat) : 0 ≤ dig s idx j ∧ dig s idx j < s := ⟨Int.emod_nonneg _ (by omega), Int.emod_lt_of_pos _ (by omega)⟩
theorem quo_nn {s idx : Int} (hs : 1 ≤ s) (h : 0 ≤ idx) (j : Nat) : 0 ≤ idx / s ^ j ∧ idx / s ^ j ≤ idx := by
 have h1 : 0 ≤ s ^ j := pow_nn (by omega) j
 exact ⟨Int.ediv_nonneg h h1, Int.ediv_le_self _ h⟩
theorem quo_succ {s idx : Int} (hs : 1 ≤ s) (j : Nat) : idx / s ^ j / s = idx / s ^ (j + 1) := by
 rw [Int.pow_succ, Int.ediv_ediv_of_nonneg (pow_nn (by omega) j)]
theorem infoInt : (Tryz.prog.info? 2).map (fun i => (i.zero, i.size, i.bytes)) = some (some (.int .i64 0), 1, 8) := by kernel_rfl
set_option maxHeartbeats 800000 in
set_option maxRecDepth 100000 in
theorem listOf_any (w : World) (s idx : Int) (n : Nat) (hs : 1 ≤ s) (hs1 : s ≤ 1000) (hn : n ≤ 5) (h0 : 0 ≤ idx) (h1 : idx ≤ 1000000000000000) :
  Calls Tryz.prog 177 #[.int .i64 s, .int .i64 n, .int .i64 idx] w (RetS intsT w (digL s idx n)) := by
 go_enter Tryz.func177, Tryz.ntmps177
 go_wp2_with (refine wpList_mkI _ rfl _ _ 48 2 rfl Tryz.underlying48 infoInt w.heap.size n rfl rfl (by omega) (by decide) (by simp) ?_; intro w1 hA hg1 hs1)
 have hb1 := below_of_grown hg1
 go_loopw [8, 2] (fun i q wr => ∃ (k : Nat) (L : List Int), k ≤ n ∧ i = .int .i64 ((n : Int) - 1 - k) ∧ q = .int .i64 (idx / s ^ k) ∧ IR 2 w.heap.size wr w.heap.size n n L ∧ (∀ (j : Nat) (h : j < L.length), n - k ≤ j → L[j] = dig s idx (n - 1 - j)) ∧ Below w.heap.size w wr) (fun i _ _ => ((intOf i) + 1).toNat)
 case atStart => exact ⟨0, _, Nat.zero_le _, by simp, by simp, hA, fun j h hj => by simp at h; omega, hb1⟩
 case round =>
  obtain ⟨k, L, hk, rfl, rfl, hIR, hL, hbel⟩ := hrel
  have hLl := hIR.1
  by_cases hkl : k < n
  ·obtain ⟨j, hj⟩ : ∃ j : Nat, (n : Int) - 1 - k = j := ⟨n - 1 - k, by omega⟩
   have hjn : j < n := by omega
   have hjk : n - 1 - j = k := by omega
   obtain ⟨u0, d0⟩ := hIR.cell hjn
   have d1 := hIR.free j
   have hg := hIR.lt
   have hd := dig_nn (idx := idx) hs k
   have hq := quo_nn hs h0 k
   have hIs := hIR.set j (I64.small (n := dig s idx k) (by omega) (by omega))
   have HQ := Lib.hid (quo_succ (idx := idx) hs k)
   have HDG : Hid ((idx / s ^ k) % s = dig s idx k) := rfl
   have HIS := Lib.hid hIs
   have HLL := Lib.hid hL
   have HIR := Lib.hid hIR
   clear hIs hL hIR hA
   rw [hj]
   go_wp2_with fail
   refine ⟨⟨k + 1, L.set j (dig s idx k), by omega, congrArg _ (by omega), by rw [HQ.out], HIS.out, fun j' h hj' => ?_, hbel.setCell (Nat.le_refl _) _⟩, by simp [intOf]⟩
   by_cases e : j = j'
   ·subst e
    rw [List.getElem_set_self, hjk]
   ·rw [List.getElem_set_ne e]
    exact HLL.out j' (by simpa using h) (by omega)
  ·obtain rfl : k = n := by omega
   have hfr := Lib.hid (hIR.fr (by unfold capMax; omega))
   have HE : Hid (L = digL s idx k) := List.ext_getElem (by rw [hLl, digL_len]) fun j h h' => by rw [hL j h (by omega)]; simp [digL]
   clear hIR hL hA
   go_wp2_with fail
   go_ret
   exact ⟨_, rfl, by rw [← HE.out]; exact hfr.out, hbel⟩
set_option maxHeartbeats 800000 in
set_option maxRecDepth 100000 in
theorem l01Digits_any (w : World) (s idx : Int) (n : Nat) (hs : 1 ≤ s) (hs1 : s ≤ 1000) (hn : n ≤ 5) (h0 : 0 ≤ idx) (h1 : idx ≤ 1000000000000000) :
  Calls Tryz.prog 146 #[.int .i64 s, .int .i64 n, .int .i64 idx] w (RetS intsT w (digL s idx n)) := by
 go_enter Tryz.func146, Tryz.ntmps146
 go_wp2_with (refine wpList_mkI _ rfl _ _ 48 2 rfl Tryz.underlying48 infoInt w.heap.size n rfl rfl (by omega) (by decide) (by simp) ?_; intro w1 hA hg1 hs1)
 have hb1 := below_of_grown hg1
 go_loopw [8, 2] (fun i q wr => ∃ (k : Nat) (L : List Int), k ≤ n ∧ i = .int .i64 ((n : Int) - 1 - k) ∧ q = .int .i64 (idx / s ^ k) ∧ IR 2 w.heap.size wr w.heap.size n n L ∧ (∀ (j : Nat) (h : j < L.length), n - k ≤ j → L[j] = dig s idx (n - 1 - j)) ∧ Below w.heap.size w wr) (fun i _ _ => ((intOf i) + 1).toNat)
 case atStart => exact ⟨0, _, Nat.zero_le _, by simp, by simp, hA, fun j h hj => by simp at h; omega, hb1⟩
 case round =>
  obtain ⟨k, L, hk, rfl, rfl, hIR, hL, hbel⟩ := hrel
  have hLl := hIR.1
  by_cases hkl : k < n
  ·obtain ⟨j, hj⟩ : ∃ j : Nat, (n : Int) - 1 - k = j := ⟨n - 1 - k, by omega⟩
   have hjn : j < n := by omega
   have hjk : n - 1 - j = k := by omega
   obtain ⟨u0, d0⟩ := hIR.cell hjn
   have d1 := hIR.free j
   have hg := hIR.lt
   have hd := dig_nn (idx := idx) hs k
   have hq := quo_nn hs h0 k
   have hIs := hIR.set j (I64.small (n := dig s idx k) (by omega) (by omega))
   have HQ := Lib.hid (quo_succ (idx := idx) hs k)
   have HDG : Hid ((idx / s ^ k) % s = dig s idx k) := rfl
   have HIS := Lib.hid hIs
   have HLL := Lib.hid hL
   have HIR := Lib.hid hIR
   clear hIs hL hIR hA
   rw [hj]
   go_wp2_with fail
   refine ⟨⟨k + 1, L.set j (dig s idx k), by omega, congrArg _ (by omega), by rw [HQ.out], HIS.out, fun j' h hj' => ?_, hbel.setCell (Nat.le_refl _) _⟩, by simp [intOf]⟩
   by_cases e : j = j'
   ·subst e
    rw [List.getElem_set_self, hjk]
   ·rw [List.getElem_set_ne e]
    exact HLL.out j' (by simpa using h) (by omega)
  ·obtain rfl : k = n := by omega
   have hfr := Lib.hid (hIR.fr (by unfold capMax; omega))
   have HE : Hid (L = digL s idx k) := List.ext_getElem (by rw [hLl, digL_len]) fun j h h' => by rw [hL j h (by omega)]; simp [digL]
   clear hIR hL hA
   go_wp2_with fail
   go_ret
   exact ⟨_, rfl, by rw [← HE.out]; exact hfr.out, hbel⟩
end Go.Proofs.YtnhdohednekhjaaGreatDoor
namespace Go.Proofs.YtnhdohednekhjaaGreatDoor
open Go.RowKit Go.Sort
end Go.Proofs.YtnhdohednekhjaaGreatDoor
namespace Go.Proofs.YtnhdohednekhjaaGreatDoor
open Go.RowKit Go.Sort
theorem geq_cmp (xs ys : List Int) : decide (0 ≤ cmpL xs ys) = !tb (ltL xs ys) := by
 rw [tb_not, Bool.eq_iff_iff, tb_iff, ltL, decide_eq_true_iff]; omega
set_option maxHeartbeats 1600000 in
theorem ValidRel_any (w : World) {cs : Array Value} {r : Int × List (List Int)} (h : relT.Rd w cs.toList r) (size : Int) :
  Calls Tryz.prog 131 #[.int .i64 size, .agg cs] w fun e w' => e = .returned (.bool (tb (relOk size r))) ∧ Below w.heap.size w w' := by
 obtain ⟨v, hv, hI, hx⟩ := pair_ex h
 obtain rfl := agg_of hv
 obtain ⟨ad, cap, rfl⟩ := rd_slice hx
 clear h hv
 cases hs : inB size 1 4
 ·go_enter Tryz.func131, Tryz.ntmps131
  go_wp2_with (go_at_call 113; refine (isSize_any _ _).mono ?_; rintro e w' ⟨rfl, rfl⟩)
  go_ret
  exact ⟨ret_bool (tb_false (fun hr => by have := inB_true.2 hr.1; rw [hs] at this; cases this)).symm, (by repeat (first | exact Below.refl _ _ | exact bA | assumption | refine Below.setCell ?_ (by first | omega | (simp; try omega)) _ | refine Below.alloc ?_ (by first | omega | (simp; try omega)) _ | refine Below.drew ?_ | refine bDN ?_ | refine bthen ?_ (by assumption)))⟩
 cases ha : inB r.1 1 4
 ·go_enter Tryz.func131, Tryz.ntmps131
  go_wp2_with (first | (go_at_call 113; refine (isSize_any _ _).mono ?_; rintro e w' ⟨rfl, rfl⟩) | (go_at_call 90; refine (isArity_any _ _).mono ?_; rintro e w' ⟨rfl, rfl⟩))
  go_ret
  exact ⟨ret_bool (tb_false (fun hr => by have := inB_true.2 hr.2.1; rw [ha] at this; cases this)).symm, (by repeat (first | exact Below.refl _ _ | exact bA | assumption | refine Below.setCell ?_ (by first | omega | (simp; try omega)) _ | refine Below.alloc ?_ (by first | omega | (simp; try omega)) _ | refine Below.drew ?_ | refine bDN ?_ | refine bthen ?_ (by assumption)))⟩
 have hs' := inB_true.1 hs
 have ha' := inB_true.1 ha
 obtain ⟨_, _, e1, hle, hle2, hcell⟩ := slices_ex hx
 simp only [List.cons.injEq, Value.slice.injEq, and_true, true_and] at e1
 obtain ⟨rfl, rfl⟩ := e1
 go_enter Tryz.func131, Tryz.ntmps131
 go_wp2_with (first | (go_at_call 113; refine (isSize_any _ _).mono ?_; rintro e w' ⟨rfl, rfl⟩) | (go_at_call 90; refine (isArity_any _ _).mono ?_; rintro e w' ⟨rfl, rfl⟩))
 go_loopw [19] (fun i wr => ∃ k : Nat, k ≤ r.2.length ∧ i = .int .i64 k ∧ relUp size r k ∧ Below w.heap.size w wr ∧ w.heap.size < wr.heap.size ∧ wr.cell? ⟨w.heap.size, 0, none⟩ = some (.int .i64 r.1) ∧ wr.cell? ⟨w.heap.size, 1, none⟩ = some (.slice ad r.2.length cap)) (fun i _ => r.2.length - (intOf i).toNat)
 case atStart => exact ⟨0, Nat.zero_le _, rfl, relUp_zero _ _, (by repeat (first | exact Below.refl _ _ | exact bA | assumption | refine Below.setCell ?_ (by first | omega | (simp; try omega)) _ | refine Below.alloc ?_ (by first | omega | (simp; try omega)) _ | refine Below.drew ?_ | refine bDN ?_ | refine bthen ?_ (by assumption))), by simp, by simp, by simp⟩
 case round =>
  obtain ⟨k, hk, rfl, ht, hbel, hz, b0, b1⟩ := hrel
  have HT := Lib.hid ht
  clear ht
  by_cases hkl : k < r.2.length
  ·obtain ⟨a, q, rfl, haa, hce⟩ := hcell (by omega)
   obtain ⟨u, hu, f0⟩ := hce k hkl
   have g0 := (hbel.cell haa).trans f0
   cases hr : tb (rowOk size r.1 r.2[k])
   ·clear hcell hce
    go_wp2_with fail
    refine (areValues_any _ (hu.below hbel) _ _ (by omega) (by omega)).mono ?_
    rintro e w1 ⟨rfl, hb1⟩
    rw [hr]
    go_wp2_with fail
    go_ret
    exact ⟨ret_bool (tb_false (fun hh => by have := tb_true (hh.2.2 k hkl).1; rw [hr] at this; cases this)).symm, bthen hbel hb1⟩
   have HROW := Lib.hid (tb_iff.1 hr)
   by_cases h0 : k = 0
   ·have H0 := Lib.hid h0
    have hg : decide (0 < k) = false := by rw [h0]; rfl
    clear hcell hce h0
    go_wp2_with fail
    refine (areValues_any _ (hu.below hbel) _ _ (by omega) (by omega)).mono ?_
    rintro e w1 ⟨rfl, hb1⟩
    rw [hr]
    have c0 := (hb1.cell hz).trans b0
    have c1 := (hb1.cell hz).trans b1
    have hz1 : w.heap.size < w1.heap.size := Nat.lt_of_lt_of_le hz hb1.size
    go_wp2_with fail
    go_roundw
    case rel => exact ⟨k + 1, by omega, by go_num, relUp_succ hkl HT.out HROW.out (fun h => by have := H0.out; omega), bthen hbel hb1, hz1, c0, c1⟩
    case measure => simp [intOf]; omega
   ·have h1 : k - 1 < r.2.length := by omega
    obtain ⟨u1, hu1, f1⟩ := hce (k - 1) h1
    have hg : decide (0 < k) = true := by simp; omega
    have hgeq := geq_cmp r.2[k - 1] r.2[k]
    clear hcell hce
    go_wp2_with fail
    refine (areValues_any _ (hu.below hbel) _ _ (by omega) (by omega)).mono ?_
    rintro e w1 ⟨rfl, hb1⟩
    rw [hr]
    have hbel1 := bthen hbel hb1
    have c0 := (hb1.cell hz).trans b0
    have c1 := (hb1.cell hz).trans b1
    have g1 := (hbel1.cell haa).trans f1
    have hz1 : w.heap.size < w1.heap.size := Nat.lt_of_lt_of_le hz hb1.size
    clear b0 b1 g0 hb1 hbel
    cases hlt : tb (ltL r.2[k - 1] r.2[k])
    ·rw [hlt] at hgeq
     go_wp2_with fail
     refine (Compare_any _ (hu1.below hbel1) (hu.below hbel1)).mono ?_
     rintro e w2 ⟨rfl, rfl⟩
     go_wp2_with fail
     go_ret
     exact ⟨ret_bool (tb_false (fun hh => by have := tb_true ((hh.2.2 k hkl).2 (by omega)); rw [hlt] at this; cases this)).symm, hbel1⟩
    ·rw [hlt] at hgeq
     go_wp2_with fail
     refine (Compare_any _ (hu1.below hbel1) (hu.below hbel1)).mono ?_
     rintro e w2 ⟨rfl, rfl⟩
     go_wp2_with fail
     go_roundw
     case rel => exact ⟨k + 1, by omega, by go_num, relUp_succ hkl HT.out HROW.out (fun _ => tb_iff.1 hlt), hbel1, hz1, c0, c1⟩
     case measure => simp [intOf]; omega
  ·obtain rfl : k = r.2.length := by omega
   go_wp2_with fail
   go_ret
   exact ⟨ret_bool (tb_true ⟨hs', ha', fun i h => HT.out i h h⟩).symm, hbel⟩
end Go.Proofs.YtnhdohednekhjaaGreatDoor
namespace Go.Proofs.YtnhdohednekhjaaGreatDoor
open Go.RowKit Go.Sort
end Go.Proofs.YtnhdohednekhjaaGreatDoor
namespace Go.Proofs.YtnhdohednekhjaaGreatDoor
open Go.RowKit Go.Sort
theorem pure_below {P : Program} {f : FuncId} {args : Array Value} {w : World} {v : Value} (h : Calls P f args w fun e w' => e = .returned v ∧ w = w') :
  Calls P f args w fun e w' => e = .returned v ∧ Below w.heap.size w w' := h.mono fun _ _ ⟨he, hw⟩ => ⟨he, hw ▸ Below.refl _ _⟩
end Go.Proofs.YtnhdohednekhjaaGreatDoor
namespace Go.Proofs.YtnhdohednekhjaaGreatDoor
open Go.RowKit Go.Sort
theorem pure_drawn {P : Program} {f : FuncId} {args : Array Value} {w : World} {n : Nat} {v : Value} (h : Calls P f args (w.drewN n) fun e w' => e = .returned v ∧ w.drewN n = w') :
  Calls P f args (w.drewN n) fun e w'' => e = .returned v ∧ ∃ m, w'' = w.drewN m := h.mono fun _ _ ⟨he, hw⟩ => ⟨he, n, hw.symm⟩
end Go.Proofs.YtnhdohednekhjaaGreatDoor
namespace Go.Proofs.YtnhdohednekhjaaGreatDoor
open Go.RowKit Go.Sort
def opOk (s : Int) (f : Int × List Int) : Prop := sizeOk s ∧ (1 ≤ f.1 ∧ f.1 ≤ 3) ∧ rowOk s (s ^ f.1.toNat) f.2
set_option maxHeartbeats 1600000 in
set_option maxRecDepth 100000 in
theorem ValidOp_any (w : World) {cs : Array Value} {f : Int × List Int} (h : opT.Rd w cs.toList f) (s : Int) :
  Calls Tryz.prog 38 #[.int .i64 s, .agg cs] w fun e w' => e = .returned (.bool (tb (opOk s f))) ∧ Below w.heap.size w w' := by
 obtain ⟨u, hv, hI, hx⟩ := pair_ex h
 obtain rfl := agg_of hv
 obtain ⟨ad, cap, rfl⟩ := rd_slice hx
 clear h hv
 cases h1 : inB s 1 4
 ·have HR : Hid (false = tb (opOk s f)) := (tb_false (fun hh => by have := inB_true.2 hh.1; rw [h1] at this; cases this)).symm
  go_enter Tryz.func38, Tryz.ntmps38
  go_wp2_with fail
  generalize hW : w.alloc _ = wr
  have hB : Below w.heap.size w wr := hW ▸ bA
  clear hW
  have cS : ∀ d os, Calls Tryz.prog 113 #[.int .i64 s] (grow (redrawn wr d) os) fun e w'' => e = .returned (.bool (inB s 1 4)) ∧ ∃ p : Regrown, w'' = grow (redrawn wr p.d) p.os := fun d os =>
   Calls.regrown_of (pure_below (isSize_any _ _))
  rw [h1] at cS
  refine wp_region_quiet_below (by kernel_rfl) (by kernel_rfl) ?_
  repeat (go_big_quiet_step (exact cS _ _))
  refine wpQuiet_nil ?_
  rintro w2 ⟨p, rfl⟩
  have hb2 := below_regrown wr p.d p.os
  go_wp2_with fail
  go_ret
  exact ⟨ret_bool HR.out, bthen hB hb2⟩
 have hs := inB_true.1 h1
 cases h2 : inB f.1 1 3
 ·have HR : Hid (false = tb (opOk s f)) := (tb_false (fun hh => by have := inB_true.2 hh.2.1; rw [h2] at this; cases this)).symm
  go_enter Tryz.func38, Tryz.ntmps38
  go_wp2_with fail
  generalize hW : w.alloc _ = wr
  have hB : Below w.heap.size w wr := hW ▸ bA
  have e0 : wr.cell? ⟨w.heap.size, 0, none⟩ = some (.int .i64 f.1) := by rw [← hW]; simp
  clear hW
  have k0 := cell_regrown e0
  have cS : ∀ d os, Calls Tryz.prog 113 #[.int .i64 s] (grow (redrawn wr d) os) fun e w'' => e = .returned (.bool (inB s 1 4)) ∧ ∃ p : Regrown, w'' = grow (redrawn wr p.d) p.os := fun d os =>
   Calls.regrown_of (pure_below (isSize_any _ _))
  have cA : ∀ d os, Calls Tryz.prog 114 #[.int .i64 f.1] (grow (redrawn wr d) os) fun e w'' => e = .returned (.bool (inB f.1 1 3)) ∧ ∃ p : Regrown, w'' = grow (redrawn wr p.d) p.os := fun d os =>
   Calls.regrown_of (pure_below (isOpArity_any _ _))
  rw [h1] at cS
  rw [h2] at cA
  refine wp_region_quiet_below (by kernel_rfl) (by kernel_rfl) ?_
  repeat (go_big_quiet_step (first | exact cS _ _ | exact cA _ _))
  refine wpQuiet_nil ?_
  rintro w2 ⟨p, rfl⟩
  have hb2 := below_regrown wr p.d p.os
  go_wp2_with fail
  go_ret
  exact ⟨ret_bool HR.out, bthen hB hb2⟩
 have ha := inB_true.1 h2
 have HR : Hid (tb (rowOk s (s ^ f.1.toNat) f.2) = tb (opOk s f)) := tb_congr ⟨fun hh => ⟨hs, ha, hh⟩, fun hh => hh.2.2⟩
 go_enter Tryz.func38, Tryz.ntmps38
 go_wp2_with fail
 generalize hW : w.alloc _ = wr
 have hB : Below w.heap.size w wr := hW ▸ bA
 have e0 : wr.cell? ⟨w.heap.size, 0, none⟩ = some (.int .i64 f.1) := by rw [← hW]; simp
 have e1 : wr.cell? ⟨w.heap.size, 1, none⟩ = some (.slice ad f.2.length cap) := by rw [← hW]; simp
 have hxr := hx.below hB
 clear hW
 have k0 := cell_regrown e0
 have k1 := cell_regrown e1
 have cS : ∀ d os, Calls Tryz.prog 113 #[.int .i64 s] (grow (redrawn wr d) os) fun e w'' => e = .returned (.bool (inB s 1 4)) ∧ ∃ p : Regrown, w'' = grow (redrawn wr p.d) p.os := fun d os =>
  Calls.regrown_of (pure_below (isSize_any _ _))
 have cA : ∀ d os, Calls Tryz.prog 114 #[.int .i64 f.1] (grow (redrawn wr d) os) fun e w'' => e = .returned (.bool (inB f.1 1 3)) ∧ ∃ p : Regrown, w'' = grow (redrawn wr p.d) p.os := fun d os =>
  Calls.regrown_of (pure_below (isOpArity_any _ _))
 have cP : ∀ d os, Calls Tryz.prog 117 #[.int .i64 s, .int .i64 f.1] (grow (redrawn wr d) os) fun e w'' => e = .returned (.int .i64 (s ^ f.1.toNat)) ∧ ∃ p : Regrown, w'' = grow (redrawn wr p.d) p.os := fun d os =>
  Calls.regrown_of (pure_below (power_any _ _ _ (by omega) (by omega) (by omega)))
 have cV : ∀ d os, Calls Tryz.prog 101 #[.int .i64 s, .slice ad f.2.length cap, .int .i64 (s ^ f.1.toNat)] (grow (redrawn wr d) os) fun e w'' => e = .returned (.bool (tb (rowOk s (s ^ f.1.toNat) f.2))) ∧ ∃ p : Regrown, w'' = grow (redrawn wr p.d) p.os := fun d os =>
  Calls.regrown_of (areValues_any _ (hxr.below (below_regrown wr d os)) _ _ (by omega) (by omega))
 rw [h1] at cS
 rw [h2] at cA
 refine wp_region_quiet_below (by kernel_rfl) (by kernel_rfl) ?_
 repeat (go_big_quiet_step (first | exact cS _ _ | exact cA _ _ | exact cP _ _ | exact cV _ _))
 refine wpQuiet_nil ?_
 rintro w2 ⟨p, rfl⟩
 have hb2 := below_regrown wr p.d p.os
 go_wp2_with fail
 go_ret
 exact ⟨ret_bool HR.out, bthen hB hb2⟩
set_option maxHeartbeats 1600000 in
set_option maxRecDepth 100000 in
theorem l02Ok_quiet (w : World) {v : Value} {f : Int × List Int} (h : opT.Pt w v f) (s : Int) :
  Calls Tryz.prog 120 #[.int .i64 s, v] w fun e w' => e = .returned (.bool (tb (opOk s f))) ∧ Quiet w w' := by
 obtain ⟨b, o, ad, cap, rfl, hb, hI, c0, c1, hx⟩ := pt_pair h
 clear h
 obtain ⟨_, _, e1, hle, hle2, hcell⟩ := ints_ex hx
 simp only [List.cons.injEq, Value.slice.injEq, and_true, true_and] at e1
 obtain ⟨rfl, rfl⟩ := e1
 cases h1 : inB s 1 4
 ·have HR : Hid (false = tb (opOk s f)) := (tb_false (fun hh => by have := inB_true.2 hh.1; rw [h1] at this; cases this)).symm
  have cS : ∀ n, Calls Tryz.prog 161 #[.int .i64 s] (w.drewN n) fun e w'' => e = .returned (.bool (inB s 1 4)) ∧ ∃ m, w'' = w.drewN m := fun n => pure_drawn (l01Size_any _ _)
  rw [h1] at cS
  go_enter Tryz.func120, Tryz.ntmps120
  go_wp2_with fail
  go_quiet (exact cS _)
  go_wp2_with fail
  go_ret
  exact ⟨ret_bool HR.out, (by first | exact Quiet.refl _ | exact Quiet.drewN _ _ | exact (Quiet.drewN _ _).then (Quiet.drewN _ _) | exact ((Quiet.drewN _ _).then (Quiet.drewN _ _)).then (Quiet.drewN _ _))⟩
 have hs := inB_true.1 h1
 cases h2 : inB f.1 1 3
 ·have HR : Hid (false = tb (opOk s f)) := (tb_false (fun hh => by have := inB_true.2 hh.2.1; rw [h2] at this; cases this)).symm
  have cS : ∀ n, Calls Tryz.prog 161 #[.int .i64 s] (w.drewN n) fun e w'' => e = .returned (.bool (inB s 1 4)) ∧ ∃ m, w'' = w.drewN m := fun n => pure_drawn (l01Size_any _ _)
  have cA : ∀ n, Calls Tryz.prog 194 #[.int .i64 f.1] (w.drewN n) fun e w'' => e = .returned (.bool (inB f.1 1 3)) ∧ ∃ m, w'' = w.drewN m := fun n => pure_drawn (l02Arity_any _ _)
  rw [h1] at cS
  rw [h2] at cA
  go_enter Tryz.func120, Tryz.ntmps120
  go_wp2_with fail
  go_quiet (first | exact cS _ | exact cA _)
  go_wp2_with fail
  go_ret
  exact ⟨ret_bool HR.out, (by first | exact Quiet.refl _ | exact Quiet.drewN _ _ | exact (Quiet.drewN _ _).then (Quiet.drewN _ _) | exact ((Quiet.drewN _ _).then (Quiet.drewN _ _)).then (Quiet.drewN _ _))⟩
 have ha := inB_true.1 h2
 have cS : ∀ n, Calls Tryz.prog 161 #[.int .i64 s] (w.drewN n) fun e w'' => e = .returned (.bool (inB s 1 4)) ∧ ∃ m, w'' = w.drewN m := fun n => pure_drawn (l01Size_any _ _)
 have cA : ∀ n, Calls Tryz.prog 194 #[.int .i64 f.1] (w.drewN n) fun e w'' => e = .returned (.bool (inB f.1 1 3)) ∧ ∃ m, w'' = w.drewN m := fun n => pure_drawn (l02Arity_any _ _)
 have cP : ∀ n, Calls Tryz.prog 145 #[.int .i64 s, .int .i64 f.1] (w.drewN n) fun e w'' => e = .returned (.int .i64 (s ^ f.1.toNat)) ∧ ∃ m, w'' = w.drewN m := fun n => pure_drawn (l01Power_any _ _ _ (by omega) (by omega) (by omega))
 rw [h1] at cS
 rw [h2] at cA
 cases hl : ((f.2.length : Int) != s ^ f.1.toNat)
 rotate_left
 ·have HR : Hid (false = tb (opOk s f)) := (tb_false (fun hh => by have := hh.2.2.1; simp [this] at hl)).symm
  go_enter Tryz.func120, Tryz.ntmps120
  go_wp2_with fail
  go_quiet (first | exact cS _ | exact cA _ | exact cP _)
  go_wp2_with fail
  go_ret
  exact ⟨ret_bool HR.out, (by first | exact Quiet.refl _ | exact Quiet.drewN _ _ | exact (Quiet.drewN _ _).then (Quiet.drewN _ _) | exact ((Quiet.drewN _ _).then (Quiet.drewN _ _)).then (Quiet.drewN _ _))⟩
 have HLE : Hid ((f.2.length : Int) = s ^ f.1.toNat) := by unfold Hid; simpa using hl
 go_enter Tryz.func120, Tryz.ntmps120
 go_wp2_with fail
 go_quiet (first | exact cS _ | exact cA _ | exact cP _)
 clear cS cA cP hl
 go_wp2_with fail
 go_loopw [5] (fun i wr => ∃ k : Nat, k ≤ f.2.length ∧ i = .int .i64 k ∧ noneB (fun a => !inB a 0 (s - 1)) (f.2.take k) ∧ Quiet w wr) (fun i _ => f.2.length - (intOf i).toNat)
 case atStart => exact ⟨0, Nat.zero_le _, rfl, noneB_zero _ _, (by first | exact Quiet.refl _ | exact Quiet.drewN _ _ | exact (Quiet.drewN _ _).then (Quiet.drewN _ _) | exact ((Quiet.drewN _ _).then (Quiet.drewN _ _)).then (Quiet.drewN _ _))⟩
 case round =>
  obtain ⟨k, hk, rfl, ht, hqw⟩ := hrel
  have HT := Lib.hid ht
  have d0 := (hqw.below.cell hb).trans c0
  have d1 := (hqw.below.cell hb).trans c1
  clear ht c0 c1
  by_cases hkl : k < f.2.length
  ·obtain ⟨a, q, rfl, haa, hce⟩ := hcell (by omega)
   have e0 := (hqw.below.cell haa).trans (hce k hkl).2
   clear hcell hce
   cases hr : inB (f.2[k]) 0 (s - 1)
   ·have HR : Hid (false = tb (opOk s f)) := (tb_false (fun hh => by have := inB_true.2 (hh.2.2.2 _ (List.getElem_mem hkl)); rw [hr] at this; cases this)).symm
    go_wp2_with fail
    refine (l00In_any _ _ _ _).mono ?_
    rintro e _ ⟨rfl, rfl⟩
    rw [hr]
    go_wp2_with fail
    go_ret
    exact ⟨ret_bool HR.out, hqw⟩
   ·go_wp2_with fail
    refine (l00In_any _ _ _ _).mono ?_
    rintro e _ ⟨rfl, rfl⟩
    rw [hr]
    go_wp2_with fail
    go_roundw
    case rel => exact ⟨k + 1, by omega, by go_num, noneB_succ hkl HT.out (by rw [hr]; rfl), hqw⟩
    case measure => simp [intOf]; omega
  ·obtain rfl : k = f.2.length := by omega
   have HR : Hid (true = tb (opOk s f)) := (tb_true ⟨hs, ha, HLE.out, fun a ha' => by
    have := HT.out a (by rw [List.take_length]; exact ha')
    have h3 : inB a 0 (s - 1) = true := by simpa using this
    exact inB_true.1 h3⟩).symm
   clear hcell
   go_wp2_with fail
   go_ret
   exact ⟨ret_bool HR.out, hqw⟩
end Go.Proofs.YtnhdohednekhjaaGreatDoor
namespace Go.Proofs.YtnhdohednekhjaaGreatDoor
open Go.RowKit Go.Sort
/-- the values of tuples at a place -/
def colL (ts : List (List Int)) (p : Nat) : List Int := ts.map fun t => t.getD p 0
def madeV (s : Int) (tab : List Int) (ts : List (List Int)) (p : Nat) : Int := tab.getD (idxL s 0 (colL ts p)).toNat 0
def madeL (s : Int) (tab : List Int) (ts : List (List Int)) (m : Nat) : List Int := (List.range m).map fun p => madeV s tab ts p
end Go.Proofs.YtnhdohednekhjaaGreatDoor
namespace Go.Proofs.YtnhdohednekhjaaGreatDoor
open Go.RowKit Go.Sort
theorem cmpI_neg {x y : Int} : cmpI x y < 0 ↔ x < y := by
 unfold cmpI
 split
 ·simpa
 ·split <;> omega
theorem ltL_trans : ∀ {a b c : List Int}, ltL a b → ltL b c → ltL a c
 | [], [], _, h, _ => by simp [ltL, cmpL] at h
 | _ :: _, [], _, h, _ => by simp [ltL, cmpL] at h
 | _, _ :: _, [], _, h => by simp [ltL, cmpL] at h
 | [], _ :: _, _ :: _, _, _ => by simp [ltL, cmpL]
 | x :: a, y :: b, z :: c, h, h' => by
  unfold ltL at h h' ⊢
  simp only [cmpL] at h h' ⊢
  by_cases e1 : x = y
  ·by_cases e2 : y = z
   ·subst e1; subst e2
    simp only [if_true] at h h' ⊢
    exact ltL_trans h h'
   ·subst e1
    rw [if_neg e2] at h' ⊢
    exact h'
  ·rw [if_neg e1] at h
   rw [cmpI_neg] at h
   by_cases e2 : y = z
   ·subst e2
    rw [if_neg e1, cmpI_neg]; exact h
   ·rw [if_neg e2, cmpI_neg] at h'
    rw [if_neg (by omega), cmpI_neg]; omega
/-- sorted in the order of lists -/
def sortedL (xs : List (List Int)) : Prop := ∀ i (h : i < xs.length), 0 < i → ltL (xs[i - 1]'(by omega)) xs[i]
theorem sortedL_lt {xs : List (List Int)} (hs : sortedL xs) : ∀ {a b : Nat} (hb : b < xs.length) (hab : a < b), ltL (xs[a]'(by omega)) xs[b] := by
 intro a b hb hab
 induction b with
 | zero => omega
 | succ b ih =>
  have h1 := hs (b + 1) hb (by omega)
  simp only [Nat.add_sub_cancel] at h1
  by_cases e : a = b
  ·subst e; exact h1
  ·exact ltL_trans (ih (by omega) (by omega)) h1
/-- the elements of a list at places -/
def atL (l places : List Int) : List Int := places.map fun p => l.getD p.toNat 0
theorem atL_len {l places : List Int} : (atL l places).length = places.length := by simp [atL]
theorem atL_take {l places : List Int} {k j : Nat} (hk : k < places.length) (hj : places[k] = (j : Int)) (hl : j < l.length) : atL l (places.take k) ++ [l[j]] = atL l (places.take (k + 1)) := by
 rw [← take_snoc hk]
 simp [atL, hj, hl]
theorem Bl.own {α : Type} {E : Ty α} {e base top : Nat} {w : World} {v : Value} {ys : List α} (h : Bl E e base top w v ys) {g : Nat} (hg : v.ownBlock = some g) : base ≤ g := by
 obtain ⟨L, fps, h1, _⟩ := h
 exact (h1.lt g hg).1
theorem news1 {w : World} {u : Value} {T : TypeId} : ∀ j x, [u][j]? = some x → (w.alloc (.cells #[u] T)).cell? ((⟨w.heap.size, 0, none⟩ : Addr).add j) = some x := by
 intro j x h
 match j with
 | 0 => simp at h; subst h; simp [Addr.add]
 | j + 1 => simp at h
set_option maxHeartbeats 1600000 in
set_option maxRecDepth 100000 in
theorem chosen_any (w : World) {v u : Value} {xs ps : List Int} (h : intsT.Rd w [v] xs) (h' : intsT.Rd w [u] ps) (hin : ∀ p ∈ ps, 0 ≤ p ∧ p < (xs.length : Int)) (hlen : ps.length ≤ 1000000) :
  Calls Tryz.prog 119 #[v, u] w (RetS intsT w (atL xs ps)) := by
 obtain ⟨ad, cap, hv, hl, hc, hcell⟩ := ints_ex h
 obtain rfl : v = _ := by simpa using hv
 obtain ⟨ad', cap', hv', hl', hc', hcell'⟩ := ints_ex h'
 obtain rfl : u = _ := by simpa using hv'
 have HIN := Lib.hid hin
 clear h hv h' hv' hin
 go_enter Tryz.func119, Tryz.ntmps119
 go_wp2_with fail
 go_loopw [11, 5] (fun i o wr => ∃ k : Nat, k ≤ ps.length ∧ i = .int .i64 k ∧ Bl Ty.int 2 w.heap.size wr.heap.size wr o (atL xs (ps.take k)) ∧ Below w.heap.size w wr) (fun i _ _ => ps.length - (intOf i).toNat)
 case atStart => exact ⟨0, Nat.zero_le _, rfl, by simpa [atL] using Bl.lit0 (E := Ty.int) (e := 2) (w := w) (Nat.le_refl _), bA⟩
 case round =>
  obtain ⟨k, hk, rfl, hBl, hbel⟩ := hrel
  have HB := Lib.hid hBl
  clear hBl
  by_cases hkl : k < ps.length
  ·obtain ⟨b', o', rfl, hb', hce'⟩ := hcell' (by omega)
   have hin := HIN.out ps[k] (List.getElem_mem hkl)
   obtain ⟨j, hj⟩ : ∃ j : Nat, ps[k] = j := ⟨ps[k].toNat, by omega⟩
   have hjl : j < xs.length := by omega
   obtain ⟨b, o, rfl, hb, hce⟩ := hcell (by omega)
   have e0 := (hbel.cell hb').trans (hce' k hkl).2
   rw [hj] at e0
   have e1 := (hbel.cell hb).trans (hce j hjl).2
   have hI := (hce j hjl).1
   clear hcell hcell' hce hce' hin
   have hrec := atL_take hkl hj hjl
   have HR := Lib.hid hrec
   clear hrec
   go_wp2_with (refine wpList_push (E := Ty.int) _ rfl _ _ 48 2 rfl elInt rfl (HB.out.below bA (Nat.le_refl _)) rfl news1 (fr_int hI) (by rw [atL_len, take_len hk]; omega) (by decide) hbel.size (by simp) ?_; intro v1 w1 hB1 hg1 _)
   have hbel1 : Below w.heap.size w w1 := (hbel.alloc hbel.size _).grown hg1 (by have := hbel.size; simp; omega) (fun k hk => HB.out.own hk)
   rw [HR.out] at hB1
   have HB1 := Lib.hid hB1
   clear hB1
   go_wp2_with fail
   go_roundw
   case rel => exact ⟨k + 1, by omega, by go_num, HB1.out, hbel1⟩
   case measure => simp [intOf]; omega
  ·obtain rfl : k = ps.length := by omega
   go_wp2_with fail
   go_ret
   rw [List.take_length] at HB
   exact ⟨_, rfl, HB.out.fr (by rw [atL_len]; unfold capMax; omega), hbel⟩
end Go.Proofs.YtnhdohednekhjaaGreatDoor
namespace Go.Proofs.YtnhdohednekhjaaGreatDoor
open Go.RowKit Go.Sort
set_option maxHeartbeats 1600000 in
theorem l02Value_quiet (w : World) {v : Value} {f : Int × List Int} (h : opT.Pt w v f) {u : Value} {xs : List Int} (hu : intsT.Rd w [u] xs) {s : Int} (hs : 1 ≤ s) (hs1 : s ≤ 1000) (hl5 : xs.length ≤ 5) (hin : ∀ a ∈ xs, 0 ≤ a ∧ a ≤ s - 1) {k : Nat} (hk : idxL s 0 xs = k) (hkl : k < f.2.length) :
  Calls Tryz.prog 122 #[.int .i64 s, v, u] w fun e w' => e = .returned (.int .i64 f.2[k]) ∧ Quiet w w' := by
 obtain ⟨b, o, ad, cap, rfl, hb, -, c0, c1, hx⟩ := pt_pair h
 obtain ⟨_, _, e1, -, -, hcell⟩ := ints_ex hx
 simp only [List.cons.injEq, Value.slice.injEq, and_true, true_and] at e1
 obtain ⟨rfl, rfl⟩ := e1
 obtain ⟨tb0, to0, rfl, htb, hte⟩ := hcell (by omega)
 have t0 := (hte k hkl).2
 have cC : ∀ n, Calls Tryz.prog 195 #[.int .i64 s, u] (w.drewN n) fun e w'' => e = .returned (.int .i64 k) ∧ ∃ m, w'' = w.drewN m := fun n => by
  have := pure_drawn (l01Code_any (w.drewN n) s (hu.below (Quiet.drewN w n).below) hs hs1 hl5 hin)
  rw [hk] at this
  exact this
 clear h hx hcell hte hu
 go_enter Tryz.func122, Tryz.ntmps122
 go_wp2_with fail
 go_quiet (exact cC _)
 go_wp2_with fail
 go_ret
 exact ⟨rfl, (by first | exact Quiet.refl _ | exact Quiet.drewN _ _ | exact (Quiet.drewN _ _).then (Quiet.drewN _ _) | exact ((Quiet.drewN _ _).then (Quiet.drewN _ _)).then (Quiet.drewN _ _))⟩
end Go.Proofs.YtnhdohednekhjaaGreatDoor
namespace Go.Proofs.YtnhdohednekhjaaGreatDoor
open Go.RowKit
/-- a value as it is: for rows whose elements point into older memory -/
def Ty.val : Ty Value where
 sz := 1
 rd := fun _ cs x fp => cs = [x] ∧ x.oneCell' = true ∧ fp = []
 len := by rintro _ _ _ _ ⟨rfl, _, _⟩; rfl
 same := fun h _ => h
 lt := by rintro _ _ _ _ ⟨rfl, _, rfl⟩ k hk; cases hk
 one := by rintro _ _ _ _ ⟨rfl, h, _⟩ u hu; simp at hu; subst hu; exact h
/-- a number and a value -/
abbrev pvT : Ty (Int × Value) := Ty.cons Ty.val
end Go.Proofs.YtnhdohednekhjaaGreatDoor
namespace Go.Proofs.YtnhdohednekhjaaGreatDoor
open Go.RowKit Go.Sort
/-- a row of truth values of the call's own -/
def BR (e base : Nat) (w : World) (g n cap : Nat) (L : List Bool) : Prop := L.length = n ∧ base ≤ g ∧ w.ownsRow base e 1 (.slice (some ⟨g, 0, none⟩) n cap) n (L.map Value.bool)
section
variable {e base g n cap : Nat} {w w' : World} {L : List Bool}
theorem BR.cell (h : BR e base w g n cap L) {j : Nat} (hj : j < L.length) : w.cell? ⟨g, j, none⟩ = some (.bool L[j]) := by
 rw [World.ownsRow.cellAt h.2.2 j (by have := h.1; omega)]
 simp [hj]
theorem BR.free (h : BR e base w g n cap L) (j : Nat) : w.frozen? ⟨g, j, none⟩ = false := World.ownsRow.frozenAt h.2.2 j
theorem BR.lt (h : BR e base w g n cap L) : g < w.heap.size := (h.2.2.lt g rfl).2
theorem BR.set (h : BR e base w g n cap L) (j : Nat) (a : Bool) : BR e base (w.setCell ⟨g, j, none⟩ (.bool a)) g n cap (L.set j a) := by
 refine ⟨by rw [List.length_set]; exact h.1, h.2.1, ?_⟩
 rw [List.map_set]
 exact (h.2.2.stored j _).1
theorem BR.below {B : Nat} (h : BR e base w g n cap L) (hb : Below B w w') (hg : g < B) : BR e base w' g n cap L := by
 refine ⟨h.1, h.2.1, h.2.2.1, ?_⟩
 rcases h.2.2.2 with ⟨h', _⟩ | ⟨g', cap', cur, hg', hbg, hh, r⟩
 ·simp at h'
 ·simp only [Value.slice.injEq, Option.some.injEq, Addr.mk.injEq, and_true, true_and] at hg'
  obtain ⟨rfl, rfl⟩ := hg'
  exact .inr ⟨g, _, cur, rfl, hbg, by rw [hb.block g hg]; exact hh, r⟩
end
/-- lists of one length with the same index are the same -/
theorem idxL_inj {s : Int} (hs : 1 ≤ s) : ∀ (n : Nat) {xs ys : List Int}, xs.length = n → ys.length = n → (∀ a ∈ xs, 0 ≤ a ∧ a ≤ s - 1) → (∀ a ∈ ys, 0 ≤ a ∧ a ≤ s - 1) → idxL s 0 xs = idxL s 0 ys → xs = ys
 | 0, xs, ys, hx, hy, _, _, _ => by rw [List.eq_nil_of_length_eq_zero hx, List.eq_nil_of_length_eq_zero hy]
 | n + 1, xs, ys, hx, hy, hxi, hyi, he => by
  have hx1 : n < xs.length := by omega
  have hy1 : n < ys.length := by omega
  have ex := idxL_take (s := s) hx1
  have ey := idxL_take (s := s) hy1
  rw [List.take_of_length_le (by omega)] at ex ey
  rw [ex, ey] at he
  have ax := hxi _ (List.getElem_mem hx1)
  have ay := hyi _ (List.getElem_mem hy1)
  have h1 : (idxL s 0 (xs.take n) * s + xs[n]) % s = xs[n] := by
   rw [Int.add_comm, Int.add_mul_emod_self_right]; exact Int.emod_eq_of_lt ax.1 (by omega)
  have h2 : (idxL s 0 (ys.take n) * s + ys[n]) % s = ys[n] := by
   rw [Int.add_comm, Int.add_mul_emod_self_right]; exact Int.emod_eq_of_lt ay.1 (by omega)
  have hn : xs[n] = ys[n] := by rw [← h1, ← h2, he]
  have hq : idxL s 0 (xs.take n) = idxL s 0 (ys.take n) := by
   have h3 : idxL s 0 (xs.take n) * s = idxL s 0 (ys.take n) * s := by omega
   exact Int.eq_of_mul_eq_mul_right (by omega) h3
  have ih := idxL_inj hs n (xs := xs.take n) (ys := ys.take n) (by rw [List.length_take]; omega) (by rw [List.length_take]; omega) (fun a ha => hxi a (List.mem_of_mem_take ha)) (fun a ha => hyi a (List.mem_of_mem_take ha)) hq
  rw [← List.take_of_length_le (l := xs) (i := n + 1) (by omega), ← List.take_of_length_le (l := ys) (i := n + 1) (by omega), List.take_succ_eq_append_getElem hx1, List.take_succ_eq_append_getElem hy1, ih, hn]
end Go.Proofs.YtnhdohednekhjaaGreatDoor
namespace Go.Proofs.YtnhdohednekhjaaGreatDoor
open Go.RowKit Go.Sort
theorem idx_lt {s : Int} (hs : 1 ≤ s) {xs : List Int} {m : Nat} (hl : xs.length = m) (h : ∀ a ∈ xs, 0 ≤ a ∧ a ≤ s - 1) : 0 ≤ idxL s 0 xs ∧ idxL s 0 xs ≤ s ^ m - 1 := by
 have := idx_bd hs h xs.length (Nat.le_refl _)
 rwa [List.take_length, hl] at this
/-- the tuples of a relation that an index picks -/
def picks (ts : List (List Int)) (ar : Nat) (i : Int) : List (List Int) := (digL ts.length i ar).map fun k => ts.getD k.toNat []
/-- what the operation makes of them -/
def makes (s : Int) (f : Int × List Int) (r : Int × List (List Int)) (i : Int) : List Int := madeL s f.2 (picks r.2 f.1.toNat i) r.1.toNat
end Go.Proofs.YtnhdohednekhjaaGreatDoor
namespace Go.Proofs.YtnhdohednekhjaaGreatDoor
open Go.RowKit Go.Sort
/-- a set of tuples in new memory: a box whose third cell is a row of truth values -/
def SetAt (e base : Nat) (w : World) (bx g n : Nat) (L : List Bool) : Prop := base ≤ bx ∧ bx < w.heap.size ∧ g ≠ bx ∧ w.cell? ⟨bx, 2, none⟩ = some (.slice (some ⟨g, 0, none⟩) n n) ∧ BR e base w g n n L
theorem SetAt.below {e base bx g n B : Nat} {w w' : World} {L : List Bool} (h : SetAt e base w bx g n L) (hb : Below B w w') (hB : w.heap.size ≤ B) : SetAt e base w' bx g n L :=
 let ⟨h1, h2, h3, h4, h5⟩ := h
 ⟨h1, Nat.lt_of_lt_of_le h2 hb.size, h3, (hb.cell (p := ⟨bx, 2, none⟩) (Nat.lt_of_lt_of_le h2 hB)).trans h4, h5.below hb (Nat.lt_of_lt_of_le h5.lt hB)⟩
/-- the indices that have come up among the first k tuples -/
def seenL (s : Int) (N : Nat) (ts : List (List Int)) : List Bool := (List.range N).map fun j : Nat => ts.any fun t => idxL s 0 t == (j : Int)
end Go.Proofs.YtnhdohednekhjaaGreatDoor
namespace Go.Proofs.YtnhdohednekhjaaGreatDoor
open Go.RowKit Go.Sort
end Go.Proofs.YtnhdohednekhjaaGreatDoor
namespace Go.Proofs.YtnhdohednekhjaaGreatDoor
open Go.RowKit Go.Sort
set_option maxHeartbeats 1600000 in
set_option maxRecDepth 100000 in
theorem l01At_any (w : World) {v u : Value} {xs ps : List Int} (h : intsT.Rd w [v] xs) (h' : intsT.Rd w [u] ps) (hin : ∀ p ∈ ps, 0 ≤ p ∧ p < (xs.length : Int)) (hlen : ps.length ≤ 1000000) :
  Calls Tryz.prog 123 #[v, u] w (RetS intsT w (atL xs ps)) := by
 obtain ⟨ad, cap, hv, hl, hc, hcell⟩ := ints_ex h
 obtain rfl : v = _ := by simpa using hv
 obtain ⟨ad', cap', hv', hl', hc', hcell'⟩ := ints_ex h'
 obtain rfl : u = _ := by simpa using hv'
 have HIN := Lib.hid hin
 clear h hv h' hv' hin
 go_enter Tryz.func123, Tryz.ntmps123
 go_wp2_with fail
 go_loopw [6, 5] (fun i o wr => ∃ k : Nat, k ≤ ps.length ∧ i = .int .i64 k ∧ Bl Ty.int 2 w.heap.size wr.heap.size wr o (atL xs (ps.take k)) ∧ Below w.heap.size w wr) (fun i _ _ => ps.length - (intOf i).toNat)
 case atStart => exact ⟨0, Nat.zero_le _, rfl, by simpa [atL] using Bl.lit0 (E := Ty.int) (e := 2) (w := w) (Nat.le_refl _), bA⟩
 case round =>
  obtain ⟨k, hk, rfl, hBl, hbel⟩ := hrel
  have HB := Lib.hid hBl
  clear hBl
  by_cases hkl : k < ps.length
  ·obtain ⟨b', o', rfl, hb', hce'⟩ := hcell' (by omega)
   have hin := HIN.out ps[k] (List.getElem_mem hkl)
   obtain ⟨j, hj⟩ : ∃ j : Nat, ps[k] = j := ⟨ps[k].toNat, by omega⟩
   have hjl : j < xs.length := by omega
   obtain ⟨b, o, rfl, hb, hce⟩ := hcell (by omega)
   have e0 := (hbel.cell hb').trans (hce' k hkl).2
   rw [hj] at e0
   have e1 := (hbel.cell hb).trans (hce j hjl).2
   have hI := (hce j hjl).1
   clear hcell hcell' hce hce' hin
   have hrec := atL_take hkl hj hjl
   have HR := Lib.hid hrec
   clear hrec
   go_wp2_with (refine wpList_push (E := Ty.int) _ rfl _ _ 48 2 rfl elInt rfl (HB.out.below bA (Nat.le_refl _)) rfl news1 (fr_int hI) (by rw [atL_len, take_len hk]; omega) (by decide) hbel.size (by simp) ?_; intro v1 w1 hB1 hg1 _)
   have hbel1 : Below w.heap.size w w1 := (hbel.alloc hbel.size _).grown hg1 (by have := hbel.size; simp; omega) (fun k hk => HB.out.own hk)
   rw [HR.out] at hB1
   have HB1 := Lib.hid hB1
   clear hB1
   go_wp2_with fail
   go_roundw
   case rel => exact ⟨k + 1, by omega, by go_num, HB1.out, hbel1⟩
   case measure => simp [intOf]; omega
  ·obtain rfl : k = ps.length := by omega
   go_wp2_with fail
   go_ret
   rw [List.take_length] at HB
   exact ⟨_, rfl, HB.out.fr (by rw [atL_len]; unfold capMax; omega), hbel⟩
end Go.Proofs.YtnhdohednekhjaaGreatDoor
namespace Go.Proofs.YtnhdohednekhjaaGreatDoor
open Go.RowKit

/-- all blocks but some are as before -/
structure TchF (fp : List Nat) (w w' : World) : Prop where
 os : w'.os = w.os
 tape : w'.tape = w.tape
 output : w'.output = w.output
 size : w.heap.size ≤ w'.heap.size
 block : ∀ k, k < w.heap.size → k ∉ fp → w'.heap[k]? = w.heap[k]?
theorem TchF.refl (fp : List Nat) (w : World) : TchF fp w w := ⟨rfl, rfl, rfl, Nat.le_refl _, fun _ _ _ => rfl⟩
theorem TchF.trans {fp : List Nat} {w w' w'' : World} (h : TchF fp w w') (k : TchF fp w' w'') : TchF fp w w'' :=
 ⟨k.os.trans h.os, k.tape.trans h.tape, k.output.trans h.output, Nat.le_trans h.size k.size, fun i hi hb => (k.block i (Nat.lt_of_lt_of_le hi h.size) hb).trans (h.block i hi hb)⟩
theorem TchF.mono {fp fp' : List Nat} {w w' : World} (h : TchF fp w w') (hs : ∀ k ∈ fp, k ∈ fp') : TchF fp' w w' := ⟨h.os, h.tape, h.output, h.size, fun k hk hn => h.block k hk fun hm => hn (hs k hm)⟩
theorem Below.tchF {w w' : World} (h : Below w.heap.size w w') (fp : List Nat) : TchF fp w w' := ⟨h.os, h.tape, h.output, h.size, fun k hk _ => h.block k hk⟩
theorem TchF.setCell {fp : List Nat} {b : Nat} (hb : b ∈ fp) (o : Nat) (w : World) (u : Value) : TchF fp w (w.setCell ⟨b, o, none⟩ u) :=
 ⟨rfl, rfl, rfl, by simp [World.setCell], fun k _ hk => Below.heap_setCell _ _ _ _ (fun e => hk (by rw [e]; exact hb))⟩
theorem TchF.same {fp g : List Nat} {w w' : World} (h : TchF fp w w') (hg : ∀ k ∈ g, k < w.heap.size ∧ k ∉ fp) : Same g w w' := fun k hk => h.block k (hg k hk).1 (hg k hk).2
theorem TchF.cell {fp : List Nat} {w w' : World} (h : TchF fp w w') {b o : Nat} (hb : b < w.heap.size) (hn : b ∉ fp) : w'.cell? ⟨b, o, none⟩ = w.cell? ⟨b, o, none⟩ := World.cell?_of_block (w := w) (h.block b hb hn)
theorem TchF.frozen {fp : List Nat} {w w' : World} (h : TchF fp w w') {b o : Nat} (hb : b < w.heap.size) (hn : b ∉ fp) : w'.frozen? ⟨b, o, none⟩ = w.frozen? ⟨b, o, none⟩ := World.frozen?_of_block (w := w) (h.block b hb hn)

section
variable {α : Type} {f : Int → α → α} {c : α → Int} {k : Int} {xs : List α} {i : Nat}
end
theorem rowRd.put {α : Type} {E : Ty α} {w w' : World} {b o : Nat} {xs : List α} {fps : Nat → List Nat} {i : Nat} {y : α} (h : rowRd E w b o xs fps) (_hi : i < xs.length)
  (hother : ∀ j, j < xs.length → j ≠ i → Same (fps j) w w' ∧ ∀ q, q < E.sz → w'.cell? ⟨b, o + j * E.sz + q, none⟩ = w.cell? ⟨b, o + j * E.sz + q, none⟩)
  (hthis : ∃ cs, E.rd w' cs y (fps i) ∧ ∀ j (hj : j < cs.length), w'.cell? ⟨b, o + i * E.sz + j, none⟩ = some cs[j]) : rowRd E w' b o (xs.set i y) fps := by
 intro j hj
 by_cases e : i = j
 ·subst e
  simpa using hthis
 ·have hj' : j < xs.length := by simpa using hj
  obtain ⟨cs, h1, h2⟩ := h j hj'
  obtain ⟨h3, h4⟩ := hother j hj' (fun e' => e e'.symm)
  refine ⟨cs, by rw [List.getElem_set_ne e]; exact E.same h1 h3, fun q hq => ?_⟩
  rw [h4 q (by rw [← E.len h1]; exact hq)]
  exact h2 q hq

/-! memory between two numbers -/
/-- reads so in blocks from lo up to hi, each once, none frozen -/
def Ty.Fx {α : Type} (E : Ty α) (lo hi : Nat) (w : World) (cs : List Value) (x : α) : Prop := ∃ fp, E.rd w cs x fp ∧ fp.Nodup ∧ (∀ b ∈ fp, lo ≤ b ∧ b < hi) ∧ Unf w fp
theorem Ty.Fx.rd {α : Type} {E : Ty α} {lo hi : Nat} {w : World} {cs : List Value} {x : α} (h : E.Fx lo hi w cs x) : E.Rd w cs x := let ⟨fp, h, _⟩ := h; ⟨fp, h⟩
theorem Ty.Fr.fx {α : Type} {E : Ty α} {lo : Nat} {w : World} {cs : List Value} {x : α} (h : E.Fr lo w cs x) : E.Fx lo w.heap.size w cs x :=
 let ⟨fp, h1, h2, h3, h4⟩ := h; ⟨fp, h1, h2, fun b hb => ⟨h3 b hb, E.lt h1 b hb⟩, h4⟩
theorem Ty.Fx.below {α : Type} {E : Ty α} {lo hi : Nat} {w w' : World} {cs : List Value} {x : α} (h : E.Fx lo hi w cs x) (hb : Below w.heap.size w w') : E.Fx lo hi w' cs x :=
 let ⟨fp, h1, h2, h3, h4⟩ := h
 have hs : Same fp w w' := Same.below hb (E.lt h1)
 ⟨fp, E.same h1 hs, h2, h3, h4.same hs⟩
/-- all old blocks but those from lo up to hi are as before -/
structure Tch (lo hi : Nat) (w w' : World) : Prop where
 os : w'.os = w.os
 tape : w'.tape = w.tape
 output : w'.output = w.output
 size : w.heap.size ≤ w'.heap.size
 block : ∀ k, k < w.heap.size → (k < lo ∨ hi ≤ k) → w'.heap[k]? = w.heap[k]?
theorem TchF.tch {fp : List Nat} {lo hi : Nat} {w w' : World} (h : TchF fp w w') (hf : ∀ b ∈ fp, lo ≤ b ∧ b < hi) : Tch lo hi w w' :=
 ⟨h.os, h.tape, h.output, h.size, fun k hk hn => h.block k hk fun hm => by have := hf k hm; omega⟩
theorem Tch.cell {lo hi : Nat} {w w' : World} (h : Tch lo hi w w') {b o : Nat} (hb : b < w.heap.size) (hn : b < lo ∨ hi ≤ b) : w'.cell? ⟨b, o, none⟩ = w.cell? ⟨b, o, none⟩ := World.cell?_of_block (w := w) (h.block b hb hn)
theorem Ty.Fx.tch {α : Type} {E : Ty α} {lo hi lo' hi' : Nat} {w w' : World} {cs : List Value} {x : α} (h : E.Fx lo hi w cs x) (ht : Tch lo' hi' w w') (hd : hi ≤ lo' ∨ hi' ≤ lo) : E.Fx lo hi w' cs x :=
 let ⟨fp, h1, h2, h3, h4⟩ := h
 have hs : Same fp w w' := fun k hk => ht.block k (E.lt h1 k hk) (by have := h3 k hk; omega)
 ⟨fp, E.same h1 hs, h2, h3, h4.same hs⟩
/-- an append at a step of a region that draws its order -/
theorem step_push {P : Program} {K : Act → World → Prop} {Ee : Prop} {α : Type} {E : Ty α} (w : World) {ops : Array Oper} {o : Oper} {a : Act} {Q : Exit → Act → World → Prop} (hgd : o.guard = none) (s x : Operand) (t e : TypeId) {bytes : Nat}
  (ho : o.op = .call { callee := .builtin .append, args := #[s, x], argTypes := #[t, t] }) (hT : ElT P t e E.sz bytes)
  {base top : Nat} {v : Value} {ys : List α} (hs : a.eval s = v) (hB : Bl E e base top w v ys)
  {ad : Addr} {c : Nat} {cs : List Value} {y : α} (hx : a.eval x = .slice (some ad) 1 c) (hnews : ∀ j u, cs[j]? = some u → w.cell? (ad.add j) = some u) (hy : E.Fr top w cs y)
  (hlen : ys.length ≤ 1000000000) (hby : bytes ≤ 100000) (hbt : base ≤ top) (htop : top ≤ w.heap.size)
  (h : ∀ v' w', Bl E e base w'.heap.size w' v' (ys ++ [y]) → w.grownBy w' v.ownBlock → (v'.ownBlock = v.ownBlock ∨ v'.ownBlock = some w.heap.size) → K (a.put o.dst v') w') : if Region.wanted o (yielded ops a.tmps) = true then Oper.wp P o a w K Q else Ee := by
 rw [if_pos (by simp [Region.wanted, hgd])]
 obtain ⟨L, fps, g1, g2, g3, g4, g5, g6⟩ := hB
 obtain ⟨fp, k1, k2, k3, k4⟩ := hy
 obtain ⟨i, z, ht, hi, hz, hsz, hbt', hzs, hp⟩ := id hT
 have hcl := E.len k1
 have hlen' : (ys.length + 1) * bytes ≤ 140737488355328 := Nat.le_trans (Nat.mul_le_mul (show ys.length + 1 ≤ 1000000001 by omega) hby) (by decide)
 have hbase : base ≤ w.heap.size := Nat.le_trans hbt htop
 obtain ⟨v', w', hr, h2, h3, h4⟩ := run_append_own (P := P) w base t o.type e i z E.sz bytes ht hi hz hsz hbt' hzs hp v ys.length L g1 ad 1 c cs (by omega) hnews (E.one k1) (by unfold maxLen; omega) hlen' hbase
 have hblk := run_push_block w base t o.type e hT v ys.length L g1 ad 1 c cs (by omega) hnews (E.one k1) (by unfold maxLen; omega) hlen' (by omega) v' w' hr
 have hS : ∀ k, v.ownBlock ≠ some k → k < w.heap.size → w'.heap[k]? = w.heap[k]? := fun k hk hlt => h3.block k hlt (fun he => hk he.symm)
 have hlt1 : ∀ b ∈ flat fps ys.length, b < w.heap.size := fun b hb => Nat.lt_of_lt_of_le (g4 b hb).2.1 htop
 have hlt2 : ∀ b ∈ fp, b < w.heap.size := E.lt k1
 have hS1 : Same (flat fps ys.length) w w' := fun k hk => hS k (g4 k hk).2.2 (hlt1 k hk)
 have hne : ∀ b ∈ fp, v.ownBlock ≠ some b := fun b hb he => by have := g5 b he; have := k3 b hb; omega
 have hS2 : Same fp w w' := fun k hk => hS k (hne k hk) (hlt2 k hk)
 have hBl : Bl E e base w'.heap.size w' v' (ys ++ [y]) := by
  refine ⟨L ++ cs, fun i => if i = ys.length then fp else fps i, by simpa using h2, el_add (fun i hi => ?_) g1.1 (E.same k1 hS2), ?_, ?_, ?_, ?_⟩
  ·obtain ⟨cs', h7, h8⟩ := g2 i hi
   exact ⟨cs', E.same h7 (fun k hk => hS1 k (List.mem_flatMap.2 ⟨i, by simpa using hi, hk⟩)), h8⟩
  ·rw [List.length_append, List.length_singleton, flat_add]
   exact List.nodup_append.2 ⟨g3, k2, fun a ha b hb he => by subst he; have := (g4 a ha).2.1; have := k3 a hb; omega⟩
  ·rw [List.length_append, List.length_singleton, flat_add]
   intro b hb
   have hsz' := h3.size
   rcases List.mem_append.1 hb with hb | hb
   ·refine ⟨(g4 b hb).1, by have := hlt1 b hb; omega, ?_⟩
    rcases hblk with e1 | e1 <;> rw [e1]
    ·exact (g4 b hb).2.2
    ·intro he; have := hlt1 b hb; simp at he; omega
   ·refine ⟨by have := k3 b hb; omega, by have := hlt2 b hb; omega, ?_⟩
    rcases hblk with e1 | e1 <;> rw [e1]
    ·exact hne b hb
    ·intro he; have := hlt2 b hb; simp at he; omega
  ·intro g hg
   exact (h2.lt g hg).2
  ·rw [List.length_append, List.length_singleton, flat_add]
   intro b hb
   rcases List.mem_append.1 hb with hb | hb
   ·exact g6.same hS1 b hb
   ·exact k4.same hS2 b hb
 unfold Oper.wp execOp
 simp only [ho, resolve, invoke, builtin, Sem.run_bind, Sem.run_pure, Result.andThen_ok, List.map_toArray, List.map_cons, List.map_nil, hs, hx, hr]
 exact h v' w' hBl h3 hblk
end Go.Proofs.YtnhdohednekhjaaGreatDoor
namespace Go.Proofs.YtnhdohednekhjaaGreatDoor
open Go.RowKit Go.Sort

/-- a struct in new memory, and a code -/
def RetAC {α : Type} (E : Ty α) (w : World) (x : α) (c : Int) (e : Ending) (w' : World) : Prop := ∃ cs : List Value, e = .returned (.tuple #[.agg cs.toArray, .int .i64 c]) ∧ E.Fr w.heap.size w' cs x ∧ Below w.heap.size w w'
/-- a slice in new memory, and a code -/
def RetSC {α : Type} (E : Ty α) (w : World) (x : α) (c : Int) (e : Ending) (w' : World) : Prop := ∃ u, e = .returned (.tuple #[u, .int .i64 c]) ∧ E.Fr w.heap.size w' [u] x ∧ Below w.heap.size w w'
section
variable {t : Int × List (Int × List (List Int))} {rel : Int}
end
end Go.Proofs.YtnhdohednekhjaaGreatDoor
namespace Go.Proofs.YtnhdohednekhjaaGreatDoor
open Go.RowKit Go.Sort
end Go.Proofs.YtnhdohednekhjaaGreatDoor
namespace Go.Proofs.YtnhdohednekhjaaGreatDoor
open Go.RowKit Go.Sort
section
variable (t : Int × List (Int × List (List Int))) (f : Int × Int × List (Int × List Int)) (v : Int)
end
section
variable {t : Int × List (Int × List (List Int))} {f : Int × Int × List (Int × List Int)} {v : Int}
end
theorem wrap_small {n : Int} (h0 : -1000000000000000000 ≤ n) (h1 : n ≤ 1000000000000000000) : IntKind.i64.wrap n = n := by
 simp [IntKind.wrap, IntKind.signed, IntKind.bits]
 omega
end Go.Proofs.YtnhdohednekhjaaGreatDoor
namespace Go.Proofs.YtnhdohednekhjaaGreatDoor
open Go.RowKit Go.Sort
theorem size_set {w : World} {a : Addr} {u : Value} : (w.setCell a u).heap.size = w.heap.size := by simp [World.setCell]
theorem ex_slice {α : Type} {E : Ty α} {base : Nat} {w : World} {u : Value} {x : List α} (h : (Ty.slice E).Fr base w [u] x) : ∃ ad n cap, u = .slice ad n cap := let ⟨a, c, h⟩ := fr_slice h; ⟨a, _, c, h⟩
end Go.Proofs.YtnhdohednekhjaaGreatDoor
namespace Go.Proofs.YtnhdohednekhjaaGreatDoor
open Go.RowKit Go.Sort
end Go.Proofs.YtnhdohednekhjaaGreatDoor
namespace Go.Proofs.YtnhdohednekhjaaGreatDoor
open Go.RowKit Go.Sort
theorem flat_nil (n : Nat) : flat (fun _ => []) n = [] := List.eq_nil_iff_forall_not_mem.2 fun x hx => by obtain ⟨_, _, h⟩ := List.mem_flatMap.1 hx; cases h
theorem wpList_appI {P : Program} (w : World) {ops : Array Oper} {rest : List Oper} {o : Oper} {a : Act} {Q : Exit → Act → World → Prop} (hgd : o.guard = none) (s x : Operand) (t e : TypeId) {bytes : Nat}
  (ho : o.op = .call { callee := .builtin .append, args := #[s, x], argTypes := #[t, t] }) (hT : ElT P t e 1 bytes)
  {base top : Nat} {v : Value} {ys : List Int} (hs : a.eval s = v) (hB : Bl Ty.int e base top w v ys)
  {u : Value} {xs : List Int} (hx : a.eval x = u) (hr : intsT.Rd w [u] xs) (h0 : 0 < xs.length)
  (hlen : ys.length + xs.length ≤ 1000000000) (hby : bytes ≤ 100000) (hbt : base ≤ top) (htop : top ≤ w.heap.size)
  (h : ∀ v' w', Bl Ty.int e base w'.heap.size w' v' (ys ++ xs) → w.grownBy w' v.ownBlock → (v'.ownBlock = v.ownBlock ∨ v'.ownBlock = some w.heap.size) → wpList P ops Q rest (a.put o.dst v') w') : wpList P ops Q (o :: rest) a w := by
 obtain ⟨L, fps, g1, g2, g3, g4, g5, g6⟩ := hB
 obtain ⟨ad', cap', hu, hl, hc, hcell⟩ := ints_ex hr
 obtain ⟨b, o', rfl, hb, hce⟩ := hcell h0
 obtain rfl : u = .slice (some ⟨b, o', none⟩) xs.length cap' := by simpa using hu
 obtain ⟨i, z, ht, hi, hz, hsz, hbt', hzs, hp⟩ := id hT
 have hnews : ∀ (j : Nat) (u : Value), (xs.map (Value.int .i64))[j]? = some u → w.cell? ((⟨b, o', none⟩ : Addr).add j) = some u := by
  intro j u hj
  rw [List.getElem?_map] at hj
  by_cases hjl : j < xs.length
  ·rw [List.getElem?_eq_getElem hjl] at hj
   simp only [Option.map_some, Option.some.injEq] at hj
   subst hj
   have := (hce j hjl).2
   by_cases hj0 : j = 0
   ·subst hj0
    simpa [Addr.add] using this
   ·simpa [Addr.add, hj0] using this
  ·rw [List.getElem?_eq_none (by omega)] at hj
   simp at hj
 have hone : ∀ u ∈ xs.map (Value.int .i64), u.oneCell' = true := by
  intro u hu
  obtain ⟨n, _, rfl⟩ := List.mem_map.1 hu
  rfl
 have hnl : (xs.map (Value.int .i64)).length = xs.length * 1 := by simp
 have hlen' : (ys.length + xs.length) * bytes ≤ 140737488355328 := Nat.le_trans (Nat.mul_le_mul hlen hby) (by decide)
 have hbase : base ≤ w.heap.size := Nat.le_trans hbt htop
 have hLl : L.length = ys.length := by have := g1.1; simpa [Ty.int] using this
 refine wpList_plain hgd fun K hK => ?_
 obtain ⟨v', w', hr', h2, h3, h4⟩ := run_append_own (P := P) w base t o.type e i z 1 bytes ht hi hz hsz hbt' hzs hp v ys.length L g1 ⟨b, o', none⟩ xs.length cap' _ hnl hnews hone (by unfold maxLen; omega) hlen' hbase
 have hblk := run_push_block w base t o.type e hT v ys.length L g1 ⟨b, o', none⟩ xs.length cap' _ hnl hnews hone (by unfold maxLen; omega) hlen' h0 v' w' hr'
 have hBl : Bl Ty.int e base w'.heap.size w' v' (ys ++ xs) := by
  refine ⟨L ++ xs.map (Value.int .i64), fun _ => [], by simpa [Ty.int] using h2, fun j hj => ?_, by rw [flat_nil]; exact List.nodup_nil, by rw [flat_nil]; simp, fun g hg => (h2.lt g hg).2, by rw [flat_nil]; intro b hb; cases hb⟩
  by_cases hjy : j < ys.length
  ·obtain ⟨cs, ⟨rfl, hI, _⟩, hk⟩ := g2 j hjy
   refine ⟨[.int .i64 (ys ++ xs)[j]], ⟨rfl, by rw [List.getElem_append_left hjy]; exact hI, rfl⟩, fun q hq => ?_⟩
   obtain rfl : q = 0 := by simpa using hq
   have := hk 0 (by simp)
   rw [List.getElem?_append_left (by rw [hLl]; simp [Ty.int]; exact hjy)]
   simpa [List.getElem_append_left hjy] using this
  ·have hj' : j - ys.length < xs.length := by rw [List.length_append] at hj; omega
   have hge : (ys ++ xs)[j] = xs[j - ys.length] := List.getElem_append_right (by omega)
   refine ⟨[.int .i64 (ys ++ xs)[j]], ⟨rfl, by rw [hge]; exact (hce _ hj').1, rfl⟩, fun q hq => ?_⟩
   obtain rfl : q = 0 := by simpa using hq
   rw [List.getElem?_append_right (by rw [hLl]; simp [Ty.int]; omega), hLl]
   simp [Ty.int, hge, hj']
 unfold Oper.wp execOp
 simp only [ho, resolve, invoke, builtin, Sem.run_bind, Sem.run_pure, Result.andThen_ok, List.map_toArray, List.map_cons, List.map_nil, hs, hx, hr']
 exact hK _ _ (h v' w' hBl h3 hblk)
set_option maxHeartbeats 800000 in
theorem l00Own_any (w : World) {v : Value} {xs : List Int} (h : intsT.Rd w [v] xs) (hlen : xs.length ≤ 1000000) :
  Calls Tryz.prog 159 #[v] w fun e w' => ∃ u, e = .returned u ∧ Bl Ty.int 2 w.heap.size w'.heap.size w' u xs ∧ Below w.heap.size w w' := by
 have hx := h
 obtain ⟨ad, cap, rfl⟩ := rd_slice h
 have HX := Lib.hid hx
 rcases Nat.eq_zero_or_pos xs.length with h0 | h0
 ·obtain rfl := List.eq_nil_of_length_eq_zero h0
  clear h hx h0 HX
  cases ad
  all_goals
   go_enter Tryz.func159, Tryz.ntmps159
   go_wp2_with fail
   go_ret
   exact ⟨_, rfl, by simpa using Bl.lit0 (E := Ty.int) (e := 2) (w := w) (Nat.le_refl _), bA⟩
 ·clear h hx
  have HB := Lib.hid (Bl.lit0 (E := Ty.int) (e := 2) (base := w.heap.size) (w := w) (Nat.le_refl _))
  go_enter Tryz.func159, Tryz.ntmps159
  go_wp2_with (refine wpList_appI _ rfl _ _ 48 2 rfl elInt rfl HB.out rfl (HX.out.below bA) h0 (by simp; omega) (by decide) (by omega) (by simp) ?_; intro v1 w1 hB1 hg1 _)
  have HB1 := Lib.hid hB1
  have hb1 : Below w.heap.size w w1 := (bA (w := w)).grown hg1 (by simp) (fun k hk => HB.out.own hk)
  clear hB1
  go_wp2_with fail
  go_ret
  exact ⟨_, rfl, HB1.out, hb1⟩
end Go.Proofs.YtnhdohednekhjaaGreatDoor
namespace Go.Proofs.YtnhdohednekhjaaGreatDoor
open Go.RowKit Go.Sort
/-- the slices that stand in a row read as the first tuples -/
def picked (w : World) (vs : List Value) (ts : List (List Int)) : Prop := vs.length ≤ ts.length ∧ ∀ i (h : i < vs.length) (h' : i < ts.length), intsT.Rd w [vs[i]] ts[i]
theorem picked.below {w w' : World} {vs : List Value} {ts : List (List Int)} (h : picked w vs ts) (hb : Below w.heap.size w w') : picked w' vs ts := ⟨h.1, fun i h1 h2 => (h.2 i h1 h2).below hb⟩
end Go.Proofs.YtnhdohednekhjaaGreatDoor
namespace Go.Proofs.YtnhdohednekhjaaGreatDoor
theorem cellB {B b o : Nat} {w w' : World} (hb : RowKit.Below B w w') (h : b < B) : w'.cell? ⟨b, o, none⟩ = w.cell? ⟨b, o, none⟩ := hb.cell (p := ⟨b, o, none⟩) h
theorem frozenB {B b o : Nat} {w w' : World} (hb : RowKit.Below B w w') (h : b < B) : w'.frozen? ⟨b, o, none⟩ = w.frozen? ⟨b, o, none⟩ := hb.frozen (p := ⟨b, o, none⟩) h


section
variable {P : Program} {ops : Array Oper} {Q : Exit → Act → World → Prop} {md : Region.Mode} {S : World → Prop} {tail : List Nat}

/-- one of the last writes has come up -/
def pastB (tail : List Nat) (listed : Array Bool) : Bool := tail.any fun t => listed.getD t false

def wpAnyT (P : Program) (md : Region.Mode) (ops : Array Oper) (Q : Exit → Act → World → Prop) (S : World → Prop) (tail : List Nat) : Nat → Array Bool → Act → World → Prop
 | 0, listed, a, w => Region.ready md ops listed = [] ∧ Q .normal a w
 | fuel + 1, listed, a, w =>
  (Region.ready md ops listed = [] → Q .normal a w) ∧
  ∀ i ∈ Region.ready md ops listed, wpOp P ops Q i (fun a' w' => (pastB tail (listed.setIfInBounds i true) = false → S w') ∧ wpAnyT P md ops Q S tail fuel (listed.setIfInBounds i true) a' w') a w

theorem wpAny_of_T : ∀ (fuel : Nat) (listed : Array Bool) (a : Act) (w : World), wpAnyT P md ops Q S tail fuel listed a w → wpAny P md ops Q fuel listed a w
 | 0, _, _, _, h => h
 | fuel + 1, _, _, _, h => ⟨h.1, fun i hi => wpOp_mono (fun a' w' h' => wpAny_of_T fuel _ a' w' h'.2) (h.2 i hi)⟩

/-- what can come up while number i has not: all that are in R -/
def lowB (md : Region.Mode) (ops : Array Oper) (i : Nat) (listed R : Array Bool) (tail : List Nat) : Bool :=
 ((List.range ops.size).all fun k => k == i || R.getD k false || match ops[k]? with
  | some o => o.after.any fun e => Region.binds md e && !R.getD e.on false
  | none => true) && ((List.range ops.size).all fun k => !listed.getD k false || R.getD k false) && tail.all fun t => !R.getD t false && decide (t < ops.size) && t != i
/-- these -/
def grow1 (md : Region.Mode) (ops : Array Oper) (i : Nat) (R : Array Bool) : Array Bool :=
 (Array.range ops.size).map fun k => R.getD k false || (k != i && match ops[k]? with
  | some o => o.after.all fun e => !Region.binds md e || R.getD e.on false
  | none => false)
def lowSet (md : Region.Mode) (ops : Array Oper) (i : Nat) (listed : Array Bool) : Nat → Array Bool
 | 0 => listed
 | n + 1 => grow1 md ops i (lowSet md ops i listed n)
def lateB (md : Region.Mode) (ops : Array Oper) (i : Nat) (listed : Array Bool) (tail : List Nat) : Bool := lowB md ops i listed (lowSet md ops i listed ops.size) tail

structure Low (md : Region.Mode) (ops : Array Oper) (i : Nat) (R : Array Bool) (tail : List Nat) : Prop where
 up : ∀ (k : Nat) (o : Oper), ops[k]? = some o → k ≠ i → (∀ e ∈ o.after, Region.binds md e = true → R.getD e.on false = true) → R.getD k false = true
 out : ∀ t ∈ tail, R.getD t false = false
 ne : ∀ t ∈ tail, t ≠ i
theorem lowB_spec {i : Nat} {listed R : Array Bool} (h : lowB md ops i listed R tail = true) : Low md ops i R tail ∧ ∀ k, k < ops.size → listed.getD k false = true → R.getD k false = true := by
 unfold lowB at h
 simp only [Bool.and_eq_true, List.all_eq_true, List.mem_range] at h
 obtain ⟨⟨h1, h2⟩, h3⟩ := h
 refine ⟨⟨fun k o ho hk hd => ?_, fun t ht => by have := (h3 t ht).1.1; simpa using this, fun t ht => by have := (h3 t ht).2; simpa using this⟩, fun k hk hl => ?_⟩
 ·have hks : k < ops.size := by
   rcases Nat.lt_or_ge k ops.size with h' | h'
   ·exact h'
   ·rw [Array.getElem?_eq_none h'] at ho; cases ho
  have := h1 k hks
  rw [ho] at this
  simp only [Bool.or_eq_true, beq_iff_eq] at this
  rcases this with (rfl | h') | h'
  ·exact absurd rfl hk
  ·exact h'
  ·simp only [Array.any_eq_true, Bool.and_eq_true, Bool.not_eq_true'] at h'
   obtain ⟨x, hx, hb⟩ := h'
   rw [hd _ (Array.getElem_mem hx) hb.1] at hb
   cases hb.2
 ·have := h2 k hk
  rw [hl] at this
  simpa using this

theorem low_step {i j : Nat} {listed R : Array Bool} (hL : Low md ops i R tail) (hsub : ∀ k, k < ops.size → listed.getD k false = true → R.getD k false = true) (hbd : ∀ (k : Nat) (o : Oper), ops[k]? = some o → ∀ e ∈ o.after, Region.binds md e = true → e.on < ops.size)
  (hj : j ∈ Region.ready md ops listed) (hji : j ≠ i) : R.getD j false = true ∧ ∀ k, k < ops.size → (listed.setIfInBounds j true).getD k false = true → R.getD k false = true := by
 obtain ⟨-, oj, hoj, hall⟩ := mem_ready.1 hj
 have hR : R.getD j false = true := hL.up j oj hoj hji fun e he hb => hsub e.on (hbd j oj hoj e he hb) (hall e he hb)
 refine ⟨hR, fun k hk hl => ?_⟩
 by_cases e : j = k
 ·subst e; exact hR
 ·rw [getD_set_ne false e] at hl; exact hsub k hk hl

theorem past_false {R listed : Array Bool} {i : Nat} (hL : Low md ops i R tail) (ht : ∀ t ∈ tail, t < ops.size) (hsub : ∀ k, k < ops.size → listed.getD k false = true → R.getD k false = true) : pastB tail listed = false := by
 unfold pastB
 rw [List.any_eq_false]
 intro t htl hh
 have := hsub t (ht t htl) hh
 rw [hL.out t htl] at this
 cases this

theorem wpAnyT_first {i : Nat} {oi : Oper} {v : Value} (hi : ops[i]? = some oi) (hsel : ∀ (j : Nat) (o : Oper) cs b, ops[j]? = some o → o.op ≠ .select cs b)
  (hQ : ∀ c a w, Q (.panic c) (a.put oi.dst v) w → Q (.panic c) a w) {R : Array Bool} (hL : Low md ops i R tail) (ht : ∀ t ∈ tail, t < ops.size) (hbd : ∀ (k : Nat) (o : Oper), ops[k]? = some o → ∀ e ∈ o.after, Region.binds md e = true → e.on < ops.size) :
  ∀ (fuel : Nat) (listed : Array Bool) (a : Act) (w : World),
   (∀ j oj, ops[j]? = some oj → j ≠ i → listed.getD j true = false → (∀ e ∈ oj.after, Region.binds md e = true → e.on ≠ i) → oi.apart ops oj = true) →
   i ∈ Region.ready md ops listed → YieldsIf P ops S oi v a → S w → (∀ k, k < ops.size → listed.getD k false = true → R.getD k false = true) →
   wpAnyT P md ops Q S tail fuel (listed.setIfInBounds i true) (a.put oi.dst v) w → wpAnyT P md ops Q S tail (fuel + 1) listed a w := by
 intro fuel
 induction fuel with
 | zero =>
  intro listed a w _ hr hy hS hsub H
  refine ⟨fun h => (by rw [h] at hr; cases hr), fun j hj => ?_⟩
  by_cases hji : j = i
  ·subst hji; exact hy.wpOp hi hS ⟨fun _ => hS, H⟩
  ·have := ready_mono hj hji
   rw [H.1] at this
   cases this
 | succ fuel ih =>
  intro listed a w hfree hr hy hS hsub H
  refine ⟨fun h => (by rw [h] at hr; cases hr), fun j hj => ?_⟩
  by_cases hji : j = i
  ·subst hji; exact hy.wpOp hi hS ⟨fun _ => hS, H⟩
  ·have h1 := H.2 j (ready_mono hj hji)
   obtain ⟨hjun, oj, hoj, hall⟩ := mem_ready.1 hj
   have hnot : ∀ e ∈ oj.after, Region.binds md e = true → e.on ≠ i := fun e he hb heq => by
    have h1 := hall e he hb
    have h0 := (mem_ready.1 hr).1
    rw [heq] at h1
    rcases Nat.lt_or_ge i listed.size with h' | h'
    ·simp [h'] at h0 h1; rw [h0] at h1; cases h1
    ·simp [Array.getElem?_eq_none h'] at h1
   have h2 := wpOp_putIf hoj (hfree j oj hoj hji hjun hnot) (fun cs b => hsel i oi cs b hi) (fun cs b => hsel j oj cs b hoj) hQ hy h1
   have hfree' : ∀ k ok, ops[k]? = some ok → k ≠ i → (listed.setIfInBounds j true).getD k true = false →
     (∀ e ∈ ok.after, Region.binds md e = true → e.on ≠ i) → oi.apart ops ok = true := fun k ok hk hki hun hno => by
    refine hfree k ok hk hki ?_ hno
    by_cases hjk : j = k
    ·subst hjk; exact hjun
    ·rw [getD_set_ne true hjk] at hun; exact hun
   obtain ⟨-, hsub'⟩ := low_step hL hsub hbd hj hji
   have hp : pastB tail ((listed.setIfInBounds i true).setIfInBounds j true) = false := by
    have h0 := past_false hL ht hsub'
    rw [Array.setIfInBounds_comm _ _ (Ne.symm hji)]
    unfold pastB at h0 ⊢
    rw [List.any_eq_false] at h0 ⊢
    intro t htl hh
    rw [getD_set_ne false (Ne.symm (hL.ne t htl))] at hh
    exact h0 t htl hh
   refine wpOp_mono (fun a' w' h3 => ⟨fun _ => h3.2.1 hp, ih (listed.setIfInBounds j true) a' w' hfree' (ready_mono hr (Ne.symm hji)) h3.1 (h3.2.1 hp) hsub' ?_⟩) h2
   rw [Array.setIfInBounds_comm _ _ hji]
   exact h3.2.2

/-- every edge leads to an operation -/
def edgesB (md : Region.Mode) (ops : Array Oper) : Bool := ops.all fun o => o.after.all fun e => !Region.binds md e || decide (e.on < ops.size)
theorem edgesB_spec (h : edgesB md ops = true) : ∀ (k : Nat) (o : Oper), ops[k]? = some o → ∀ e ∈ o.after, Region.binds md e = true → e.on < ops.size := by
 intro k o ho e he hb
 have h1 := Array.all_eq_true_iff_forall_mem.1 h o (Array.mem_of_getElem? ho)
 have h2 := Array.all_eq_true_iff_forall_mem.1 h1 e he
 simpa [hb] using h2

/-- take number i first -/
theorem wpAnyT_take {i : Nat} {oi : Oper} {v : Value} {fuel : Nat} {listed : Array Bool} {a : Act} {w : World} (hi : ops[i]? = some oi)
  (hs : (Region.noSelect ops && edgesB md ops && Region.free md ops listed i && (Region.ready md ops listed).contains i && lateB md ops i listed tail) = true)
  (hQ : ∀ c a w, Q (.panic c) (a.put oi.dst v) w → Q (.panic c) a w) (hy : YieldsIf P ops S oi v a) (hS : S w)
  (h : wpAnyT P md ops Q S tail fuel (listed.setIfInBounds i true) (a.put oi.dst v) w) : wpAnyT P md ops Q S tail (fuel + 1) listed a w := by
 simp only [Bool.and_eq_true] at hs
 obtain ⟨⟨⟨⟨s1, s2⟩, s3⟩, s4⟩, s5⟩ := hs
 obtain ⟨hL, hsub⟩ := lowB_spec s5
 have ht : ∀ t ∈ tail, t < ops.size := fun t ht => by
  unfold lateB lowB at s5
  simp only [Bool.and_eq_true, List.all_eq_true] at s5
  simpa using (s5.2 t ht).1.2
 exact wpAnyT_first hi (Region.noSelect_spec s1) hQ hL ht (edgesB_spec s2) fuel listed a w (Region.free_spec hi s3) (by simpa using s4) hy hS hsub h

/-- what yields in whatever world: taken first, also where the condition holds no more -/
theorem wpAnyT_free {i : Nat} {oi : Oper} {v : Value} (hi : ops[i]? = some oi) (hsel : ∀ (j : Nat) (o : Oper) cs b, ops[j]? = some o → o.op ≠ .select cs b)
  (hQ : ∀ c a w, Q (.panic c) (a.put oi.dst v) w → Q (.panic c) a w) (hti : i ∉ tail) :
  ∀ (fuel : Nat) (listed : Array Bool) (a : Act) (w : World),
   (∀ j oj, ops[j]? = some oj → j ≠ i → listed.getD j true = false → (∀ e ∈ oj.after, Region.binds md e = true → e.on ≠ i) → oi.apart ops oj = true) →
   i ∈ Region.ready md ops listed → YieldsIf P ops (fun _ => True) oi v a → (pastB tail listed = false → S w) →
   wpAnyT P md ops Q S tail fuel (listed.setIfInBounds i true) (a.put oi.dst v) w → wpAnyT P md ops Q S tail (fuel + 1) listed a w := by
 have hpi : ∀ L : Array Bool, pastB tail (L.setIfInBounds i true) = pastB tail L := fun L => by
  unfold pastB
  rw [Bool.eq_iff_iff]
  simp only [List.any_eq_true]
  constructor
  ·rintro ⟨t, h1, h2⟩; exact ⟨t, h1, by rwa [getD_set_ne false (show i ≠ t from fun e => hti (by rw [e]; exact h1))] at h2⟩
  ·rintro ⟨t, h1, h2⟩; exact ⟨t, h1, by rwa [getD_set_ne false (show i ≠ t from fun e => hti (by rw [e]; exact h1))]⟩
 intro fuel
 induction fuel with
 | zero =>
  intro listed a w _ hr hy hS H
  refine ⟨fun h => (by rw [h] at hr; cases hr), fun j hj => ?_⟩
  by_cases hji : j = i
  ·subst hji; exact hy.wpOp hi trivial ⟨fun hp => hS (by rw [← hpi]; exact hp), H⟩
  ·have := ready_mono hj hji
   rw [H.1] at this
   cases this
 | succ fuel ih =>
  intro listed a w hfree hr hy hS H
  refine ⟨fun h => (by rw [h] at hr; cases hr), fun j hj => ?_⟩
  by_cases hji : j = i
  ·subst hji; exact hy.wpOp hi trivial ⟨fun hp => hS (by rw [← hpi]; exact hp), H⟩
  ·have h1 := H.2 j (ready_mono hj hji)
   obtain ⟨hjun, oj, hoj, hall⟩ := mem_ready.1 hj
   have hnot : ∀ e ∈ oj.after, Region.binds md e = true → e.on ≠ i := fun e he hb heq => by
    have h1 := hall e he hb
    have h0 := (mem_ready.1 hr).1
    rw [heq] at h1
    rcases Nat.lt_or_ge i listed.size with h' | h'
    ·simp [h'] at h0 h1; rw [h0] at h1; cases h1
    ·simp [Array.getElem?_eq_none h'] at h1
   have h2 := wpOp_putIf hoj (hfree j oj hoj hji hjun hnot) (fun cs b => hsel i oi cs b hi) (fun cs b => hsel j oj cs b hoj) hQ hy h1
   have hfree' : ∀ k ok, ops[k]? = some ok → k ≠ i → (listed.setIfInBounds j true).getD k true = false →
     (∀ e ∈ ok.after, Region.binds md e = true → e.on ≠ i) → oi.apart ops ok = true := fun k ok hk hki hun hno => by
    refine hfree k ok hk hki ?_ hno
    by_cases hjk : j = k
    ·subst hjk; exact hjun
    ·rw [getD_set_ne true hjk] at hun; exact hun
   refine wpOp_mono (fun a' w' h3 => ⟨fun hp => h3.2.1 (by rw [Array.setIfInBounds_comm _ _ (Ne.symm hji), hpi]; exact hp), ih (listed.setIfInBounds j true) a' w' hfree' (ready_mono hr (Ne.symm hji)) h3.1 (fun hp => h3.2.1 (by rw [Array.setIfInBounds_comm _ _ (Ne.symm hji), hpi]; exact hp)) ?_⟩) h2
   rw [Array.setIfInBounds_comm _ _ hji]
   exact h3.2.2
theorem wpAnyT_any {i : Nat} {oi : Oper} {v : Value} {fuel : Nat} {listed : Array Bool} {a : Act} {w : World} (hi : ops[i]? = some oi)
  (hs : (Region.noSelect ops && Region.free md ops listed i && (Region.ready md ops listed).contains i && !tail.contains i) = true)
  (hQ : ∀ c a w, Q (.panic c) (a.put oi.dst v) w → Q (.panic c) a w) (hy : YieldsIf P ops (fun _ => True) oi v a) (hS : pastB tail listed = false → S w)
  (h : wpAnyT P md ops Q S tail fuel (listed.setIfInBounds i true) (a.put oi.dst v) w) : wpAnyT P md ops Q S tail (fuel + 1) listed a w := by
 simp only [Bool.and_eq_true] at hs
 obtain ⟨⟨⟨s1, s2⟩, s3⟩, s4⟩ := hs
 exact wpAnyT_free hi (Region.noSelect_spec s1) hQ (by simpa using s4) fuel listed a w (Region.free_spec hi s2) (by simpa using s3) hy hS h

/-- one alone may come up: not one of the last -/
theorem wpAnyT_one {i : Nat} {o : Oper} {fuel : Nat} {listed : Array Bool} {a : Act} {w : World} (ho : ops[i]? = some o) (hr : Region.ready md ops listed = [i])
  (h : ∀ K' : Act → World → Prop, Shut (∀ a w, S w → (S w → wpAnyT P md ops Q S tail fuel (listed.setIfInBounds i true) a w) → K' a w) → if Region.wanted o (yielded ops a.tmps) = true then Oper.wp P o a w K' Q else K' (a.put o.dst undef) w) :
  wpAnyT P md ops Q S tail (fuel + 1) listed a w := by
 refine ⟨fun h0 => (by rw [h0] at hr; cases hr), fun j hj => ?_⟩
 rw [hr] at hj
 obtain rfl : j = i := by simpa using hj
 exact wpOp_step ho (fun K' hK => h K' (fun a w hS hW => hK a w ⟨fun _ => hS, hW hS⟩))
/-- one alone may come up: one of the last, or behind them -/
theorem wpAnyT_last {i : Nat} {o : Oper} {fuel : Nat} {listed : Array Bool} {a : Act} {w : World} (ho : ops[i]? = some o) (hr : Region.ready md ops listed = [i]) (hp : pastB tail (listed.setIfInBounds i true) = true)
  (h : ∀ K' : Act → World → Prop, Shut (∀ a w, wpAnyT P md ops Q S tail fuel (listed.setIfInBounds i true) a w → K' a w) → if Region.wanted o (yielded ops a.tmps) = true then Oper.wp P o a w K' Q else K' (a.put o.dst undef) w) :
  wpAnyT P md ops Q S tail (fuel + 1) listed a w := by
 refine ⟨fun h0 => (by rw [h0] at hr; cases hr), fun j hj => ?_⟩
 rw [hr] at hj
 obtain rfl : j = i := by simpa using hj
 exact wpOp_step ho (fun K' hK => h K' (fun a w hW => hK a w ⟨fun h => (by rw [hp] at h; cases h), hW⟩))
theorem wpAnyT_done {listed : Array Bool} {a : Act} {w : World} (hr : Region.ready md ops listed = []) (h : Q .normal a w) :
  ∀ fuel, wpAnyT P md ops Q S tail fuel listed a w
 | 0 => ⟨hr, h⟩
 | _ + 1 => ⟨fun _ => h, by rw [hr]; simp⟩
theorem wp_region_T (S : World → Prop) (tail : List Nat) {id : Nat} {a : Act} {w : World} (hm : P.follows .mixedOrders = true) (hS : S w.drew)
  (h : S w.drew → wpAnyT P .any ops Q S tail ops.size (Array.replicate ops.size false) a w.drew) : (Code.region id ops true).wp P Q a w :=
 wp_region_any hm (wpAny_of_T _ _ _ _ (h hS))
end
end Go.Proofs.YtnhdohednekhjaaGreatDoor
