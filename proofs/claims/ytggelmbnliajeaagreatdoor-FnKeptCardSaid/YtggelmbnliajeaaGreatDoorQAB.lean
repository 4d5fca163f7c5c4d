/-
Contracts: the list of an index.
Contracts: valid relations and templates, in the program and in the reference.
Contracts: valid relations and templates (the program's), valid templates (the reference's).
Contracts: what a number of a relation tells; atoms' places; counts of formulas.
Contracts: valid instances and formulas, the program's.
Contracts: valid instances and formulas, the reference's.
Contracts: valid operations.
Contracts: the tuple that an operation makes of tuples.
The order of tuples; tuples at places; search in a relation.
Contracts: the tuple that an operation makes of tuples, the reference's.
Rows whose elements point into older memory of the call's own: they read as new data. No program is named here.
Rows of truth values; rows of slices that lie in older memory; indices of lists are one to one.
Plain: a relation that has all tuples; what an operation makes of tuples of a relation; whether it keeps the relation.
Contracts: the set of a relation's tuples, the reference's.
Contracts: the set of a relation's tuples, filled.
Constraints that hold for values: the program's and the reference's.
-/
import Derived.Test.YtggelmbnliajeaaGreatDoorQAA
import Derived.Laws.OwnMore
import Derived.Deep.RegionHeldLaw
namespace Go.Proofs.YtggelmbnliajeaaGreatDoor
open Go.RowKit Go.Sort
/-- a row of numbers of the call's own, made and then written at places -/
def IR (e base : Nat) (w : World) (g n cap : Nat) (L : List Int) : Prop := L.length = n ∧ (∀ a ∈ L, I64 a) ∧ base ≤ g ∧ w.ownsRow base e 1 (.slice (some ⟨g, 0, none⟩) n cap) n (L.map (Value.int .i64))
section
variable {e base g n cap : Nat} {w w' : World} {L : List Int}
theorem IR.cell (h : IR e base w g n cap L) {j : Nat} (hj : j < n) : ∃ u, w.cell? ⟨g, j, none⟩ = some u := by
 rw [World.ownsRow.cellAt h.2.2.2 j (by omega)]
 exact ⟨_, List.getElem?_eq_getElem (by rw [List.length_map, h.1]; exact hj)⟩
theorem IR.free (h : IR e base w g n cap L) (j : Nat) : w.frozen? ⟨g, j, none⟩ = false := World.ownsRow.frozenAt h.2.2.2 j
theorem IR.lt (h : IR e base w g n cap L) : g < w.heap.size := (h.2.2.2.lt g rfl).2
theorem IR.set (h : IR e base w g n cap L) (j : Nat) {a : Int} (ha : I64 a) : IR e base (w.setCell ⟨g, j, none⟩ (.int .i64 a)) g n cap (L.set j a) := by
 refine ⟨by rw [List.length_set]; exact h.1, fun b hb => ?_, h.2.2.1, ?_⟩
 ·rcases List.mem_or_eq_of_mem_set hb with hb | rfl
  ·exact h.2.1 b hb
  ·exact ha
 ·rw [List.map_set]
  exact (h.2.2.2.stored j _).1
theorem IR.fr (h : IR e base w g n cap L) (hl : n ≤ capMax) : intsT.Fr base w [.slice (some ⟨g, 0, none⟩) n cap] L := by
 obtain ⟨h1, h2, h3, h4⟩ := h
 subst h1
 have hlt := (h4.lt g rfl).2
 have hfl : flat (fun _ => []) L.length = [] := List.eq_nil_iff_forall_not_mem.2 fun x hx => by obtain ⟨_, _, h⟩ := List.mem_flatMap.1 hx; cases h
 refine Bl.fr (E := Ty.int) (e := e) (top := w.heap.size) ⟨L.map (Value.int .i64), fun _ => [], h4, fun i hi => ⟨[.int .i64 L[i]], ⟨rfl, h2 _ (List.getElem_mem hi), rfl⟩, fun j hj => ?_⟩, by rw [hfl]; exact List.nodup_nil, by rw [hfl]; simp, fun g' hg' => ?_, by rw [hfl]; intro b hb; cases hb⟩ hl
 ·obtain rfl : j = 0 := by simpa using hj
  simp [Ty.int, hi]
 ·simp [Value.ownBlock] at hg'
  omega
end
theorem wpList_mkI {P : Program} (w : World) {ops : Array Oper} {rest : List Oper} {o : Oper} {a : Act} {Q : Exit → Act → World → Prop} (hg : o.guard = none) (l c : Operand) (t e : TypeId) {bytes : Nat}
  (hop : o.op = Op.makeSlice t l c) (ht : P.underlying t = some (.slice e)) (hinfo : (P.info? e).map (fun i => (i.zero, i.size, i.bytes)) = some (some (.int .i64 0), 1, bytes)) (base : Nat) (n : Nat) (hl : a.eval l = .int .i64 (n : Int)) (hc : a.eval c = .int .i64 (n : Int)) (hn : n ≤ 1000000000) (hby : bytes ≤ 100000) (hb : base ≤ w.heap.size)
  (hK : ∀ w', IR e base w' w.heap.size n n (List.replicate n 0) → w.grownBy w' none → w'.heap.size = w.heap.size + 1 → wpList P ops Q rest (a.put o.dst (.slice (some ⟨w.heap.size, 0, none⟩) n n)) w') :
  wpList P ops Q (o :: rest) a w := by
 obtain ⟨i, hi, hz, hsz, hbt'⟩ := info_parts hinfo
 have hlen' : bytes * n ≤ 281474976710656 := Nat.le_trans (Nat.mul_le_mul hby hn) (by decide)
 refine wpList_plain hg fun K hK' => ?_
 have hb48 : (i.bytes : Int) * (n : Int) ≤ 281474976710656 := by
  have h : ((bytes * n : Nat) : Int) ≤ 281474976710656 := by omega
  rw [hbt']
  rwa [Int.natCast_mul] at h
 have hr := run_make (P := P) w t e i (.int .i64 0) ht hi hz .i64 .i64 (n : Int) (n : Int) (by omega) (Int.le_refl _) hb48 (by omega)
 simp only [Int.toNat_natCast] at hr
 unfold Oper.wp
 simp only [execOp, hop, hl, hc, hr, Result.andThen_ok, Sem.run_bind, Sem.run_pure]
 have hown := World.ownsRow_lit (base := base) (e := e) (size := 1) w (madeCells (Value.int .i64 0).cells (n * i.size)) n hb (by unfold maxLen; omega) (by rw [size_madeCells, hsz])
 refine hK' _ _ (hK _ ⟨by simp, fun a ha => ?_, hb, ?_⟩ (World.grownBy_alloc w _ none) (by simp))
 ·rw [List.eq_of_mem_replicate ha]; exact I64.small (by omega) (by omega)
 ·have e1 : (madeCells (Value.int .i64 0).cells (n * i.size)).toList = (List.replicate n (0 : Int)).map (Value.int .i64) := by
   rw [hsz, Nat.mul_one, List.map_replicate]
   have hc0 : (Value.int .i64 0).cells = #[.int .i64 0] := by simp [Value.cells]
   rw [hc0]
   exact toList_madeCells_one (.int .i64 0) n
  rw [← e1]
  exact hown
def dig (s idx : Int) (j : Nat) : Int := (idx / s ^ j) % s
def digL (s idx : Int) (n : Nat) : List Int := (List.range n).map fun i => dig s idx (n - 1 - i)
theorem digL_len {s idx : Int} {n : Nat} : (digL s idx n).length = n := by simp [digL]
theorem dig_nn {s idx : Int} (hs : 1 ≤ s) (j : Nat) : 0 ≤ dig s idx j ∧ dig s idx j < s := ⟨Int.emod_nonneg _ (by omega), Int.emod_lt_of_pos _ (by omega)⟩
theorem quo_nn {s idx : Int} (hs : 1 ≤ s) (h : 0 ≤ idx) (j : Nat) : 0 ≤ idx / s ^ j ∧ idx / s ^ j ≤ idx := by
 have h1 : 0 ≤ s ^ j := pow_nn (by omega) j
 exact ⟨Int.ediv_nonneg h h1, Int.ediv_le_self _ h⟩
theorem quo_succ {s idx : Int} (hs : 1 ≤ s) (j : Nat) : idx / s ^ j / s = idx / s ^ (j + 1) := by
 rw [Int.pow_succ, Int.ediv_ediv_of_nonneg (pow_nn (by omega) j)]
theorem infoInt : (Tryz.prog.info? 2).map (fun i => (i.zero, i.size, i.bytes)) = some (some (.int .i64 0), 1, 8) := by kernel_rfl
set_option maxHeartbeats 800000 in
set_option maxRecDepth 100000 in
theorem listOf_any (w : World) (s idx : Int) (n : Nat) (hs : 1 ≤ s) (hs1 : s ≤ 1000) (hn : n ≤ 5) (h0 : 0 ≤ idx) (h1 : idx ≤ 1000000000000000) :
  Calls Tryz.prog 118 #[.int .i64 s, .int .i64 n, .int .i64 idx] w (RetS intsT w (digL s idx n)) := by
 go_enter Tryz.func118, Tryz.ntmps118
 go_wp2_with (refine wpList_mkI _ rfl _ _ 42 2 rfl Tryz.underlying42 infoInt w.heap.size n rfl rfl (by omega) (by decide) (by simp) ?_; intro w1 hA hg1 hs1)
 have hb1 := below_of_grown hg1
 go_loopw [8, 2] (fun i q wr => ∃ (k : Nat) (L : List Int), k ≤ n ∧ i = .int .i64 ((n : Int) - 1 - k) ∧ q = .int .i64 (idx / s ^ k) ∧ IR 2 w.heap.size wr w.heap.size n n L ∧ (∀ (j : Nat) (h : j < L.length), n - k ≤ j → L[j] = dig s idx (n - 1 - j)) ∧ Below w.heap.size w wr) (fun i _ _ => ((intOf i) + 1).toNat)
 case atStart => exact ⟨0, _, Nat.zero_le _, by simp, by simp, hA, fun j h hj => by simp at h; omega, hb1⟩
 case round =>
  obtain ⟨k, L, hk, rfl, rfl, hIR, hL, hbel⟩ := hrel
  have hLl := hIR.1
  by_cases hkl : k < n
  ·obtain ⟨j, hj⟩ : ∃ j : Nat, (n : Int) - 1 - k = j := ⟨n - 1 - k, by omega⟩
   have hjn : j < n := by omega
   have hjk : n - 1 - j = k := by omega
   obtain ⟨u0, d0⟩ := hIR.cell hjn
   have d1 := hIR.free j
   have hg := hIR.lt
   have hd := dig_nn (idx := idx) hs k
   have hq := quo_nn hs h0 k
   have hIs := hIR.set j (I64.small (n := dig s idx k) (by omega) (by omega))
   have HQ := Lib.hid (quo_succ (idx := idx) hs k)
   have HDG : Hid ((idx / s ^ k) % s = dig s idx k) := rfl
   have HIS := Lib.hid hIs
   have HLL := Lib.hid hL
   have HIR := Lib.hid hIR
   clear hIs hL hIR hA
   rw [hj]
   go_wp2_with fail
   refine ⟨⟨k + 1, L.set j (dig s idx k), by omega, congrArg _ (by omega), by rw [HQ.out], HIS.out, fun j' h hj' => ?_, hbel.setCell (Nat.le_refl _) _⟩, by simp [intOf]⟩
   by_cases e : j = j'
   ·subst e
    rw [List.getElem_set_self, hjk]
   ·rw [List.getElem_set_ne e]
    exact HLL.out j' (by simpa using h) (by omega)
  ·obtain rfl : k = n := by omega
   have hfr := Lib.hid (hIR.fr (by unfold capMax; omega))
   have HE : Hid (L = digL s idx k) := List.ext_getElem (by rw [hLl, digL_len]) fun j h h' => by rw [hL j h (by omega)]; simp [digL]
   clear hIR hL hA
   go_wp2_with fail
   go_ret
   exact ⟨_, rfl, by rw [← HE.out]; exact hfr.out, hbel⟩
set_option maxHeartbeats 800000 in
set_option maxRecDepth 100000 in
theorem l01Digits_any (w : World) (s idx : Int) (n : Nat) (hs : 1 ≤ s) (hs1 : s ≤ 1000) (hn : n ≤ 5) (h0 : 0 ≤ idx) (h1 : idx ≤ 1000000000000000) :
  Calls Tryz.prog 95 #[.int .i64 s, .int .i64 n, .int .i64 idx] w (RetS intsT w (digL s idx n)) := by
 go_enter Tryz.func95, Tryz.ntmps95
 go_wp2_with (refine wpList_mkI _ rfl _ _ 42 2 rfl Tryz.underlying42 infoInt w.heap.size n rfl rfl (by omega) (by decide) (by simp) ?_; intro w1 hA hg1 hs1)
 have hb1 := below_of_grown hg1
 go_loopw [8, 2] (fun i q wr => ∃ (k : Nat) (L : List Int), k ≤ n ∧ i = .int .i64 ((n : Int) - 1 - k) ∧ q = .int .i64 (idx / s ^ k) ∧ IR 2 w.heap.size wr w.heap.size n n L ∧ (∀ (j : Nat) (h : j < L.length), n - k ≤ j → L[j] = dig s idx (n - 1 - j)) ∧ Below w.heap.size w wr) (fun i _ _ => ((intOf i) + 1).toNat)
 case atStart => exact ⟨0, _, Nat.zero_le _, by simp, by simp, hA, fun j h hj => by simp at h; omega, hb1⟩
 case round =>
  obtain ⟨k, L, hk, rfl, rfl, hIR, hL, hbel⟩ := hrel
  have hLl := hIR.1
  by_cases hkl : k < n
  ·obtain ⟨j, hj⟩ : ∃ j : Nat, (n : Int) - 1 - k = j := ⟨n - 1 - k, by omega⟩
   have hjn : j < n := by omega
   have hjk : n - 1 - j = k := by omega
   obtain ⟨u0, d0⟩ := hIR.cell hjn
   have d1 := hIR.free j
   have hg := hIR.lt
   have hd := dig_nn (idx := idx) hs k
   have hq := quo_nn hs h0 k
   have hIs := hIR.set j (I64.small (n := dig s idx k) (by omega) (by omega))
   have HQ := Lib.hid (quo_succ (idx := idx) hs k)
   have HDG : Hid ((idx / s ^ k) % s = dig s idx k) := rfl
   have HIS := Lib.hid hIs
   have HLL := Lib.hid hL
   have HIR := Lib.hid hIR
   clear hIs hL hIR hA
   rw [hj]
   go_wp2_with fail
   refine ⟨⟨k + 1, L.set j (dig s idx k), by omega, congrArg _ (by omega), by rw [HQ.out], HIS.out, fun j' h hj' => ?_, hbel.setCell (Nat.le_refl _) _⟩, by simp [intOf]⟩
   by_cases e : j = j'
   ·subst e
    rw [List.getElem_set_self, hjk]
   ·rw [List.getElem_set_ne e]
    exact HLL.out j' (by simpa using h) (by omega)
  ·obtain rfl : k = n := by omega
   have hfr := Lib.hid (hIR.fr (by unfold capMax; omega))
   have HE : Hid (L = digL s idx k) := List.ext_getElem (by rw [hLl, digL_len]) fun j h h' => by rw [hL j h (by omega)]; simp [digL]
   clear hIR hL hA
   go_wp2_with fail
   go_ret
   exact ⟨_, rfl, by rw [← HE.out]; exact hfr.out, hbel⟩
end Go.Proofs.YtggelmbnliajeaaGreatDoor
namespace Go.Proofs.YtggelmbnliajeaaGreatDoor
open Go.RowKit Go.Sort
set_option maxHeartbeats 400000 in
theorem l01Before_quiet (w : World) {v u : Value} {xs ys : List Int} (h : intsT.Rd w [v] xs) (h' : intsT.Rd w [u] ys) (hn : xs.length ≤ ys.length) (hs : xs.length = ys.length) :
  Calls Tryz.prog 133 #[v, u] w fun e w' => e = .returned (.bool (tb (ltL xs ys))) ∧ Quiet w w' := by
 obtain ⟨ad, cap, hv, hl, hc, hcell⟩ := ints_ex h
 obtain ⟨ad', cap', hv', hl', hc', hcell'⟩ := ints_ex h'
 obtain rfl : v = _ := by simpa using hv
 obtain rfl : u = _ := by simpa using hv'
 have HS := Lib.hid hs
 clear h hv h' hv' hs
 go_enter Tryz.func133, Tryz.ntmps133
 go_wp2_with fail
 go_loopw [5] (fun i wr => ∃ k : Nat, k ≤ xs.length ∧ i = .int .i64 k ∧ xs.take k = ys.take k ∧ Quiet w wr) (fun i _ => xs.length - (intOf i).toNat)
 case atStart => exact ⟨0, Nat.zero_le _, rfl, rfl, Quiet.refl _⟩
 case round =>
  obtain ⟨k, hk, rfl, ht, nq, rfl⟩ := hrel
  have HT := Lib.hid ht
  clear ht
  by_cases hkl : k < xs.length
  ·have hkl' : k < ys.length := by omega
   obtain ⟨b, o, rfl, hb, hce⟩ := hcell (by omega)
   obtain ⟨b', o', rfl, hb', hce'⟩ := hcell' (by omega)
   have d0 := (hce k hkl).2
   have d1 := (hce' k hkl').2
   clear hce hce' hcell hcell'
   cases hq : (xs[k] != ys[k])
   ·go_wp2_with fail
    go_quiet (fail)
    go_wp2_with fail
    go_roundw
    case rel => exact ⟨k + 1, by omega, by go_num, take_eq_succ hkl hkl' HT.out (by simpa using hq), (by first | exact Quiet.refl _ | exact Quiet.drewN _ _ | exact (Quiet.drewN _ _).then (Quiet.drewN _ _) | exact ((Quiet.drewN _ _).then (Quiet.drewN _ _)).then (Quiet.drewN _ _))⟩
    case measure => simp [intOf]; omega
   ·have hc := cmpL_ne HT.out hkl hkl' (by simpa using hq)
    have hr : decide (xs[k] < ys[k]) = tb (ltL xs ys) := by
     rw [Bool.eq_iff_iff, tb_iff, ltL, hc, decide_eq_true_iff]
     rcases ilt xs[k] ys[k] with h | h
     ·rw [cmpI_lt h]; simp [h]
     ·have hne : xs[k] ≠ ys[k] := by simpa using hq
      rw [cmpI_gt (by omega)]; simp; omega
    have HR := Lib.hid hr
    clear hr hc
    go_wp2_with fail
    go_quiet (fail)
    go_wp2_with fail
    go_quiet (fail)
    go_wp2_with fail
    go_ret
    exact ⟨ret_bool HR.out, (by first | exact Quiet.refl _ | exact Quiet.drewN _ _ | exact (Quiet.drewN _ _).then (Quiet.drewN _ _) | exact ((Quiet.drewN _ _).then (Quiet.drewN _ _)).then (Quiet.drewN _ _))⟩
  ·obtain rfl : k = xs.length := by omega
   go_wp2_with fail
   go_ret
   have e : xs = ys := by have := HT.out; rwa [List.take_length, HS.out, List.take_length] at this
   exact ⟨ret_bool (tb_false (by rw [e, ltL, cmpL_self]; omega)).symm, (by first | exact Quiet.refl _ | exact Quiet.drewN _ _ | exact (Quiet.drewN _ _).then (Quiet.drewN _ _) | exact ((Quiet.drewN _ _).then (Quiet.drewN _ _)).then (Quiet.drewN _ _))⟩
set_option maxHeartbeats 1600000 in
theorem l01Ok_quiet (w : World) {v : Value} {r : Int × List (List Int)} (h : relT.Pt w v r) (size : Int) :
  Calls Tryz.prog 119 #[.int .i64 size, v] w fun e w' => e = .returned (.bool (tb (relOk size r))) ∧ Quiet w w' := by
 obtain ⟨b, o, ad, cap, rfl, hb, hI, c0, c1, hx⟩ := pt_pair h
 clear h
 cases hs : inB size 1 4
 ·go_enter Tryz.func119, Tryz.ntmps119
  go_wp2_with (go_at_call 75; refine (l01Size_any _ _).mono ?_; rintro e w' ⟨rfl, rfl⟩)
  go_ret
  exact ⟨ret_bool (tb_false (fun hr => by have := inB_true.2 hr.1; rw [hs] at this; cases this)).symm, Quiet.refl _⟩
 cases ha : inB r.1 1 4
 ·go_enter Tryz.func119, Tryz.ntmps119
  go_wp2_with (first | (go_at_call 75; refine (l01Size_any _ _).mono ?_; rintro e w' ⟨rfl, rfl⟩) | (go_at_call 76; refine (l01Arity_any _ _).mono ?_; rintro e w' ⟨rfl, rfl⟩))
  go_ret
  exact ⟨ret_bool (tb_false (fun hr => by have := inB_true.2 hr.2.1; rw [ha] at this; cases this)).symm, Quiet.refl _⟩
 have hs' := inB_true.1 hs
 have ha' := inB_true.1 ha
 obtain ⟨_, _, e1, hle, hle2, hcell⟩ := slices_ex hx
 simp only [List.cons.injEq, Value.slice.injEq, and_true, true_and] at e1
 obtain ⟨rfl, rfl⟩ := e1
 go_enter Tryz.func119, Tryz.ntmps119
 go_wp2_with (first | (go_at_call 75; refine (l01Size_any _ _).mono ?_; rintro e w' ⟨rfl, rfl⟩) | (go_at_call 76; refine (l01Arity_any _ _).mono ?_; rintro e w' ⟨rfl, rfl⟩))
 go_loopw [5] (fun i wr => ∃ k : Nat, k ≤ r.2.length ∧ i = .int .i64 k ∧ relUp size r k ∧ Quiet w wr) (fun i _ => r.2.length - (intOf i).toNat)
 case atStart => exact ⟨0, Nat.zero_le _, rfl, relUp_zero _ _, Quiet.refl _⟩
 case round =>
  obtain ⟨k, hk, rfl, ht, hqw⟩ := hrel
  have HT := Lib.hid ht
  have d0 := (hqw.below.cell hb).trans c0
  have d1 := (hqw.below.cell hb).trans c1
  clear ht c0 c1
  by_cases hkl : k < r.2.length
  ·obtain ⟨a, q, rfl, haa, hce⟩ := hcell (by omega)
   obtain ⟨u, hu, f0⟩ := hce k hkl
   have g0 := (hqw.below.cell haa).trans f0
   have hu' := hu.below hqw.below
   have cT : ∀ n, Calls Tryz.prog 90 #[.int .i64 size, .int .i64 r.1, u] (wr.drewN n) fun e w'' => e = .returned (.bool (tb (rowOk size r.1 r.2[k]))) ∧ ∃ m, w'' = wr.drewN m := fun n =>
    quiet_call ((l01Tuple_any _ _ _ (hu'.below (Quiet.drewN wr n).below) (by omega) (by omega)).mono fun _ _ ⟨p, q⟩ => ⟨p, q ▸ Quiet.refl _⟩)
   cases hr : tb (rowOk size r.1 r.2[k])
   ·rw [hr] at cT
    clear hcell hce
    go_wp2_with fail
    go_quiet (exact cT _)
    go_wp2_with fail
    go_ret
    exact ⟨ret_bool (tb_false (fun hh => by have := tb_true (hh.2.2 k hkl).1; rw [hr] at this; cases this)).symm, hqw.then (by first | exact Quiet.refl _ | exact Quiet.drewN _ _ | exact (Quiet.drewN _ _).then (Quiet.drewN _ _) | exact ((Quiet.drewN _ _).then (Quiet.drewN _ _)).then (Quiet.drewN _ _))⟩
   have hrow := tb_iff.1 hr
   have HROW := Lib.hid hrow
   rw [hr] at cT
   clear hrow
   by_cases h0 : k = 0
   ·have H0 := Lib.hid h0
    have hg : decide (0 < k) = false := by rw [h0]; rfl
    clear hcell hce h0
    go_wp2_with fail
    go_quiet (exact cT _)
    go_wp2_with fail
    go_roundw
    case rel => exact ⟨k + 1, by omega, by go_num, relUp_succ hkl HT.out HROW.out (fun h => by have := H0.out; omega), hqw.then (by first | exact Quiet.refl _ | exact Quiet.drewN _ _ | exact (Quiet.drewN _ _).then (Quiet.drewN _ _) | exact ((Quiet.drewN _ _).then (Quiet.drewN _ _)).then (Quiet.drewN _ _))⟩
    case measure => simp [intOf]; omega
   ·have h1 : k - 1 < r.2.length := by omega
    obtain ⟨u1, hu1, f1⟩ := hce (k - 1) h1
    have g1 := (hqw.below.cell haa).trans f1
    have hu1' := hu1.below hqw.below
    have hg : decide (0 < k) = true := by simp; omega
    have hl1 : r.2[k - 1].length = r.2[k].length := by
     have p1 := (HT.out (k - 1) h1 (by omega)).1.1
     have p2 := HROW.out.1
     omega
    have cB : ∀ n, Calls Tryz.prog 133 #[u1, u] (wr.drewN n) fun e w'' => e = .returned (.bool (tb (ltL r.2[k - 1] r.2[k]))) ∧ ∃ m, w'' = wr.drewN m := fun n =>
     quiet_call (l01Before_quiet _ (hu1'.below (Quiet.drewN wr n).below) (hu'.below (Quiet.drewN wr n).below) (by omega) hl1)
    have HL := Lib.hid hl1
    clear hcell hce hl1
    go_wp2_with fail
    cases hlt : tb (ltL r.2[k - 1] r.2[k])
    ·rw [hlt] at cB
     go_quiet (first | exact cT _ | exact cB _)
     go_wp2_with fail
     go_ret
     exact ⟨ret_bool (tb_false (fun hh => by have := tb_true ((hh.2.2 k hkl).2 (by omega)); rw [hlt] at this; cases this)).symm, hqw.then (by first | exact Quiet.refl _ | exact Quiet.drewN _ _ | exact (Quiet.drewN _ _).then (Quiet.drewN _ _) | exact ((Quiet.drewN _ _).then (Quiet.drewN _ _)).then (Quiet.drewN _ _))⟩
    ·rw [hlt] at cB
     go_quiet (first | exact cT _ | exact cB _)
     go_wp2_with fail
     go_roundw
     case rel => exact ⟨k + 1, by omega, by go_num, relUp_succ hkl HT.out HROW.out (fun _ => tb_iff.1 hlt), hqw.then (by first | exact Quiet.refl _ | exact Quiet.drewN _ _ | exact (Quiet.drewN _ _).then (Quiet.drewN _ _) | exact ((Quiet.drewN _ _).then (Quiet.drewN _ _)).then (Quiet.drewN _ _))⟩
     case measure => simp [intOf]; omega
  ·obtain rfl : k = r.2.length := by omega
   go_wp2_with fail
   go_ret
   exact ⟨ret_bool (tb_true ⟨hs', ha', fun i h => HT.out i h h⟩).symm, hqw⟩
end Go.Proofs.YtggelmbnliajeaaGreatDoor
namespace Go.Proofs.YtggelmbnliajeaaGreatDoor
open Go.RowKit Go.Sort
theorem geq_cmp (xs ys : List Int) : decide (0 ≤ cmpL xs ys) = !tb (ltL xs ys) := by
 rw [tb_not, Bool.eq_iff_iff, tb_iff, ltL, decide_eq_true_iff]; omega
set_option maxHeartbeats 1600000 in
theorem ValidRel_any (w : World) {cs : Array Value} {r : Int × List (List Int)} (h : relT.Rd w cs.toList r) (size : Int) :
  Calls Tryz.prog 60 #[.int .i64 size, .agg cs] w fun e w' => e = .returned (.bool (tb (relOk size r))) ∧ Below w.heap.size w w' := by
 obtain ⟨v, hv, hI, hx⟩ := pair_ex h
 obtain rfl := agg_of hv
 obtain ⟨ad, cap, rfl⟩ := rd_slice hx
 clear h hv
 cases hs : inB size 1 4
 ·go_enter Tryz.func60, Tryz.ntmps60
  go_wp2_with (go_at_call 98; refine (isSize_any _ _).mono ?_; rintro e w' ⟨rfl, rfl⟩)
  go_ret
  exact ⟨ret_bool (tb_false (fun hr => by have := inB_true.2 hr.1; rw [hs] at this; cases this)).symm, (by repeat (first | exact Below.refl _ _ | exact bA | assumption | refine Below.setCell ?_ (by first | omega | (simp; try omega)) _ | refine Below.alloc ?_ (by first | omega | (simp; try omega)) _ | refine Below.drew ?_ | refine bDN ?_ | refine bthen ?_ (by assumption)))⟩
 cases ha : inB r.1 1 4
 ·go_enter Tryz.func60, Tryz.ntmps60
  go_wp2_with (first | (go_at_call 98; refine (isSize_any _ _).mono ?_; rintro e w' ⟨rfl, rfl⟩) | (go_at_call 44; refine (isArity_any _ _).mono ?_; rintro e w' ⟨rfl, rfl⟩))
  go_ret
  exact ⟨ret_bool (tb_false (fun hr => by have := inB_true.2 hr.2.1; rw [ha] at this; cases this)).symm, (by repeat (first | exact Below.refl _ _ | exact bA | assumption | refine Below.setCell ?_ (by first | omega | (simp; try omega)) _ | refine Below.alloc ?_ (by first | omega | (simp; try omega)) _ | refine Below.drew ?_ | refine bDN ?_ | refine bthen ?_ (by assumption)))⟩
 have hs' := inB_true.1 hs
 have ha' := inB_true.1 ha
 obtain ⟨_, _, e1, hle, hle2, hcell⟩ := slices_ex hx
 simp only [List.cons.injEq, Value.slice.injEq, and_true, true_and] at e1
 obtain ⟨rfl, rfl⟩ := e1
 go_enter Tryz.func60, Tryz.ntmps60
 go_wp2_with (first | (go_at_call 98; refine (isSize_any _ _).mono ?_; rintro e w' ⟨rfl, rfl⟩) | (go_at_call 44; refine (isArity_any _ _).mono ?_; rintro e w' ⟨rfl, rfl⟩))
 go_loopw [19] (fun i wr => ∃ k : Nat, k ≤ r.2.length ∧ i = .int .i64 k ∧ relUp size r k ∧ Below w.heap.size w wr ∧ w.heap.size < wr.heap.size ∧ wr.cell? ⟨w.heap.size, 0, none⟩ = some (.int .i64 r.1) ∧ wr.cell? ⟨w.heap.size, 1, none⟩ = some (.slice ad r.2.length cap)) (fun i _ => r.2.length - (intOf i).toNat)
 case atStart => exact ⟨0, Nat.zero_le _, rfl, relUp_zero _ _, (by repeat (first | exact Below.refl _ _ | exact bA | assumption | refine Below.setCell ?_ (by first | omega | (simp; try omega)) _ | refine Below.alloc ?_ (by first | omega | (simp; try omega)) _ | refine Below.drew ?_ | refine bDN ?_ | refine bthen ?_ (by assumption))), by simp, by simp, by simp⟩
 case round =>
  obtain ⟨k, hk, rfl, ht, hbel, hz, b0, b1⟩ := hrel
  have HT := Lib.hid ht
  clear ht
  by_cases hkl : k < r.2.length
  ·obtain ⟨a, q, rfl, haa, hce⟩ := hcell (by omega)
   obtain ⟨u, hu, f0⟩ := hce k hkl
   have g0 := (hbel.cell haa).trans f0
   cases hr : tb (rowOk size r.1 r.2[k])
   ·clear hcell hce
    go_wp2_with fail
    refine (areValues_any _ (hu.below hbel) _ _ (by omega) (by omega)).mono ?_
    rintro e w1 ⟨rfl, hb1⟩
    rw [hr]
    go_wp2_with fail
    go_ret
    exact ⟨ret_bool (tb_false (fun hh => by have := tb_true (hh.2.2 k hkl).1; rw [hr] at this; cases this)).symm, bthen hbel hb1⟩
   have HROW := Lib.hid (tb_iff.1 hr)
   by_cases h0 : k = 0
   ·have H0 := Lib.hid h0
    have hg : decide (0 < k) = false := by rw [h0]; rfl
    clear hcell hce h0
    go_wp2_with fail
    refine (areValues_any _ (hu.below hbel) _ _ (by omega) (by omega)).mono ?_
    rintro e w1 ⟨rfl, hb1⟩
    rw [hr]
    have c0 := (hb1.cell hz).trans b0
    have c1 := (hb1.cell hz).trans b1
    have hz1 : w.heap.size < w1.heap.size := Nat.lt_of_lt_of_le hz hb1.size
    go_wp2_with fail
    go_roundw
    case rel => exact ⟨k + 1, by omega, by go_num, relUp_succ hkl HT.out HROW.out (fun h => by have := H0.out; omega), bthen hbel hb1, hz1, c0, c1⟩
    case measure => simp [intOf]; omega
   ·have h1 : k - 1 < r.2.length := by omega
    obtain ⟨u1, hu1, f1⟩ := hce (k - 1) h1
    have hg : decide (0 < k) = true := by simp; omega
    have hgeq := geq_cmp r.2[k - 1] r.2[k]
    clear hcell hce
    go_wp2_with fail
    refine (areValues_any _ (hu.below hbel) _ _ (by omega) (by omega)).mono ?_
    rintro e w1 ⟨rfl, hb1⟩
    rw [hr]
    have hbel1 := bthen hbel hb1
    have c0 := (hb1.cell hz).trans b0
    have c1 := (hb1.cell hz).trans b1
    have g1 := (hbel1.cell haa).trans f1
    have hz1 : w.heap.size < w1.heap.size := Nat.lt_of_lt_of_le hz hb1.size
    clear b0 b1 g0 hb1 hbel
    cases hlt : tb (ltL r.2[k - 1] r.2[k])
    ·rw [hlt] at hgeq
     go_wp2_with fail
     refine (Compare_any _ (hu1.below hbel1) (hu.below hbel1)).mono ?_
     rintro e w2 ⟨rfl, rfl⟩
     go_wp2_with fail
     go_ret
     exact ⟨ret_bool (tb_false (fun hh => by have := tb_true ((hh.2.2 k hkl).2 (by omega)); rw [hlt] at this; cases this)).symm, hbel1⟩
    ·rw [hlt] at hgeq
     go_wp2_with fail
     refine (Compare_any _ (hu1.below hbel1) (hu.below hbel1)).mono ?_
     rintro e w2 ⟨rfl, rfl⟩
     go_wp2_with fail
     go_roundw
     case rel => exact ⟨k + 1, by omega, by go_num, relUp_succ hkl HT.out HROW.out (fun _ => tb_iff.1 hlt), hbel1, hz1, c0, c1⟩
     case measure => simp [intOf]; omega
  ·obtain rfl : k = r.2.length := by omega
   go_wp2_with fail
   go_ret
   exact ⟨ret_bool (tb_true ⟨hs', ha', fun i h => HT.out i h h⟩).symm, hbel⟩
theorem ValidTemplate1_any (w : World) {cs : Array Value} {r : Int × List (List Int)} (h : relT.Rd w cs.toList r) (size : Int) (b : Nat) (hb : b < w.heap.size) (hc : w.cell? ⟨b, 0, none⟩ = some (.int .i64 size)) :
  Calls Tryz.prog 124 #[.agg cs, .pointer (some ⟨b, 0, none⟩)] w fun e w' => e = .returned (.bool (!tb (relOk size r))) ∧ Below w.heap.size w w' := by
 have hx := h
 obtain ⟨v, hv, hI, -⟩ := pair_ex h
 obtain rfl := agg_of hv
 clear h hv
 go_enter Tryz.func124, Tryz.ntmps124
 go_wp2_with fail
 refine (ValidRel_any _ (hx.below bA) size).mono ?_
 rintro e w1 ⟨rfl, hb1⟩
 go_wp2_with fail
 go_ret
 exact ⟨rfl, (by repeat (first | exact Below.refl _ _ | exact bA | assumption | refine Below.setCell ?_ (by first | omega | (simp; try omega)) _ | refine Below.alloc ?_ (by first | omega | (simp; try omega)) _ | refine Below.drew ?_ | refine bDN ?_ | refine bthen ?_ (by assumption)))⟩
theorem tplOk_any {t : Int × List (Int × List (List Int))} (h0 : sizeOk t.1) (h1 : t.2.length ≤ 6) : (!anyB (fun r => !tb (relOk t.1 r)) t.2) = tb (tplOk t) := by
 rw [Bool.eq_iff_iff, tb_iff]
 simp only [anyB, tplOk, h0, h1, true_and, Bool.not_eq_true', List.any_eq_false, Bool.not_eq_false, tb_iff]
theorem ValidTemplate_any (w : World) {cs : Array Value} {t : Int × List (Int × List (List Int))} (h : tplT.Rd w cs.toList t) :
  Calls Tryz.prog 71 #[.agg cs] w fun e w' => e = .returned (.bool (tb (tplOk t))) ∧ Below w.heap.size w w' := by
 obtain ⟨v, hv, hI, hx⟩ := pair_ex h
 obtain rfl := agg_of hv
 obtain ⟨ad, cap, rfl⟩ := rd_slice hx
 clear h hv
 cases hs : inB t.1 1 4
 ·go_enter Tryz.func71, Tryz.ntmps71
  go_wp2_with (go_at_call 98; refine (isSize_any _ _).mono ?_; rintro e w' ⟨rfl, rfl⟩)
  go_ret
  exact ⟨ret_bool (tb_false (fun hr => by have := inB_true.2 hr.1; rw [hs] at this; cases this)).symm, (by repeat (first | exact Below.refl _ _ | exact bA | assumption | refine Below.setCell ?_ (by first | omega | (simp; try omega)) _ | refine Below.alloc ?_ (by first | omega | (simp; try omega)) _ | refine Below.drew ?_ | refine bDN ?_ | refine bthen ?_ (by assumption)))⟩
 have hs' := inB_true.1 hs
 by_cases hl : t.2.length ≤ 6
 rotate_left
 ·have hl' : decide (t.2.length ≤ 6) = false := by simpa using hl
  have hl2 : decide ((t.2.length : Int) ≤ 6) = false := by simp; omega
  have HL := Lib.hid hl
  clear hl
  go_enter Tryz.func71, Tryz.ntmps71
  go_wp2_with (go_at_call 98; refine (isSize_any _ _).mono ?_; rintro e w' ⟨rfl, rfl⟩)
  go_ret
  exact ⟨ret_bool (tb_false (fun hr => HL.out hr.2.1)).symm, (by repeat (first | exact Below.refl _ _ | exact bA | assumption | refine Below.setCell ?_ (by first | omega | (simp; try omega)) _ | refine Below.alloc ?_ (by first | omega | (simp; try omega)) _ | refine Below.drew ?_ | refine bDN ?_ | refine bthen ?_ (by assumption)))⟩
 have hl2 : decide ((t.2.length : Int) ≤ 6) = true := by simp; omega
 have HT := Lib.hid (tplOk_any hs' hl)
 clear hs'
 go_enter Tryz.func71, Tryz.ntmps71
 go_wp2_with (go_at_call 98; refine (isSize_any _ _).mono ?_; rintro e w' ⟨rfl, rfl⟩)
 refine (ContainsFuncRel_any _ (hx.below bA) (fun r => !tb (relOk t.1 r)) 124 #[.pointer (some ⟨w.heap.size, 0, none⟩)] (enters Tryz.func124 (by kernel_rfl) rfl) (fun W hW k hk cs hcs => ValidTemplate1_any W hcs t.1 w.heap.size ?_ ?_)).mono ?_
 ·have := hW.size; simp at this; omega
 ·rw [hW.cell (by simp)]; simp
 rintro e w1 ⟨rfl, hb1⟩
 go_wp2_with fail
 go_ret
 exact ⟨ret_bool HT.out, (by repeat (first | exact Below.refl _ _ | exact bA | assumption | refine Below.setCell ?_ (by first | omega | (simp; try omega)) _ | refine Below.alloc ?_ (by first | omega | (simp; try omega)) _ | refine Below.drew ?_ | refine bDN ?_ | refine bthen ?_ (by assumption)))⟩
end Go.Proofs.YtggelmbnliajeaaGreatDoor
namespace Go.Proofs.YtggelmbnliajeaaGreatDoor
open Go.RowKit Go.Sort
end Go.Proofs.YtggelmbnliajeaaGreatDoor
namespace Go.Proofs.YtggelmbnliajeaaGreatDoor
open Go.RowKit Go.Sort
theorem pure_below {P : Program} {f : FuncId} {args : Array Value} {w : World} {v : Value} (h : Calls P f args w fun e w' => e = .returned v ∧ w = w') :
  Calls P f args w fun e w' => e = .returned v ∧ Below w.heap.size w w' := h.mono fun _ _ ⟨he, hw⟩ => ⟨he, hw ▸ Below.refl _ _⟩
end Go.Proofs.YtggelmbnliajeaaGreatDoor
namespace Go.Proofs.YtggelmbnliajeaaGreatDoor
open Go.RowKit Go.Sort
theorem pure_drawn {P : Program} {f : FuncId} {args : Array Value} {w : World} {n : Nat} {v : Value} (h : Calls P f args (w.drewN n) fun e w' => e = .returned v ∧ w.drewN n = w') :
  Calls P f args (w.drewN n) fun e w'' => e = .returned v ∧ ∃ m, w'' = w.drewN m := h.mono fun _ _ ⟨he, hw⟩ => ⟨he, n, hw.symm⟩
theorem noneB_all {α : Type} {p : α → Prop} {xs : List α} (h : noneB (fun c => !tb (p c)) (xs.take xs.length)) : ∀ c ∈ xs, p c := fun c hc => by
 have := h c (by rw [List.take_length]; exact hc)
 simpa [tb_iff] using this
end Go.Proofs.YtggelmbnliajeaaGreatDoor
namespace Go.Proofs.YtggelmbnliajeaaGreatDoor
open Go.RowKit Go.Sort
def opOk (s : Int) (f : Int × List Int) : Prop := sizeOk s ∧ (1 ≤ f.1 ∧ f.1 ≤ 3) ∧ rowOk s (s ^ f.1.toNat) f.2
set_option maxHeartbeats 1600000 in
set_option maxRecDepth 100000 in
theorem ValidOp_any (w : World) {cs : Array Value} {f : Int × List Int} (h : opT.Rd w cs.toList f) (s : Int) :
  Calls Tryz.prog 59 #[.int .i64 s, .agg cs] w fun e w' => e = .returned (.bool (tb (opOk s f))) ∧ Below w.heap.size w w' := by
 obtain ⟨u, hv, hI, hx⟩ := pair_ex h
 obtain rfl := agg_of hv
 obtain ⟨ad, cap, rfl⟩ := rd_slice hx
 clear h hv
 cases h1 : inB s 1 4
 ·have HR : Hid (false = tb (opOk s f)) := (tb_false (fun hh => by have := inB_true.2 hh.1; rw [h1] at this; cases this)).symm
  go_enter Tryz.func59, Tryz.ntmps59
  go_wp2_with fail
  generalize hW : w.alloc _ = wr
  have hB : Below w.heap.size w wr := hW ▸ bA
  clear hW
  have cS : ∀ d os, Calls Tryz.prog 98 #[.int .i64 s] (grow (redrawn wr d) os) fun e w'' => e = .returned (.bool (inB s 1 4)) ∧ ∃ p : Regrown, w'' = grow (redrawn wr p.d) p.os := fun d os =>
   Calls.regrown_of (pure_below (isSize_any _ _))
  rw [h1] at cS
  refine wp_region_quiet_below (by kernel_rfl) (by kernel_rfl) ?_
  repeat (go_big_quiet_step (exact cS _ _))
  refine wpQuiet_nil ?_
  rintro w2 ⟨p, rfl⟩
  have hb2 := below_regrown wr p.d p.os
  go_wp2_with fail
  go_ret
  exact ⟨ret_bool HR.out, bthen hB hb2⟩
 have hs := inB_true.1 h1
 cases h2 : inB f.1 1 3
 ·have HR : Hid (false = tb (opOk s f)) := (tb_false (fun hh => by have := inB_true.2 hh.2.1; rw [h2] at this; cases this)).symm
  go_enter Tryz.func59, Tryz.ntmps59
  go_wp2_with fail
  generalize hW : w.alloc _ = wr
  have hB : Below w.heap.size w wr := hW ▸ bA
  have e0 : wr.cell? ⟨w.heap.size, 0, none⟩ = some (.int .i64 f.1) := by rw [← hW]; simp
  clear hW
  have k0 := cell_regrown e0
  have cS : ∀ d os, Calls Tryz.prog 98 #[.int .i64 s] (grow (redrawn wr d) os) fun e w'' => e = .returned (.bool (inB s 1 4)) ∧ ∃ p : Regrown, w'' = grow (redrawn wr p.d) p.os := fun d os =>
   Calls.regrown_of (pure_below (isSize_any _ _))
  have cA : ∀ d os, Calls Tryz.prog 78 #[.int .i64 f.1] (grow (redrawn wr d) os) fun e w'' => e = .returned (.bool (inB f.1 1 3)) ∧ ∃ p : Regrown, w'' = grow (redrawn wr p.d) p.os := fun d os =>
   Calls.regrown_of (pure_below (isOpArity_any _ _))
  rw [h1] at cS
  rw [h2] at cA
  refine wp_region_quiet_below (by kernel_rfl) (by kernel_rfl) ?_
  repeat (go_big_quiet_step (first | exact cS _ _ | exact cA _ _))
  refine wpQuiet_nil ?_
  rintro w2 ⟨p, rfl⟩
  have hb2 := below_regrown wr p.d p.os
  go_wp2_with fail
  go_ret
  exact ⟨ret_bool HR.out, bthen hB hb2⟩
 have ha := inB_true.1 h2
 have HR : Hid (tb (rowOk s (s ^ f.1.toNat) f.2) = tb (opOk s f)) := tb_congr ⟨fun hh => ⟨hs, ha, hh⟩, fun hh => hh.2.2⟩
 go_enter Tryz.func59, Tryz.ntmps59
 go_wp2_with fail
 generalize hW : w.alloc _ = wr
 have hB : Below w.heap.size w wr := hW ▸ bA
 have e0 : wr.cell? ⟨w.heap.size, 0, none⟩ = some (.int .i64 f.1) := by rw [← hW]; simp
 have e1 : wr.cell? ⟨w.heap.size, 1, none⟩ = some (.slice ad f.2.length cap) := by rw [← hW]; simp
 have hxr := hx.below hB
 clear hW
 have k0 := cell_regrown e0
 have k1 := cell_regrown e1
 have cS : ∀ d os, Calls Tryz.prog 98 #[.int .i64 s] (grow (redrawn wr d) os) fun e w'' => e = .returned (.bool (inB s 1 4)) ∧ ∃ p : Regrown, w'' = grow (redrawn wr p.d) p.os := fun d os =>
  Calls.regrown_of (pure_below (isSize_any _ _))
 have cA : ∀ d os, Calls Tryz.prog 78 #[.int .i64 f.1] (grow (redrawn wr d) os) fun e w'' => e = .returned (.bool (inB f.1 1 3)) ∧ ∃ p : Regrown, w'' = grow (redrawn wr p.d) p.os := fun d os =>
  Calls.regrown_of (pure_below (isOpArity_any _ _))
 have cP : ∀ d os, Calls Tryz.prog 48 #[.int .i64 s, .int .i64 f.1] (grow (redrawn wr d) os) fun e w'' => e = .returned (.int .i64 (s ^ f.1.toNat)) ∧ ∃ p : Regrown, w'' = grow (redrawn wr p.d) p.os := fun d os =>
  Calls.regrown_of (pure_below (power_any _ _ _ (by omega) (by omega) (by omega)))
 have cV : ∀ d os, Calls Tryz.prog 47 #[.int .i64 s, .slice ad f.2.length cap, .int .i64 (s ^ f.1.toNat)] (grow (redrawn wr d) os) fun e w'' => e = .returned (.bool (tb (rowOk s (s ^ f.1.toNat) f.2))) ∧ ∃ p : Regrown, w'' = grow (redrawn wr p.d) p.os := fun d os =>
  Calls.regrown_of (areValues_any _ (hxr.below (below_regrown wr d os)) _ _ (by omega) (by omega))
 rw [h1] at cS
 rw [h2] at cA
 refine wp_region_quiet_below (by kernel_rfl) (by kernel_rfl) ?_
 repeat (go_big_quiet_step (first | exact cS _ _ | exact cA _ _ | exact cP _ _ | exact cV _ _))
 refine wpQuiet_nil ?_
 rintro w2 ⟨p, rfl⟩
 have hb2 := below_regrown wr p.d p.os
 go_wp2_with fail
 go_ret
 exact ⟨ret_bool HR.out, bthen hB hb2⟩
set_option maxHeartbeats 1600000 in
set_option maxRecDepth 100000 in
theorem l02Ok_quiet (w : World) {v : Value} {f : Int × List Int} (h : opT.Pt w v f) (s : Int) :
  Calls Tryz.prog 89 #[.int .i64 s, v] w fun e w' => e = .returned (.bool (tb (opOk s f))) ∧ Quiet w w' := by
 obtain ⟨b, o, ad, cap, rfl, hb, hI, c0, c1, hx⟩ := pt_pair h
 clear h
 obtain ⟨_, _, e1, hle, hle2, hcell⟩ := ints_ex hx
 simp only [List.cons.injEq, Value.slice.injEq, and_true, true_and] at e1
 obtain ⟨rfl, rfl⟩ := e1
 cases h1 : inB s 1 4
 ·have HR : Hid (false = tb (opOk s f)) := (tb_false (fun hh => by have := inB_true.2 hh.1; rw [h1] at this; cases this)).symm
  have cS : ∀ n, Calls Tryz.prog 75 #[.int .i64 s] (w.drewN n) fun e w'' => e = .returned (.bool (inB s 1 4)) ∧ ∃ m, w'' = w.drewN m := fun n => pure_drawn (l01Size_any _ _)
  rw [h1] at cS
  go_enter Tryz.func89, Tryz.ntmps89
  go_wp2_with fail
  go_quiet (exact cS _)
  go_wp2_with fail
  go_ret
  exact ⟨ret_bool HR.out, (by first | exact Quiet.refl _ | exact Quiet.drewN _ _ | exact (Quiet.drewN _ _).then (Quiet.drewN _ _) | exact ((Quiet.drewN _ _).then (Quiet.drewN _ _)).then (Quiet.drewN _ _))⟩
 have hs := inB_true.1 h1
 cases h2 : inB f.1 1 3
 ·have HR : Hid (false = tb (opOk s f)) := (tb_false (fun hh => by have := inB_true.2 hh.2.1; rw [h2] at this; cases this)).symm
  have cS : ∀ n, Calls Tryz.prog 75 #[.int .i64 s] (w.drewN n) fun e w'' => e = .returned (.bool (inB s 1 4)) ∧ ∃ m, w'' = w.drewN m := fun n => pure_drawn (l01Size_any _ _)
  have cA : ∀ n, Calls Tryz.prog 84 #[.int .i64 f.1] (w.drewN n) fun e w'' => e = .returned (.bool (inB f.1 1 3)) ∧ ∃ m, w'' = w.drewN m := fun n => pure_drawn (l02Arity_any _ _)
  rw [h1] at cS
  rw [h2] at cA
  go_enter Tryz.func89, Tryz.ntmps89
  go_wp2_with fail
  go_quiet (first | exact cS _ | exact cA _)
  go_wp2_with fail
  go_ret
  exact ⟨ret_bool HR.out, (by first | exact Quiet.refl _ | exact Quiet.drewN _ _ | exact (Quiet.drewN _ _).then (Quiet.drewN _ _) | exact ((Quiet.drewN _ _).then (Quiet.drewN _ _)).then (Quiet.drewN _ _))⟩
 have ha := inB_true.1 h2
 have cS : ∀ n, Calls Tryz.prog 75 #[.int .i64 s] (w.drewN n) fun e w'' => e = .returned (.bool (inB s 1 4)) ∧ ∃ m, w'' = w.drewN m := fun n => pure_drawn (l01Size_any _ _)
 have cA : ∀ n, Calls Tryz.prog 84 #[.int .i64 f.1] (w.drewN n) fun e w'' => e = .returned (.bool (inB f.1 1 3)) ∧ ∃ m, w'' = w.drewN m := fun n => pure_drawn (l02Arity_any _ _)
 have cP : ∀ n, Calls Tryz.prog 94 #[.int .i64 s, .int .i64 f.1] (w.drewN n) fun e w'' => e = .returned (.int .i64 (s ^ f.1.toNat)) ∧ ∃ m, w'' = w.drewN m := fun n => pure_drawn (l01Power_any _ _ _ (by omega) (by omega) (by omega))
 rw [h1] at cS
 rw [h2] at cA
 cases hl : ((f.2.length : Int) != s ^ f.1.toNat)
 rotate_left
 ·have HR : Hid (false = tb (opOk s f)) := (tb_false (fun hh => by have := hh.2.2.1; simp [this] at hl)).symm
  go_enter Tryz.func89, Tryz.ntmps89
  go_wp2_with fail
  go_quiet (first | exact cS _ | exact cA _ | exact cP _)
  go_wp2_with fail
  go_ret
  exact ⟨ret_bool HR.out, (by first | exact Quiet.refl _ | exact Quiet.drewN _ _ | exact (Quiet.drewN _ _).then (Quiet.drewN _ _) | exact ((Quiet.drewN _ _).then (Quiet.drewN _ _)).then (Quiet.drewN _ _))⟩
 have HLE : Hid ((f.2.length : Int) = s ^ f.1.toNat) := by unfold Hid; simpa using hl
 go_enter Tryz.func89, Tryz.ntmps89
 go_wp2_with fail
 go_quiet (first | exact cS _ | exact cA _ | exact cP _)
 clear cS cA cP hl
 go_wp2_with fail
 go_loopw [5] (fun i wr => ∃ k : Nat, k ≤ f.2.length ∧ i = .int .i64 k ∧ noneB (fun a => !inB a 0 (s - 1)) (f.2.take k) ∧ Quiet w wr) (fun i _ => f.2.length - (intOf i).toNat)
 case atStart => exact ⟨0, Nat.zero_le _, rfl, noneB_zero _ _, (by first | exact Quiet.refl _ | exact Quiet.drewN _ _ | exact (Quiet.drewN _ _).then (Quiet.drewN _ _) | exact ((Quiet.drewN _ _).then (Quiet.drewN _ _)).then (Quiet.drewN _ _))⟩
 case round =>
  obtain ⟨k, hk, rfl, ht, hqw⟩ := hrel
  have HT := Lib.hid ht
  have d0 := (hqw.below.cell hb).trans c0
  have d1 := (hqw.below.cell hb).trans c1
  clear ht c0 c1
  by_cases hkl : k < f.2.length
  ·obtain ⟨a, q, rfl, haa, hce⟩ := hcell (by omega)
   have e0 := (hqw.below.cell haa).trans (hce k hkl).2
   clear hcell hce
   cases hr : inB (f.2[k]) 0 (s - 1)
   ·have HR : Hid (false = tb (opOk s f)) := (tb_false (fun hh => by have := inB_true.2 (hh.2.2.2 _ (List.getElem_mem hkl)); rw [hr] at this; cases this)).symm
    go_wp2_with fail
    refine (l00In_any _ _ _ _).mono ?_
    rintro e _ ⟨rfl, rfl⟩
    rw [hr]
    go_wp2_with fail
    go_ret
    exact ⟨ret_bool HR.out, hqw⟩
   ·go_wp2_with fail
    refine (l00In_any _ _ _ _).mono ?_
    rintro e _ ⟨rfl, rfl⟩
    rw [hr]
    go_wp2_with fail
    go_roundw
    case rel => exact ⟨k + 1, by omega, by go_num, noneB_succ hkl HT.out (by rw [hr]; rfl), hqw⟩
    case measure => simp [intOf]; omega
  ·obtain rfl : k = f.2.length := by omega
   have HR : Hid (true = tb (opOk s f)) := (tb_true ⟨hs, ha, HLE.out, fun a ha' => by
    have := HT.out a (by rw [List.take_length]; exact ha')
    have h3 : inB a 0 (s - 1) = true := by simpa using this
    exact inB_true.1 h3⟩).symm
   clear hcell
   go_wp2_with fail
   go_ret
   exact ⟨ret_bool HR.out, hqw⟩
end Go.Proofs.YtggelmbnliajeaaGreatDoor
namespace Go.Proofs.YtggelmbnliajeaaGreatDoor
open Go.RowKit Go.Sort
/-- the values of tuples at a place -/
def colL (ts : List (List Int)) (p : Nat) : List Int := ts.map fun t => t.getD p 0
def madeV (s : Int) (tab : List Int) (ts : List (List Int)) (p : Nat) : Int := tab.getD (idxL s 0 (colL ts p)).toNat 0
def madeL (s : Int) (tab : List Int) (ts : List (List Int)) (m : Nat) : List Int := (List.range m).map fun p => madeV s tab ts p
theorem colL_len {ts : List (List Int)} {p : Nat} : (colL ts p).length = ts.length := by simp [colL]
theorem colL_get {ts : List (List Int)} {p k : Nat} (h : k < ts.length) (hp : p < (ts[k]).length) (h' : k < (colL ts p).length) : (colL ts p)[k] = (ts[k])[p] := by
 simp [colL, List.getD_eq_getElem?_getD, hp]
theorem madeL_len {s : Int} {tab : List Int} {ts : List (List Int)} {m : Nat} : (madeL s tab ts m).length = m := by simp [madeL]
/-- tuples that an operation may be applied to -/
def tupsOk (s ar : Int) (m : Nat) (ts : List (List Int)) : Prop := (ts.length : Int) = ar ∧ ∀ t ∈ ts, t.length = m ∧ ∀ a ∈ t, 0 ≤ a ∧ a ≤ s - 1
theorem colL_in {s ar : Int} {m p : Nat} {ts : List (List Int)} (h : tupsOk s ar m ts) (hp : p < m) : ∀ a ∈ colL ts p, 0 ≤ a ∧ a ≤ s - 1 := by
 intro a ha
 obtain ⟨t, ht, rfl⟩ := List.mem_map.1 ha
 obtain ⟨h1, h2⟩ := h.2 t ht
 have hl : p < t.length := by omega
 rw [List.getD_eq_getElem?_getD, List.getElem?_eq_getElem hl]
 exact h2 _ (List.getElem_mem hl)
/-- the index lies in the table, and what stands there -/
theorem madeV_get {s : Int} {f : Int × List Int} {ts : List (List Int)} {m p : Nat} (hf : opOk s f) (ht : tupsOk s f.1 m ts) (hp : p < m) :
  ∃ k : Nat, idxL s 0 (colL ts p) = k ∧ ∃ h : k < f.2.length, madeV s f.2 ts p = f.2[k] := by
 obtain ⟨⟨h1, h2⟩, ⟨h3, h4⟩, h5, h6⟩ := hf
 have hb := idx_bd h1 (colL_in ht hp) (colL ts p).length (Nat.le_refl _)
 rw [List.take_length, colL_len] at hb
 have hl := ht.1
 have he : s ^ ts.length = f.2.length := by rw [h5, ← hl, Int.toNat_natCast]
 rw [he] at hb
 refine ⟨(idxL s 0 (colL ts p)).toNat, by omega, by omega, ?_⟩
 have hk : (idxL s 0 (colL ts p)).toNat < f.2.length := by omega
 rw [madeV, List.getD_eq_getElem?_getD, List.getElem?_eq_getElem hk]
 rfl
set_option maxHeartbeats 1600000 in
set_option maxRecDepth 100000 in
theorem made_any (w : World) {cs : Array Value} {f : Int × List Int} (h : opT.Rd w cs.toList f) {v : Value} {ts : List (List Int)} (h' : rowsT.Rd w [v] ts) {s : Int} {m : Nat} (hf : opOk s f) (ht : tupsOk s f.1 m ts) (hm : m ≤ 1000) :
  Calls Tryz.prog 67 #[.int .i64 s, .agg cs, v] w fun e w' => ∃ g, e = .returned (.slice (some ⟨g, 0, none⟩) m m) ∧ intsT.Fr w.heap.size w' [.slice (some ⟨g, 0, none⟩) m m] (madeL s f.2 ts m) ∧ Below w.heap.size w w' := by
 obtain ⟨u, hv, hI, hx⟩ := pair_ex h
 obtain rfl := agg_of hv
 obtain ⟨tad, tcap, htv, -, -, htc⟩ := ints_ex hx
 obtain rfl : u = _ := by simpa using htv
 obtain ⟨ad, cap, hvv, -, hL, hcell⟩ := slices_ex h'
 obtain rfl : v = _ := by simpa using hvv
 have hn : (ts.length : Int) = f.1 := ht.1
 have hs := hf.1
 have ha := hf.2.1
 unfold sizeOk at hs
 have h0 : 0 < ts.length := by omega
 obtain ⟨b, o, rfl, hb, hce⟩ := hcell h0
 obtain ⟨u0, hu0, hc0⟩ := hce 0 h0
 obtain ⟨a0, c0, rfl⟩ := rd_slice hu0
 have hm0 : (ts[0]).length = m := (ht.2 _ (List.getElem_mem h0)).1
 rw [hm0] at hc0
 have hc0' : w.cell? ⟨b, o, none⟩ = some (.slice a0 m c0) := hc0
 have HF := Lib.hid hf
 have HT := Lib.hid ht
 have HC := Lib.hid hce
 have HTC := Lib.hid htc
 clear h h' hv htv hvv hf ht hcell hce htc hu0 hx hc0
 go_enter Tryz.func67, Tryz.ntmps67
 go_wp2_with (refine wpList_mkI _ rfl _ _ 42 2 rfl Tryz.underlying42 infoInt (w.heap.size + 1) m rfl rfl (by omega) (by decide) (by simp) ?_; intro w1 hA hg1 hs1)
 have hA' : IR 2 (w.heap.size + 1) w1 (w.heap.size + 1) m m (List.replicate m 0) := by simpa using hA
 have hb1 : Below w.heap.size w w1 := bthen bA (below_of_grown hg1)
 have x1 : w1.cell? ⟨w.heap.size, 1, none⟩ = some (.slice tad f.2.length tcap) := ((below_of_grown hg1).cell (by simp)).trans (by simp)
 have hsz1 : w1.heap.size = w.heap.size + 2 := by simpa using hs1
 clear hA hg1 hs1
 go_loopw [19] (fun i wr => ∃ (p : Nat) (L : List Int), p ≤ m ∧ i = .int .i64 p ∧ IR 2 (w.heap.size + 1) wr (w.heap.size + 1) m m L ∧ (∀ (j : Nat) (h : j < L.length), j < p → L[j] = madeV s f.2 ts j) ∧ Below w.heap.size w wr ∧ wr.cell? ⟨w.heap.size, 1, none⟩ = some (.slice tad f.2.length tcap)) (fun i _ => m - (intOf i).toNat)
 case atStart => exact ⟨0, _, Nat.zero_le _, rfl, hA', fun j h hj => absurd hj (Nat.not_lt_zero j), hb1, x1⟩
 case round =>
  obtain ⟨p, L, hp, rfl, hIR, hL, hbel, y1⟩ := hrel
  have hLl := hIR.1
  have HIR := Lib.hid hIR
  have HLL := Lib.hid hL
  clear hIR hL hA'
  by_cases hpl : p < m
  ·obtain ⟨kk, hkk, hkl2, hmv⟩ := madeV_get HF.out HT.out hpl
   obtain ⟨tb0, to0, rfl, htb, hte⟩ := HTC.out (by omega)
   have t0 := (hbel.cell htb).trans (hte kk hkl2).2
   have hIv := (hte kk hkl2).1
   obtain ⟨w0, d0⟩ := HIR.out.cell hpl
   have d1 := HIR.out.free p
   have hg := HIR.out.lt
   have HIS := Lib.hid (HIR.out.set p hIv)
   have HKK := Lib.hid hkk
   have HMV := Lib.hid hmv
   have HTE := Lib.hid hte
   clear hte hkk hmv
   go_wp2_with fail
   go_loop [24, 9] (fun i q => ∃ k : Nat, k ≤ ts.length ∧ i = .int .i64 k ∧ q = .int .i64 (idxL s 0 ((colL ts p).take k))) (fun i _ => ts.length - (intOf i).toNat)
   case atStart => exact ⟨0, Nat.zero_le _, rfl, by simp [idxL]⟩
   case round =>
    obtain ⟨k, hk, rfl, rfl⟩ := hrel
    by_cases hkl : k < ts.length
    ·obtain ⟨uk, huk, hck⟩ := HC.out k hkl
     obtain ⟨ak, ck, huv, -, -, hkc⟩ := ints_ex huk
     obtain rfl : uk = _ := by simpa using huv
     have hlk : (ts[k]).length = m := (HT.out.2 _ (List.getElem_mem hkl)).1
     obtain ⟨bk, ok, rfl, hbk, hkce⟩ := hkc (by omega)
     have e0 := (hbel.cell hb).trans hck
     have e1 := (hbel.cell hbk).trans (hkce p (by omega)).2
     have hpk : p < (ts[k]).length := by omega
     have hcl : k < (colL ts p).length := by rw [colL_len]; exact hkl
     have hin := colL_in HT.out hpl
     have b0 := idx_bd (by omega) hin k (by omega)
     have b1 := idx_bd (by omega) hin (k + 1) hcl
     have p0 := pow_le (s := s) (by omega) (by omega) (k := k + 1) (by omega)
     have hr := idxL_take (s := s) hcl
     rw [colL_get hkl hpk hcl] at hr
     have HM : Hid (wrap64 (wrap64 (idxL s 0 ((colL ts p).take k) * s) + (ts[k])[p]) = idxL s 0 ((colL ts p).take (k + 1))) := by
      unfold Hid
      have hq := Int.mul_nonneg b0.1 (show (0 : Int) ≤ s by omega)
      have hxx := hin _ (List.getElem_mem hcl)
      rw [colL_get hkl hpk hcl] at hxx
      rw [hr] at b1 ⊢
      generalize s ^ (k + 1) = P at *
      generalize idxL s 0 ((colL ts p).take k) * s = Q at *
      rw [wrap64_id (n := Q) (by omega) (by omega), wrap64_id (by omega) (by omega)]
     clear hkc hkce huv huk hck b0 b1 p0 hr hin
     go_wp2_with fail
     go_round
     case rel => exact ⟨k + 1, by omega, by go_num, by first | exact congrArg _ HM.out | (rw [← HM.out]; go_num)⟩
     case measure => simp [intOf]; omega
    ·obtain rfl : k = ts.length := by omega
     have hfull : idxL s 0 ((colL ts p).take ts.length) = kk := by rw [List.take_of_length_le (by rw [colL_len]; exact Nat.le_refl _)]; exact HKK.out
     rw [hfull]
     go_wp2_with fail
     refine ⟨⟨p + 1, L.set p (f.2[kk]), by omega, congrArg _ (by omega), HIS.out, fun j h hj => ?_, hbel.setCell (by simp) _, (World.cell?_setCell_other _ _ _ _ (by simp)).trans y1⟩, by simp [intOf]; omega⟩
     by_cases e : p = j
     ·subst e
      rw [List.getElem_set_self]
      exact HMV.out.symm
     ·rw [List.getElem_set_ne e]
      exact HLL.out j (by simpa using h) (by omega)
  ·obtain rfl : p = m := by omega
   have hfr := Lib.hid (HIR.out.fr (by unfold capMax; omega))
   have HE : Hid (L = madeL s f.2 ts p) := List.ext_getElem (by rw [hLl, madeL_len]) fun j h h' => by rw [HLL.out j h (by omega)]; simp [madeL]
   go_wp2_with fail
   go_ret
   exact ⟨w.heap.size + 1, rfl, by rw [← HE.out]; exact hfr.out.mono (by omega), hbel⟩
end Go.Proofs.YtggelmbnliajeaaGreatDoor
namespace Go.Proofs.YtggelmbnliajeaaGreatDoor
open Go.RowKit Go.Sort
theorem cmpI_neg {x y : Int} : cmpI x y < 0 ↔ x < y := by
 unfold cmpI
 split
 ·simpa
 ·split <;> omega
theorem ltL_trans : ∀ {a b c : List Int}, ltL a b → ltL b c → ltL a c
 | [], [], _, h, _ => by simp [ltL, cmpL] at h
 | _ :: _, [], _, h, _ => by simp [ltL, cmpL] at h
 | _, _ :: _, [], _, h => by simp [ltL, cmpL] at h
 | [], _ :: _, _ :: _, _, _ => by simp [ltL, cmpL]
 | x :: a, y :: b, z :: c, h, h' => by
  unfold ltL at h h' ⊢
  simp only [cmpL] at h h' ⊢
  by_cases e1 : x = y
  ·by_cases e2 : y = z
   ·subst e1; subst e2
    simp only [if_true] at h h' ⊢
    exact ltL_trans h h'
   ·subst e1
    rw [if_neg e2] at h' ⊢
    exact h'
  ·rw [if_neg e1] at h
   rw [cmpI_neg] at h
   by_cases e2 : y = z
   ·subst e2
    rw [if_neg e1, cmpI_neg]; exact h
   ·rw [if_neg e2, cmpI_neg] at h'
    rw [if_neg (by omega), cmpI_neg]; omega
theorem cmpL_zero : ∀ {a b : List Int}, cmpL a b = 0 → a = b
 | [], [], _ => rfl
 | [], _ :: _, h => by simp [cmpL] at h
 | _ :: _, [], h => by simp [cmpL] at h
 | x :: a, y :: b, h => by
  simp only [cmpL] at h
  by_cases e : x = y
  ·subst e
   rw [if_pos rfl] at h
   rw [cmpL_zero h]
  ·rw [if_neg e] at h
   unfold cmpI at h
   split at h
   ·omega
   ·split at h <;> omega
/-- sorted in the order of lists -/
def sortedL (xs : List (List Int)) : Prop := ∀ i (h : i < xs.length), 0 < i → ltL (xs[i - 1]'(by omega)) xs[i]
theorem sortedL_lt {xs : List (List Int)} (hs : sortedL xs) : ∀ {a b : Nat} (hb : b < xs.length) (hab : a < b), ltL (xs[a]'(by omega)) xs[b] := by
 intro a b hb hab
 induction b with
 | zero => omega
 | succ b ih =>
  have h1 := hs (b + 1) hb (by omega)
  simp only [Nat.add_sub_cancel] at h1
  by_cases e : a = b
  ·subst e; exact h1
  ·exact ltL_trans (ih (by omega) (by omega)) h1
theorem relOk_sorted {size : Int} {r : Int × List (List Int)} (h : relOk size r) : sortedL r.2 := fun i hi h0 => (h.2.2 i hi).2 h0
theorem Bl.own {α : Type} {E : Ty α} {e base top : Nat} {w : World} {v : Value} {ys : List α} (h : Bl E e base top w v ys) {g : Nat} (hg : v.ownBlock = some g) : base ≤ g := by
 obtain ⟨L, fps, h1, _⟩ := h
 exact (h1.lt g hg).1
theorem news1 {w : World} {u : Value} {T : TypeId} : ∀ j x, [u][j]? = some x → (w.alloc (.cells #[u] T)).cell? ((⟨w.heap.size, 0, none⟩ : Addr).add j) = some x := by
 intro j x h
 match j with
 | 0 => simp at h; subst h; simp [Addr.add]
 | j + 1 => simp at h
theorem bs_found {xs : List (List Int)} {ys : List Int} {i : Nat} (hi : i ≤ xs.length) (h1 : ∀ a (h : a < xs.length), a < i → cmpL xs[a] ys < 0) (h2 : ∀ a (h : a < xs.length), i ≤ a → ¬ cmpL xs[a] ys < 0) (hs : sortedL xs) :
  (ys ∈ xs) ↔ ∃ h : i < xs.length, cmpL xs[i] ys = 0 := by
 constructor
 ·intro hm
  obtain ⟨a, ha, rfl⟩ := List.getElem_of_mem hm
  have h3 : ¬ a < i := fun hlt => by have := h1 a ha hlt; rw [cmpL_self] at this; omega
  have h4 : i = a := by
   rcases Nat.lt_or_ge i a with hlt | hge
   ·exact absurd (sortedL_lt hs ha hlt) (h2 i (by omega) (Nat.le_refl _))
   ·omega
  subst h4
  exact ⟨ha, cmpL_self _⟩
 ·rintro ⟨h, he⟩
  rw [← cmpL_zero he]
  exact List.getElem_mem h
theorem ret_ib {i : Int} {b d : Bool} (h : b = d) : Ending.returned (.tuple #[.int .i64 i, .bool b]) = .returned (.tuple #[.int .i64 i, .bool d]) := by rw [h]
set_option maxHeartbeats 1600000 in
set_option maxRecDepth 100000 in
theorem BSearch_any (w : World) {v u : Value} {xs : List (List Int)} {ys : List Int} (h : rowsT.Rd w [v] xs) (_h' : intsT.Rd w [u] ys) (hs : sortedL xs) (g : Nat) (eg : ∀ args w, (callFunc g args).run Tryz.prog w = .ok (.enter g args) w)
  (hp : Hid (∀ k (h : k < xs.length) (c : Value), intsT.Rd w [c] xs[k] → Calls Tryz.prog g #[c, u] w fun e w' => e = .returned (.int .i64 (cmpL xs[k] ys)) ∧ w = w')) :
  Calls Tryz.prog 121 #[v, u, .func (.func g) #[] #[]] w fun e w' => (∃ i : Int, e = .returned (.tuple #[.int .i64 i, .bool (tb (ys ∈ xs))])) ∧ w = w' := by
 obtain ⟨ad, cap, hv, hl, hc, hcell⟩ := slices_ex h
 obtain rfl : v = _ := by simpa using hv
 have HS := Lib.hid hs
 clear h hv hs
 go_enter Tryz.func121, Tryz.ntmps121
 go_wp2_with fail
 go_loop [9, 10, 11] (fun i j _ => ∃ a b : Nat, a ≤ b ∧ b ≤ xs.length ∧ i = .int .i64 a ∧ j = .int .i64 b ∧ (∀ c (h : c < xs.length), c < a → cmpL xs[c] ys < 0) ∧ (∀ c (h : c < xs.length), b ≤ c → 0 ≤ cmpL xs[c] ys)) (fun i j _ => (intOf j).toNat - (intOf i).toNat)
 case atStart => exact ⟨0, xs.length, Nat.zero_le _, Nat.le_refl _, rfl, rfl, fun c _ h => absurd h (Nat.not_lt_zero c), fun c h h' => by omega⟩
 case round =>
  obtain ⟨a, b, hab, hbl, rfl, rfl, h1, h2⟩ := hrel
  have H1 := Lib.hid h1
  have H2 := Lib.hid h2
  clear h1 h2
  by_cases hlt : a < b
  ·obtain ⟨m, hm⟩ : ∃ m : Nat, ((a : Int) + b) / 2 = m := ⟨(a + b) / 2, by omega⟩
   have ham : a ≤ m := by omega
   have hmb : m < b := by omega
   have hml : m < xs.length := by omega
   obtain ⟨bk, o, rfl, hb, hce⟩ := hcell (by omega)
   obtain ⟨c, hc0, hcc⟩ := hce m hml
   clear hcell hce
   cases hq : decide (cmpL xs[m] ys < 0)
   ·have HQ := Lib.hid hq
    go_wp2_with fail
    refine (hp.out m hml c hc0).mono ?_
    rintro e w' ⟨rfl, rfl⟩
    go_wp2_with fail
    go_round
    case rel =>
     refine ⟨a, m, ham, by omega, rfl, rfl, H1.out, fun c h hmc => Int.not_lt.1 fun hlt => ?_⟩
     have h3 : ¬ cmpL xs[m] ys < 0 := by simpa using HQ.out
     by_cases e : m = c
     ·subst e; exact h3 hlt
     ·exact h3 (ltL_trans (sortedL_lt HS.out h (show m < c by omega)) hlt)
    case measure => simp [intOf]; omega
   ·have HQ := Lib.hid hq
    go_wp2_with fail
    refine (hp.out m hml c hc0).mono ?_
    rintro e w' ⟨rfl, rfl⟩
    go_wp2_with fail
    go_round
    case rel =>
     refine ⟨m + 1, b, by omega, hbl, by go_num, rfl, fun c h hmc => ?_, H2.out⟩
     have h3 : cmpL xs[m] ys < 0 := by simpa using HQ.out
     by_cases e : c = m
     ·subst e; exact h3
     ·exact ltL_trans (sortedL_lt HS.out hml (show c < m by omega)) h3
    case measure => simp [intOf]; omega
  ·obtain rfl : a = b := by omega
   have HF := Lib.hid (bs_found hbl H1.out (fun c h h4 => Int.not_lt.2 (H2.out c h h4)) HS.out)
   by_cases hn : a < xs.length
   ·obtain ⟨bk, o, rfl, hb, hce⟩ := hcell (by omega)
    obtain ⟨c, hc0, hcc⟩ := hce a hn
    clear hcell hce
    have HR : Hid ((cmpL xs[a] ys == 0) = tb (ys ∈ xs)) := by
     unfold Hid
     rw [Bool.eq_iff_iff, tb_iff, HF.out]
     simp [hn]
    go_wp2_with fail
    refine (hp.out a hn c hc0).mono ?_
    rintro e w' ⟨rfl, rfl⟩
    go_wp2_with fail
    go_ret2
    exact ⟨⟨a, ret_ib HR.out⟩, rfl⟩
   ·have HR : Hid (false = tb (ys ∈ xs)) := (tb_false (fun hh => hn (HF.out.1 hh).1)).symm
    clear hcell
    go_wp2_with fail
    go_ret2
    exact ⟨⟨a, ret_ib HR.out⟩, rfl⟩
theorem has1_any (w : World) {v u : Value} {xs ys : List Int} (h : intsT.Rd w [v] xs) (h' : intsT.Rd w [u] ys) :
  Calls Tryz.prog 122 #[v, u] w fun e w' => e = .returned (.int .i64 (cmpL xs ys)) ∧ w = w' := by
 go_enter Tryz.func122, Tryz.ntmps122
 go_wp2_with fail
 refine (Compare_any _ h h').mono ?_
 rintro e w' ⟨rfl, rfl⟩
 go_wp2_with fail
 go_ret
 exact ⟨rfl, rfl⟩
theorem has_any (w : World) {cs : Array Value} {r : Int × List (List Int)} (h : relT.Rd w cs.toList r) {u : Value} {ys : List Int} (h' : intsT.Rd w [u] ys) (hs : sortedL r.2) :
  Calls Tryz.prog 68 #[.agg cs, u] w fun e w' => e = .returned (.bool (tb (ys ∈ r.2))) ∧ Below w.heap.size w w' := by
 obtain ⟨v, hv, hI, hx⟩ := pair_ex h
 obtain rfl := agg_of hv
 obtain ⟨ad, cap, rfl⟩ := rd_slice hx
 obtain ⟨ad', cap', rfl⟩ := rd_slice h'
 clear h hv
 go_enter Tryz.func68, Tryz.ntmps68
 go_wp2_with fail
 refine (BSearch_any _ (hx.below bA) (h'.below bA) hs 122 (enters Tryz.func122 (by kernel_rfl) rfl) (fun k hk c hc => has1_any _ hc (h'.below bA))).mono ?_
 rintro e w' ⟨⟨i, rfl⟩, rfl⟩
 go_wp2_with fail
 go_ret
 exact ⟨rfl, (by repeat (first | exact Below.refl _ _ | exact bA | assumption | refine Below.setCell ?_ (by first | omega | (simp; try omega)) _ | refine Below.alloc ?_ (by first | omega | (simp; try omega)) _ | refine Below.drew ?_ | refine bDN ?_ | refine bthen ?_ (by assumption)))⟩
end Go.Proofs.YtggelmbnliajeaaGreatDoor
namespace Go.Proofs.YtggelmbnliajeaaGreatDoor
open Go.RowKit Go.Sort
theorem madeL_succ (s : Int) (tab : List Int) (ts : List (List Int)) (m : Nat) : madeL s tab ts m ++ [madeV s tab ts m] = madeL s tab ts (m + 1) := by simp [madeL, List.range_succ]
theorem sl_ex {α : Type} {E : Ty α} {base : Nat} {w : World} {u : Value} {x : List α} (h : (Ty.slice E).Fr base w [u] x) : ∃ ad n cap, u = .slice ad n cap := let ⟨a, c, h⟩ := fr_slice h; ⟨a, _, c, h⟩
set_option maxHeartbeats 1600000 in
theorem l02Value_quiet (w : World) {v : Value} {f : Int × List Int} (h : opT.Pt w v f) {u : Value} {xs : List Int} (hu : intsT.Rd w [u] xs) {s : Int} (hs : 1 ≤ s) (hs1 : s ≤ 1000) (hl5 : xs.length ≤ 5) (hin : ∀ a ∈ xs, 0 ≤ a ∧ a ≤ s - 1) {k : Nat} (hk : idxL s 0 xs = k) (hkl : k < f.2.length) :
  Calls Tryz.prog 135 #[.int .i64 s, v, u] w fun e w' => e = .returned (.int .i64 f.2[k]) ∧ Quiet w w' := by
 obtain ⟨b, o, ad, cap, rfl, hb, -, c0, c1, hx⟩ := pt_pair h
 obtain ⟨_, _, e1, -, -, hcell⟩ := ints_ex hx
 simp only [List.cons.injEq, Value.slice.injEq, and_true, true_and] at e1
 obtain ⟨rfl, rfl⟩ := e1
 obtain ⟨tb0, to0, rfl, htb, hte⟩ := hcell (by omega)
 have t0 := (hte k hkl).2
 have cC : ∀ n, Calls Tryz.prog 97 #[.int .i64 s, u] (w.drewN n) fun e w'' => e = .returned (.int .i64 k) ∧ ∃ m, w'' = w.drewN m := fun n => by
  have := pure_drawn (l01Code_any (w.drewN n) s (hu.below (Quiet.drewN w n).below) hs hs1 hl5 hin)
  rw [hk] at this
  exact this
 clear h hx hcell hte hu
 go_enter Tryz.func135, Tryz.ntmps135
 go_wp2_with fail
 go_quiet (exact cC _)
 go_wp2_with fail
 go_ret
 exact ⟨rfl, (by first | exact Quiet.refl _ | exact Quiet.drewN _ _ | exact (Quiet.drewN _ _).then (Quiet.drewN _ _) | exact ((Quiet.drewN _ _).then (Quiet.drewN _ _)).then (Quiet.drewN _ _))⟩
set_option maxHeartbeats 3200000 in
set_option maxRecDepth 100000 in
theorem l02Make_any (w : World) {fv : Value} {f : Int × List Int} (h : opT.Pt w fv f) {v : Value} {ts : List (List Int)} (h' : rowsT.Rd w [v] ts) {s : Int} {m : Nat} (hf : opOk s f) (ht : tupsOk s f.1 m ts) (hm : m ≤ 1000) :
  Calls Tryz.prog 96 #[.int .i64 s, fv, v] w (RetS intsT w (madeL s f.2 ts m)) := by
 obtain ⟨ad, cap, hvv, -, hL, hcell⟩ := slices_ex h'
 obtain rfl : v = _ := by simpa using hvv
 have hn : (ts.length : Int) = f.1 := ht.1
 have hs := hf.1
 have ha := hf.2.1
 unfold sizeOk at hs
 have h0 : 0 < ts.length := by omega
 obtain ⟨b, o, rfl, hb, hce⟩ := hcell h0
 obtain ⟨u0, hu0, hc0⟩ := hce 0 h0
 obtain ⟨a0, c0, rfl⟩ := rd_slice hu0
 have hm0 : (ts[0]).length = m := (ht.2 _ (List.getElem_mem h0)).1
 rw [hm0] at hc0
 have hc0' : w.cell? ⟨b, o, none⟩ = some (.slice a0 m c0) := hc0
 have HF := Lib.hid hf
 have HT := Lib.hid ht
 have HC := Lib.hid hce
 have HP := Lib.hid h
 obtain ⟨fb, fo, _, _, rfl, -⟩ := pt_pair h
 clear h h' hvv hf ht hcell hce hu0 hc0
 go_enter Tryz.func96, Tryz.ntmps96
 go_wp2_with fail
 go_loopw [8, 7] (fun i q wr => ∃ p : Nat, p ≤ m ∧ i = .int .i64 p ∧ Bl Ty.int 2 w.heap.size wr.heap.size wr q (madeL s f.2 ts p) ∧ Below w.heap.size w wr) (fun i _ _ => m - (intOf i).toNat)
 case atStart => exact ⟨0, Nat.zero_le _, rfl, by simpa [madeL] using Bl.lit0 (E := Ty.int) (e := 2) (w := w) (Nat.le_refl _), bA⟩
 case round =>
  obtain ⟨p, hp, rfl, hBl, hbel⟩ := hrel
  have HB := Lib.hid hBl
  have y0 := (hbel.cell hb).trans hc0'
  clear hBl
  by_cases hpl : p < m
  ·obtain ⟨kk, hkk, hkl2, hmv⟩ := madeV_get HF.out HT.out hpl
   have HKK := Lib.hid hkk
   have HMV := Lib.hid hmv
   have hsz := hbel.size
   clear hkk hmv
   obtain ⟨wo, rfl⟩ : ∃ wo : World, wo = wr := ⟨_, rfl⟩
   go_wp2_with fail
   go_loopw [10, 9] (fun i q wr => ∃ k : Nat, k ≤ ts.length ∧ i = .int .i64 k ∧ Bl Ty.int 2 wo.heap.size wr.heap.size wr q ((colL ts p).take k) ∧ Below wo.heap.size wo wr) (fun i _ _ => ts.length - (intOf i).toNat)
   case atStart => exact ⟨0, Nat.zero_le _, rfl, by simpa using Bl.lit0 (E := Ty.int) (e := 2) (w := wo) (Nat.le_refl _), bA⟩
   case round =>
    obtain ⟨k, hk, rfl, hBi, hbi⟩ := hrel
    have HBi := Lib.hid hBi
    have hbw : Below w.heap.size w wr := bthen hbel hbi
    have hsi := hbi.size
    clear hBi
    by_cases hkl : k < ts.length
    ·obtain ⟨uk, huk, hck⟩ := HC.out k hkl
     obtain ⟨ak, ck, huv, -, -, hkc⟩ := ints_ex huk
     obtain rfl : uk = _ := by simpa using huv
     have hlk : (ts[k]).length = m := (HT.out.2 _ (List.getElem_mem hkl)).1
     obtain ⟨bk, ok, rfl, hbk, hkce⟩ := hkc (by omega)
     have e0 := (hbw.cell hb).trans hck
     have e1 := (hbw.cell hbk).trans (hkce p (by omega)).2
     have hI1 := (hkce p (by omega)).1
     have hpk : p < (ts[k]).length := by omega
     have hcl : k < (colL ts p).length := by rw [colL_len]; exact hkl
     have HTK : Hid ((colL ts p).take k ++ [(ts[k])[p]] = (colL ts p).take (k + 1)) := by
      unfold Hid
      rw [← colL_get hkl hpk hcl]; exact take_snoc hcl
     clear hkc hkce huv huk hck
     go_wp2_with (refine wpList_push (E := Ty.int) _ rfl _ _ 42 2 rfl elInt rfl (HBi.out.below bA (Nat.le_refl _)) rfl news1 (fr_int hI1) (by rw [List.length_take]; omega) (by decide) hsi (by simp) ?_; intro v1 w3 hB3 hg1 _)
     have hbel1 : Below wo.heap.size wo w3 := (hbi.alloc hbi.size _).grown hg1 (by simp; omega) (fun k hk => HBi.out.own hk)
     rw [HTK.out] at hB3
     have HB3 := Lib.hid hB3
     clear hB3
     go_wp2_with fail
     go_roundw
     case rel => exact ⟨k + 1, by omega, by go_num, HB3.out, hbel1⟩
     case measure => simp [intOf]; omega
    ·obtain rfl : k = ts.length := by omega
     have hfi := HBi.out.fr (by rw [List.length_take]; unfold capMax; omega)
     rw [List.take_of_length_le (by rw [colL_len]; exact Nat.le_refl _)] at hfi
     obtain ⟨aq, nq, cq, rfl⟩ := sl_ex hfi
     have HQ := Lib.hid hfi.rd
     have HIN := Lib.hid (colL_in HT.out hpl)
     have hl5 : (colL ts p).length ≤ 5 := by rw [colL_len]; omega
     clear hfi
     go_wp2_with fail
     refine (l02Value_quiet _ (HP.out.below hbw) HQ.out (by omega) (by omega) hl5 HIN.out HKK.out hkl2).mono ?_
     rintro e w4 ⟨rfl, hq4⟩
     have hb4 := hq4.below
     have hbo : Below wo.heap.size wo w4 := bthen hbi hb4
     have hI4 : I64 f.2[kk] := I64.small (by have := HF.out.2.2.2 _ (List.getElem_mem hkl2); omega) (by have := HF.out.2.2.2 _ (List.getElem_mem hkl2); omega)
     have hz4 := hbo.size
     go_wp2_with (refine wpList_push (E := Ty.int) _ rfl _ _ 42 2 rfl elInt rfl (HB.out.below (hbo.alloc hbo.size _) (Nat.le_refl _)) rfl news1 (fr_int hI4) (by rw [madeL_len]; omega) (by decide) hsz (by simp; omega) ?_; intro v5 w5 hB5 hg5 _)
     have hbel5 : Below w.heap.size w w5 := ((hbel.trans (hbo.mono hsz)).alloc (by omega) _).grown hg5 (by simp; omega) (fun k hk => HB.out.own hk)
     rw [← HMV.out, madeL_succ] at hB5
     have HB5 := Lib.hid hB5
     clear hB5
     go_wp2_with fail
     go_roundw
     case rel => exact ⟨p + 1, by omega, by go_num, HB5.out, hbel5⟩
     case measure => simp [intOf]; omega
  ·obtain rfl : p = m := by omega
   go_wp2_with fail
   go_ret
   exact ⟨_, rfl, HB.out.fr (by rw [madeL_len]; unfold capMax; omega), hbel⟩
end Go.Proofs.YtggelmbnliajeaaGreatDoor
namespace Go.Proofs.YtggelmbnliajeaaGreatDoor
open Go.RowKit
/-- a value as it is: for rows whose elements point into older memory -/
def Ty.val : Ty Value where
 sz := 1
 rd := fun _ cs x fp => cs = [x] ∧ x.oneCell' = true ∧ fp = []
 len := by rintro _ _ _ _ ⟨rfl, _, _⟩; rfl
 same := fun h _ => h
 lt := by rintro _ _ _ _ ⟨rfl, _, rfl⟩ k hk; cases hk
 one := by rintro _ _ _ _ ⟨rfl, h, _⟩ u hu; simp at hu; subst hu; exact h
theorem fr_val {base : Nat} {w : World} {x : Value} (h : x.oneCell' = true) : Ty.val.Fr base w [x] x := ⟨[], ⟨rfl, h, rfl⟩, List.nodup_nil, by simp, fun b hb => by cases hb⟩
/-- a number and a value -/
abbrev pvT : Ty (Int × Value) := Ty.cons Ty.val
theorem fr_pv {base : Nat} {w : World} {n : Int} {x : Value} (hn : I64 n) (h : x.oneCell' = true) : pvT.Fr base w [.int .i64 n, x] (n, x) := ⟨[], ⟨[x], rfl, hn, rfl, h, rfl⟩, List.nodup_nil, by simp, fun b hb => by cases hb⟩
/-- a row of these values reads as the data do -/
theorem ops_of_vals {w : World} {v : Value} {VS : List (Int × Value)} {xs : List (Int × List Int)} (h : (Ty.slice pvT).Rd w [v] VS) (hl : VS.length = xs.length)
  (hr : ∀ i (h : i < VS.length) (h' : i < xs.length), (VS[i]).1 = (xs[i]).1 ∧ I64 (VS[i]).1 ∧ intsT.Rd w [(VS[i]).2] (xs[i]).2) : opsT.Rd w [v] xs := by
 obtain ⟨fp, ad, cap, hv, h1, h2, h3⟩ := h
 obtain rfl : v = _ := by simpa using hv
 rcases h3 with ⟨h3, _⟩ | ⟨h3, b, o, fps, rfl, hb, _, h4⟩
 ·exact ⟨[], ad, cap, by rw [hl], by omega, by omega, .inl ⟨by omega, rfl⟩⟩
 ·have hch : ∀ i, ∃ fp, (h : i < xs.length) → intsT.rd w [(VS[i]'(by omega)).2] (xs[i]).2 fp := fun i => by
   by_cases hi : i < xs.length
   ·obtain ⟨fp, hfp⟩ := (hr i (by omega) hi).2.2
    exact ⟨fp, fun _ => hfp⟩
   ·exact ⟨[], fun h => absurd h hi⟩
  refine ⟨_, some ⟨b, o, none⟩, cap, by rw [hl], by omega, by omega, .inr ⟨by omega, b, o, fun i => (hch i).choose, rfl, hb, rfl, fun i hi => ?_⟩⟩
  obtain ⟨cs, ⟨cs', rfl, _, rfl, _, _⟩, h6⟩ := h4 i (by omega)
  obtain ⟨e1, e2, -⟩ := hr i (by omega) hi
  exact ⟨_, ⟨_, by rw [← e1], by rw [← e1]; exact e2, (hch i).choose_spec hi⟩, h6⟩
end Go.Proofs.YtggelmbnliajeaaGreatDoor
namespace Go.Proofs.YtggelmbnliajeaaGreatDoor
open Go.RowKit Go.Sort
/-- a row of slices reads as rows do, if each of its slices reads so -/
theorem rows_of_vals {w : World} {v : Value} {vs : List Value} {ts : List (List Int)} (h : (Ty.slice Ty.val).Rd w [v] vs) (hl : vs.length = ts.length) (hr : ∀ i (h : i < vs.length) (h' : i < ts.length), intsT.Rd w [vs[i]] ts[i]) : rowsT.Rd w [v] ts := by
 obtain ⟨fp, ad, cap, hv, h1, h2, h3⟩ := h
 obtain rfl : v = _ := by simpa using hv
 rcases h3 with ⟨h3, _⟩ | ⟨h3, b, o, fps, rfl, hb, _, h4⟩
 ·exact ⟨[], ad, cap, by rw [hl], by omega, by omega, .inl ⟨by omega, rfl⟩⟩
 ·have hch : ∀ i, ∃ fp, (h : i < ts.length) → intsT.rd w [vs[i]'(by omega)] ts[i] fp := fun i => by
   by_cases hi : i < ts.length
   ·obtain ⟨fp, hfp⟩ := hr i (by omega) hi
    exact ⟨fp, fun _ => hfp⟩
   ·exact ⟨[], fun h => absurd h hi⟩
  refine ⟨_, some ⟨b, o, none⟩, cap, by rw [hl], by omega, by omega, .inr ⟨by omega, b, o, fun i => (hch i).choose, rfl, hb, rfl, fun i hi => ?_⟩⟩
  obtain ⟨cs, ⟨rfl, _, _⟩, h6⟩ := h4 i (by omega)
  exact ⟨_, (hch i).choose_spec hi, h6⟩

/-- a row of truth values of the call's own -/
def BR (e base : Nat) (w : World) (g n cap : Nat) (L : List Bool) : Prop := L.length = n ∧ base ≤ g ∧ w.ownsRow base e 1 (.slice (some ⟨g, 0, none⟩) n cap) n (L.map Value.bool)
section
variable {e base g n cap : Nat} {w w' : World} {L : List Bool}
theorem BR.cell (h : BR e base w g n cap L) {j : Nat} (hj : j < L.length) : w.cell? ⟨g, j, none⟩ = some (.bool L[j]) := by
 rw [World.ownsRow.cellAt h.2.2 j (by have := h.1; omega)]
 simp [hj]
theorem BR.free (h : BR e base w g n cap L) (j : Nat) : w.frozen? ⟨g, j, none⟩ = false := World.ownsRow.frozenAt h.2.2 j
theorem BR.lt (h : BR e base w g n cap L) : g < w.heap.size := (h.2.2.lt g rfl).2
theorem BR.set (h : BR e base w g n cap L) (j : Nat) (a : Bool) : BR e base (w.setCell ⟨g, j, none⟩ (.bool a)) g n cap (L.set j a) := by
 refine ⟨by rw [List.length_set]; exact h.1, h.2.1, ?_⟩
 rw [List.map_set]
 exact (h.2.2.stored j _).1
theorem BR.below {B : Nat} (h : BR e base w g n cap L) (hb : Below B w w') (hg : g < B) : BR e base w' g n cap L := by
 refine ⟨h.1, h.2.1, h.2.2.1, ?_⟩
 rcases h.2.2.2 with ⟨h', _⟩ | ⟨g', cap', cur, hg', hbg, hh, r⟩
 ·simp at h'
 ·simp only [Value.slice.injEq, Option.some.injEq, Addr.mk.injEq, and_true, true_and] at hg'
  obtain ⟨rfl, rfl⟩ := hg'
  exact .inr ⟨g, _, cur, rfl, hbg, by rw [hb.block g hg]; exact hh, r⟩
end
theorem wpList_mkB {P : Program} (w : World) {ops : Array Oper} {rest : List Oper} {o : Oper} {a : Act} {Q : Exit → Act → World → Prop} (hg : o.guard = none) (l c : Operand) (t e : TypeId) {bytes : Nat}
  (hop : o.op = Op.makeSlice t l c) (ht : P.underlying t = some (.slice e)) (hinfo : (P.info? e).map (fun i => (i.zero, i.size, i.bytes)) = some (some (.bool false), 1, bytes)) (base : Nat) (n : Nat) (hl : a.eval l = .int .i64 (n : Int)) (hc : a.eval c = .int .i64 (n : Int)) (hn : n ≤ 1000000000) (hby : bytes ≤ 100000) (hb : base ≤ w.heap.size)
  (hK : ∀ w', BR e base w' w.heap.size n n (List.replicate n false) → w.grownBy w' none → w'.heap.size = w.heap.size + 1 → wpList P ops Q rest (a.put o.dst (.slice (some ⟨w.heap.size, 0, none⟩) n n)) w') :
  wpList P ops Q (o :: rest) a w := by
 obtain ⟨i, hi, hz, hsz, hbt'⟩ := info_parts hinfo
 have hlen' : bytes * n ≤ 281474976710656 := Nat.le_trans (Nat.mul_le_mul hby hn) (by decide)
 refine wpList_plain hg fun K hK' => ?_
 have hb48 : (i.bytes : Int) * (n : Int) ≤ 281474976710656 := by
  have h : ((bytes * n : Nat) : Int) ≤ 281474976710656 := by omega
  rw [hbt']
  rwa [Int.natCast_mul] at h
 have hr := run_make (P := P) w t e i (.bool false) ht hi hz .i64 .i64 (n : Int) (n : Int) (by omega) (Int.le_refl _) hb48 (by omega)
 simp only [Int.toNat_natCast] at hr
 unfold Oper.wp
 simp only [execOp, hop, hl, hc, hr, Result.andThen_ok, Sem.run_bind, Sem.run_pure]
 have hown := World.ownsRow_lit (base := base) (e := e) (size := 1) w (madeCells (Value.bool false).cells (n * i.size)) n hb (by unfold maxLen; omega) (by rw [size_madeCells, hsz])
 refine hK' _ _ (hK _ ⟨by simp, hb, ?_⟩ (World.grownBy_alloc w _ none) (by simp))
 have e1 : (madeCells (Value.bool false).cells (n * i.size)).toList = (List.replicate n false).map Value.bool := by
  have hc0 : (Value.bool false).cells = #[.bool false] := by simp [Value.cells]
  rw [hsz, Nat.mul_one, List.map_replicate, hc0]
  exact toList_madeCells_one (.bool false) n
 rw [← e1]
 exact hown

/-- lists of one length with the same index are the same -/
theorem idxL_inj {s : Int} (hs : 1 ≤ s) : ∀ (n : Nat) {xs ys : List Int}, xs.length = n → ys.length = n → (∀ a ∈ xs, 0 ≤ a ∧ a ≤ s - 1) → (∀ a ∈ ys, 0 ≤ a ∧ a ≤ s - 1) → idxL s 0 xs = idxL s 0 ys → xs = ys
 | 0, xs, ys, hx, hy, _, _, _ => by rw [List.eq_nil_of_length_eq_zero hx, List.eq_nil_of_length_eq_zero hy]
 | n + 1, xs, ys, hx, hy, hxi, hyi, he => by
  have hx1 : n < xs.length := by omega
  have hy1 : n < ys.length := by omega
  have ex := idxL_take (s := s) hx1
  have ey := idxL_take (s := s) hy1
  rw [List.take_of_length_le (by omega)] at ex ey
  rw [ex, ey] at he
  have ax := hxi _ (List.getElem_mem hx1)
  have ay := hyi _ (List.getElem_mem hy1)
  have h1 : (idxL s 0 (xs.take n) * s + xs[n]) % s = xs[n] := by
   rw [Int.add_comm, Int.add_mul_emod_self_right]; exact Int.emod_eq_of_lt ax.1 (by omega)
  have h2 : (idxL s 0 (ys.take n) * s + ys[n]) % s = ys[n] := by
   rw [Int.add_comm, Int.add_mul_emod_self_right]; exact Int.emod_eq_of_lt ay.1 (by omega)
  have hn : xs[n] = ys[n] := by rw [← h1, ← h2, he]
  have hq : idxL s 0 (xs.take n) = idxL s 0 (ys.take n) := by
   have h3 : idxL s 0 (xs.take n) * s = idxL s 0 (ys.take n) * s := by omega
   exact Int.eq_of_mul_eq_mul_right (by omega) h3
  have ih := idxL_inj hs n (xs := xs.take n) (ys := ys.take n) (by rw [List.length_take]; omega) (by rw [List.length_take]; omega) (fun a ha => hxi a (List.mem_of_mem_take ha)) (fun a ha => hyi a (List.mem_of_mem_take ha)) hq
  rw [← List.take_of_length_le (l := xs) (i := n + 1) (by omega), ← List.take_of_length_le (l := ys) (i := n + 1) (by omega), List.take_succ_eq_append_getElem hx1, List.take_succ_eq_append_getElem hy1, ih, hn]
end Go.Proofs.YtggelmbnliajeaaGreatDoor
namespace Go.Proofs.YtggelmbnliajeaaGreatDoor
open Go.RowKit Go.Sort
theorem nodup_lt_len : ∀ (N : Nat) (L : List Nat), L.Nodup → (∀ x ∈ L, x < N) → L.length ≤ N
 | 0, L, _, h => by
  cases L with
  | nil => exact Nat.le_refl _
  | cons x r => exact absurd (h x (List.mem_cons_self ..)) (Nat.not_lt_zero _)
 | N + 1, L, hn, h => by
  by_cases hm : N ∈ L
  ·have h1 := nodup_lt_len N (L.erase N) (hn.erase N) fun x hx => by
    have h2 := h x (List.mem_of_mem_erase hx)
    have h3 : x ≠ N := fun e => by subst e; exact hn.not_mem_erase hx
    omega
   have h4 := List.length_erase_of_mem hm
   omega
  ·have := nodup_lt_len N L hn fun x hx => by
    have h2 := h x hx
    have h3 : x ≠ N := fun e => by subst e; exact hm hx
    omega
   omega
/-- a list that rises has nothing twice -/
theorem sortedL_nodup {ts : List (List Int)} (h : sortedL ts) : ts.Nodup := by
 rw [List.Nodup, List.pairwise_iff_getElem]
 intro i j hi hj hij e
 have := sortedL_lt h hj hij
 rw [e] at this
 unfold ltL at this
 rw [cmpL_self] at this
 omega
theorem idx_lt {s : Int} (hs : 1 ≤ s) {xs : List Int} {m : Nat} (hl : xs.length = m) (h : ∀ a ∈ xs, 0 ≤ a ∧ a ≤ s - 1) : 0 ≤ idxL s 0 xs ∧ idxL s 0 xs ≤ s ^ m - 1 := by
 have := idx_bd hs h xs.length (Nat.le_refl _)
 rwa [List.take_length, hl] at this
/-- as many tuples as there can be: all of them -/
theorem full_mem {s : Int} (hs : 1 ≤ s) {m : Nat} {ts : List (List Int)} (hn : ts.Nodup) (hts : ∀ t ∈ ts, t.length = m ∧ ∀ a ∈ t, 0 ≤ a ∧ a ≤ s - 1) (hl : (ts.length : Int) = s ^ m) {t : List Int} (ht : t.length = m) (hti : ∀ a ∈ t, 0 ≤ a ∧ a ≤ s - 1) : t ∈ ts := by
 apply Classical.byContradiction
 intro hno
 have hN : (((t :: ts).map fun x => (idxL s 0 x).toNat)).Nodup := by
  have hn2 : (t :: ts).Nodup := List.nodup_cons.2 ⟨hno, hn⟩
  have hall : ∀ x ∈ t :: ts, x.length = m ∧ ∀ a ∈ x, 0 ≤ a ∧ a ≤ s - 1 := fun x hx => by
   rcases List.mem_cons.1 hx with rfl | hx
   ·exact ⟨ht, hti⟩
   ·exact hts x hx
  rw [List.Nodup, List.pairwise_map]
  refine List.Pairwise.imp_of_mem ?_ hn2
  intro a b ha hb hab e
  obtain ⟨a1, a2⟩ := hall a ha
  obtain ⟨b1, b2⟩ := hall b hb
  have ha3 := idx_lt hs a1 a2
  have hb3 := idx_lt hs b1 b2
  exact hab (idxL_inj hs m a1 b1 a2 b2 (by omega))
 have := nodup_lt_len ts.length _ hN fun x hx => by
  obtain ⟨y, hy, rfl⟩ := List.mem_map.1 hx
  have hall : y.length = m ∧ ∀ a ∈ y, 0 ≤ a ∧ a ≤ s - 1 := by
   rcases List.mem_cons.1 hy with rfl | hy
   ·exact ⟨ht, hti⟩
   ·exact hts y hy
  have h3 := idx_lt hs hall.1 hall.2
  rw [← hl] at h3
  omega
 simp at this
 omega
/-- the tuples of a relation that an index picks -/
def picks (ts : List (List Int)) (ar : Nat) (i : Int) : List (List Int) := (digL ts.length i ar).map fun k => ts.getD k.toNat []
/-- what the operation makes of them -/
def makes (s : Int) (f : Int × List Int) (r : Int × List (List Int)) (i : Int) : List Int := madeL s f.2 (picks r.2 f.1.toNat i) r.1.toNat
def keepsP (s : Int) (f : Int × List Int) (r : Int × List (List Int)) : Prop := ∀ i : Nat, (i : Int) < (r.2.length : Int) ^ f.1.toNat → makes s f r i ∈ r.2
theorem picks_len {ts : List (List Int)} {ar : Nat} {i : Int} : (picks ts ar i).length = ar := by simp [picks, digL_len]
theorem dig_mem {n i : Int} {ar : Nat} (hn : 1 ≤ n) {k : Int} (h : k ∈ digL n i ar) : 0 ≤ k ∧ k < n := by
 obtain ⟨j, _, rfl⟩ := List.mem_map.1 h
 exact dig_nn hn _
theorem picks_ok {s : Int} {f : Int × List Int} {r : Int × List (List Int)} (hr : relOk s r) (hf : opOk s f) (h0 : 0 < r.2.length) (i : Int) : tupsOk s f.1 r.1.toNat (picks r.2 f.1.toNat i) := by
 have ha := hf.2.1
 refine ⟨by rw [picks_len]; omega, fun t ht => ?_⟩
 obtain ⟨k, hk, rfl⟩ := List.mem_map.1 ht
 obtain ⟨k1, k2⟩ := dig_mem (by omega) hk
 have hkl : k.toNat < r.2.length := by omega
 rw [List.getD_eq_getElem?_getD, List.getElem?_eq_getElem hkl]
 obtain ⟨h1, h2⟩ := (hr.2.2 _ hkl).1
 refine ⟨?_, h2⟩
 show (r.2[k.toNat]).length = r.1.toNat
 omega
theorem makes_in {s : Int} {f : Int × List Int} {r : Int × List (List Int)} (hr : relOk s r) (hf : opOk s f) (h0 : 0 < r.2.length) (i : Int) : (makes s f r i).length = r.1.toNat ∧ ∀ a ∈ makes s f r i, 0 ≤ a ∧ a ≤ s - 1 := by
 refine ⟨madeL_len, fun a ha => ?_⟩
 obtain ⟨p, hp, rfl⟩ := List.mem_map.1 ha
 obtain ⟨k, _, hk, he⟩ := madeV_get hf (picks_ok hr hf h0 i) (by simpa using hp)
 show 0 ≤ madeV s f.2 (picks r.2 f.1.toNat i) p ∧ madeV s f.2 (picks r.2 f.1.toNat i) p ≤ s - 1
 rw [he]
 exact hf.2.2.2 _ (List.getElem_mem hk)
/-- a relation with all tuples is kept -/
theorem keeps_full {s : Int} {f : Int × List Int} {r : Int × List (List Int)} (hr : relOk s r) (hf : opOk s f) (hl : (r.2.length : Int) = s ^ r.1.toNat) : keepsP s f r := by
 intro i hi
 have hs := hr.1
 unfold sizeOk at hs
 have h0 : 0 < r.2.length := by
  have : 0 < s ^ r.1.toNat := Int.pow_pos (by omega)
  omega
 obtain ⟨h1, h2⟩ := makes_in hr hf h0 i
 have hso := relOk_sorted hr
 refine full_mem (by omega) (sortedL_nodup hso) (fun t ht => ?_) hl h1 h2
 obtain ⟨k, hk, rfl⟩ := List.mem_iff_getElem.1 ht
 obtain ⟨g1, g2⟩ := (hr.2.2 _ hk).1
 exact ⟨by omega, g2⟩
end Go.Proofs.YtggelmbnliajeaaGreatDoor
namespace Go.Proofs.YtggelmbnliajeaaGreatDoor
open Go.RowKit Go.Sort
/-- a set of tuples in new memory: a box whose third cell is a row of truth values -/
def SetAt (e base : Nat) (w : World) (bx g n : Nat) (L : List Bool) : Prop := base ≤ bx ∧ bx < w.heap.size ∧ g ≠ bx ∧ w.cell? ⟨bx, 2, none⟩ = some (.slice (some ⟨g, 0, none⟩) n n) ∧ BR e base w g n n L
theorem SetAt.below {e base bx g n B : Nat} {w w' : World} {L : List Bool} (h : SetAt e base w bx g n L) (hb : Below B w w') (hB : w.heap.size ≤ B) : SetAt e base w' bx g n L :=
 let ⟨h1, h2, h3, h4, h5⟩ := h
 ⟨h1, Nat.lt_of_lt_of_le h2 hb.size, h3, (hb.cell (p := ⟨bx, 2, none⟩) (Nat.lt_of_lt_of_le h2 hB)).trans h4, h5.below hb (Nat.lt_of_lt_of_le h5.lt hB)⟩
theorem infoBool : (Tryz.prog.info? 4).map (fun i => (i.zero, i.size, i.bytes)) = some (some (.bool false), 1, 1) := by kernel_rfl
set_option maxHeartbeats 800000 in
set_option maxRecDepth 100000 in
theorem l01Empty_any (w : World) (s m : Int) (hs : 1 ≤ s) (hs1 : s ≤ 1000) (hm : m ≤ 5) (N : Nat) (hN : s ^ m.toNat = N) (hN1 : N ≤ 1000000) :
  Calls Tryz.prog 91 #[.int .i64 s, .int .i64 m] w fun e w' => ∃ bx g, e = .returned (.pointer (some ⟨bx, 0, none⟩)) ∧ SetAt 4 w.heap.size w' bx g N (List.replicate N false) ∧ Below w.heap.size w w' := by
 go_enter Tryz.func91, Tryz.ntmps91
 go_wp2_with fail
 refine (l01Power_any _ s m (by omega) hs1 hm).mono ?_
 rintro e _ ⟨rfl, rfl⟩
 rw [hN]
 go_wp2_with (refine wpList_mkB _ rfl _ _ 120 4 rfl Tryz.underlying120 infoBool w.heap.size N rfl rfl (by omega) (by decide) (by simp) ?_; intro w1 hA hg1 hs1)
 have hb1 := below_of_grown hg1
 have HA := Lib.hid hA
 clear hA
 go_wp2_with fail
 go_ret
 exact ⟨w.heap.size + 1, w.heap.size, rfl, ⟨by omega, by simp; omega, by omega, by rw [← hs1]; simp, HA.out.below (bA (w := w1)) HA.out.lt⟩, hb1.alloc hb1.size _⟩
/-- the indices that have come up among the first k tuples -/
def seenL (s : Int) (N : Nat) (ts : List (List Int)) : List Bool := (List.range N).map fun j : Nat => ts.any fun t => idxL s 0 t == (j : Int)
theorem seenL_len {s : Int} {N : Nat} {ts : List (List Int)} : (seenL s N ts).length = N := by simp [seenL]
theorem seenL_nil {s : Int} {N : Nat} : seenL s N [] = List.replicate N false := by
 apply List.ext_getElem
 ·simp [seenL]
 ·intro i h1 h2; simp [seenL]
theorem seenL_set {s : Int} {N : Nat} {ts : List (List Int)} {k j : Nat} (hk : k < ts.length) (hj : idxL s 0 ts[k] = (j : Int)) (_hjN : j < N) : (seenL s N (ts.take k)).set j true = seenL s N (ts.take (k + 1)) := by
 apply List.ext_getElem
 ·simp [seenL]
 ·intro i h1 h2
  have hi : i < N := by simpa [seenL] using h2
  have htk : ts.take (k + 1) = ts.take k ++ [ts[k]] := List.take_succ_eq_append_getElem hk
  by_cases e : j = i
  ·subst e
   rw [List.getElem_set_self]
   simp only [seenL, List.getElem_map, List.getElem_range, htk, List.any_append, List.any_cons, List.any_nil, hj, beq_self_eq_true, Bool.or_true, Bool.true_or]
  ·rw [List.getElem_set_ne e]
   have : ((j : Int) == (i : Int)) = false := by simp; omega
   simp only [seenL, List.getElem_map, List.getElem_range, htk, List.any_append, List.any_cons, List.any_nil, hj, this, Bool.or_false]
theorem seenL_get {s : Int} (hs : 1 ≤ s) {m N : Nat} {ts : List (List Int)} (hts : ∀ t ∈ ts, t.length = m ∧ ∀ a ∈ t, 0 ≤ a ∧ a ≤ s - 1) {t : List Int} (ht : t.length = m) (hti : ∀ a ∈ t, 0 ≤ a ∧ a ≤ s - 1) {j : Nat} (hj : idxL s 0 t = (j : Int)) (h : j < (seenL s N ts).length) : (seenL s N ts)[j] = tb (t ∈ ts) := by
 rw [Bool.eq_iff_iff, tb_iff]
 simp only [seenL, List.getElem_map, List.getElem_range, List.any_eq_true, beq_iff_eq]
 constructor
 ·rintro ⟨x, hx, he⟩
  obtain ⟨x1, x2⟩ := hts x hx
  have := idxL_inj hs m x1 ht x2 hti (by rw [he, hj])
  rwa [← this]
 ·intro hm
  exact ⟨t, hm, hj⟩
end Go.Proofs.YtggelmbnliajeaaGreatDoor
namespace Go.Proofs.YtggelmbnliajeaaGreatDoor
open Go.RowKit Go.Sort
set_option maxHeartbeats 1600000 in
set_option maxRecDepth 100000 in
theorem l01SetOf_any (w : World) {v : Value} {r : Int × List (List Int)} (h : relT.Pt w v r) {s : Int} (hr : relOk s r) (N : Nat) (hN : s ^ r.1.toNat = N) :
  Calls Tryz.prog 40 #[.int .i64 s, v] w fun e w' => ∃ bx g, e = .returned (.pointer (some ⟨bx, 0, none⟩)) ∧ SetAt 4 w.heap.size w' bx g N (seenL s N r.2) ∧ w.heap.size ≤ g ∧ Below w.heap.size w w' := by
 obtain ⟨b, o, ad, cap, rfl, hb, hI, c0, c1, hx⟩ := pt_pair h
 obtain ⟨_, _, e1, hle, hle2, hcell⟩ := slices_ex hx
 simp only [List.cons.injEq, Value.slice.injEq, and_true, true_and] at e1
 obtain ⟨rfl, rfl⟩ := e1
 have hs := hr.1
 have hm := hr.2.1
 unfold sizeOk at hs hm
 have HRO := Lib.hid hr
 have hNle : N ≤ 1000000 := by
  have h1 : s ^ r.1.toNat ≤ 1000000 := by
   refine Int.le_trans (pow_mono' (by omega) (show s ≤ 4 by omega) r.1.toNat) ?_
   rcases (show r.1.toNat = 1 ∨ r.1.toNat = 2 ∨ r.1.toNat = 3 ∨ r.1.toNat = 4 by omega) with e | e | e | e <;> rw [e] <;> decide
  omega
 have HN := Lib.hid hN
 clear h hx hr hN
 go_enter Tryz.func40, Tryz.ntmps40
 go_wp2_with fail
 refine (l01Empty_any _ s r.1 (by omega) (by omega) (by omega) N HN.out hNle).mono ?_
 rintro e w1 ⟨bx, g, rfl, hset, hb1⟩
 have HS1 := Lib.hid hset
 clear hset
 go_wp2_with fail
 go_loopw [6] (fun i wr => ∃ k : Nat, k ≤ r.2.length ∧ i = .int .i64 k ∧ SetAt 4 w.heap.size wr bx g N (seenL s N (r.2.take k)) ∧ Below w.heap.size w wr) (fun i _ => r.2.length - (intOf i).toNat)
 case atStart => exact ⟨0, Nat.zero_le _, rfl, by rw [List.take_zero, seenL_nil]; exact HS1.out, hb1⟩
 case round =>
  obtain ⟨k, hk, rfl, hset, hbel⟩ := hrel
  have d1 := (hbel.cell hb).trans c1
  obtain ⟨s1, s2, s3, s4, s5⟩ := id hset
  have HS := Lib.hid hset
  have hgl := s5.2.1
  clear hset
  by_cases hkl : k < r.2.length
  ·obtain ⟨a, q, rfl, haa, hce⟩ := hcell (by omega)
   obtain ⟨u, hu, hcu⟩ := hce k hkl
   obtain ⟨au, cu, rfl⟩ := rd_slice hu
   have d2 := (hbel.cell haa).trans hcu
   obtain ⟨t1, t2⟩ := (HRO.out.2.2 k hkl).1
   have htl : (r.2[k]).length = r.1.toNat := by omega
   obtain ⟨i0, i1⟩ := idx_lt (s := s) (by omega) htl t2
   obtain ⟨j, hj⟩ : ∃ j : Nat, idxL s 0 r.2[k] = j := ⟨(idxL s 0 r.2[k]).toNat, by omega⟩
   have hjN : j < N := by have := HN.out; rw [this, hj] at i1; omega
   have e0 := s5.cell (j := j) (by rw [seenL_len]; exact hjN)
   have e1 := s5.free j
   have hgs := s5.lt
   have HST := Lib.hid (seenL_set hkl hj hjN)
   have HBS := Lib.hid (s5.set j true)
   have HU := Lib.hid (hu.below hbel)
   have HT2 := Lib.hid t2
   have HJ := Lib.hid hj
   have hlen5 : (r.2[k]).length ≤ 5 := by omega
   have q1 : 1 ≤ s := hs.1
   have q2 : s ≤ 1000 := by omega
   have n1 : g ≠ b := by omega
   have n2 : g ≠ a := by omega
   have f0 : wr.drew.cell? ⟨g, j, none⟩ = some (.bool ((seenL s N (r.2.take k))[j]'(by rw [seenL_len]; exact hjN))) := e0
   have f1 : wr.drew.frozen? ⟨g, j, none⟩ = false := e1
   clear hce hcell hu hcu t1 t2 htl hj i0 i1 s5 c0 c1
   go_wp2_with fail
   go_region_held_law (fun w' => w'.cell? ⟨bx, 2, none⟩ = some (.slice (some ⟨g, 0, none⟩) N N) ∧ w'.cell? ⟨b, o + 1, none⟩ = some (.slice (some ⟨a, q, none⟩) r.2.length cap) ∧ w'.cell? ⟨a, q + k, none⟩ = some (.slice au (r.2[k]).length cu)) (first | exact ⟨s4, d1, d2⟩ | go_keep)
    (first
     | (go_simp; go_at_call 97; refine (l01Code_any _ s (HU.out.below bD) q1 q2 hlen5 HT2.out).mono ?_; rintro e _ ⟨rfl, rfl⟩; rw [HJ.out]; dsimp only))
   go_wp2_with fail
   go_roundw
   case rel => exact ⟨k + 1, by omega, by go_num, ⟨s1, by simpa [World.setCell] using s2, s3, (World.cell?_setCell_other _ _ _ _ (by first | (simp; done) | (simp; omega))).trans s4, by rw [← HST.out]; exact HBS.out⟩, (hbel.trans bD').setCell (by first | (simp; done) | (simp; omega)) _⟩
   case measure => simp [intOf]; omega
  ·obtain rfl : k = r.2.length := by omega
   rw [List.take_length] at HS
   clear hcell
   go_wp2_with fail
   go_ret
   exact ⟨bx, g, rfl, HS.out, hgl, hbel⟩
end Go.Proofs.YtggelmbnliajeaaGreatDoor
namespace Go.Proofs.YtggelmbnliajeaaGreatDoor
open Go.RowKit Go.Sort
end Go.Proofs.YtggelmbnliajeaaGreatDoor
