/-
The law of an append of a whole row: 'append(a, b...)', where b is new data. No program is named here.
Contracts: the conjunction of two formulas.
Plain mathematics: the tuples of a relation made by number are in order; where two values of formulas are apart.
Contracts: the value of a formula with its code, both sides.
Contracts: a template in new memory; a template extended by a formula: plain parts, the program's copies.
Memory of a search for operations: blocks that may be written, as a property; rows whose data lie in such blocks; a row cut short; rows of truth values; pointers to sets. No program is named here.
Contracts: a set of tuples with its size and arity: made of a relation, a tuple put into it, its relation.
Contracts: the relation of a set.
Plain mathematics of the search for operations: the program's recursion and the reference's steps answer alike. No program is named here.
Contracts: whether an operation breaks a relation, the reference's.
Plain mathematics: the lists of tuples that a finder of operations looks at; which are due at each place; whether they go.
Contracts: a finder's data; whether what is due goes.
Contracts: the search for operations, told to a listener.
Contracts: a row of one number so many times (slices.Repeat, for the few lengths that occur).
Small lemmas of lists of tuples that both searches use. No program is named here.
 A finder's data while they are made: rows of lists that are due, each a row of its own, and a row of sets; what each append keeps. No program is named here.
A region that draws its order: what may come up when two or three may; two boxes that are filled last. No program is named here.
Contracts: a finder, made. (Its first region is printed by gen_nf.py.)
-/
import Derived.Test.YtajmjfbejfiipaaGreatQAC
import Derived.Test.YtajmjfbejfiipaaGreatQAE
import Derived.Test.YtajmjfbejfiipaaGreatQAB
import Derived.Test.YtajmjfbejfiipaaGreatQAD
import Derived.Test.YtajmjfbejfiipaaGreatQAA
import Derived.Deep.CutRange
import Derived.Laws.CopyOwn
namespace Go.Proofs.YtajmjfbejfiipaaGreat
open Go.RowKit
theorem run_load_zero {P : Program} (w : World) (a : Addr) : (loadCells a 0).run P w = .ok #[] w := by
 simp [loadCells, loadCellsFrom]
theorem run_append_zero {P : Program} (w : World) (base : Nat) (t ty e : TypeId) {sz bytes : Nat} (hT : ElT P t e sz bytes) (v : Value) (n : Nat) (xs : List Value) (hown : w.ownsRow base e sz v n xs) (ad : Option Addr) (c : Nat) :
  (Builtin.append_ #[t, t] ty #[v, .slice ad 0 c]).run P w = .ok v w := by
 obtain ⟨i, z, ht, hi, hz, rfl, rfl, hzs, hp⟩ := hT
 rcases hown.2 with ⟨rfl, rfl⟩ | ⟨g, cap, cur, rfl, _, _, hnc, _⟩
 ·cases ad <;> simp [Builtin.append_, run_underlying ht, sizeOf, typeInfo, hi, Builtin.lenOf, Builtin.firstCells, run_load_zero]
 ·cases ad <;> simp [Builtin.append_, run_underlying ht, sizeOf, typeInfo, hi, Builtin.lenOf, Builtin.firstCells, hnc, storeCells, run_load_zero]
theorem getD_slot {n i q sz : Nat} (h : i < n) (hq : q < sz) : i * sz + q < n * sz := by
 have h10 : (i + 1) * sz ≤ n * sz := Nat.mul_le_mul_right _ h
 rw [Nat.add_mul] at h10
 omega
theorem run_pushFx {P : Program} {α : Type} {E : Ty α} (w : World) (t ty e : TypeId) {bytes : Nat} (hT : ElT P t e E.sz bytes)
  {base top : Nat} {v : Value} {ys : List α} (hB : Bl E e base top w v ys) {lo : Nat} {u : Value} {xs : List α} {fpu : List Nat} (hu0 : (Ty.slice E).rd w [u] xs fpu) (hnd : fpu.Nodup) (hbs : ∀ k ∈ fpu, lo ≤ k ∧ (k < base ∨ top ≤ k)) (hun : Unf w fpu) (hlo : lo ≤ base)
  (hlen : ys.length + xs.length ≤ 1000000000) (hby : bytes ≤ 100000) (hbt : base ≤ top) (htop : top ≤ w.heap.size) :
  ∃ v' w', (Builtin.append_ #[t, t] ty #[v, u]).run P w = .ok v' w' ∧ Bl E e lo w'.heap.size w' v' (ys ++ xs) ∧ w.grownBy w' v.ownBlock ∧ (v'.ownBlock = v.ownBlock ∨ v'.ownBlock = some w.heap.size) := by
 obtain ⟨L, fps, g1, g2, g3, g4, g5, g6⟩ := hB
 obtain ⟨ad, cap, hv, k1, k2, k3⟩ := hu0
 have g7 : ∀ g, v.ownBlock = some g → base ≤ g := fun g hg => (g1.lt g hg).1
 have g1' : w.ownsRow lo e E.sz v ys.length L := by
  refine ⟨g1.1, ?_⟩
  rcases g1.2 with h | ⟨g', cap', cur, hg', hbg, hh, r⟩
  ·exact .inl h
  ·exact .inr ⟨g', cap', cur, hg', Nat.le_trans hlo hbg, hh, r⟩
 obtain rfl : u = _ := by simpa using hv
 rcases k3 with ⟨h0, rfl⟩ | ⟨h0, b, o, fpx, rfl, hb, rfl, hr⟩
 ·have hx : xs = [] := List.eq_nil_of_length_eq_zero h0
  subst hx
  exact ⟨v, w, run_append_zero w base t ty e hT v ys.length L g1 ad cap, by rw [List.append_nil]; exact ⟨L, fps, g1', g2, g3, fun b hb => ⟨Nat.le_trans hlo (g4 b hb).1, Nat.lt_of_lt_of_le (g4 b hb).2.1 htop, (g4 b hb).2.2⟩, fun g hg => Nat.lt_of_lt_of_le (g5 g hg) htop, g6⟩, ⟨rfl, rfl, rfl, Nat.le_refl _, fun _ _ _ => rfl⟩, .inl rfl⟩
 ·obtain ⟨i, z, ht, hi, hz, hsz, hbt', hzs, hp⟩ := id hT
  have hlen' : (ys.length + xs.length) * bytes ≤ 140737488355328 := Nat.le_trans (Nat.mul_le_mul hlen hby) (by decide)
  have hbase : base ≤ w.heap.size := Nat.le_trans hbt htop
  -- the cells of the row
  have hcell : ∀ j, j < xs.length * E.sz → ∃ u, w.cell? ⟨b, o + j, none⟩ = some u ∧ u.oneCell' = true := by
   intro j hj
   have hi' : j / E.sz < xs.length := (Nat.div_lt_iff_lt_mul hp).2 hj
   have hq : j % E.sz < E.sz := Nat.mod_lt _ hp
   obtain ⟨cs, h1, h2⟩ := hr (j / E.sz) hi'
   have hcl := E.len h1
   have := h2 (j % E.sz) (by omega)
   rw [show o + j / E.sz * E.sz + j % E.sz = o + j by rw [Nat.add_assoc, Nat.div_add_mod']] at this
   exact ⟨_, this, E.one h1 _ (List.getElem_mem _)⟩
  let news : List Value := (List.range (xs.length * E.sz)).map fun j => (w.cell? ⟨b, o + j, none⟩).getD undef
  have hnl : news.length = xs.length * E.sz := by simp [news]
  have hng : ∀ j (h : j < xs.length * E.sz) u, w.cell? ⟨b, o + j, none⟩ = some u → news[j]? = some u := by
   intro j h u hc
   simp only [news, List.getElem?_map, List.getElem?_range h, Option.map_some, hc, Option.getD_some]
  have hnews : ∀ (j : Nat) (u : Value), news[j]? = some u → w.cell? ((⟨b, o, none⟩ : Addr).add j) = some u := by
   intro j u hj
   have hjl : j < xs.length * E.sz := by
    rcases Nat.lt_or_ge j news.length with h | h
    ·omega
    ·rw [List.getElem?_eq_none h] at hj; cases hj
   obtain ⟨u', h1, _⟩ := hcell j hjl
   have h2 := hng j hjl u' h1
   rw [hj] at h2
   simp only [Option.some.injEq] at h2
   subst h2
   by_cases hj0 : j = 0
   ·subst hj0; simpa [Addr.add] using h1
   ·simpa [Addr.add, hj0] using h1
  have hone : ∀ u ∈ news, u.oneCell' = true := by
   intro u hu
   obtain ⟨j, hj, rfl⟩ := List.mem_map.1 hu
   obtain ⟨u', h1, h2⟩ := hcell j (by simpa using hj)
   rw [h1]; exact h2
  obtain ⟨v', w', hr', h2, h3, h4⟩ := run_append_own (P := P) w lo t ty e i z E.sz bytes ht hi hz hsz hbt' hzs hp v ys.length L g1' ⟨b, o, none⟩ xs.length cap news hnl hnews hone (by unfold maxLen; omega) hlen' (Nat.le_trans hlo hbase)
  have hblk := run_push_block w lo t ty e hT v ys.length L g1' ⟨b, o, none⟩ xs.length cap news hnl hnews hone (by unfold maxLen; omega) hlen' h0 v' w' hr'
  have hS : ∀ k, v.ownBlock ≠ some k → k < w.heap.size → w'.heap[k]? = w.heap[k]? := fun k hk hlt => h3.block k hlt (fun he => hk he.symm)
  have hlt1 : ∀ b ∈ flat fps ys.length, b < w.heap.size := fun b hb => Nat.lt_of_lt_of_le (g4 b hb).2.1 htop
  have hxlt : ∀ k ∈ flat fpx xs.length, k < w.heap.size ∧ lo ≤ k ∧ (k < base ∨ top ≤ k) := fun k hk => by
   obtain ⟨i', hi', hk'⟩ := List.mem_flatMap.1 hk
   obtain ⟨cs, h1, _⟩ := hr i' (by simpa using hi')
   exact ⟨E.lt h1 k hk', hbs k (List.mem_cons_of_mem _ hk)⟩
  have hne : ∀ k ∈ flat fpx xs.length, v.ownBlock ≠ some k := fun k hk he => by have := g5 k he; have := g7 k he; have := (hxlt k hk).2.2; omega
  have hS1 : Same (flat fps ys.length) w w' := fun k hk => hS k (g4 k hk).2.2 (hlt1 k hk)
  have hS2 : Same (flat fpx xs.length) w w' := fun k hk => hS k (hne k hk) (hxlt k hk).1
  have hndx : (flat fpx xs.length).Nodup := (List.nodup_cons.1 hnd).2
  have hLl : L.length = ys.length * E.sz := g1.1
  refine ⟨v', w', hr', ⟨L ++ news, fun i => if i < ys.length then fps i else fpx (i - ys.length), by simpa using h2, fun i hi => ?_, ?_⟩, h3, hblk⟩
  ·by_cases hil : i < ys.length
   ·obtain ⟨cs', h7, h8⟩ := g2 i hil
    refine ⟨cs', ?_, fun j hj => ?_⟩
    ·rw [List.getElem_append_left hil]
     simp only [if_pos hil]
     exact E.same h7 (fun k hk => hS1 k (List.mem_flatMap.2 ⟨i, by simpa using hil, hk⟩))
    ·have hcl := E.len h7
     rw [List.getElem?_append_left (by rw [hLl]; exact getD_slot hil (by omega))]
     exact h8 j hj
   ·have hi2 : i - ys.length < xs.length := by rw [List.length_append] at hi; omega
    obtain ⟨cs', h7, h8⟩ := hr (i - ys.length) hi2
    refine ⟨cs', ?_, fun j hj => ?_⟩
    ·rw [List.getElem_append_right (by omega)]
     simp only [if_neg hil]
     exact E.same h7 (fun k hk => hS2 k (List.mem_flatMap.2 ⟨_, by simpa using hi2, hk⟩))
    ·have hcl := E.len h7
     have hge : ys.length * E.sz ≤ i * E.sz := Nat.mul_le_mul_right _ (by omega)
     rw [List.getElem?_append_right (by omega), hLl]
     have he : i * E.sz + j - ys.length * E.sz = (i - ys.length) * E.sz + j := by rw [Nat.sub_mul]; omega
     rw [he]
     exact hng _ (getD_slot hi2 (by omega)) _ (by rw [← Nat.add_assoc]; exact h8 j hj)
  ·have hflat : flat (fun i => if i < ys.length then fps i else fpx (i - ys.length)) (ys ++ xs).length = flat fps ys.length ++ flat fpx xs.length := by
    rw [List.length_append]
    unfold flat
    rw [List.range_add, List.flatMap_append]
    congr 1
    ·refine congrArg List.flatten (List.map_congr_left fun i hi => ?_)
     simp at hi
     rw [if_pos hi]
    ·rw [List.flatMap_map]
     refine congrArg List.flatten (List.map_congr_left fun i hi => ?_)
     rw [if_neg (by omega), Nat.add_sub_cancel_left]
   rw [hflat]
   have hsz' := h3.size
   refine ⟨List.nodup_append.2 ⟨g3, hndx, fun a ha b hb he => by subst he; have := (g4 a ha).2.1; have := (g4 a ha).1; have := (hxlt a hb).2.2; omega⟩, fun k hk => ?_, fun g hg => (h2.lt g hg).2, fun k hk => ?_⟩
   ·rcases List.mem_append.1 hk with hk | hk
    ·refine ⟨Nat.le_trans hlo (g4 k hk).1, by have := hlt1 k hk; omega, ?_⟩
     rcases hblk with e1 | e1 <;> rw [e1]
     ·exact (g4 k hk).2.2
     ·intro he; have := hlt1 k hk; simp at he; omega
    ·refine ⟨(hxlt k hk).2.1, by have := (hxlt k hk).1; omega, ?_⟩
     rcases hblk with e1 | e1 <;> rw [e1]
     ·exact hne k hk
     ·intro he; have := (hxlt k hk).1; simp at he; omega
   ·rcases List.mem_append.1 hk with hk | hk
    ·exact g6.same hS1 k hk
    ·exact (Unf.same (fun b hb => hun b (List.mem_cons_of_mem _ hb)) hS2) k hk
theorem run_pushAll {P : Program} {α : Type} {E : Ty α} (w : World) (t ty e : TypeId) {bytes : Nat} (hT : ElT P t e E.sz bytes)
  {base top : Nat} {v : Value} {ys : List α} (hB : Bl E e base top w v ys) {u : Value} {xs : List α} (hu : (Ty.slice E).Fr top w [u] xs)
  (hlen : ys.length + xs.length ≤ 1000000000) (hby : bytes ≤ 100000) (hbt : base ≤ top) (htop : top ≤ w.heap.size) :
  ∃ v' w', (Builtin.append_ #[t, t] ty #[v, u]).run P w = .ok v' w' ∧ Bl E e base w'.heap.size w' v' (ys ++ xs) ∧ w.grownBy w' v.ownBlock ∧ (v'.ownBlock = v.ownBlock ∨ v'.ownBlock = some w.heap.size) :=
 let ⟨_, h1, h2, h3, h4⟩ := hu
 run_pushFx w t ty e hT hB h1 h2 (fun k hk => ⟨Nat.le_trans hbt (h3 k hk), .inr (h3 k hk)⟩) h4 (Nat.le_refl _) hlen hby hbt htop
theorem step_pushAll {P : Program} {K : Act → World → Prop} {Ee : Prop} {α : Type} {E : Ty α} (w : World) {ops : Array Oper} {o : Oper} {a : Act} {Q : Exit → Act → World → Prop} (hgd : o.guard = none) (s x : Operand) (t e : TypeId) {bytes : Nat}
  (ho : o.op = .call { callee := .builtin .append, args := #[s, x], argTypes := #[t, t] }) (hT : ElT P t e E.sz bytes)
  {base top : Nat} {v : Value} {ys : List α} (hs : a.eval s = v) (hB : Bl E e base top w v ys)
  {u : Value} {xs : List α} (hx : a.eval x = u) (hy : (Ty.slice E).Fr top w [u] xs)
  (hlen : ys.length + xs.length ≤ 1000000000) (hby : bytes ≤ 100000) (hbt : base ≤ top) (htop : top ≤ w.heap.size)
  (h : ∀ v' w', Bl E e base w'.heap.size w' v' (ys ++ xs) → w.grownBy w' v.ownBlock → (v'.ownBlock = v.ownBlock ∨ v'.ownBlock = some w.heap.size) → K (a.put o.dst v') w') : if Region.wanted o (yielded ops a.tmps) = true then Oper.wp P o a w K Q else Ee := by
 rw [if_pos (by simp [Region.wanted, hgd])]
 obtain ⟨v', w', hr, h2, h3, h4⟩ := run_pushAll (P := P) w t o.type e hT hB hy hlen hby hbt htop
 unfold Oper.wp execOp
 simp only [ho, resolve, invoke, builtin, Sem.run_bind, Sem.run_pure, Result.andThen_ok, List.map_toArray, List.map_cons, List.map_nil, hs, hx, hr]
 exact h v' w' h2 h3 h4
end Go.Proofs.YtajmjfbejfiipaaGreat
namespace Go.Proofs.YtajmjfbejfiipaaGreat
open Go.RowKit Go.Sort
section
variable {t : Int × List (Int × List (List Int))} {f g : Int × Int × List (Int × List Int)}
end
theorem rnL_id (xs : List (Int × List Int)) : rnL (fun v => v) xs = xs := by
 unfold rnL
 exact (List.map_congr_left (g := id) fun a _ => by simp).trans (List.map_id xs)
section
variable (t : Int × List (Int × List (List Int))) (f g : Int × Int × List (Int × List Int))
end
section
variable {t : Int × List (Int × List (List Int))} {f g : Int × Int × List (Int × List Int)}
theorem cntOps_app (a b : List (Int × List Int)) : cntOps (a ++ b) = cntOps a + cntOps b := sumL_append _ _ _
end
theorem same_any (w : World) (a : Int) : Calls Tryz.prog 105 #[.int .i64 a] w fun e w' => e = .returned (.int .i64 a) ∧ w = w' := by
 go_enter Tryz.func105, Tryz.ntmps105
 go_wp2_with fail
 go_ret
 exact ⟨rfl, rfl⟩
end Go.Proofs.YtajmjfbejfiipaaGreat
namespace Go.Proofs.YtajmjfbejfiipaaGreat
open Go.RowKit Go.Sort
section
variable (t : Int × List (Int × List (List Int))) (f g : Int × Int × List (Int × List Int))
end
section
variable {t : Int × List (Int × List (List Int))} {f g : Int × Int × List (Int × List Int)}
end
end Go.Proofs.YtajmjfbejfiipaaGreat
namespace Go.Proofs.YtajmjfbejfiipaaGreat
open Go.RowKit Go.Sort
section
variable (t : Int × List (Int × List (List Int))) (f : Int × Int × List (Int × List Int))
noncomputable def voV : Int × List (List Int) := match tb (frmOk t f) with
 | true => vaR t f
 | false => (0, [])
noncomputable def voC : Int := match tb (frmOk t f) with
 | true => 0
 | false => 1
end
section
variable {t : Int × List (Int × List (List Int))} {f : Int × Int × List (Int × List Int)}
theorem vo_no (h : tb (frmOk t f) = false) : voV t f = (0, []) ∧ voC t f = 1 := by simp [voV, voC, h]
theorem vo_yes (h : tb (frmOk t f) = true) : voV t f = vaR t f ∧ voC t f = 0 := by simp [voV, voC, h]
end
theorem fr_rel0v {base : Nat} {w : World} : relT.Fr base w [.int .i64 0, .slice none 0 0] (0, []) := fr_cons (I64.small (by omega) (by omega)) fr_nil
set_option maxHeartbeats 1600000 in
set_option maxRecDepth 100000 in
theorem ValueOf_any (w : World) {cs cf : Array Value} {t : Int × List (Int × List (List Int))} {f : Int × Int × List (Int × List Int)} (h : tplT.Rd w cs.toList t) (hf : frmT.Rd w cf.toList f) :
  Calls Tryz.prog 19 #[.agg cs, .agg cf] w (RetAC relT w (voV t f) (voC t f)) := by
 have HT := Lib.hid h
 have HF := Lib.hid hf
 obtain ⟨v1, hv1, hI, -⟩ := pair_ex h
 obtain rfl := agg_of hv1
 obtain ⟨v2, hv2, hIf, hIf2, -⟩ := trip_ex hf
 obtain rfl := agg_of hv2
 clear h hf hv1 hv2
 go_enter Tryz.func19, Tryz.ntmps19
 go_wp2_with fail
 generalize hW : World.alloc _ _ = W
 have hbW : Below w.heap.size w W := hW ▸ ((bAA (w := w)).alloc (by simp; omega) _)
 have hsW : w.heap.size + 3 ≤ W.heap.size := by rw [← hW]; simp
 have t0 : W.cell? ⟨w.heap.size, 0, none⟩ = some (.int .i64 t.1) := by rw [← hW]; simp [go_sem]
 have t1 : W.cell? ⟨w.heap.size, 1, none⟩ = some v1 := by rw [← hW]; simp [go_sem]
 have f0 : W.cell? ⟨w.heap.size + 1, 0, none⟩ = some (.int .i64 f.1) := by rw [← hW]; simp [go_sem]
 have f1 : W.cell? ⟨w.heap.size + 1, 1, none⟩ = some (.int .i64 f.2.1) := by rw [← hW]; simp [go_sem]
 have f2 : W.cell? ⟨w.heap.size + 1, 2, none⟩ = some v2 := by rw [← hW]; simp [go_sem]
 have r0 : W.cell? ⟨w.heap.size + 2, 0, none⟩ = some (.int .i64 0) := by rw [← hW]; simp [go_sem]
 have r1 : W.cell? ⟨w.heap.size + 2, 1, none⟩ = some (.slice none 0 0) := by rw [← hW]; simp [go_sem]
 have m0 : W.frozen? ⟨w.heap.size + 2, 0, none⟩ = false := by rw [← hW]; simp [go_sem]
 have m1 : W.frozen? ⟨w.heap.size + 2, 1, none⟩ = false := by rw [← hW]; simp [go_sem]
 clear hW
 refine (ValidFormula_any _ (cs := #[.int .i64 t.1, v1]) (cs' := #[.int .i64 f.1, .int .i64 f.2.1, v2]) (HT.out.below hbW) (HF.out.below hbW)).mono ?_
 rintro e w1 ⟨rfl, hb1⟩
 have hz1 := hb1.size
 have hB1 := bthen hbW hb1
 replace t0 := (cellB hb1 (by omega)).trans t0
 replace t1 := (cellB hb1 (by omega)).trans t1
 replace f0 := (cellB hb1 (by omega)).trans f0
 replace f1 := (cellB hb1 (by omega)).trans f1
 replace f2 := (cellB hb1 (by omega)).trans f2
 replace r0 := (cellB hb1 (by omega)).trans r0
 replace r1 := (cellB hb1 (by omega)).trans r1
 replace m0 := (frozenB hb1 (by omega)).trans m0
 replace m1 := (frozenB hb1 (by omega)).trans m1
 cases hT : tb (frmOk t f)
 ·have HR := Lib.hid (vo_no hT)
  clear hT
  obtain ⟨g0, g1⟩ := set2_cells (x := .int .i64 0) (y := .slice none 0 0) r0 r1
  go_wp2_with fail
  refine bodyPost_ret (v := .tuple #[.agg #[.int .i64 0, .slice none 0 0], .int .i64 1]) (by simp [results, Tryz.results19, go_sem, g0, g1]) rfl ⟨[.int .i64 0, .slice none 0 0], by rw [HR.out.2], by rw [HR.out.1]; exact fr_rel0v, (hB1.setCell (show w.heap.size ≤ w.heap.size + 2 by omega) _).setCell (show w.heap.size ≤ w.heap.size + 2 by omega) _⟩
 ·have HR := Lib.hid (vo_yes hT)
  have HOK := Lib.hid (tb_iff.1 hT)
  clear hT
  go_wp2_with fail
  refine (valueOf_any _ (cs := #[.int .i64 t.1, v1]) (cf := #[.int .i64 f.1, .int .i64 f.2.1, v2]) (HT.out.below hB1) (HF.out.below hB1) HOK.out).mono ?_
  rintro e w2 ⟨cs2, rfl, hf2, hb2⟩
  obtain ⟨a2, c2, rfl⟩ := fr_pair hf2
  have HF2 := Lib.hid hf2
  have hB2 := bthen hB1 hb2
  have hz2 := hb2.size
  replace r0 := (cellB hb2 (by omega)).trans r0
  replace r1 := (cellB hb2 (by omega)).trans r1
  replace m0 := (frozenB hb2 (by omega)).trans m0
  replace m1 := (frozenB hb2 (by omega)).trans m1
  obtain ⟨g0, g1⟩ := set2_cells (x := .int .i64 (vaR t f).1) (y := .slice a2 (vaR t f).2.length c2) r0 r1
  clear hf2 t0 t1 f0 f1 f2
  go_wp2_with fail
  refine bodyPost_ret (v := .tuple #[.agg #[.int .i64 (vaR t f).1, .slice a2 (vaR t f).2.length c2], .int .i64 0]) (by simp [results, Tryz.results19, go_sem, g0, g1]) rfl ⟨[.int .i64 (vaR t f).1, .slice a2 (vaR t f).2.length c2], by rw [HR.out.2], ?_, ?_⟩
  ·rw [HR.out.1]
   exact (fr_set2 HF2.out (by omega)).mono (by omega)
  ·exact (hB2.setCell (show w.heap.size ≤ w.heap.size + 2 by omega) _).setCell (show w.heap.size ≤ w.heap.size + 2 by omega) _
set_option maxHeartbeats 1600000 in
set_option maxRecDepth 100000 in
theorem specValueOf_any (w : World) {cs cf : Array Value} {t : Int × List (Int × List (List Int))} {f : Int × Int × List (Int × List Int)} (h : tplT.Rd w cs.toList t) (hf : frmT.Rd w cf.toList f) :
  Calls Tryz.prog 32 #[.agg cs, .agg cf] w (RetAC relT w (voV t f) (voC t f)) := by
 have p0 : tplT.Pt ((w.alloc (.cells cs 26)).alloc (.cells cf 47)) (.pointer (some ⟨w.heap.size, 0, none⟩)) t := (pt_box h).below bA
 have p1 : frmT.Pt ((w.alloc (.cells cs 26)).alloc (.cells cf 47)) (.pointer (some ⟨w.heap.size + 1, 0, none⟩)) f := by
  simpa using pt_box (T := 47) (hf.below (bA (o := .cells cs 26)))
 obtain ⟨v1, hv1, hI, -⟩ := pair_ex h
 obtain rfl := agg_of hv1
 obtain ⟨v2, hv2, hIf, hIf2, -⟩ := trip_ex hf
 obtain rfl := agg_of hv2
 clear h hf hv1 hv2
 go_enter Tryz.func32, Tryz.ntmps32
 go_wp2_with fail
 have P0 := p0.below (bA (o := .cells #[.int .i64 0, .slice none 0 0] 32))
 have P1 := p1.below (bA (o := .cells #[.int .i64 0, .slice none 0 0] 32))
 generalize hW : World.alloc (World.alloc (World.alloc _ _) _) _ = W at P0 P1 ⊢
 have hbW : Below w.heap.size w W := hW ▸ ((bAA (w := w)).alloc (by simp; omega) _)
 have hsW : w.heap.size + 3 ≤ W.heap.size := by rw [← hW]; simp
 have r0 : W.cell? ⟨w.heap.size + 2, 0, none⟩ = some (.int .i64 0) := by rw [← hW]; simp [go_sem]
 have r1 : W.cell? ⟨w.heap.size + 2, 1, none⟩ = some (.slice none 0 0) := by rw [← hW]; simp [go_sem]
 have m0 : W.frozen? ⟨w.heap.size + 2, 0, none⟩ = false := by rw [← hW]; simp [go_sem]
 have m1 : W.frozen? ⟨w.heap.size + 2, 1, none⟩ = false := by rw [← hW]; simp [go_sem]
 clear hW p0 p1
 refine (l03Ok_quiet _ P0 P1).mono ?_
 rintro e w1 ⟨rfl, hq1⟩
 have hb1 := hq1.below
 have hz1 := hb1.size
 have hB1 := bthen hbW hb1
 replace r0 := (cellB hb1 (by omega)).trans r0
 replace r1 := (cellB hb1 (by omega)).trans r1
 replace m0 := (frozenB hb1 (by omega)).trans m0
 replace m1 := (frozenB hb1 (by omega)).trans m1
 have P0' := Lib.hid (P0.below hb1)
 have P1' := Lib.hid (P1.below hb1)
 clear hq1 P0 P1
 cases hT : tb (frmOk t f)
 ·have HR := Lib.hid (vo_no hT)
  clear hT
  obtain ⟨g0, g1⟩ := set2_cells (x := .int .i64 0) (y := .slice none 0 0) r0 r1
  go_wp2_with fail
  refine bodyPost_ret (v := .tuple #[.agg #[.int .i64 0, .slice none 0 0], .int .i64 1]) (by simp [results, Tryz.results32, go_sem, g0, g1]) rfl ⟨[.int .i64 0, .slice none 0 0], by rw [HR.out.2], by rw [HR.out.1]; exact fr_rel0v, (hB1.setCell (show w.heap.size ≤ w.heap.size + 2 by omega) _).setCell (show w.heap.size ≤ w.heap.size + 2 by omega) _⟩
 ·have HR := Lib.hid (vo_yes hT)
  have HOK := Lib.hid (tb_iff.1 hT)
  clear hT
  go_wp2_with fail
  refine (l03Value_any _ P0'.out P1'.out HOK.out).mono ?_
  rintro e w2 ⟨cs2, rfl, hf2, hb2⟩
  obtain ⟨a2, c2, rfl⟩ := fr_pair hf2
  have HF2 := Lib.hid hf2
  have hB2 := bthen hB1 hb2
  have hz2 := hb2.size
  replace r0 := (cellB hb2 (by omega)).trans r0
  replace r1 := (cellB hb2 (by omega)).trans r1
  replace m0 := (frozenB hb2 (by omega)).trans m0
  replace m1 := (frozenB hb2 (by omega)).trans m1
  obtain ⟨g0, g1⟩ := set2_cells (x := .int .i64 (vaR t f).1) (y := .slice a2 (vaR t f).2.length c2) r0 r1
  clear hf2
  go_wp2_with fail
  refine bodyPost_ret (v := .tuple #[.agg #[.int .i64 (vaR t f).1, .slice a2 (vaR t f).2.length c2], .int .i64 0]) (by simp [results, Tryz.results32, go_sem, g0, g1]) rfl ⟨[.int .i64 (vaR t f).1, .slice a2 (vaR t f).2.length c2], by rw [HR.out.2], ?_, ?_⟩
  ·rw [HR.out.1]
   exact (fr_set2 HF2.out (by omega)).mono (by omega)
  ·exact (hB2.setCell (show w.heap.size ≤ w.heap.size + 2 by omega) _).setCell (show w.heap.size ≤ w.heap.size + 2 by omega) _
end Go.Proofs.YtajmjfbejfiipaaGreat
namespace Go.Proofs.YtajmjfbejfiipaaGreat
open Go.RowKit Go.Sort
section
variable (t : Int × List (Int × List (List Int))) (f : Int × Int × List (Int × List Int))
noncomputable def xtV : Int × List (Int × List (List Int)) := match tb (frmOk t f), ((t.2.length : Int) == 6) with
 | true, false => (t.1, t.2 ++ [vaR t f])
 | _, _ => (0, [])
noncomputable def xtC : Int := match tb (frmOk t f), ((t.2.length : Int) == 6) with
 | true, false => 0
 | true, true => 3
 | false, _ => 1
end
section
variable {t : Int × List (Int × List (List Int))} {f : Int × Int × List (Int × List Int)}
theorem xt_1 (h : tb (frmOk t f) = false) : xtV t f = (0, []) ∧ xtC t f = 1 := by simp [xtV, xtC, h]
theorem xt_3 (h : tb (frmOk t f) = true) (h2 : ((t.2.length : Int) == 6) = true) : xtV t f = (0, []) ∧ xtC t f = 3 := by simp only [xtV, xtC, h, h2, and_self]
theorem xt_0 (h : tb (frmOk t f) = true) (h2 : ((t.2.length : Int) == 6) = false) : xtV t f = (t.1, t.2 ++ [vaR t f]) ∧ xtC t f = 0 := by simp only [xtV, xtC, h, h2, and_self]
theorem tpl_bds (h : tplOk t) : t.2.length ≤ 6 ∧ ∀ c ∈ t.2, c.2.length ≤ 1000000 ∧ ∀ y ∈ c.2, y.length ≤ 1000000 := by
 refine ⟨h.2.1, fun c hc => ?_⟩
 obtain ⟨h1, h2⟩ := rel_bd (h.2.2 c hc)
 exact ⟨by omega, fun y hy => by have := h2 y hy; omega⟩
end
theorem bl_off {α : Type} {E : Ty α} {bx e base top : Nat} {w : World} {v : Value} {ys : List α} (h : Bl E e base top w v ys) (hb : top ≤ bx) : Bl (E.off bx) e base top w v ys := by
 obtain ⟨L, fps, h1, h2, h3, h4, h5, h6⟩ := h
 refine ⟨L, fps, h1, fun i hi => ?_, h3, h4, h5, h6⟩
 obtain ⟨cs, h7, h8⟩ := h2 i hi
 refine ⟨cs, ⟨h7, fun hm => ?_⟩, h8⟩
 have := (h4 bx (List.mem_flatMap.2 ⟨i, by simpa using hi, hm⟩)).2.1
 omega
set_option maxHeartbeats 1600000 in
set_option maxRecDepth 100000 in
theorem ownLists_any (w : World) {v : Value} {xs : List (List Int)} (h : rowsT.Rd w [v] xs) (hl : xs.length ≤ 1000000) (hl2 : ∀ y ∈ xs, y.length ≤ 1000000) :
  Calls Tryz.prog 162 #[v] w (RetS rowsT w xs) := by
 obtain ⟨ad, cap, hv, -, -, hcell⟩ := slices_ex h
 obtain rfl : v = _ := by simpa using hv
 have HC := Lib.hid hcell
 have HL2 := Lib.hid hl2
 clear h hv hcell hl2
 go_enter Tryz.func162, Tryz.ntmps162
 go_wp2_with fail
 generalize hW : World.alloc w _ = W
 have hbW : Below w.heap.size w W := hW ▸ bA
 have HB0 : Hid (Bl intsT 38 w.heap.size W.heap.size W (.slice (some ⟨w.heap.size, 0, none⟩) 0 0) []) := by
  unfold Hid
  rw [← hW]
  simpa using Bl.lit0 (E := intsT) (e := 38) (base := w.heap.size) (w := w) (Nat.le_refl _)
 clear hW
 go_loopw [9, 3] (fun i o wr => ∃ k : Nat, k ≤ xs.length ∧ i = .int .i64 k ∧ Bl intsT 38 w.heap.size wr.heap.size wr o (xs.take k) ∧ Below w.heap.size w wr) (fun i _ _ => xs.length - (intOf i).toNat)
 case atStart => exact ⟨0, Nat.zero_le _, rfl, by simpa using HB0.out, hbW⟩
 case round =>
  obtain ⟨k, hk, rfl, hBl, hbe⟩ := hrel
  have HB := Lib.hid hBl
  have hse := hbe.size
  clear hBl HB0
  by_cases hkl : k < xs.length
  ·obtain ⟨b, o, rfl, hb, hce⟩ := HC.out (by omega)
   obtain ⟨uk, huk, g0⟩ := hce k hkl
   obtain ⟨ak, nk, ck, rfl⟩ := rd_sl huk
   have d0 := (hbe.cell hb).trans g0
   have HU := Lib.hid (huk.below hbe)
   have hlk := HL2.out _ (List.getElem_mem hkl)
   have HTK := Lib.hid (take_snoc hkl)
   clear hce huk g0
   go_wp2_with fail
   refine (Clone_any _ HU.out hlk).mono ?_
   rintro e w1 ⟨u2, rfl, hf, hb1⟩
   obtain ⟨a2, n2, c2, rfl⟩ := ex_slice hf
   have HF := Lib.hid hf
   have hz1 := hb1.size
   have HB1 : Hid (Bl intsT 38 w.heap.size wr.heap.size w1 _ (xs.take k)) := HB.out.below hb1 (Nat.le_refl _)
   clear hf HU d0
   go_wp2_with (refine wpList_push (E := intsT) _ rfl _ _ 29 38 rfl elInt64SS rfl (HB1.out.below (bA.mono (by omega)) (Nat.le_refl _)) rfl news1 (HF.out.below bA) (by rw [take_len hk]; omega) (by decide) (by omega) (by first | (simp; done) | (simp; omega)) ?_; intro v5 w5 hB5 hg5 _; have hb5 : Below w.heap.size w1 w5 := ((Below.refl _ w1).alloc (by omega) _).grown hg5 (by first | (simp; done) | (simp; omega)) (fun q hq => HB1.out.own hq))
   rw [HTK.out] at hB5
   have HB5 := Lib.hid hB5
   clear hB5 hg5
   go_roundw
   case rel => exact ⟨k + 1, by omega, by go_num, HB5.out, (bthen hbe hb1).trans hb5⟩
   case measure => simp [intOf]; omega
  ·obtain rfl : k = xs.length := by omega
   rw [List.take_length] at HB
   have HFO := Lib.hid (HB.out.fr (by unfold capMax; omega))
   go_wp2_with fail
   go_ret
   exact ⟨_, rfl, HFO.out, hbe⟩
set_option maxHeartbeats 3200000 in
set_option maxRecDepth 100000 in
theorem ownTemplate_any (w : World) {cs : Array Value} {x : Int × List (Int × List (List Int))} (h : tplT.Rd w cs.toList x) (hl : x.2.length ≤ 1000000) (hl2 : ∀ c ∈ x.2, c.2.length ≤ 1000000 ∧ ∀ y ∈ c.2, y.length ≤ 1000000) :
  Calls Tryz.prog 100 #[.agg cs] w fun e w' => ∃ v, e = .returned (.agg #[.int .i64 x.1, v]) ∧ Bl relT 32 (w.heap.size + 3) w'.heap.size w' v x.2 ∧ Below w.heap.size w w' ∧ w.heap.size + 3 ≤ w'.heap.size := by
 obtain ⟨u, hv, hI, hx⟩ := pair_ex h
 obtain rfl := agg_of hv
 obtain ⟨ad, cap, hu, -, -, hcell⟩ := pairs_ex hx
 obtain rfl : u = _ := by simpa using hu
 have HC := Lib.hid hcell
 have HL2 := Lib.hid hl2
 clear h hv hx hu hcell hl2
 go_enter Tryz.func100, Tryz.ntmps100
 go_wp2_with fail
 generalize hW : World.alloc _ _ = W
 have hbW : Below w.heap.size w W := hW ▸ ((bAA (w := w)).alloc (by simp; omega) _)
 have hsW : W.heap.size = w.heap.size + 3 := by rw [← hW]; simp
 have y0 : W.cell? ⟨w.heap.size + 2, 0, none⟩ = some (.int .i64 x.1) := by rw [← hW]; simp [go_sem]
 have y1 : W.cell? ⟨w.heap.size + 2, 1, none⟩ = some (.slice none 0 0) := by rw [← hW]; simp [go_sem]
 have y2 : W.frozen? ⟨w.heap.size + 2, 1, none⟩ = false := by rw [← hW]; simp [go_sem]
 have r0 : W.cell? ⟨w.heap.size + 1, 0, none⟩ = some (.int .i64 0) := by rw [← hW]; simp [go_sem]
 have r1 : W.cell? ⟨w.heap.size + 1, 1, none⟩ = some (.slice none 0 0) := by rw [← hW]; simp [go_sem]
 have r2 : W.frozen? ⟨w.heap.size + 1, 0, none⟩ = false := by rw [← hW]; simp [go_sem]
 have r3 : W.frozen? ⟨w.heap.size + 1, 1, none⟩ = false := by rw [← hW]; simp [go_sem]
 clear hW
 go_loopw [12] (fun i wr => ∃ (k : Nat) (v : Value), k ≤ x.2.length ∧ i = .int .i64 k ∧ Bl relT 32 (w.heap.size + 3) wr.heap.size wr v (x.2.take k) ∧ wr.cell? ⟨w.heap.size + 2, 1, none⟩ = some v ∧ wr.cell? ⟨w.heap.size + 2, 0, none⟩ = some (.int .i64 x.1) ∧ wr.frozen? ⟨w.heap.size + 2, 1, none⟩ = false ∧ Below (w.heap.size + 2) W wr ∧ w.heap.size + 3 ≤ wr.heap.size) (fun i _ => x.2.length - (intOf i).toNat)
 case atStart => exact ⟨0, _, Nat.zero_le _, rfl, by simpa using Bl.nil, y1, y0, y2, Below.refl _ _, by omega⟩
 case round =>
  obtain ⟨k, v, hk, rfl, hBv, z1, z0, z2, hbe, hse⟩ := hrel
  have hbw : Below w.heap.size w wr := hbW.trans (hbe.mono (by omega))
  obtain ⟨av0, nv0, cv0, rfl⟩ := ex_slice (hBv.fr (by rw [take_len hk]; unfold capMax; omega))
  have HBv := Lib.hid hBv
  clear hBv y0 y1 y2
  by_cases hkl : k < x.2.length
  ·obtain ⟨b, o, rfl, hb, hce⟩ := HC.out (by omega)
   obtain ⟨uk, huk, hIk, g0, g1⟩ := hce k hkl
   obtain ⟨ak, nk, ck, rfl⟩ := rd_sl huk
   have d0 := (hbw.cell hb).trans g0
   have d1 := (hbw.cell hb).trans g1
   have HU := Lib.hid (huk.below hbw)
   have hlk := HL2.out _ (List.getElem_mem hkl)
   have HTK := Lib.hid (take_snoc hkl)
   clear hce huk g0 g1
   go_wp2_with fail
   generalize hWa : World.alloc wr _ = wa
   have hba : Below wr.heap.size wr wa := hWa ▸ bA
   have hsa : wa.heap.size = wr.heap.size + 1 := by rw [← hWa]; simp
   have e0 : wa.cell? ⟨wr.heap.size, 0, none⟩ = some (.int .i64 (x.2[k]).1) := by rw [← hWa]; simp
   have e1 : wa.cell? ⟨wr.heap.size, 1, none⟩ = some (.slice ak nk ck) := by rw [← hWa]; simp
   have e2 := (cellB hba (by omega)).trans z1
   have e3 := (cellB hba (by omega)).trans z0
   have e4 := (frozenB hba (by omega)).trans z2
   have l0 : wr.heap.size < wa.heap.size := by omega
   have l1 : w.heap.size + 2 < wa.heap.size := by omega
   clear hWa d0 d1
   refine wp_region_T (fun w' => w'.cell? ⟨w.heap.size + 2, 1, none⟩ = some (.slice av0 nv0 cv0) ∧ w'.cell? ⟨wr.heap.size, 0, none⟩ = some (.int .i64 (x.2[k]).1) ∧ w'.cell? ⟨wr.heap.size, 1, none⟩ = some (.slice ak nk ck)) [9, 11] (by kernel_rfl) ⟨e2, e0, e1⟩ (fun hHeld => ?_)
   refine wpAnyT_take (i := 0) (v := ?_) rfl (by kernel_rfl) (fun _ _ _ h => h) (Or.inl ⟨by rfl, ?_⟩) (by assumption) ?_
   rotate_left
   ·(intro w hSw; (try dsimp only at hSw); go_simp <;> with_reducible rfl)
   try simp only [Act.put]
   refine wpAnyT_take (i := 1) (v := ?_) rfl (by kernel_rfl) (fun _ _ _ h => h) (Or.inl ⟨by rfl, ?_⟩) (by assumption) ?_
   rotate_left
   ·(intro w hSw; (try dsimp only at hSw); go_simp <;> with_reducible rfl)
   try simp only [Act.put]
   refine wpAnyT_take (i := 2) (v := ?_) rfl (by kernel_rfl) (fun _ _ _ h => h) (Or.inl ⟨by rfl, ?_⟩) (by assumption) ?_
   rotate_left
   ·(intro w hSw; (try dsimp only at hSw); go_simp <;> with_reducible rfl)
   try simp only [Act.put]
   refine wpAnyT_take (i := 3) (v := ?_) rfl (by kernel_rfl) (fun _ _ _ h => h) (Or.inl ⟨by rfl, ?_⟩) (by assumption) ?_
   rotate_left
   ·(intro w hSw; (try dsimp only at hSw); go_simp <;> with_reducible rfl)
   try simp only [Act.put]
   refine wpAnyT_take (i := 4) (v := ?_) rfl (by kernel_rfl) (fun _ _ _ h => h) (Or.inl ⟨by rfl, ?_⟩) (by assumption) ?_
   rotate_left
   ·(intro w hSw; (try dsimp only at hSw); go_simp <;> with_reducible rfl)
   try simp only [Act.put]
   refine wpAnyT_take (i := 5) (v := ?_) rfl (by kernel_rfl) (fun _ _ _ h => h) (Or.inl ⟨by rfl, ?_⟩) (by assumption) ?_
   rotate_left
   ·(intro w hSw; (try dsimp only at hSw); go_simp <;> with_reducible rfl)
   try simp only [Act.put]
   refine wpAnyT_one (i := 6) rfl (by kernel_rfl) (fun K hK => ?_)
   go_simp
   go_at_call 162
   refine (ownLists_any _ (HU.out.below (bthen hba bD)) hlk.1 hlk.2).mono ?_
   rintro e w1 ⟨u2, rfl, hf, hb1⟩
   obtain ⟨a2, n2, c2, rfl⟩ := ex_slice hf
   have HF := Lib.hid hf
   have hb2 : Below wa.heap.size wa w1 := bthen bD hb1
   have f0 := (hb2.cell l0).trans e0
   have f1 := (hb2.cell l0).trans e1
   have f2 := (hb2.cell l1).trans e2
   have f3 := (hb2.cell l1).trans e3
   have f4 := (frozenB hb2 l1).trans e4
   have hz1 := hb2.size
   clear hf hb1 e0 e1 e2 e3 e4
   dsimp only
   refine hK.out _ _ ⟨f2, f0, f1⟩ (fun hHeld => ?_)
   clear hK K
   refine wpAnyT_take (i := 7) (v := ?_) rfl (by kernel_rfl) (fun _ _ _ h => h) (Or.inl ⟨by rfl, ?_⟩) (by assumption) ?_
   rotate_left
   ·(intro w hSw; (try dsimp only at hSw); go_simp <;> with_reducible rfl)
   try simp only [Act.put]
   refine wpAnyT_one (i := 8) rfl (by kernel_rfl) (fun K hK => ?_)
   go_simp
   refine hK.out _ _ ⟨by go_keep, by go_keep, by go_keep⟩ (fun hHeld => ?_)
   clear hK K
   refine wpAnyT_last (i := 9) rfl (by kernel_rfl) (by kernel_rfl) (fun K hK => ?_)
   refine step_push (E := relT) _ rfl _ _ 24 32 rfl elRelS rfl (HBv.out.below ((hba.trans (hb2.mono hba.size)).alloc (by omega) _) (Nat.le_refl _)) rfl news2 ((fr_cons hIk (HF.out.below bA)).mono (by have := (bD (w := wa)).size; omega)) (by rw [take_len hk]; omega) (by decide) hse (by simp; omega) ?_
   intro v1 w3 hB3 hg3 _
   have hB3' : Bl relT 32 (w.heap.size + 3) w3.heap.size w3 v1 (x.2.take k ++ [x.2[k]]) := hB3
   rw [HTK.out] at hB3'
   have hb3 : Below (w.heap.size + 3) w1 w3 := ((Below.refl _ w1).alloc (by omega) _).grown hg3 (by simp; omega) (fun q hq => HBv.out.own hq)
   have i2 := (cellB hb3 (by omega)).trans f2
   have i3 := (cellB hb3 (by omega)).trans f3
   have i4 := (frozenB hb3 (by omega)).trans f4
   have hz3 := hb3.size
   have HB3 := Lib.hid hB3'
   obtain ⟨a3, n3, c3, rfl⟩ := ex_slice (hB3'.fr (by rw [take_len hkl]; unfold capMax; omega))
   clear hB3 hB3' hg3 f0 f1 f2 f3 f4
   refine hK.out _ _ ?_
   clear hK K
   refine wpAnyT_any (i := 10) (v := ?_) rfl (by kernel_rfl) (fun _ _ _ h => h) (Or.inl ⟨by rfl, ?_⟩) (by first | exact fun _ => by assumption | (intro hp; exact absurd hp (by rw [show pastB _ _ = true by kernel_rfl]; simp))) ?_
   rotate_left
   ·(intro w hSw; (try dsimp only at hSw); go_simp <;> with_reducible rfl)
   try simp only [Act.put]
   refine wpAnyT_last (i := 11) rfl (by kernel_rfl) (by kernel_rfl) (fun K hK => ?_)
   go_simp
   refine hK.out _ _ ?_
   clear hK K
   refine wpAnyT_done (by kernel_rfl) ?_ _
   go_simp
   go_wp2_with fail
   go_roundw
   case rel => exact ⟨k + 1, _, by omega, by go_num, by rw [size_set]; exact HB3.out.sameB (fun q hq1 hq2 => Below.heap_setCell _ _ _ _ (by simp; omega)), World.cell?_setCell_same _ _ _ i2, (World.cell?_setCell_other _ _ _ _ (by simp)).trans i3, (World.frozen?_setCell _ _ _ _).trans i4, (hbe.trans ((hba.mono (by omega)).trans ((hb2.mono (by omega)).trans (hb3.mono (by omega))))).setCell (by simp) _, by rw [size_set]; omega⟩
   case measure => simp [intOf]; omega
  ·obtain rfl : k = x.2.length := by omega
   rw [List.take_length] at HBv
   have HF := Lib.hid (HBv.out.fr (by unfold capMax; omega))
   have s0 := (cellB hbe (by omega)).trans r0
   have s1 := (cellB hbe (by omega)).trans r1
   have s2 := (frozenB hbe (by omega)).trans r2
   have s3 := (frozenB hbe (by omega)).trans r3
   have hze : w.heap.size + 2 < wr.heap.size := by omega
   go_wp2_with fail
   obtain ⟨g0, g1⟩ := set2_cells (x := .int .i64 x.1) (y := .slice av0 nv0 cv0) s0 s1
   refine bodyPost_ret (v := .agg #[.int .i64 x.1, .slice av0 nv0 cv0]) (by simp [results, Tryz.results100, go_sem, g0, g1]) rfl ⟨.slice av0 nv0 cv0, rfl, ?_, ?_, by simp only [size_set]; omega⟩
   ·simp only [size_set]
    exact HBv.out.sameB (fun q hq1 hq2 => (Below.heap_setCell _ _ _ _ (by simp; omega)).trans (Below.heap_setCell _ _ _ _ (by simp; omega)))
   ·exact (hbw.setCell (by simp) _).setCell (by simp) _
end Go.Proofs.YtajmjfbejfiipaaGreat
namespace Go.Proofs.YtajmjfbejfiipaaGreat
open Go.RowKit
/-- only blocks of which O holds are written, and new ones -/
structure TchP (O : Nat → Prop) (w w' : World) : Prop where
 os : w'.os = w.os
 tape : w'.tape = w.tape
 output : w'.output = w.output
 size : w.heap.size ≤ w'.heap.size
 block : ∀ k, k < w.heap.size → ¬ O k → w'.heap[k]? = w.heap[k]?
section
variable {O O' : Nat → Prop} {w w' w'' : World}
theorem TchP.refl (O : Nat → Prop) (w : World) : TchP O w w := ⟨rfl, rfl, rfl, Nat.le_refl _, fun _ _ _ => rfl⟩
theorem TchP.of_below (h : Below w.heap.size w w') (O : Nat → Prop) : TchP O w w' := ⟨h.os, h.tape, h.output, h.size, fun k hk _ => h.block k hk⟩
theorem TchP.then (h : TchP O w w') (h' : TchP O' w' w'') (hO : ∀ k, k < w.heap.size → O' k → O k) : TchP O w w'' :=
 ⟨h'.os.trans h.os, h'.tape.trans h.tape, h'.output.trans h.output, Nat.le_trans h.size h'.size, fun k hk hn => (h'.block k (Nat.lt_of_lt_of_le hk h.size) fun hm => hn (hO k hk hm)).trans (h.block k hk hn)⟩
theorem TchP.mono (h : TchP O w w') (hO : ∀ k, k < w.heap.size → O k → O' k) : TchP O' w w' := ⟨h.os, h.tape, h.output, h.size, fun k hk hn => h.block k hk fun hm => hn (hO k hk hm)⟩
theorem TchP.below {B : Nat} (h : TchP O w w') (hB : B ≤ w.heap.size) (hO : ∀ k, k < B → ¬ O k) : Below B w w' := ⟨h.os, h.tape, h.output, h.size, fun k hk => h.block k (Nat.lt_of_lt_of_le hk hB) (hO k hk)⟩
theorem TchP.cell (h : TchP O w w') {b i : Nat} (hb : b < w.heap.size) (hn : ¬ O b) : w'.cell? ⟨b, i, none⟩ = w.cell? ⟨b, i, none⟩ := World.cell?_of_block (a := ⟨b, i, none⟩) (h.block b hb hn)
theorem TchP.frozen (h : TchP O w w') {b i : Nat} (hb : b < w.heap.size) (hn : ¬ O b) : w'.frozen? ⟨b, i, none⟩ = w.frozen? ⟨b, i, none⟩ := World.frozen?_of_block (a := ⟨b, i, none⟩) (h.block b hb hn)
theorem TchP.set {b i : Nat} {v : Value} (hO : O b) : TchP O w (w.setCell ⟨b, i, none⟩ v) := ⟨rfl, rfl, rfl, by simp [World.setCell], fun k _ hn => Below.heap_setCell _ _ _ _ fun e => hn (by simp at e; rw [e]; exact hO)⟩
theorem TchP.grown {row : Option Nat} (h : w.grownBy w' row) (hO : ∀ k, row = some k → O k) : TchP O w w' := ⟨h.os, h.tape, h.output, h.size, fun k hk hn => h.block k hk fun e => hn (hO k e.symm)⟩
theorem Ty.RdP.tchP {α : Type} {E : Ty α} {ok : Nat → Prop} {cs : List Value} {x : α} (h : E.RdP ok w cs x) (ht : TchP O w w') (hO : ∀ k, k < w.heap.size → ok k → ¬ O k) : E.RdP ok w' cs x :=
 let ⟨fp, h, hf⟩ := h; ⟨fp, E.same h (fun k hk => ht.block k (E.lt h k hk) (hO k (E.lt h k hk) (hf k hk))), hf⟩
theorem pvR.tchP {ok : Nat → Prop} {z : (Int × List Int) × (Int × Value)} (h : pvR ok w z) (ht : TchP O w w') (hO : ∀ k, k < w.heap.size → ok k → ¬ O k) : pvR ok w' z := ⟨h.1, h.2.1, h.2.2.tchP ht hO⟩
end
/-- a datum that lies in blocks of which O holds -/
def Ty.on {α : Type} (E : Ty α) (O : Nat → Prop) : Ty α where
 sz := E.sz
 rd := fun w cs x fp => E.rd w cs x fp ∧ ∀ k ∈ fp, O k
 len := fun h => E.len h.1
 same := fun h hs => ⟨E.same h.1 hs, h.2⟩
 lt := fun h => E.lt h.1
 one := fun h => E.one h.1
section
variable {α : Type} {E : Ty α} {O O' : Nat → Prop} {e base top : Nat} {w w' : World} {v : Value} {ys : List α}
theorem on_same (h : Bl (E.on O) e base top w v ys) (hv : ∀ g, v.ownBlock = some g → O g) (hs : ∀ k, k < w.heap.size → O k → w'.heap[k]? = w.heap[k]?) : Bl (E.on O) e base top w' v ys := by
 obtain ⟨L, fps, h1, h2, h3, h4, h5, h6⟩ := h
 have hS : Same (flat fps ys.length) w w' := fun k hk => by
  obtain ⟨i, hi, hk⟩ := List.mem_flatMap.1 hk
  obtain ⟨cs, h7, _⟩ := h2 i (by simpa using hi)
  exact hs k (E.lt h7.1 k hk) (h7.2 k hk)
 refine ⟨L, fps, ⟨h1.1, ?_⟩, fun i hi => ?_, h3, h4, h5, h6.same hS⟩
 ·rcases h1.2 with h | ⟨g, cap, cur, rfl, hg, hh, r⟩
  ·exact .inl h
  ·exact .inr ⟨g, cap, cur, rfl, hg, by rw [hs g (lt_of_block hh) (hv g rfl)]; exact hh, r⟩
 ·obtain ⟨cs, h7, h8⟩ := h2 i hi
  exact ⟨cs, (E.on O).same h7 (fun k hk => hS k (List.mem_flatMap.2 ⟨i, by simpa using hi, hk⟩)), h8⟩
/-- a row of numbers: all that it hangs on is its own block -/
theorem bl_int_same {top' : Nat} {ys : List Int} (h : Bl Ty.int e base top w v ys) (hs : ∀ b, v.ownBlock = some b → w'.heap[b]? = w.heap[b]?) (ht : top ≤ top') : Bl Ty.int e base top' w' v ys := by
 obtain ⟨L, fps, h1, h2, h3, h4, h5, h6⟩ := h
 have hnil : ∀ b, b ∉ flat fps ys.length := by
  intro b hb
  obtain ⟨i, hi, hb⟩ := List.mem_flatMap.1 hb
  obtain ⟨cs, ⟨_, _, hf⟩, _⟩ := h2 i (by simpa using hi)
  rw [hf] at hb
  cases hb
 refine ⟨L, fps, ⟨h1.1, ?_⟩, fun i hi => ?_, h3, fun b hb => absurd hb (hnil b), fun g hg => Nat.lt_of_lt_of_le (h5 g hg) ht, fun b hb => absurd hb (hnil b)⟩
 ·rcases h1.2 with h | ⟨g, cap, cur, rfl, hg, hh, r⟩
  ·exact .inl h
  ·exact .inr ⟨g, cap, cur, rfl, hg, by rw [hs g rfl]; exact hh, r⟩
 ·obtain ⟨cs, h7, h8⟩ := h2 i hi
  exact ⟨cs, h7, h8⟩
/-- a row of values as they are -/
theorem bl_val_same {top' : Nat} {ys : List Value} (h : Bl Ty.val e base top w v ys) (hs : ∀ b, v.ownBlock = some b → w'.heap[b]? = w.heap[b]?) (ht : top ≤ top') : Bl Ty.val e base top' w' v ys := by
 obtain ⟨L, fps, h1, h2, h3, h4, h5, h6⟩ := h
 have hnil : ∀ b, b ∉ flat fps ys.length := by
  intro b hb
  obtain ⟨i, hi, hb⟩ := List.mem_flatMap.1 hb
  obtain ⟨cs, ⟨_, _, hf⟩, _⟩ := h2 i (by simpa using hi)
  rw [hf] at hb
  cases hb
 refine ⟨L, fps, ⟨h1.1, ?_⟩, fun i hi => ?_, h3, fun b hb => absurd hb (hnil b), fun g hg => Nat.lt_of_lt_of_le (h5 g hg) ht, fun b hb => absurd hb (hnil b)⟩
 ·rcases h1.2 with h | ⟨g, cap, cur, rfl, hg, hh, r⟩
  ·exact .inl h
  ·exact .inr ⟨g, cap, cur, rfl, hg, by rw [hs g rfl]; exact hh, r⟩
 ·obtain ⟨cs, h7, h8⟩ := h2 i hi
  exact ⟨cs, h7, h8⟩
end
abbrev boolsT : Ty (List Bool) := Ty.slice Ty.bool
/-- a row of values as they are, each of which reads as a datum of one cell -/
theorem rows_ofP {α : Type} {E : Ty α} {ok : Nat → Prop} {w : World} {v : Value} {vs : List Value} {ts : List α} (hE : E.sz = 1) (h : (Ty.slice Ty.val).RdP ok w [v] vs) (hl : vs.length = ts.length) (hr : ∀ i (h : i < vs.length) (h' : i < ts.length), E.RdP ok w [vs[i]] ts[i]) : (Ty.slice E).RdP ok w [v] ts := by
 obtain ⟨ad, cap, hv, h1, h2, h3⟩ := slice_exP h
 obtain rfl : v = _ := by simpa using hv
 refine slice_mkP hl h1 h2 fun h0 => ?_
 obtain ⟨b, o, rfl, hb, hok, he⟩ := h3 h0
 refine ⟨b, o, rfl, hb, hok, fun i hi => ?_⟩
 obtain ⟨cs, ⟨fp, ⟨rfl, _, _⟩, hf⟩, h6⟩ := he i (by omega)
 refine ⟨_, hr i (by omega) hi, fun j hj => ?_⟩
 have h7 := h6 j hj
 rw [hE]
 exact h7
theorem bl_val_rdP {e base top : Nat} {w : World} {v : Value} {vs : List Value} {ok : Nat → Prop} (h : Bl Ty.val e base top w v vs) (hl : vs.length ≤ capMax) (hv : ∀ g, v.ownBlock = some g → ok g) : (Ty.slice Ty.val).RdP ok w [v] vs := by
 obtain ⟨fp, h1, -, -, -⟩ := h.fr hl
 refine ⟨fp, h1, fun k hk => ?_⟩
 obtain ⟨ad, cap, hv', -, -, h3⟩ := h1
 obtain rfl : v = _ := by simpa using hv'
 rcases h3 with ⟨_, rfl⟩ | ⟨_, b, o, fps, rfl, _, rfl, h4⟩
 ·cases hk
 ·rcases List.mem_cons.1 hk with rfl | hk
  ·exact hv _ rfl
  ·obtain ⟨i, hi, hk⟩ := List.mem_flatMap.1 hk
   obtain ⟨cs, ⟨_, _, hf⟩, _⟩ := h4 i (by simpa using hi)
   rw [hf] at hk
   cases hk
/-- a pointer to a box whose third cell is a row of truth values -/
def Ty.setp : Ty (List Bool) where
 sz := 1
 rd := fun w cs L fp => ∃ bx v fp', cs = [.pointer (some ⟨bx, 0, none⟩)] ∧ bx < w.heap.size ∧ w.cell? ⟨bx, 2, none⟩ = some v ∧ boolsT.rd w [v] L fp' ∧ fp = bx :: fp'
 len := by rintro _ _ _ _ ⟨_, _, _, rfl, _⟩; rfl
 same := by
  rintro w w' _ L _ ⟨bx, v, fp', rfl, h1, h2, h3, rfl⟩ hs
  have hb := hs bx (List.mem_cons_self ..)
  refine ⟨bx, v, fp', rfl, ?_, (World.cell?_of_block (a := ⟨bx, 2, none⟩) hb).trans h2, boolsT.same h3 (fun k hk => hs k (List.mem_cons_of_mem _ hk)), rfl⟩
  rcases Nat.lt_or_ge bx w'.heap.size with h' | h'
  ·exact h'
  ·rw [Array.getElem?_eq_none h', Array.getElem?_eq_getElem h1] at hb
   cases hb
 lt := by
  rintro w _ L _ ⟨bx, v, fp', rfl, h1, h2, h3, rfl⟩ k hk
  rcases List.mem_cons.1 hk with rfl | hk
  ·exact h1
  ·exact boolsT.lt h3 k hk
 one := by rintro _ _ _ _ ⟨_, _, _, rfl, _⟩ u hu; simp at hu; subst hu; rfl
end Go.Proofs.YtajmjfbejfiipaaGreat
namespace Go.Proofs.YtajmjfbejfiipaaGreat
open Go.RowKit Go.Sort
/-- the cell of a set: whether the tuple of this number is in it -/
theorem seen_dig {s : Int} (hs : 1 ≤ s) {m N k : Nat} (hN : s ^ m = N) {ts : List (List Int)} (hts : ∀ t ∈ ts, t.length = m ∧ ∀ a ∈ t, 0 ≤ a ∧ a ≤ s - 1) (hk : k < N) (h : k < (seenL s N ts).length) : (seenL s N ts)[k] = tb (digL s k m ∈ ts) := by
 have hi : idxL s 0 (digL s k m) = (k : Int) := by
  have := dig_idx (s := s) (idx := k) (n := m) hs (by omega) (by omega) m (Nat.le_refl _)
  rw [List.take_of_length_le (by rw [digL_len]; exact Nat.le_refl _)] at this
  rw [this, Nat.sub_self, Int.pow_zero, Int.ediv_one]
 exact seenL_get hs hts digL_len (digL_in hs) hi h
def Set3 (w : World) (base bx g : Nat) (s : Int) (ar N : Nat) (T : List (List Int)) : Prop := SetAt 4 base w bx g N (seenL s N T) ∧ w.cell? ⟨bx, 0, none⟩ = some (.int .i64 s) ∧ w.cell? ⟨bx, 1, none⟩ = some (.int .i64 (ar : Int))
theorem Set3.below {w w' : World} {base bx g ar N B : Nat} {s : Int} {T : List (List Int)} (h : Set3 w base bx g s ar N T) (hb : Below B w w') (hB : w.heap.size ≤ B) : Set3 w' base bx g s ar N T :=
 ⟨h.1.below hb hB, (hb.cell (p := ⟨bx, 0, none⟩) (Nat.lt_of_lt_of_le h.1.2.1 hB)).trans h.2.1, (hb.cell (p := ⟨bx, 1, none⟩) (Nat.lt_of_lt_of_le h.1.2.1 hB)).trans h.2.2⟩
theorem Set3.tch {w w' : World} {base bx g ar N : Nat} {s : Int} {T : List (List Int)} {O : Nat → Prop} (h : Set3 w base bx g s ar N T) (ht : TchP O w w') (h1 : ¬ O bx) (h2 : ¬ O g) : Set3 w' base bx g s ar N T := by
 obtain ⟨⟨q1, q2, q3, q4, q5⟩, q6, q7⟩ := h
 have hg := q5.lt
 refine ⟨⟨q1, Nat.lt_of_lt_of_le q2 ht.size, q3, (ht.cell q2 h1).trans q4, ?_⟩, (ht.cell q2 h1).trans q6, (ht.cell q2 h1).trans q7⟩
 obtain ⟨p1, p2, p3⟩ := q5
 refine ⟨p1, p2, p3.1, ?_⟩
 rcases p3.2 with h | ⟨g', c, cur, e, r1, r2, r3⟩
 ·exact .inl h
 ·simp only [Value.slice.injEq, Option.some.injEq, Addr.mk.injEq, and_true, true_and] at e
  obtain ⟨rfl, rfl⟩ := e
  exact .inr ⟨_, _, cur, rfl, r1, by rw [ht.block _ hg h2]; exact r2, r3⟩
set_option maxHeartbeats 800000 in
set_option maxRecDepth 100000 in
theorem l01Empty3_any (w : World) (s : Int) (ar : Nat) (hs : 1 ≤ s) (hs1 : s ≤ 1000) (hm : ar ≤ 5) (N : Nat) (hN : s ^ ar = N) (hN1 : N ≤ 1000000) :
  Calls Tryz.prog 178 #[.int .i64 s, .int .i64 (ar : Int)] w fun e w' => ∃ bx g, e = .returned (.pointer (some ⟨bx, 0, none⟩)) ∧ Set3 w' w.heap.size bx g s ar N [] ∧ Below w.heap.size w w' := by
 have HN : Hid (s ^ ((ar : Int)).toNat = (N : Int)) := by unfold Hid; rw [Int.toNat_natCast]; exact hN
 clear hN
 go_enter Tryz.func178, Tryz.ntmps178
 go_wp2_with fail
 refine (l01Power_any _ s (ar : Int) (by omega) hs1 (by omega)).mono ?_
 rintro e _ ⟨rfl, rfl⟩
 rw [HN.out]
 go_wp2_with (refine wpList_mkB _ rfl _ _ 187 4 rfl Tryz.underlying187 infoBool w.heap.size N rfl rfl (by omega) (by decide) (by simp) ?_; intro w1 hA hg1 hs1)
 have hb1 := below_of_grown hg1
 have HA := Lib.hid hA
 clear hA
 go_wp2_with fail
 go_ret
 exact ⟨w.heap.size + 1, w.heap.size, rfl, ⟨⟨by omega, by simp; omega, by omega, by rw [← hs1]; simp, by rw [seenL_nil]; exact HA.out.below (bA (w := w1)) HA.out.lt⟩, by rw [← hs1]; simp, by rw [← hs1]; simp⟩, hb1.alloc hb1.size _⟩
set_option maxHeartbeats 1600000 in
set_option maxRecDepth 100000 in
theorem l01SetOf3_any (w : World) {v : Value} {r : Int × List (List Int)} (h : relT.Pt w v r) {s : Int} (hr : relOk s r) (ar N : Nat) (har : r.1 = ar) (hN : s ^ ar = N) :
  Calls Tryz.prog 98 #[.int .i64 s, v] w fun e w' => ∃ bx g, e = .returned (.pointer (some ⟨bx, 0, none⟩)) ∧ Set3 w' w.heap.size bx g s ar N r.2 ∧ w.heap.size ≤ g ∧ Below w.heap.size w w' := by
 obtain ⟨b, o, ad, cap, rfl, hb, hI, c0, c1, hx⟩ := pt_pair h
 obtain ⟨_, _, e1, hle, hle2, hcell⟩ := slices_ex hx
 simp only [List.cons.injEq, Value.slice.injEq, and_true, true_and] at e1
 obtain ⟨rfl, rfl⟩ := e1
 have hs := hr.1
 have hm := hr.2.1
 unfold sizeOk at hs hm
 have HRO := Lib.hid hr
 have hNle : N ≤ 1000000 := by
  have h1 : s ^ ar ≤ 1000000 := by
   refine Int.le_trans (pow_mono' (by omega) (show s ≤ 4 by omega) ar) ?_
   rcases (show ar = 1 ∨ ar = 2 ∨ ar = 3 ∨ ar = 4 by omega) with e | e | e | e <;> rw [e] <;> decide
  omega
 have HN := Lib.hid hN
 rw [har] at c0
 have HAR := Lib.hid har
 have har5 : ar ≤ 5 := by omega
 clear h hx hr hN hI har
 go_enter Tryz.func98, Tryz.ntmps98
 go_wp2_with fail
 refine (l01Empty3_any _ s ar (by omega) (by omega) har5 N HN.out hNle).mono ?_
 rintro e w1 ⟨bx, g, rfl, hset, hb1⟩
 have HS1 := Lib.hid hset
 clear hset
 go_wp2_with fail
 go_loopw [6] (fun i wr => ∃ k : Nat, k ≤ r.2.length ∧ i = .int .i64 k ∧ Set3 wr w.heap.size bx g s ar N (r.2.take k) ∧ Below w.heap.size w wr) (fun i _ => r.2.length - (intOf i).toNat)
 case atStart => exact ⟨0, Nat.zero_le _, rfl, by rw [List.take_zero]; exact HS1.out, hb1⟩
 case round =>
  obtain ⟨k, hk, rfl, hset, hbel⟩ := hrel
  have d1 := (hbel.cell hb).trans c1
  obtain ⟨⟨s1, s2, s3, s4, s5⟩, s6, s7⟩ := id hset
  have HS := Lib.hid hset
  have hgl := s5.2.1
  clear hset
  by_cases hkl : k < r.2.length
  ·obtain ⟨a, q, rfl, haa, hce⟩ := hcell (by omega)
   obtain ⟨u, hu, hcu⟩ := hce k hkl
   obtain ⟨au, cu, rfl⟩ := rd_slice hu
   have d2 := (hbel.cell haa).trans hcu
   obtain ⟨t1, t2⟩ := (HRO.out.2.2 k hkl).1
   have htl : (r.2[k]).length = ar := by have := HAR.out; omega
   obtain ⟨i0, i1⟩ := idx_lt (s := s) (by omega) htl t2
   obtain ⟨j, hj⟩ : ∃ j : Nat, idxL s 0 r.2[k] = j := ⟨(idxL s 0 r.2[k]).toNat, by omega⟩
   have hjN : j < N := by have := HN.out; rw [this, hj] at i1; omega
   have e0 := s5.cell (j := j) (by rw [seenL_len]; exact hjN)
   have e1 := s5.free j
   have hgs := s5.lt
   have HST := Lib.hid (seenL_set hkl hj hjN)
   have HBS := Lib.hid (s5.set j true)
   have HU := Lib.hid (hu.below hbel)
   have HT2 := Lib.hid t2
   have HJ := Lib.hid hj
   have S6 := Lib.hid s6
   have S7 := Lib.hid s7
   have hlen5 : (r.2[k]).length ≤ 5 := by omega
   have q1 : 1 ≤ s := hs.1
   have q2 : s ≤ 1000 := by omega
   have n1 : g ≠ b := by omega
   have n2 : g ≠ a := by omega
   have f0 : wr.drew.cell? ⟨g, j, none⟩ = some (.bool ((seenL s N (r.2.take k))[j]'(by rw [seenL_len]; exact hjN))) := e0
   have f1 : wr.drew.frozen? ⟨g, j, none⟩ = false := e1
   clear hce hcell hu hcu t1 t2 htl hj i0 i1 s5 c0 c1 s6 s7
   go_wp2_with fail
   go_region_held_law (fun w' => w'.cell? ⟨bx, 2, none⟩ = some (.slice (some ⟨g, 0, none⟩) N N) ∧ w'.cell? ⟨b, o + 1, none⟩ = some (.slice (some ⟨a, q, none⟩) r.2.length cap) ∧ w'.cell? ⟨a, q + k, none⟩ = some (.slice au (r.2[k]).length cu)) (first | exact ⟨s4, d1, d2⟩ | go_keep)
    (first
     | (go_simp; go_at_call 75; refine (l01Code_any _ s (HU.out.below bD) q1 q2 hlen5 HT2.out).mono ?_; rintro e _ ⟨rfl, rfl⟩; rw [HJ.out]; dsimp only))
   go_wp2_with fail
   go_roundw
   case rel => exact ⟨k + 1, by omega, by go_num, ⟨⟨s1, by simpa [World.setCell] using s2, s3, (World.cell?_setCell_other _ _ _ _ (by first | (simp; done) | (simp; omega))).trans s4, by rw [← HST.out]; exact HBS.out⟩, (World.cell?_setCell_other _ _ _ _ (by first | (simp; done) | (simp; omega))).trans S6.out, (World.cell?_setCell_other _ _ _ _ (by first | (simp; done) | (simp; omega))).trans S7.out⟩, (hbel.trans bD').setCell (by first | (simp; done) | (simp; omega)) _⟩
   case measure => simp [intOf]; omega
  ·obtain rfl : k = r.2.length := by omega
   rw [List.take_length] at HS
   clear hcell
   go_wp2_with fail
   go_ret
   exact ⟨bx, g, rfl, HS.out, hgl, hbel⟩
set_option maxHeartbeats 1600000 in
set_option maxRecDepth 100000 in
theorem put_any (w : World) {base bx g ar N : Nat} {s : Int} {T : List (List Int)} (h : Set3 w base bx g s ar N T) (hs : 1 ≤ s ∧ s ≤ 4) (har : ar ≤ 5) (hN : s ^ ar = N) {u : Value} {l : List Int} (hu : intsT.Rd w [u] l) (hl : l.length = ar) (hin : ∀ a ∈ l, 0 ≤ a ∧ a ≤ s - 1) :
  Calls Tryz.prog 176 #[.pointer (some ⟨bx, 0, none⟩), u] w fun e w' => e = .returned (.tuple #[]) ∧ Set3 w' base bx g s ar N (T ++ [l]) ∧ TchP (fun q => q = g) w w' := by
 obtain ⟨⟨s1, s2, s3, s4, s5⟩, s6, s7⟩ := h
 obtain ⟨i0, i1⟩ := idx_lt (s := s) (by omega) hl hin
 obtain ⟨j, hj⟩ : ∃ j : Nat, idxL s 0 l = j := ⟨(idxL s 0 l).toNat, by omega⟩
 have hjN : j < N := by rw [hN, hj] at i1; omega
 have e0 := s5.cell (j := j) (by rw [seenL_len]; exact hjN)
 have e1 := s5.free j
 have hgs := s5.lt
 have HST : Hid ((seenL s N T).set j true = seenL s N (T ++ [l])) := by
  have := seenL_set (s := s) (N := N) (ts := T ++ [l]) (k := T.length) (j := j) (by simp) (by simpa using hj) hjN
  rw [List.take_left, List.take_of_length_le (by simp)] at this
  exact this
 have HBS := Lib.hid (s5.set j true)
 have HU := Lib.hid hu
 have HIN := Lib.hid hin
 have HJ := Lib.hid hj
 have S7 := Lib.hid s7
 have hl5 : l.length ≤ 5 := by omega
 obtain ⟨au, cu, rfl⟩ := rd_slice hu
 generalize hT : (seenL s N T)[j]'(by rw [seenL_len]; exact hjN) = old at e0
 clear hT s5 s7 hu hin hj i0 i1 hN hl
 go_enter Tryz.func176, Tryz.ntmps176
 go_wp2_with fail
 refine wp_region_T (fun w' => w'.cell? ⟨bx, 0, none⟩ = some (.int .i64 s) ∧ w'.cell? ⟨bx, 2, none⟩ = some (.slice (some ⟨g, 0, none⟩) N N) ∧ w'.cell? ⟨g, j, none⟩ = some (.bool old) ∧ w'.frozen? ⟨g, j, none⟩ = false) [11] (by kernel_rfl) ⟨s6, s4, e0, e1⟩ (fun hHeld => ?_)
 refine wpAnyT_take (i := 0) (v := ?_) rfl (by kernel_rfl) (fun _ _ _ h => h) (Or.inl ⟨by rfl, ?_⟩) (by assumption) ?_
 rotate_left
 ·(intro w hSw; (try dsimp only at hSw); go_simp <;> with_reducible rfl)
 go_simp
 refine wpAnyT_take (i := 1) (v := ?_) rfl (by kernel_rfl) (fun _ _ _ h => h) (Or.inl ⟨by rfl, ?_⟩) (by assumption) ?_
 rotate_left
 ·(intro w hSw; (try dsimp only at hSw); go_simp <;> with_reducible rfl)
 go_simp
 refine wpAnyT_take (i := 2) (v := ?_) rfl (by kernel_rfl) (fun _ _ _ h => h) (Or.inl ⟨by rfl, ?_⟩) (by assumption) ?_
 rotate_left
 ·(intro w hSw; (try dsimp only at hSw); go_simp <;> with_reducible rfl)
 go_simp
 refine wpAnyT_take (i := 3) (v := ?_) rfl (by kernel_rfl) (fun _ _ _ h => h) (Or.inl ⟨by rfl, ?_⟩) (by assumption) ?_
 rotate_left
 ·(intro w hSw; (try dsimp only at hSw); go_simp <;> with_reducible rfl)
 go_simp
 refine wpAnyT_take (i := 4) (v := ?_) rfl (by kernel_rfl) (fun _ _ _ h => h) (Or.inl ⟨by rfl, ?_⟩) (by assumption) ?_
 rotate_left
 ·(intro w hSw; (try dsimp only at hSw); go_simp <;> with_reducible rfl)
 go_simp
 refine wpAnyT_take (i := 5) (v := ?_) rfl (by kernel_rfl) (fun _ _ _ h => h) (Or.inl ⟨by rfl, ?_⟩) (by assumption) ?_
 rotate_left
 ·(intro w hSw; (try dsimp only at hSw); go_simp <;> with_reducible rfl)
 go_simp
 refine wpAnyT_take (i := 6) (v := ?_) rfl (by kernel_rfl) (fun _ _ _ h => h) (Or.inl ⟨by rfl, ?_⟩) (by assumption) ?_
 rotate_left
 ·(intro w hSw; (try dsimp only at hSw); go_simp <;> with_reducible rfl)
 go_simp
 refine wpAnyT_take (i := 7) (v := ?_) rfl (by kernel_rfl) (fun _ _ _ h => h) (Or.inl ⟨by rfl, ?_⟩) (by assumption) ?_
 rotate_left
 ·(intro w hSw; (try dsimp only at hSw); go_simp <;> with_reducible rfl)
 go_simp
 refine wpAnyT_take (i := 8) (v := ?_) rfl (by kernel_rfl) (fun _ _ _ h => h) (Or.inl ⟨by rfl, ?_⟩) (by assumption) ?_
 rotate_left
 ·(intro w hSw; (try dsimp only at hSw); go_simp <;> with_reducible rfl)
 go_simp
 refine wpAnyT_one (i := 9) rfl (by kernel_rfl) (fun K hK => ?_)
 go_simp
 go_at_call 75
 refine (l01Code_any _ s (HU.out.below bD) hs.1 (by omega) hl5 HIN.out).mono ?_
 rintro e _ ⟨rfl, rfl⟩
 rw [HJ.out]
 dsimp only
 refine hK.out _ _ hHeld (fun hHeld => ?_)
 clear hK K
 refine wpAnyT_take (i := 10) (v := ?_) rfl (by kernel_rfl) (fun _ _ _ h => h) (Or.inl ⟨by rfl, ?_⟩) (by assumption) ?_
 rotate_left
 ·(intro w hSw; (try dsimp only at hSw); go_simp <;> with_reducible rfl)
 go_simp
 obtain ⟨c0, c1, c2, c3⟩ := hHeld
 refine wpAnyT_last (i := 11) rfl (by kernel_rfl) (by kernel_rfl) (fun K hK => ?_)
 go_simp
 refine hK.out _ _ ?_
 clear hK K
 refine wpAnyT_done (by kernel_rfl) ?_ _
 go_simp
 go_wp2_with fail
 go_end0
 refine ⟨rfl, ⟨⟨s1, by simpa [World.setCell] using s2, s3, (World.cell?_setCell_other _ _ _ _ (by first | (simp; done) | (simp; omega))).trans s4, by rw [← HST.out]; exact HBS.out⟩, (World.cell?_setCell_other _ _ _ _ (by first | (simp; done) | (simp; omega))).trans s6, (World.cell?_setCell_other _ _ _ _ (by first | (simp; done) | (simp; omega))).trans S7.out⟩, (TchP.of_below (bD (w := w)) _).then (TchP.set (O := fun q => q = g) rfl) (fun _ _ h => h)⟩
end Go.Proofs.YtajmjfbejfiipaaGreat
namespace Go.Proofs.YtajmjfbejfiipaaGreat
open Go.RowKit Go.Sort
set_option maxHeartbeats 3200000 in
set_option maxRecDepth 100000 in
theorem rel_any (w : World) {base bx g ar N : Nat} {s : Int} {T : List (List Int)} (h : Set3 w base bx g s ar N T) (hs : 1 ≤ s ∧ s ≤ 4) (har : ar ≤ 5) (hN : s ^ ar = N) (hN1 : N ≤ 1000000) (hT : ∀ l ∈ T, l.length = ar ∧ ∀ a ∈ l, 0 ≤ a ∧ a ≤ s - 1) :
  Calls Tryz.prog 175 #[.pointer (some ⟨bx, 0, none⟩)] w (RetA relT w ((ar : Int), relL s ar (fun l => tb (l ∈ T)) N)) := by
 obtain ⟨⟨s1, s2, s3, s4, s5⟩, s6, s7⟩ := id h
 have HSET := Lib.hid h
 have HTT := Lib.hid hT
 have HN := Lib.hid hN
 have hgw := s5.lt
 have HBR := Lib.hid s5
 clear h hT hN s5
 go_enter Tryz.func175, Tryz.ntmps175
 go_wp2_with fail
 generalize hW : World.alloc _ _ = W
 have hbW : Below w.heap.size w W := hW ▸ bAA
 have hsW : W.heap.size = w.heap.size + 2 := by rw [← hW]; simp
 have y0 : W.cell? ⟨w.heap.size + 1, 0, none⟩ = some (.int .i64 (ar : Int)) := by rw [← hW]; simp [go_sem]
 have y1 : W.cell? ⟨w.heap.size + 1, 1, none⟩ = some (.slice none 0 0) := by rw [← hW]; simp [go_sem]
 have y2 : W.frozen? ⟨w.heap.size + 1, 1, none⟩ = false := by rw [← hW]; simp [go_sem]
 have r0 : W.cell? ⟨w.heap.size, 0, none⟩ = some (.int .i64 0) := by rw [← hW]; simp [go_sem]
 have r1 : W.cell? ⟨w.heap.size, 1, none⟩ = some (.slice none 0 0) := by rw [← hW]; simp [go_sem]
 have r2 : W.frozen? ⟨w.heap.size, 0, none⟩ = false := by rw [← hW]; simp [go_sem]
 have r3 : W.frozen? ⟨w.heap.size, 1, none⟩ = false := by rw [← hW]; simp [go_sem]
 clear hW
 go_loopw [4] (fun i wr => ∃ (k : Nat) (v : Value), k ≤ N ∧ i = .int .i64 k ∧ Bl intsT 38 (w.heap.size + 2) wr.heap.size wr v (relL s ar (fun l => tb (l ∈ T)) k) ∧ wr.cell? ⟨w.heap.size + 1, 1, none⟩ = some v ∧ wr.cell? ⟨w.heap.size + 1, 0, none⟩ = some (.int .i64 (ar : Int)) ∧ wr.frozen? ⟨w.heap.size + 1, 1, none⟩ = false ∧ Below (w.heap.size + 1) W wr ∧ w.heap.size + 2 ≤ wr.heap.size) (fun i _ => N - (intOf i).toNat)
 case atStart => exact ⟨0, _, Nat.zero_le _, rfl, by rw [relL_zero]; simpa using Bl.nil, y1, y0, y2, Below.refl _ _, by omega⟩
 case round =>
  obtain ⟨k, v, hk, rfl, hBv, z1, z0, z2, hbe, hse⟩ := hrel
  obtain ⟨wv, rfl⟩ : ∃ wv : World, wv = wr := ⟨_, rfl⟩
  have hbw : Below w.heap.size w wv := hbW.trans (hbe.mono (by omega))
  have hlk := relL_len (s := s) (ar := ar) (p := fun l => tb (l ∈ T)) (k := k)
  obtain ⟨av0, nv0, cv0, rfl⟩ := ex_slice (hBv.fr (by unfold capMax; omega))
  have HBv := Lib.hid hBv
  have u0 := (cellB hbw s2).trans s6
  have u1 := (cellB hbw s2).trans s7
  have u2 := (cellB hbw s2).trans s4
  clear hBv y0 y1 y2
  by_cases hkl : k < N
  ·have e0 := (cellB hbw hgw).trans (HBR.out.cell (j := k) (by rw [seenL_len]; exact hkl))
   rw [seen_dig hs.1 HN.out HTT.out hkl] at e0
   have HY : Hid (tb (digL s k ar ∈ T) = true → relL s ar (fun l => tb (l ∈ T)) k ++ [digL s k ar] = relL s ar (fun l => tb (l ∈ T)) (k + 1)) := fun h => relL_yes h
   have HNo : Hid (tb (digL s k ar ∈ T) = false → relL s ar (fun l => tb (l ∈ T)) k = relL s ar (fun l => tb (l ∈ T)) (k + 1)) := fun h => relL_no h
   cases hb : tb (digL s k ar ∈ T)
   ·rw [hb] at e0
    go_wp2_with fail
    go_roundw
    case rel => exact ⟨k + 1, _, by omega, by go_num, by rw [← HNo.out hb]; exact HBv.out, z1, z0, z2, hbe, hse⟩
    case measure => simp [intOf]; omega
   ·rw [hb] at e0
    go_wp2_with fail
    clear e0
    have hkb : (k : Int) ≤ 1000000 := by omega
    refine wp_region_T (fun w' => w'.cell? ⟨w.heap.size + 1, 1, none⟩ = some (.slice av0 nv0 cv0) ∧ w'.cell? ⟨bx, 0, none⟩ = some (.int .i64 s) ∧ w'.cell? ⟨bx, 1, none⟩ = some (.int .i64 (ar : Int))) [13, 15] (by kernel_rfl) ⟨z1, u0, u1⟩ (fun hHeld => ?_)
    refine wpAnyT_take (i := 0) (v := ?_) rfl (by kernel_rfl) (fun _ _ _ h => h) (Or.inl ⟨by rfl, ?_⟩) (by assumption) ?_
    rotate_left
    ·(intro w hSw; (try dsimp only at hSw); go_simp <;> with_reducible rfl)
    go_simp
    refine wpAnyT_take (i := 1) (v := ?_) rfl (by kernel_rfl) (fun _ _ _ h => h) (Or.inl ⟨by rfl, ?_⟩) (by assumption) ?_
    rotate_left
    ·(intro w hSw; (try dsimp only at hSw); go_simp <;> with_reducible rfl)
    go_simp
    refine wpAnyT_take (i := 2) (v := ?_) rfl (by kernel_rfl) (fun _ _ _ h => h) (Or.inl ⟨by rfl, ?_⟩) (by assumption) ?_
    rotate_left
    ·(intro w hSw; (try dsimp only at hSw); go_simp <;> with_reducible rfl)
    go_simp
    refine wpAnyT_take (i := 3) (v := ?_) rfl (by kernel_rfl) (fun _ _ _ h => h) (Or.inl ⟨by rfl, ?_⟩) (by assumption) ?_
    rotate_left
    ·(intro w hSw; (try dsimp only at hSw); go_simp <;> with_reducible rfl)
    go_simp
    refine wpAnyT_take (i := 4) (v := ?_) rfl (by kernel_rfl) (fun _ _ _ h => h) (Or.inl ⟨by rfl, ?_⟩) (by assumption) ?_
    rotate_left
    ·(intro w hSw; (try dsimp only at hSw); go_simp <;> with_reducible rfl)
    go_simp
    refine wpAnyT_take (i := 5) (v := ?_) rfl (by kernel_rfl) (fun _ _ _ h => h) (Or.inl ⟨by rfl, ?_⟩) (by assumption) ?_
    rotate_left
    ·(intro w hSw; (try dsimp only at hSw); go_simp <;> with_reducible rfl)
    go_simp
    refine wpAnyT_take (i := 6) (v := ?_) rfl (by kernel_rfl) (fun _ _ _ h => h) (Or.inl ⟨by rfl, ?_⟩) (by assumption) ?_
    rotate_left
    ·(intro w hSw; (try dsimp only at hSw); go_simp <;> with_reducible rfl)
    go_simp
    refine wpAnyT_take (i := 7) (v := ?_) rfl (by kernel_rfl) (fun _ _ _ h => h) (Or.inl ⟨by rfl, ?_⟩) (by assumption) ?_
    rotate_left
    ·(intro w hSw; (try dsimp only at hSw); go_simp <;> with_reducible rfl)
    go_simp
    refine wpAnyT_take (i := 8) (v := ?_) rfl (by kernel_rfl) (fun _ _ _ h => h) (Or.inl ⟨by rfl, ?_⟩) (by assumption) ?_
    rotate_left
    ·(intro w hSw; (try dsimp only at hSw); go_simp <;> with_reducible rfl)
    go_simp
    refine wpAnyT_take (i := 9) (v := ?_) rfl (by kernel_rfl) (fun _ _ _ h => h) (Or.inl ⟨by rfl, ?_⟩) (by assumption) ?_
    rotate_left
    ·(intro w hSw; (try dsimp only at hSw); go_simp <;> with_reducible rfl)
    go_simp
    refine wpAnyT_take (i := 10) (v := ?_) rfl (by kernel_rfl) (fun _ _ _ h => h) (Or.inl ⟨by rfl, ?_⟩) (by assumption) ?_
    rotate_left
    ·(intro w hSw; (try dsimp only at hSw); go_simp <;> with_reducible rfl)
    go_simp
    refine wpAnyT_one (i := 11) rfl (by kernel_rfl) (fun K hK => ?_)
    go_simp
    go_at_call 140
    refine (l01Digits_any _ s (k : Int) ar hs.1 (by omega) har (by omega) (by omega)).mono ?_
    rintro e w1 ⟨u, rfl, hf, hb1⟩
    obtain ⟨a2, n2, c2, rfl⟩ := ex_slice hf
    have HF := Lib.hid hf
    have hb2 : Below wv.heap.size wv w1 := bthen bD hb1
    have f1 := (cellB hb2 (by omega)).trans z1
    have f2 := (cellB hb2 (by omega)).trans z0
    have f3 := (frozenB hb2 (by omega)).trans z2
    have f4 := (cellB hb2 (by have := hbw.size; omega)).trans u0
    have f5 := (cellB hb2 (by have := hbw.size; omega)).trans u1
    have hz1 := hb2.size
    clear hf hb1 hHeld
    dsimp only
    refine hK.out _ _ ⟨f1, f4, f5⟩ (fun hHeld => ?_)
    clear hK K
    refine wpAnyT_one (i := 12) rfl (by kernel_rfl) (fun K hK => ?_)
    go_simp
    refine hK.out _ _ ⟨by go_keep, by go_keep, by go_keep⟩ (fun hHeld => ?_)
    clear hK K
    refine wpAnyT_last (i := 13) rfl (by kernel_rfl) (by kernel_rfl) (fun K hK => ?_)
    refine step_push (E := intsT) _ rfl _ _ 29 38 rfl elInt64SS rfl (HBv.out.below (hb2.alloc (by omega) _) (Nat.le_refl _)) rfl news1 ((HF.out.below bA).mono (by have := (bD (w := wv)).size; omega)) (by omega) (by decide) hse (by simp; omega) ?_
    intro v1 w3 hB3 hg3 _
    rw [HY.out hb] at hB3
    have hb3 : Below (w.heap.size + 2) w1 w3 := ((Below.refl _ w1).alloc (by omega) _).grown hg3 (by simp; omega) (fun q hq => HBv.out.own hq)
    have i1 := (cellB hb3 (by omega)).trans f1
    have i2 := (cellB hb3 (by omega)).trans f2
    have i3 := (frozenB hb3 (by omega)).trans f3
    have hz3 := hb3.size
    have HB3 := Lib.hid hB3
    have hlk1 := relL_len (s := s) (ar := ar) (p := fun l => tb (l ∈ T)) (k := k + 1)
    obtain ⟨a3, n3, c3, rfl⟩ := ex_slice (hB3.fr (by unfold capMax; omega))
    clear hB3 hg3 f1 f2 f3 f4 f5 hlk1
    refine hK.out _ _ ?_
    clear hK K
    refine wpAnyT_any (i := 14) (v := ?_) rfl (by kernel_rfl) (fun _ _ _ h => h) (Or.inl ⟨by rfl, ?_⟩) (by first | exact fun _ => by assumption | (intro hp; exact absurd hp (by rw [show pastB _ _ = true by kernel_rfl]; simp))) ?_
    rotate_left
    ·(intro w hSw; (try dsimp only at hSw); go_simp <;> with_reducible rfl)
    try simp only [Act.put]
    refine wpAnyT_last (i := 15) rfl (by kernel_rfl) (by kernel_rfl) (fun K hK => ?_)
    go_simp
    refine hK.out _ _ ?_
    clear hK K
    refine wpAnyT_done (by kernel_rfl) ?_ _
    go_simp
    go_wp2_with fail
    go_roundw
    case rel => exact ⟨k + 1, _, by omega, by go_num, by rw [size_set]; exact HB3.out.sameB (fun q hq1 hq2 => Below.heap_setCell _ _ _ _ (by simp; omega)), World.cell?_setCell_same _ _ _ i1, (World.cell?_setCell_other _ _ _ _ (by simp)).trans i2, (World.frozen?_setCell _ _ _ _).trans i3, (hbe.trans ((hb2.mono (by omega)).trans (hb3.mono (by omega)))).setCell (by simp) _, by rw [size_set]; omega⟩
    case measure => simp [intOf]; omega
  ·obtain rfl : k = N := by omega
   have HF := Lib.hid (HBv.out.fr (by unfold capMax; omega))
   have q0 := (cellB hbe (by omega)).trans r0
   have q1 := (cellB hbe (by omega)).trans r1
   have q2 := (frozenB hbe (by omega)).trans r2
   have q3 := (frozenB hbe (by omega)).trans r3
   have hze : w.heap.size < wv.heap.size := by omega
   obtain ⟨RL, hRL⟩ : ∃ RL, RL = relL s ar (fun l => tb (l ∈ T)) k := ⟨_, rfl⟩
   rw [← hRL] at HF hlk
   obtain ⟨x1, x2, hx⟩ := fr_slice HF.out
   simp only [Value.slice.injEq] at hx
   obtain ⟨rfl, rfl, rfl⟩ := hx
   have HRL := Lib.hid hRL
   clear HBv hRL
   go_wp2_with fail
   obtain ⟨g0, g1⟩ := set2_cells (x := .int .i64 (ar : Int)) (y := .slice av0 RL.length cv0) q0 q1
   refine bodyPost_ret (v := .agg #[.int .i64 (ar : Int), .slice av0 RL.length cv0]) (by simp [results, Tryz.results175, go_sem, g0, g1]) rfl ⟨[.int .i64 (ar : Int), .slice av0 RL.length cv0], rfl, ?_, ?_⟩
   ·rw [← HRL.out]
    refine Ty.Fr.mono (base := w.heap.size + 2) (fr_set2 (fr_cons (I64.small (by omega) (by omega)) HF.out) ?_) ?_ <;> omega
   ·exact (hbw.setCell (by simp) _).setCell (by simp) _
end Go.Proofs.YtajmjfbejfiipaaGreat
namespace Go.Proofs.YtajmjfbejfiipaaGreat
/-- a code, how many steps, what has been told -/
abbrev FR := Int × Nat × List (List Int)
section
variable {s : Nat} {okT : List Int → Bool} {fx : List Int} {yc : List (List Int) → Int} {m : Nat} {vals : List Int} {r : FR} {rec : List Int → FR → FR} {a : Nat}
section
variable {N d : Nat} {pre : List Int} {cur : Int}
end
end
end Go.Proofs.YtajmjfbejfiipaaGreat
namespace Go.Proofs.YtajmjfbejfiipaaGreat
open Go.RowKit Go.Sort
theorem rel_len_le {s : Int} {r : Int × List (List Int)} (hr : relOk s r) : (r.2.length : Int) ≤ s ^ r.1.toNat ∧ s ^ r.1.toNat ≤ 256 := by
 have hs := hr.1
 have hm := hr.2.1
 unfold sizeOk at hs hm
 have hp : 0 ≤ s ^ r.1.toNat := pow_nn (by omega) _
 constructor
 ·have hN : ((r.2.map fun x => (idxL s 0 x).toNat)).Nodup := by
   rw [List.Nodup, List.pairwise_map]
   refine List.Pairwise.imp_of_mem ?_ (sortedL_nodup (relOk_sorted hr))
   intro a b ha hb hab e
   obtain ⟨i, hi, rfl⟩ := List.mem_iff_getElem.1 ha
   obtain ⟨j, hj, rfl⟩ := List.mem_iff_getElem.1 hb
   obtain ⟨a1, a2⟩ := (hr.2.2 i hi).1
   obtain ⟨b1, b2⟩ := (hr.2.2 j hj).1
   have ha3 := idx_lt (m := r.1.toNat) hs.1 (by omega) a2
   have hb3 := idx_lt (m := r.1.toNat) hs.1 (by omega) b2
   exact hab (idxL_inj hs.1 r.1.toNat (by omega) (by omega) a2 b2 (by omega))
  have := nodup_lt_len (s ^ r.1.toNat).toNat _ hN fun x hx => by
   obtain ⟨y, hy, rfl⟩ := List.mem_map.1 hx
   obtain ⟨i, hi, rfl⟩ := List.mem_iff_getElem.1 hy
   obtain ⟨a1, a2⟩ := (hr.2.2 i hi).1
   have ha3 := idx_lt (m := r.1.toNat) hs.1 (by omega) a2
   omega
  rw [List.length_map] at this
  omega
 ·refine Int.le_trans (pow_mono' (by omega) (show s ≤ 4 by omega) r.1.toNat) ?_
  rcases (show r.1.toNat = 1 ∨ r.1.toNat = 2 ∨ r.1.toNat = 3 ∨ r.1.toNat = 4 by omega) with e | e | e | e <;> rw [e] <;> decide
/-- as far as k all are kept -/
def keptTo (s : Int) (f : Int × List Int) (r : Int × List (List Int)) (k : Nat) : Prop := ∀ i : Nat, i < k → makes s f r i ∈ r.2
theorem keptTo_zero {s : Int} {f : Int × List Int} {r : Int × List (List Int)} : keptTo s f r 0 := fun _ h => absurd h (Nat.not_lt_zero _)
theorem keptTo_succ {s : Int} {f : Int × List Int} {r : Int × List (List Int)} {k : Nat} (h : keptTo s f r k) (h' : makes s f r k ∈ r.2) : keptTo s f r (k + 1) := fun i hi => by
 by_cases e : i = k
 ·subst e; exact h'
 ·exact h i (by omega)
theorem keepsP_of {s : Int} {f : Int × List Int} {r : Int × List (List Int)} {M : Nat} (hM : (r.2.length : Int) ^ f.1.toNat = M) (h : keptTo s f r M) : keepsP s f r := fun i hi => h i (by rw [hM] at hi; omega)
theorem keepsP_not {s : Int} {f : Int × List Int} {r : Int × List (List Int)} {M k : Nat} (hM : (r.2.length : Int) ^ f.1.toNat = M) (hk : k < M) (h : ¬ makes s f r k ∈ r.2) : ¬ keepsP s f r := fun hh => h (hh k (by rw [hM]; omega))
/-- the slices that stand in a row read as the first tuples -/
def picked (w : World) (vs : List Value) (ts : List (List Int)) : Prop := vs.length ≤ ts.length ∧ ∀ i (h : i < vs.length) (h' : i < ts.length), intsT.Rd w [vs[i]] ts[i]
theorem picked_nil {w : World} {ts : List (List Int)} : picked w [] ts := ⟨Nat.zero_le _, fun i h => by simp at h⟩
theorem picked.below {w w' : World} {vs : List Value} {ts : List (List Int)} (h : picked w vs ts) (hb : Below w.heap.size w w') : picked w' vs ts := ⟨h.1, fun i h1 h2 => (h.2 i h1 h2).below hb⟩
theorem picked_snoc {w : World} {vs : List Value} {ts : List (List Int)} {u : Value} (h : picked w vs ts) (hl : vs.length < ts.length) (hu : intsT.Rd w [u] ts[vs.length]) : picked w (vs ++ [u]) ts := by
 refine ⟨by simp; omega, fun i h1 h2 => ?_⟩
 by_cases e : i = vs.length
 ·subst e; simpa using hu
 ·have hi : i < vs.length := by simp at h1; omega
  rw [List.getElem_append_left hi]
  exact h.2 i hi h2
theorem picks_get {ts : List (List Int)} {ar : Nat} {i : Int} {j dn : Nat} (hj : j < (digL ts.length i ar).length) (hd : (digL ts.length i ar)[j] = (dn : Int)) (hdn : dn < ts.length) (h : j < (picks ts ar i).length) : (picks ts ar i)[j] = ts[dn] := by
 simp only [picks, List.getElem_map, hd, Int.toNat_natCast, List.getD_eq_getElem?_getD, List.getElem?_eq_getElem hdn, Option.getD_some]
end Go.Proofs.YtajmjfbejfiipaaGreat
namespace Go.Proofs.YtajmjfbejfiipaaGreat
open Go.RowKit Go.Sort
abbrev Tpl := Int × List (Int × List (List Int))
/-- the truth values of a template's relations -/
def insF (t : Tpl) : List (List Bool) := t.2.map fun r => seenL t.1 (t.1 ^ r.1.toNat).toNat r.2
end Go.Proofs.YtajmjfbejfiipaaGreat
namespace Go.Proofs.YtajmjfbejfiipaaGreat
open Go.RowKit Go.Sort
/-- what a finder only reads: at block bs -/
def Fd (ok : Nat → Prop) (w : World) (bs : Nat) (t : Tpl) (ar : Int) (due : List (List (Int × List Int))) (fx : List Int) : Prop :=
 bs < w.heap.size ∧ ∃ v3 v4 v5, w.cell? ⟨bs, 0, none⟩ = some (.int .i64 t.1) ∧ w.cell? ⟨bs, 2, none⟩ = some (.int .i64 ar) ∧ w.cell? ⟨bs, 3, none⟩ = some v3 ∧ w.cell? ⟨bs, 4, none⟩ = some v4 ∧ w.cell? ⟨bs, 5, none⟩ = some v5 ∧
  duesT.RdP ok w [v3] due ∧ (Ty.slice boolsT).RdP ok w [v4] (insF t) ∧ intsT.RdP ok w [v5] fx
section
variable {ok ok' : Nat → Prop} {w w' : World} {bs : Nat} {t : Tpl} {ar : Int} {due : List (List (Int × List Int))} {fx : List Int}
theorem Fd.below (h : Fd ok w bs t ar due fx) (hb : Below w.heap.size w w') : Fd ok w' bs t ar due fx := by
 obtain ⟨h1, v3, v4, v5, c0, c2, c3, c4, c5, h3, h4, h5⟩ := h
 exact ⟨Nat.lt_of_lt_of_le h1 hb.size, v3, v4, v5, (hb.cell (p := ⟨bs, 0, none⟩) h1).trans c0, (hb.cell (p := ⟨bs, 2, none⟩) h1).trans c2, (hb.cell (p := ⟨bs, 3, none⟩) h1).trans c3, (hb.cell (p := ⟨bs, 4, none⟩) h1).trans c4, (hb.cell (p := ⟨bs, 5, none⟩) h1).trans c5, h3.below hb, h4.below hb, h5.below hb⟩
/-- its own last two cells and other blocks may be written -/
theorem Fd.tchP {O : Nat → Prop} (h : Fd ok w bs t ar due fx) (ht : TchP O w w') (hO : ∀ k, k < w.heap.size → ok k → ¬ O k) (hb : ¬ O bs) : Fd ok w' bs t ar due fx := by
 obtain ⟨h1, v3, v4, v5, c0, c2, c3, c4, c5, h3, h4, h5⟩ := h
 exact ⟨Nat.lt_of_lt_of_le h1 ht.size, v3, v4, v5, (ht.cell h1 hb).trans c0, (ht.cell h1 hb).trans c2, (ht.cell h1 hb).trans c3, (ht.cell h1 hb).trans c4, (ht.cell h1 hb).trans c5, h3.tchP ht hO, h4.tchP ht hO, h5.tchP ht hO⟩
theorem Fd.set {i : Nat} {u : Value} (h : Fd ok w bs t ar due fx) (hi : 6 ≤ i) (hO : ¬ ok bs) : Fd ok (w.setCell ⟨bs, i, none⟩ u) bs t ar due fx := by
 obtain ⟨h1, v3, v4, v5, c0, c2, c3, c4, c5, h3, h4, h5⟩ := h
 have hs : TchP (fun k => k = bs) w (w.setCell ⟨bs, i, none⟩ u) := TchP.set rfl
 have hk : ∀ k, k < w.heap.size → ok k → ¬ (k = bs) := fun k _ hk e => hO (e ▸ hk)
 have hc : ∀ j, j < 6 → (w.setCell ⟨bs, i, none⟩ u).cell? ⟨bs, j, none⟩ = w.cell? ⟨bs, j, none⟩ := fun j hj => World.cell?_setCell_other _ _ _ _ (by first | (simp; done) | (simp; omega))
 exact ⟨by simpa [World.setCell] using h1, v3, v4, v5, (hc 0 (by omega)).trans c0, (hc 2 (by omega)).trans c2, (hc 3 (by omega)).trans c3, (hc 4 (by omega)).trans c4, (hc 5 (by omega)).trans c5, h3.tchP hs hk, h4.tchP hs hk, h5.tchP hs hk⟩
theorem Fd.mono (h : Fd ok w bs t ar due fx) (hk : ∀ k, k < w.heap.size → ok k → ok' k) : Fd ok' w bs t ar due fx := by
 obtain ⟨h1, v3, v4, v5, c0, c2, c3, c4, c5, h3, h4, h5⟩ := h
 exact ⟨h1, v3, v4, v5, c0, c2, c3, c4, c5, h3.mono hk, h4.mono hk, h5.mono hk⟩
end
end Go.Proofs.YtajmjfbejfiipaaGreat
namespace Go.Proofs.YtajmjfbejfiipaaGreat
open Go.RowKit Go.Sort
/-- what a search turns: how many steps, the values so far, in a row of its own -/
def Tb (e base : Nat) (w : World) (bs st : Nat) (v : Value) (vals : List Int) : Prop :=
 w.cell? ⟨bs, 6, none⟩ = some (.int .i64 (st : Int)) ∧ w.cell? ⟨bs, 7, none⟩ = some v ∧ w.frozen? ⟨bs, 6, none⟩ = false ∧ w.frozen? ⟨bs, 7, none⟩ = false ∧ Bl Ty.int e base w.heap.size w v vals
theorem Tb.same {e base : Nat} {w w' : World} {bs st : Nat} {v : Value} {vals : List Int} (h : Tb e base w bs st v vals) (hb : w'.heap[bs]? = w.heap[bs]?) (hs : ∀ b, v.ownBlock = some b → w'.heap[b]? = w.heap[b]?) (hz : w.heap.size ≤ w'.heap.size) : Tb e base w' bs st v vals :=
 let ⟨h1, h2, h3, h4, h5⟩ := h
 ⟨(World.cell?_of_block (a := ⟨bs, 6, none⟩) hb).trans h1, (World.cell?_of_block (a := ⟨bs, 7, none⟩) hb).trans h2, (World.frozen?_of_block (a := ⟨bs, 6, none⟩) hb).trans h3, (World.frozen?_of_block (a := ⟨bs, 7, none⟩) hb).trans h4, bl_int_same h5 hs hz⟩
theorem Tb.below {e base : Nat} {w w' : World} {bs st : Nat} {v : Value} {vals : List Int} (h : Tb e base w bs st v vals) (hl : bs < w.heap.size) (hb : Below w.heap.size w w') : Tb e base w' bs st v vals :=
 h.same (hb.block bs hl) (fun _ hq => hb.block _ (h.2.2.2.2.lt_top hq)) hb.size
/-- a listener of operations: what it keeps (I), and the blocks that are its own (O) -/
structure Yf (P : Program) (ar : Int) (g : FuncId) (caps : Array Value) (yc : List (List Int) → Int) (I : List (List Int) → (Nat → Prop) → World → Prop) : Prop where
 stable : ∀ {told O w w'}, I told O w → (∀ k, k < w.heap.size → O k → w'.heap[k]? = w.heap[k]?) → w.heap.size ≤ w'.heap.size → I told O w'
 lt : ∀ {told O w}, I told O w → ∀ k, O k → k < w.heap.size
 step : ∀ {told O w0 w u x}, I told O w0 → Below w0.heap.size w0 w → intsT.Fr w0.heap.size w [u] x → x.length ≤ 64 → told.length ≤ 2000000 →
  Calls P g (#[.agg #[.int .i64 ar, u]] ++ caps) w fun e w' => e = .returned (.int .i64 (yc (told ++ [x]))) ∧ ∃ O', I (told ++ [x]) O' w' ∧ TchP O w w' ∧ ∀ k, O' k → O k ∨ w0.heap.size ≤ k
/-- how a search leaves memory -/
def SrR (e base : Nat) (ok : Nat → Prop) (bs : Nat) (t : Tpl) (ar : Int) (due : List (List (Int × List Int))) (fx : List Int) (I : List (List Int) → (Nat → Prop) → World → Prop) (w : World) (v : Value) (O : Nat → Prop) (vals : List Int) (R : FR) (w' : World) : Prop :=
 ∃ v' O', Fd ok w' bs t ar due fx ∧ Tb e base w' bs R.2.1 v' vals ∧ I R.2.2 O' w' ∧ (∀ k, O' k → O k ∨ w.heap.size ≤ k) ∧ (∀ k, v'.ownBlock = some k → ¬ O' k ∧ (v.ownBlock = some k ∨ w.heap.size ≤ k)) ∧ TchP (fun k => O k ∨ k = bs ∨ v.ownBlock = some k) w w'
theorem SrR.mk {e base : Nat} {ok : Nat → Prop} {bs : Nat} {t : Tpl} {ar : Int} {due : List (List (Int × List Int))} {fx : List Int} {I : List (List Int) → (Nat → Prop) → World → Prop} {w : World} {v : Value} {O : Nat → Prop} {vals : List Int} {R : FR} {w' : World} (v' : Value) (O' : Nat → Prop)
  (h1 : Fd ok w' bs t ar due fx) (h2 : Tb e base w' bs R.2.1 v' vals) (h3 : I R.2.2 O' w') (h4 : ∀ k, O' k → O k ∨ w.heap.size ≤ k) (h5 : ∀ k, v'.ownBlock = some k → ¬ O' k ∧ (v.ownBlock = some k ∨ w.heap.size ≤ k)) (h6 : TchP (fun k => O k ∨ k = bs ∨ v.ownBlock = some k) w w') : SrR e base ok bs t ar due fx I w v O vals R w' :=
 ⟨v', O', h1, h2, h3, h4, h5, h6⟩
end Go.Proofs.YtajmjfbejfiipaaGreat
namespace Go.Proofs.YtajmjfbejfiipaaGreat
open Go.RowKit Go.Sort
def mone (n N : Nat) : List Value := List.replicate n (Value.int .i64 (-1)) ++ List.replicate (N - n) (Value.int .i64 0)
end Go.Proofs.YtajmjfbejfiipaaGreat
namespace Go.Proofs.YtajmjfbejfiipaaGreat
open Go.RowKit Go.Sort
abbrev ZP := (Int × List Int) × (Int × Value)
def zF (Z : List ZP) (v : Nat) : List ZP := Z.filter fun z => topI z.1.2 == (v : Int)
/-- blocks of what is finished -/
def okN (base N : Nat) (us : Nat → Value) (vin : Value) (k : Nat) : Prop := base ≤ k ∧ (∀ v, v < N → (us v).ownBlock ≠ some k) ∧ vin.ownBlock ≠ some k
structure FinS (B : Ty (List Bool)) (eL eR eB base N : Nat) (w : World) (g : Nat) (us : Nat → Value) (vin : Value) (Z : List ZP) (vs : List Value) (ins : List (List Bool)) : Prop where
 du : DU eL eR base w.heap.size w g N us (fun v => (zF Z v).map (·.2))
 zs : ∀ z ∈ Z, pvR (okN base N us vin) w z
 vi : Bl Ty.val eB base w.heap.size w vin vs
 bl : vs.length = ins.length
 br : ∀ i (h : i < vs.length) (h' : i < ins.length), B.RdP (okN base N us vin) w [vs[i]] ins[i]
 vu : ∀ v, v < N → ∀ k, (us v).ownBlock = some k → vin.ownBlock ≠ some k
section
variable {B : Ty (List Bool)} {eL eR eB base N g : Nat} {w w' : World} {us : Nat → Value} {vin : Value} {Z : List ZP} {vs : List Value} {ins : List (List Bool)}
theorem FinS.lt (h : FinS B eL eR eB base N w g us vin Z vs ins) : g < w.heap.size := h.du.lt
theorem FinS.below (h : FinS B eL eR eB base N w g us vin Z vs ins) (hB : base ≤ w.heap.size) (hb : Below w.heap.size w w') : FinS B eL eR eB base N w' g us vin Z vs ins :=
 ⟨(h.du.below hb (Nat.le_refl _) hB).mono hb.size, fun z hz => (h.zs z hz).below hb, (h.vi.below hb (Nat.le_refl _)).mono hb.size, h.bl, fun i h1 h2 => (h.br i h1 h2).below hb, h.vu⟩
/-- a cell of an older block -/
theorem FinS.set {b i : Nat} {u : Value} (h : FinS B eL eR eB base N w g us vin Z vs ins) (hb : b < base) (hg : b ≠ g) : FinS B eL eR eB base N (w.setCell ⟨b, i, none⟩ u) g us vin Z vs ins := by
 have ht : TchP (fun k => k = b) w (w.setCell ⟨b, i, none⟩ u) := TchP.set rfl
 have hk : ∀ k, k < w.heap.size → okN base N us vin k → ¬ (k = b) := fun k _ hk e => by have := hk.1; omega
 have hz : (w.setCell ⟨b, i, none⟩ u).heap.size = w.heap.size := by simp [World.setCell]
 have hh : ∀ k, k ≠ b → (w.setCell ⟨b, i, none⟩ u).heap[k]? = w.heap[k]? := fun k hk => Below.heap_setCell _ _ _ _ hk
 refine ⟨?_, fun z hz => (h.zs z hz).tchP ht hk, bl_val_same h.vi (fun q hq => hh q (by have := h.vi.ge hq; omega)) (by rw [hz]; exact Nat.le_refl _), h.bl, fun j h1 h2 => (h.br j h1 h2).tchP ht hk, h.vu⟩
 obtain ⟨d1, d2, d3, d4⟩ := h.du
 refine ⟨owns_same d1 (hh g (Ne.symm hg)), d2, fun v hv => ?_, d4⟩
 exact pv_same (d3 v hv) (fun q hq => hh q (by have := (d3 v hv).ge hq; omega)) (by rw [hz]; exact Nat.le_refl _)
theorem FinS.sets (h : FinS B eL eR eB base N w g us vin Z vs ins) (hB : B.sz = 1) (hn : vs.length ≤ 1000) : (Ty.slice B).RdP (fun k => k = g ∨ base ≤ k) w [vin] ins :=
 rows_ofP hB (bl_val_rdP h.vi (by unfold capMax; omega) (fun q hq => .inr (h.vi.ge hq))) h.bl (fun i h1 h2 => (h.br i h1 h2).mono (fun k _ hk => .inr hk.1))
end
end Go.Proofs.YtajmjfbejfiipaaGreat
namespace Go.Proofs.YtajmjfbejfiipaaGreat
open Go.RowKit
section
variable {P : Program} {ops : Array Oper} {Q : Exit → Act → World → Prop} {md : Region.Mode} {S : World → Prop} {tail : List Nat}
/-- number i comes up -/
def stepT (P : Program) (md : Region.Mode) (ops : Array Oper) (Q : Exit → Act → World → Prop) (S : World → Prop) (tail : List Nat) (fuel : Nat) (listed : Array Bool) (a : Act) (w : World) (i : Nat) (o : Oper) : Prop :=
 ∀ K' : Act → World → Prop, Shut (∀ a w, S w → (S w → wpAnyT P md ops Q S tail fuel (listed.setIfInBounds i true) a w) → K' a w) → if Region.wanted o (yielded ops a.tmps) = true then Oper.wp P o a w K' Q else K' (a.put o.dst undef) w
theorem wpAnyT_two {i j : Nat} {oi oj : Oper} {fuel : Nat} {listed : Array Bool} {a : Act} {w : World} (hi : ops[i]? = some oi) (hj : ops[j]? = some oj) (hr : Region.ready md ops listed = [i, j])
  (h1 : stepT P md ops Q S tail fuel listed a w i oi) (h2 : stepT P md ops Q S tail fuel listed a w j oj) : wpAnyT P md ops Q S tail (fuel + 1) listed a w := by
 refine ⟨fun h0 => (by rw [h0] at hr; cases hr), fun k hk => ?_⟩
 rw [hr] at hk
 have hk' : k = i ∨ k = j := by simpa using hk
 rcases hk' with rfl | rfl
 ·exact wpOp_step hi (fun K' hK => h1 K' (fun a w hS hW => hK a w ⟨fun _ => hS, hW hS⟩))
 ·exact wpOp_step hj (fun K' hK => h2 K' (fun a w hS hW => hK a w ⟨fun _ => hS, hW hS⟩))
end
end Go.Proofs.YtajmjfbejfiipaaGreat
namespace Go.Proofs.YtajmjfbejfiipaaGreat
open Go.RowKit Go.Sort
/-- a finder's box -/
def BxF (w : World) (bs : Nat) (s ar : Int) (gd gt N : Nat) (vin : Value) : Prop :=
 bs < w.heap.size ∧ w.cell? ⟨bs, 0, none⟩ = some (.int .i64 s) ∧ w.cell? ⟨bs, 2, none⟩ = some (.int .i64 ar) ∧ w.cell? ⟨bs, 3, none⟩ = some (.slice (some ⟨gd, 0, none⟩) N N) ∧ w.cell? ⟨bs, 4, none⟩ = some vin ∧ w.cell? ⟨bs, 5, none⟩ = some (.slice (some ⟨gt, 0, none⟩) N N) ∧
  w.cell? ⟨bs, 6, none⟩ = some (.int .i64 0) ∧ w.cell? ⟨bs, 7, none⟩ = some (.slice none 0 0) ∧ w.frozen? ⟨bs, 4, none⟩ = false ∧ w.frozen? ⟨bs, 6, none⟩ = false ∧ w.frozen? ⟨bs, 7, none⟩ = false
theorem BxF.same {w w' : World} {bs : Nat} {s ar : Int} {gd gt N : Nat} {vin : Value} (h : BxF w bs s ar gd gt N vin) (hs : w'.heap[bs]? = w.heap[bs]?) (hz : w.heap.size ≤ w'.heap.size) : BxF w' bs s ar gd gt N vin := by
 obtain ⟨h0, c0, c2, c3, c4, c5, c6, c7, f4, f6, f7⟩ := h
 have c : ∀ i, w'.cell? ⟨bs, i, none⟩ = w.cell? ⟨bs, i, none⟩ := fun i => World.cell?_of_block (a := ⟨bs, i, none⟩) hs
 have f : ∀ i, w'.frozen? ⟨bs, i, none⟩ = w.frozen? ⟨bs, i, none⟩ := fun i => World.frozen?_of_block (a := ⟨bs, i, none⟩) hs
 exact ⟨Nat.lt_of_lt_of_le h0 hz, (c 0).trans c0, (c 2).trans c2, (c 3).trans c3, (c 4).trans c4, (c 5).trans c5, (c 6).trans c6, (c 7).trans c7, (f 4).trans f4, (f 6).trans f6, (f 7).trans f7⟩
theorem BxF.set {w : World} {bs : Nat} {s ar : Int} {gd gt N : Nat} {vin v' : Value} (h : BxF w bs s ar gd gt N vin) : BxF (w.setCell ⟨bs, 4, none⟩ v') bs s ar gd gt N v' := by
 obtain ⟨h0, c0, c2, c3, c4, c5, c6, c7, f4, f6, f7⟩ := h
 have c : ∀ i, i ≠ 4 → (w.setCell ⟨bs, 4, none⟩ v').cell? ⟨bs, i, none⟩ = w.cell? ⟨bs, i, none⟩ := fun _ hi => World.cell?_setCell_other _ _ _ _ (fun e => hi (congrArg Addr.off e.symm))
 have f : ∀ i, (w.setCell ⟨bs, 4, none⟩ v').frozen? ⟨bs, i, none⟩ = w.frozen? ⟨bs, i, none⟩ := fun i => World.frozen?_setCell _ _ _ _
 exact ⟨by simpa [World.setCell] using h0, (c 0 (by decide)).trans c0, (c 2 (by decide)).trans c2, (c 3 (by decide)).trans c3, World.cell?_setCell_same _ _ _ c4, (c 5 (by decide)).trans c5, (c 6 (by decide)).trans c6, (c 7 (by decide)).trans c7, (f 4).trans f4, (f 6).trans f6, (f 7).trans f7⟩
/-- what the making of a finder keeps -/
def NfI (base : Nat) (W : World) (t : Tpl) (ar : Int) (N bs gd gt : Nat) (L : List (Int × List Int)) (I : List (List Bool)) (us : Nat → Value) (vin : Value) (Z : List ZP) (vs : List Value) (wr : World) : Prop :=
 FinS boolsT 189 190 187 base N wr gd us vin Z vs I ∧ Z.map (·.1) = L ∧ BxF wr bs t.1 ar gd gt N vin ∧ wr.heap[gt]? = some (.cells (mone N N).toArray 2 (0, 0)) ∧ Below W.heap.size W wr ∧ base ≤ wr.heap.size
theorem NfI.below {base : Nat} {W wr wx : World} {t : Tpl} {ar : Int} {N bs gd gt : Nat} {L : List (Int × List Int)} {I : List (List Bool)} {us : Nat → Value} {vin : Value} {Z : List ZP} {vs : List Value} (h : NfI base W t ar N bs gd gt L I us vin Z vs wr) (hb : Below wr.heap.size wr wx) : NfI base W t ar N bs gd gt L I us vin Z vs wx := by
 obtain ⟨h1, h2, h3, h4, h5, h6⟩ := h
 have := hb.size
 exact ⟨h1.below h6 hb, h2, h3.same (hb.block bs h3.1) hb.size, (hb.block gt (lt_of_block h4)).trans h4, bthen h5 hb, by omega⟩
end Go.Proofs.YtajmjfbejfiipaaGreat
