/-
The law of an append of a whole row: 'append(a, b...)', where b is new data. No program is named here.
Contracts: the conjunction of two formulas.
Plain mathematics: the tuples of a relation made by number are in order; where two values of formulas are apart.
Contracts: the value of a formula with its code, both sides.
Contracts: a template in new memory; a template extended by a formula: plain parts, the program's copies.
Plain: values of formulas: which tuples they have; operations that keep a template keep them.
Contracts: the conjunction of two formulas, the reference's.
Contracts: a relation of a formula replaced by a formula: plain parts; the program's.
Plain: a relation replaced by a formula with its value changes no value.
Plain: the values of a conjunction, of a formula with a hidden variable, of a placed formula.
Plain mathematics: a formula made simpler.
-/
import Derived.Test.YtnhdohednekhjaaGreatDoorQAB
import Derived.Test.YtnhdohednekhjaaGreatDoorQAG
import Derived.Test.YtnhdohednekhjaaGreatDoorQAE
import Derived.Test.YtnhdohednekhjaaGreatDoorQAF
namespace Go.Proofs.YtnhdohednekhjaaGreatDoor
open Go.RowKit
theorem run_load_zero {P : Program} (w : World) (a : Addr) : (loadCells a 0).run P w = .ok #[] w := by
 simp [loadCells, loadCellsFrom]
theorem run_append_zero {P : Program} (w : World) (base : Nat) (t ty e : TypeId) {sz bytes : Nat} (hT : ElT P t e sz bytes) (v : Value) (n : Nat) (xs : List Value) (hown : w.ownsRow base e sz v n xs) (ad : Option Addr) (c : Nat) :
  (Builtin.append_ #[t, t] ty #[v, .slice ad 0 c]).run P w = .ok v w := by
 obtain ⟨i, z, ht, hi, hz, rfl, rfl, hzs, hp⟩ := hT
 rcases hown.2 with ⟨rfl, rfl⟩ | ⟨g, cap, cur, rfl, _, _, hnc, _⟩
 ·cases ad <;> simp [Builtin.append_, run_underlying ht, sizeOf, typeInfo, hi, Builtin.lenOf, Builtin.firstCells, run_load_zero]
 ·cases ad <;> simp [Builtin.append_, run_underlying ht, sizeOf, typeInfo, hi, Builtin.lenOf, Builtin.firstCells, hnc, storeCells, run_load_zero]
theorem getD_slot {n i q sz : Nat} (h : i < n) (hq : q < sz) : i * sz + q < n * sz := by
 have h10 : (i + 1) * sz ≤ n * sz := Nat.mul_le_mul_right _ h
 rw [Nat.add_mul] at h10
 omega
theorem run_pushFx {P : Program} {α : Type} {E : Ty α} (w : World) (t ty e : TypeId) {bytes : Nat} (hT : ElT P t e E.sz bytes)
  {base top : Nat} {v : Value} {ys : List α} (hB : Bl E e base top w v ys) {lo : Nat} {u : Value} {xs : List α} {fpu : List Nat} (hu0 : (Ty.slice E).rd w [u] xs fpu) (hnd : fpu.Nodup) (hbs : ∀ k ∈ fpu, lo ≤ k ∧ (k < base ∨ top ≤ k)) (hun : Unf w fpu) (hlo : lo ≤ base)
  (hlen : ys.length + xs.length ≤ 1000000000) (hby : bytes ≤ 100000) (hbt : base ≤ top) (htop : top ≤ w.heap.size) :
  ∃ v' w', (Builtin.append_ #[t, t] ty #[v, u]).run P w = .ok v' w' ∧ Bl E e lo w'.heap.size w' v' (ys ++ xs) ∧ w.grownBy w' v.ownBlock ∧ (v'.ownBlock = v.ownBlock ∨ v'.ownBlock = some w.heap.size) := by
 obtain ⟨L, fps, g1, g2, g3, g4, g5, g6⟩ := hB
 obtain ⟨ad, cap, hv, k1, k2, k3⟩ := hu0
 have g7 : ∀ g, v.ownBlock = some g → base ≤ g := fun g hg => (g1.lt g hg).1
 have g1' : w.ownsRow lo e E.sz v ys.length L := by
  refine ⟨g1.1, ?_⟩
  rcases g1.2 with h | ⟨g', cap', cur, hg', hbg, hh, r⟩
  ·exact .inl h
  ·exact .inr ⟨g', cap', cur, hg', Nat.le_trans hlo hbg, hh, r⟩
 obtain rfl : u = _ := by simpa using hv
 rcases k3 with ⟨h0, rfl⟩ | ⟨h0, b, o, fpx, rfl, hb, rfl, hr⟩
 ·have hx : xs = [] := List.eq_nil_of_length_eq_zero h0
  subst hx
  exact ⟨v, w, run_append_zero w base t ty e hT v ys.length L g1 ad cap, by rw [List.append_nil]; exact ⟨L, fps, g1', g2, g3, fun b hb => ⟨Nat.le_trans hlo (g4 b hb).1, Nat.lt_of_lt_of_le (g4 b hb).2.1 htop, (g4 b hb).2.2⟩, fun g hg => Nat.lt_of_lt_of_le (g5 g hg) htop, g6⟩, ⟨rfl, rfl, rfl, Nat.le_refl _, fun _ _ _ => rfl⟩, .inl rfl⟩
 ·obtain ⟨i, z, ht, hi, hz, hsz, hbt', hzs, hp⟩ := id hT
  have hlen' : (ys.length + xs.length) * bytes ≤ 140737488355328 := Nat.le_trans (Nat.mul_le_mul hlen hby) (by decide)
  have hbase : base ≤ w.heap.size := Nat.le_trans hbt htop
  -- the cells of the row
  have hcell : ∀ j, j < xs.length * E.sz → ∃ u, w.cell? ⟨b, o + j, none⟩ = some u ∧ u.oneCell' = true := by
   intro j hj
   have hi' : j / E.sz < xs.length := (Nat.div_lt_iff_lt_mul hp).2 hj
   have hq : j % E.sz < E.sz := Nat.mod_lt _ hp
   obtain ⟨cs, h1, h2⟩ := hr (j / E.sz) hi'
   have hcl := E.len h1
   have := h2 (j % E.sz) (by omega)
   rw [show o + j / E.sz * E.sz + j % E.sz = o + j by rw [Nat.add_assoc, Nat.div_add_mod']] at this
   exact ⟨_, this, E.one h1 _ (List.getElem_mem _)⟩
  let news : List Value := (List.range (xs.length * E.sz)).map fun j => (w.cell? ⟨b, o + j, none⟩).getD undef
  have hnl : news.length = xs.length * E.sz := by simp [news]
  have hng : ∀ j (h : j < xs.length * E.sz) u, w.cell? ⟨b, o + j, none⟩ = some u → news[j]? = some u := by
   intro j h u hc
   simp only [news, List.getElem?_map, List.getElem?_range h, Option.map_some, hc, Option.getD_some]
  have hnews : ∀ (j : Nat) (u : Value), news[j]? = some u → w.cell? ((⟨b, o, none⟩ : Addr).add j) = some u := by
   intro j u hj
   have hjl : j < xs.length * E.sz := by
    rcases Nat.lt_or_ge j news.length with h | h
    ·omega
    ·rw [List.getElem?_eq_none h] at hj; cases hj
   obtain ⟨u', h1, _⟩ := hcell j hjl
   have h2 := hng j hjl u' h1
   rw [hj] at h2
   simp only [Option.some.injEq] at h2
   subst h2
   by_cases hj0 : j = 0
   ·subst hj0; simpa [Addr.add] using h1
   ·simpa [Addr.add, hj0] using h1
  have hone : ∀ u ∈ news, u.oneCell' = true := by
   intro u hu
   obtain ⟨j, hj, rfl⟩ := List.mem_map.1 hu
   obtain ⟨u', h1, h2⟩ := hcell j (by simpa using hj)
   rw [h1]; exact h2
  obtain ⟨v', w', hr', h2, h3, h4⟩ := run_append_own (P := P) w lo t ty e i z E.sz bytes ht hi hz hsz hbt' hzs hp v ys.length L g1' ⟨b, o, none⟩ xs.length cap news hnl hnews hone (by unfold maxLen; omega) hlen' (Nat.le_trans hlo hbase)
  have hblk := run_push_block w lo t ty e hT v ys.length L g1' ⟨b, o, none⟩ xs.length cap news hnl hnews hone (by unfold maxLen; omega) hlen' h0 v' w' hr'
  have hS : ∀ k, v.ownBlock ≠ some k → k < w.heap.size → w'.heap[k]? = w.heap[k]? := fun k hk hlt => h3.block k hlt (fun he => hk he.symm)
  have hlt1 : ∀ b ∈ flat fps ys.length, b < w.heap.size := fun b hb => Nat.lt_of_lt_of_le (g4 b hb).2.1 htop
  have hxlt : ∀ k ∈ flat fpx xs.length, k < w.heap.size ∧ lo ≤ k ∧ (k < base ∨ top ≤ k) := fun k hk => by
   obtain ⟨i', hi', hk'⟩ := List.mem_flatMap.1 hk
   obtain ⟨cs, h1, _⟩ := hr i' (by simpa using hi')
   exact ⟨E.lt h1 k hk', hbs k (List.mem_cons_of_mem _ hk)⟩
  have hne : ∀ k ∈ flat fpx xs.length, v.ownBlock ≠ some k := fun k hk he => by have := g5 k he; have := g7 k he; have := (hxlt k hk).2.2; omega
  have hS1 : Same (flat fps ys.length) w w' := fun k hk => hS k (g4 k hk).2.2 (hlt1 k hk)
  have hS2 : Same (flat fpx xs.length) w w' := fun k hk => hS k (hne k hk) (hxlt k hk).1
  have hndx : (flat fpx xs.length).Nodup := (List.nodup_cons.1 hnd).2
  have hLl : L.length = ys.length * E.sz := g1.1
  refine ⟨v', w', hr', ⟨L ++ news, fun i => if i < ys.length then fps i else fpx (i - ys.length), by simpa using h2, fun i hi => ?_, ?_⟩, h3, hblk⟩
  ·by_cases hil : i < ys.length
   ·obtain ⟨cs', h7, h8⟩ := g2 i hil
    refine ⟨cs', ?_, fun j hj => ?_⟩
    ·rw [List.getElem_append_left hil]
     simp only [if_pos hil]
     exact E.same h7 (fun k hk => hS1 k (List.mem_flatMap.2 ⟨i, by simpa using hil, hk⟩))
    ·have hcl := E.len h7
     rw [List.getElem?_append_left (by rw [hLl]; exact getD_slot hil (by omega))]
     exact h8 j hj
   ·have hi2 : i - ys.length < xs.length := by rw [List.length_append] at hi; omega
    obtain ⟨cs', h7, h8⟩ := hr (i - ys.length) hi2
    refine ⟨cs', ?_, fun j hj => ?_⟩
    ·rw [List.getElem_append_right (by omega)]
     simp only [if_neg hil]
     exact E.same h7 (fun k hk => hS2 k (List.mem_flatMap.2 ⟨_, by simpa using hi2, hk⟩))
    ·have hcl := E.len h7
     have hge : ys.length * E.sz ≤ i * E.sz := Nat.mul_le_mul_right _ (by omega)
     rw [List.getElem?_append_right (by omega), hLl]
     have he : i * E.sz + j - ys.length * E.sz = (i - ys.length) * E.sz + j := by rw [Nat.sub_mul]; omega
     rw [he]
     exact hng _ (getD_slot hi2 (by omega)) _ (by rw [← Nat.add_assoc]; exact h8 j hj)
  ·have hflat : flat (fun i => if i < ys.length then fps i else fpx (i - ys.length)) (ys ++ xs).length = flat fps ys.length ++ flat fpx xs.length := by
    rw [List.length_append]
    unfold flat
    rw [List.range_add, List.flatMap_append]
    congr 1
    ·refine congrArg List.flatten (List.map_congr_left fun i hi => ?_)
     simp at hi
     rw [if_pos hi]
    ·rw [List.flatMap_map]
     refine congrArg List.flatten (List.map_congr_left fun i hi => ?_)
     rw [if_neg (by omega), Nat.add_sub_cancel_left]
   rw [hflat]
   have hsz' := h3.size
   refine ⟨List.nodup_append.2 ⟨g3, hndx, fun a ha b hb he => by subst he; have := (g4 a ha).2.1; have := (g4 a ha).1; have := (hxlt a hb).2.2; omega⟩, fun k hk => ?_, fun g hg => (h2.lt g hg).2, fun k hk => ?_⟩
   ·rcases List.mem_append.1 hk with hk | hk
    ·refine ⟨Nat.le_trans hlo (g4 k hk).1, by have := hlt1 k hk; omega, ?_⟩
     rcases hblk with e1 | e1 <;> rw [e1]
     ·exact (g4 k hk).2.2
     ·intro he; have := hlt1 k hk; simp at he; omega
    ·refine ⟨(hxlt k hk).2.1, by have := (hxlt k hk).1; omega, ?_⟩
     rcases hblk with e1 | e1 <;> rw [e1]
     ·exact hne k hk
     ·intro he; have := (hxlt k hk).1; simp at he; omega
   ·rcases List.mem_append.1 hk with hk | hk
    ·exact g6.same hS1 k hk
    ·exact (Unf.same (fun b hb => hun b (List.mem_cons_of_mem _ hb)) hS2) k hk
theorem step_pushOld {P : Program} {K : Act → World → Prop} {Ee : Prop} {α : Type} {E : Ty α} (w : World) {ops : Array Oper} {o : Oper} {a : Act} {Q : Exit → Act → World → Prop} (hgd : o.guard = none) (s x : Operand) (t e : TypeId) {bytes : Nat}
  (ho : o.op = .call { callee := .builtin .append, args := #[s, x], argTypes := #[t, t] }) (hT : ElT P t e E.sz bytes)
  {base top lo : Nat} {v : Value} {ys : List α} (hs : a.eval s = v) (hB : Bl E e base top w v ys)
  {u : Value} {xs : List α} (hx : a.eval x = u) (hy : (Ty.slice E).Fx lo base w [u] xs) (hlo : lo ≤ base)
  (hlen : ys.length + xs.length ≤ 1000000000) (hby : bytes ≤ 100000) (hbt : base ≤ top) (htop : top ≤ w.heap.size)
  (h : ∀ v' w', Bl E e lo w'.heap.size w' v' (ys ++ xs) → w.grownBy w' v.ownBlock → (v'.ownBlock = v.ownBlock ∨ v'.ownBlock = some w.heap.size) → K (a.put o.dst v') w') : if Region.wanted o (yielded ops a.tmps) = true then Oper.wp P o a w K Q else Ee := by
 rw [if_pos (by simp [Region.wanted, hgd])]
 obtain ⟨fp, k1, k2, k3, k4⟩ := hy
 obtain ⟨v', w', hr, h2, h3, h4⟩ := run_pushFx (P := P) w t o.type e hT hB k1 k2 (fun k hk => ⟨(k3 k hk).1, .inl (k3 k hk).2⟩) k4 hlo hlen hby hbt htop
 unfold Oper.wp execOp
 simp only [ho, resolve, invoke, builtin, Sem.run_bind, Sem.run_pure, Result.andThen_ok, List.map_toArray, List.map_cons, List.map_nil, hs, hx, hr]
 exact h v' w' h2 h3 h4
end Go.Proofs.YtnhdohednekhjaaGreatDoor
namespace Go.Proofs.YtnhdohednekhjaaGreatDoor
open Go.RowKit Go.Sort
noncomputable def twoC (t : Int × List (Int × List (List Int))) (f g : Int × Int × List (Int × List Int)) : Int := match tb (frmOk t f), tb (frmOk t g), (f.1 != g.1) with
 | false, _, _ => 1
 | true, false, _ => 1
 | true, true, true => 4
 | true, true, false => 0
section
variable {t : Int × List (Int × List (List Int))} {f g : Int × Int × List (Int × List Int)}
theorem two_1 (h : tb (frmOk t f) = false) : twoC t f g = 1 := by simp [twoC, h]
theorem two_2 (h : tb (frmOk t f) = true) (h2 : tb (frmOk t g) = false) : twoC t f g = 1 := by simp [twoC, h, h2]
theorem two_4 (h : tb (frmOk t f) = true) (h2 : tb (frmOk t g) = true) (h3 : (f.1 != g.1) = true) : twoC t f g = 4 := by simp only [twoC, h, h2, h3]
theorem two_0 (h : tb (frmOk t f) = true) (h2 : tb (frmOk t g) = true) (h3 : (f.1 != g.1) = false) : twoC t f g = 0 := by simp only [twoC, h, h2, h3]
theorem two_ok (h : twoC t f g = 0) : tb (frmOk t f) = true ∧ tb (frmOk t g) = true ∧ f.1 = g.1 := by
 cases h1 : tb (frmOk t f)
 ·rw [two_1 h1] at h; cases h
 cases h2 : tb (frmOk t g)
 ·rw [two_2 h1 h2] at h; cases h
 cases h3 : (f.1 != g.1)
 ·exact ⟨rfl, rfl, by simpa using h3⟩
 ·rw [two_4 h1 h2 h3] at h; cases h
end
set_option maxHeartbeats 1600000 in
set_option maxRecDepth 100000 in
theorem twoFault_any (w : World) {cs cf cg : Array Value} {t : Int × List (Int × List (List Int))} {f g : Int × Int × List (Int × List Int)} (h : tplT.Rd w cs.toList t) (hf : frmT.Rd w cf.toList f) (hg : frmT.Rd w cg.toList g) :
  Calls Tryz.prog 74 #[.agg cs, .agg cf, .agg cg] w fun e w' => e = .returned (.int .i64 (twoC t f g)) ∧ Below w.heap.size w w' := by
 have HT0 := Lib.hid h
 have HF0 := Lib.hid hf
 have HG0 := Lib.hid hg
 obtain ⟨v1, hv, hI, -⟩ := pair_ex h
 obtain rfl := agg_of hv
 obtain ⟨v2, hv2, -, -, -⟩ := trip_ex hf
 obtain rfl := agg_of hv2
 obtain ⟨v3, hv3, -, -, -⟩ := trip_ex hg
 obtain rfl := agg_of hv3
 clear h hf hg hv hv2 hv3
 go_enter Tryz.func74, Tryz.ntmps74
 go_wp2_with fail
 generalize hW : World.alloc _ _ = W
 have hbW : Below w.heap.size w W := hW ▸ ((bAA (w := w)).alloc (by simp; omega) _)
 have hsW : W.heap.size = w.heap.size + 3 := by rw [← hW]; simp
 have t0 : W.cell? ⟨w.heap.size, 0, none⟩ = some (.int .i64 t.1) := by rw [← hW]; simp [go_sem]
 have t1 : W.cell? ⟨w.heap.size, 1, none⟩ = some v1 := by rw [← hW]; simp [go_sem]
 have f0 : W.cell? ⟨w.heap.size + 1, 0, none⟩ = some (.int .i64 f.1) := by rw [← hW]; simp [go_sem]
 have g0 : W.cell? ⟨w.heap.size + 2, 0, none⟩ = some (.int .i64 g.1) := by rw [← hW]; simp [go_sem]
 have g1 : W.cell? ⟨w.heap.size + 2, 1, none⟩ = some (.int .i64 g.2.1) := by rw [← hW]; simp [go_sem]
 have g2 : W.cell? ⟨w.heap.size + 2, 2, none⟩ = some v3 := by rw [← hW]; simp [go_sem]
 clear hW
 refine (ValidFormula_any _ (HT0.out.below hbW) (HF0.out.below hbW)).mono ?_
 rintro e w1 ⟨rfl, hb1⟩
 have hz1 := hb1.size
 have hB1 := bthen hbW hb1
 replace t0 := (cellB hb1 (by omega)).trans t0
 replace t1 := (cellB hb1 (by omega)).trans t1
 replace f0 := (cellB hb1 (by omega)).trans f0
 replace g0 := (cellB hb1 (by omega)).trans g0
 replace g1 := (cellB hb1 (by omega)).trans g1
 replace g2 := (cellB hb1 (by omega)).trans g2
 cases hT : tb (frmOk t f)
 ·have HR := Lib.hid (two_1 (g := g) hT)
  clear hT
  go_wp2_with fail
  go_ret
  exact ⟨ret_int HR.out.symm, hB1⟩
 go_wp2_with fail
 refine (ValidFormula_any _ (HT0.out.below hB1) (HG0.out.below hB1)).mono ?_
 rintro e w2 ⟨rfl, hb2⟩
 have hz2 := hb2.size
 have hB2 := bthen hB1 hb2
 replace t0 := (cellB hb2 (by omega)).trans t0
 replace t1 := (cellB hb2 (by omega)).trans t1
 replace f0 := (cellB hb2 (by omega)).trans f0
 replace g0 := (cellB hb2 (by omega)).trans g0
 replace g1 := (cellB hb2 (by omega)).trans g1
 replace g2 := (cellB hb2 (by omega)).trans g2
 cases hT2 : tb (frmOk t g)
 ·have HR := Lib.hid (two_2 hT hT2)
  clear hT hT2
  go_wp2_with fail
  go_ret
  exact ⟨ret_int HR.out.symm, hB2⟩
 cases hE : (f.1 != g.1)
 ·have HR := Lib.hid (two_0 hT hT2 hE)
  clear hT hT2
  go_wp2_with fail
  go_ret
  exact ⟨ret_int HR.out.symm, hB2⟩
 ·have HR := Lib.hid (two_4 hT hT2 hE)
  clear hT hT2
  go_wp2_with fail
  go_ret
  exact ⟨ret_int HR.out.symm, hB2⟩
def conjTo (f g : Int × Int × List (Int × List Int)) (v : Int) : Int := match decide (g.1 ≤ v) with
 | true => v + (f.2.1 - f.1)
 | false => v
theorem conj_ge {f g : Int × Int × List (Int × List Int)} {v : Int} (h : g.1 ≤ v) : conjTo f g v = v + (f.2.1 - f.1) := by simp [conjTo, h]
theorem conj_lt {f g : Int × Int × List (Int × List Int)} {v : Int} (h : v < g.1) : conjTo f g v = v := by
 have : ¬ g.1 ≤ v := by omega
 simp [conjTo, this]
theorem conj_I {f g : Int × Int × List (Int × List Int)} {v : Int} (h : 0 ≤ v ∧ v ≤ 1000) (h2 : 0 ≤ f.1 ∧ f.1 ≤ 1000) (h3 : 0 ≤ f.2.1 ∧ f.2.1 ≤ 1000) : I64 (conjTo f g v) := by
 rcases ilt v g.1 with h4 | h4
 ·rw [conj_lt h4]; exact I64.small (by omega) (by omega)
 ·rw [conj_ge h4]; exact I64.small (by omega) (by omega)
def conjF (f g : Int × Int × List (Int × List Int)) : Int × Int × List (Int × List Int) := (f.1, f.2.1 + g.2.1 - g.1, f.2.2 ++ rnL (conjTo f g) g.2.2)
theorem rnL_id (xs : List (Int × List Int)) : rnL (fun v => v) xs = xs := by
 unfold rnL
 exact (List.map_congr_left (g := id) fun a _ => by simp).trans (List.map_id xs)
section
variable (t : Int × List (Int × List (List Int))) (f g : Int × Int × List (Int × List Int))
noncomputable def conjV : Int × Int × List (Int × List Int) := if twoC t f g = 0 then limV (conjF f g) else frm0
noncomputable def conjC : Int := if twoC t f g = 0 then limC (conjF f g) else twoC t f g
end
section
variable {t : Int × List (Int × List (List Int))} {f g : Int × Int × List (Int × List Int)}
theorem conj_no (h : twoC t f g ≠ 0) : conjV t f g = frm0 ∧ conjC t f g = twoC t f g := by simp [conjV, conjC, h]
theorem conj_yes (h : twoC t f g = 0) : conjV t f g = limV (conjF f g) ∧ conjC t f g = limC (conjF f g) := by simp [conjV, conjC, h]
end
theorem same_any (w : World) (a : Int) : Calls Tryz.prog 78 #[.int .i64 a] w fun e w' => e = .returned (.int .i64 a) ∧ w = w' := by
 go_enter Tryz.func78, Tryz.ntmps78
 go_wp2_with fail
 go_ret
 exact ⟨rfl, rfl⟩
theorem ConjoinFormulas1_any (w : World) (a : Int) {f g : Int × Int × List (Int × List Int)} (b1 b2 : Nat) (h1 : w.cell? ⟨b1, 0, none⟩ = some (.int .i64 g.1)) (h2 : w.cell? ⟨b2, 1, none⟩ = some (.int .i64 f.2.1)) (h3 : w.cell? ⟨b2, 0, none⟩ = some (.int .i64 f.1)) (h4 : 0 ≤ a ∧ a ≤ 1000) (h5 : 0 ≤ f.1 ∧ f.1 ≤ 1000) (h6 : 0 ≤ f.2.1 ∧ f.2.1 ≤ 1000) :
  Calls Tryz.prog 76 #[.int .i64 a, .pointer (some ⟨b1, 0, none⟩), .pointer (some ⟨b2, 0, none⟩)] w fun e w' => e = .returned (.int .i64 (conjTo f g a)) ∧ w = w' := by
 rcases ilt a g.1 with hc | hc
 ·have HE := Lib.hid (conj_lt (f := f) hc)
  go_enter Tryz.func76, Tryz.ntmps76
  go_wp2_with fail
  go_ret
  exact ⟨ret_int HE.out.symm, rfl⟩
 ·have HE := Lib.hid (conj_ge (f := f) hc)
  go_enter Tryz.func76, Tryz.ntmps76
  go_wp2_with fail
  go_ret
  exact ⟨ret_int HE.out.symm, rfl⟩
set_option maxHeartbeats 3200000 in
set_option maxRecDepth 100000 in
theorem ConjoinFormulas_any (w : World) {cs cf cg : Array Value} {t : Int × List (Int × List (List Int))} {f g : Int × Int × List (Int × List Int)} (h : tplT.Rd w cs.toList t) (hf : frmT.Rd w cf.toList f) (hg : frmT.Rd w cg.toList g) :
  Calls Tryz.prog 15 #[.agg cs, .agg cf, .agg cg] w (RetAC frmT w (conjV t f g) (conjC t f g)) := by
 have HT0 := Lib.hid h
 have HF0 := Lib.hid hf
 have HG0 := Lib.hid hg
 obtain ⟨v1, hv, hI, -⟩ := pair_ex h
 obtain rfl := agg_of hv
 obtain ⟨v2, hv2, hIf, hIf2, hfx⟩ := trip_ex hf
 obtain rfl := agg_of hv2
 obtain ⟨v3, hv3, -, -, hgx⟩ := trip_ex hg
 obtain rfl := agg_of hv3
 obtain ⟨fa, fn, fc, rfl⟩ := rd_sl hfx
 obtain ⟨ga, gn, gc, rfl⟩ := rd_sl hgx
 have HFX := Lib.hid hfx
 have HGX := Lib.hid hgx
 clear h hf hg hv hv2 hv3 hfx hgx
 go_enter Tryz.func15, Tryz.ntmps15
 go_wp2_with fail
 generalize hW : World.alloc _ _ = W
 have hbW : Below w.heap.size w W := hW ▸ (((bAA (w := w)).alloc (by simp; omega) _).alloc (by simp; omega) _)
 have hsW : W.heap.size = w.heap.size + 4 := by rw [← hW]; simp
 have f0 : W.cell? ⟨w.heap.size + 1, 0, none⟩ = some (.int .i64 f.1) := by rw [← hW]; simp [go_sem]
 have f1 : W.cell? ⟨w.heap.size + 1, 1, none⟩ = some (.int .i64 f.2.1) := by rw [← hW]; simp [go_sem]
 have f2 : W.cell? ⟨w.heap.size + 1, 2, none⟩ = some (.slice fa fn fc) := by rw [← hW]; simp [go_sem]
 have g0 : W.cell? ⟨w.heap.size + 2, 0, none⟩ = some (.int .i64 g.1) := by rw [← hW]; simp [go_sem]
 have g1 : W.cell? ⟨w.heap.size + 2, 1, none⟩ = some (.int .i64 g.2.1) := by rw [← hW]; simp [go_sem]
 have g2 : W.cell? ⟨w.heap.size + 2, 2, none⟩ = some (.slice ga gn gc) := by rw [← hW]; simp [go_sem]
 have r0 : W.cell? ⟨w.heap.size + 3, 0, none⟩ = some (.int .i64 0) := by rw [← hW]; simp [go_sem]
 have r1 : W.cell? ⟨w.heap.size + 3, 1, none⟩ = some (.int .i64 0) := by rw [← hW]; simp [go_sem]
 have r2 : W.cell? ⟨w.heap.size + 3, 2, none⟩ = some (.slice none 0 0) := by rw [← hW]; simp [go_sem]
 have m0 : W.frozen? ⟨w.heap.size + 3, 0, none⟩ = false := by rw [← hW]; simp [go_sem]
 have m1 : W.frozen? ⟨w.heap.size + 3, 1, none⟩ = false := by rw [← hW]; simp [go_sem]
 have m2 : W.frozen? ⟨w.heap.size + 3, 2, none⟩ = false := by rw [← hW]; simp [go_sem]
 clear hW
 refine (twoFault_any (cs := #[.int .i64 t.1, v1]) (cf := #[.int .i64 f.1, .int .i64 f.2.1, .slice fa fn fc]) (cg := #[.int .i64 g.1, .int .i64 g.2.1, .slice ga gn gc]) _ (HT0.out.below hbW) (HF0.out.below hbW) (HG0.out.below hbW)).mono ?_
 rintro e w1 ⟨rfl, hb1⟩
 have hz1 := hb1.size
 have hB1 := bthen hbW hb1
 replace f0 := (cellB hb1 (by omega)).trans f0
 replace f1 := (cellB hb1 (by omega)).trans f1
 replace f2 := (cellB hb1 (by omega)).trans f2
 replace g0 := (cellB hb1 (by omega)).trans g0
 replace g1 := (cellB hb1 (by omega)).trans g1
 replace g2 := (cellB hb1 (by omega)).trans g2
 replace r0 := (cellB hb1 (by omega)).trans r0
 replace r1 := (cellB hb1 (by omega)).trans r1
 replace r2 := (cellB hb1 (by omega)).trans r2
 replace m0 := (frozenB hb1 (by omega)).trans m0
 replace m1 := (frozenB hb1 (by omega)).trans m1
 replace m2 := (frozenB hb1 (by omega)).trans m2
 cases hE : (twoC t f g != 0)
 rotate_left
 ·have HR := Lib.hid (conj_no (show twoC t f g ≠ 0 by simpa using hE))
  obtain ⟨q0, q1, q2⟩ := set3_cells (x := .int .i64 0) (y := .int .i64 0) (z := .slice none 0 0) r0 r1 r2
  go_wp2_with fail
  exact bodyPost_ret (v := .tuple #[.agg #[.int .i64 0, .int .i64 0, .slice none 0 0], .int .i64 (twoC t f g)]) (by simp [results, Tryz.results15, go_sem, q0, q1, q2]) rfl ⟨[.int .i64 0, .int .i64 0, .slice none 0 0], by rw [HR.out.2], by rw [HR.out.1]; exact fr_frm0, set3_below hB1 (by omega)⟩
 have hE0 : twoC t f g = 0 := by simpa using hE
 have HR := Lib.hid (conj_yes hE0)
 obtain ⟨e1, e2, e3⟩ := two_ok hE0
 obtain ⟨a1, a2, a3, a4, a5⟩ := frm_bd e1
 obtain ⟨c1, c2, c3, c4, c5⟩ := frm_bd e2
 have A5 := Lib.hid a5
 have C5 := Lib.hid c5
 have hgx1 : opsT.Rd w1 [.slice ga gn gc] g.2.2 := HGX.out.below hB1
 have HGF := Lib.hid e3
 clear e1 e2 a5 c5 hE0 e3
 go_wp2_with fail
 have hto : Hid (∀ W a, Below w1.heap.size w1 W → (∃ c ∈ g.2.2, a ∈ c.2) → Calls Tryz.prog 76 (#[.int .i64 a] ++ #[.pointer (some ⟨w.heap.size + 2, 0, none⟩), .pointer (some ⟨w.heap.size + 1, 0, none⟩)]) W fun e w' => e = .returned (.int .i64 (conjTo f g a)) ∧ W = w') := by
  intro W' a hW ⟨c, hc, ha⟩
  have h5 := (C5.out c hc).1 a ha
  exact ConjoinFormulas1_any W' a _ _ ((cellB hW (by omega)).trans g0) ((cellB hW (by omega)).trans f1) ((cellB hW (by omega)).trans f0) (by omega) (by omega) (by omega)
 have HGH := Lib.hid (show ∀ c ∈ g.2.2, (∀ a ∈ c.2, I64 (conjTo f g a)) ∧ c.2.length ≤ 1000000 from fun c hc => ⟨fun a ha => conj_I (by have := (C5.out c hc).1 a ha; omega) (by omega) (by omega), by have := (C5.out c hc).2; omega⟩)
 refine (renamed_any _ hgx1 76 _ (enters Tryz.func76 (by kernel_rfl) rfl) (conjTo f g) hto HGH.out (by omega)).mono ?_
 rintro e w2 ⟨u2, rfl, hf2, hb2⟩
 obtain ⟨ba, bn, bc, rfl⟩ := ex_slice hf2
 have HF2 := Lib.hid hf2
 have hz2 := hb2.size
 have hB2 := bthen hB1 hb2
 replace f0 := (cellB hb2 (by omega)).trans f0
 replace f1 := (cellB hb2 (by omega)).trans f1
 replace f2 := (cellB hb2 (by omega)).trans f2
 replace g0 := (cellB hb2 (by omega)).trans g0
 replace g1 := (cellB hb2 (by omega)).trans g1
 replace g2 := (cellB hb2 (by omega)).trans g2
 replace r0 := (cellB hb2 (by omega)).trans r0
 replace r1 := (cellB hb2 (by omega)).trans r1
 replace r2 := (cellB hb2 (by omega)).trans r2
 replace m0 := (frozenB hb2 (by omega)).trans m0
 replace m1 := (frozenB hb2 (by omega)).trans m1
 replace m2 := (frozenB hb2 (by omega)).trans m2
 have HFX2 := Lib.hid (HFX.out.below hB2)
 have hl1 : w.heap.size + 3 < w2.heap.size := by omega
 have hl2 : w.heap.size + 2 < w2.heap.size := by omega
 have hl3 : w.heap.size + 1 < w2.heap.size := by omega
 have HFXB := Lib.hid hf2.fx
 clear hf2 hto hgx1
 go_wp2_with fail
 refine wp_region_T (fun w' => w'.cell? ⟨w.heap.size + 1, 0, none⟩ = some (.int .i64 f.1) ∧ w'.cell? ⟨w.heap.size + 1, 1, none⟩ = some (.int .i64 f.2.1) ∧ w'.cell? ⟨w.heap.size + 2, 1, none⟩ = some (.int .i64 g.2.1) ∧ w'.cell? ⟨w.heap.size + 2, 0, none⟩ = some (.int .i64 g.1) ∧ w'.cell? ⟨w.heap.size + 1, 2, none⟩ = some (.slice fa fn fc)) [19] (by kernel_rfl) ⟨f0, f1, g1, g0, f2⟩ (fun hHeld => ?_)
 refine wpAnyT_take (i := 0) (v := ?_) rfl (by kernel_rfl) (fun _ _ _ h => h) (Or.inl ⟨by rfl, ?_⟩) (by assumption) ?_
 rotate_left
 ·(intro w hSw; (try dsimp only at hSw); go_simp <;> with_reducible rfl)
 try simp only [Act.put]
 refine wpAnyT_take (i := 1) (v := ?_) rfl (by kernel_rfl) (fun _ _ _ h => h) (Or.inl ⟨by rfl, ?_⟩) (by assumption) ?_
 rotate_left
 ·(intro w hSw; (try dsimp only at hSw); go_simp <;> with_reducible rfl)
 try simp only [Act.put]
 refine wpAnyT_take (i := 2) (v := ?_) rfl (by kernel_rfl) (fun _ _ _ h => h) (Or.inl ⟨by rfl, ?_⟩) (by assumption) ?_
 rotate_left
 ·(intro w hSw; (try dsimp only at hSw); go_simp <;> with_reducible rfl)
 try simp only [Act.put]
 refine wpAnyT_take (i := 3) (v := ?_) rfl (by kernel_rfl) (fun _ _ _ h => h) (Or.inl ⟨by rfl, ?_⟩) (by assumption) ?_
 rotate_left
 ·(intro w hSw; (try dsimp only at hSw); go_simp <;> with_reducible rfl)
 try simp only [Act.put]
 refine wpAnyT_take (i := 4) (v := ?_) rfl (by kernel_rfl) (fun _ _ _ h => h) (Or.inl ⟨by rfl, ?_⟩) (by assumption) ?_
 rotate_left
 ·(intro w hSw; (try dsimp only at hSw); go_simp <;> with_reducible rfl)
 try simp only [Act.put]
 refine wpAnyT_take (i := 5) (v := ?_) rfl (by kernel_rfl) (fun _ _ _ h => h) (Or.inl ⟨by rfl, ?_⟩) (by assumption) ?_
 rotate_left
 ·(intro w hSw; (try dsimp only at hSw); go_simp <;> with_reducible rfl)
 try simp only [Act.put]
 refine wpAnyT_take (i := 6) (v := ?_) rfl (by kernel_rfl) (fun _ _ _ h => h) (Or.inl ⟨by rfl, ?_⟩) (by assumption) ?_
 rotate_left
 ·(intro w hSw; (try dsimp only at hSw); go_simp <;> with_reducible rfl)
 try simp only [Act.put]
 refine wpAnyT_take (i := 7) (v := ?_) rfl (by kernel_rfl) (fun _ _ _ h => h) (Or.inl ⟨by rfl, ?_⟩) (by assumption) ?_
 rotate_left
 ·(intro w hSw; (try dsimp only at hSw); go_simp <;> with_reducible rfl)
 try simp only [Act.put]
 refine wpAnyT_take (i := 8) (v := ?_) rfl (by kernel_rfl) (fun _ _ _ h => h) (Or.inl ⟨by rfl, ?_⟩) (by assumption) ?_
 rotate_left
 ·(intro w hSw; (try dsimp only at hSw); go_simp <;> with_reducible rfl)
 try simp only [Act.put]
 refine wpAnyT_take (i := 9) (v := ?_) rfl (by kernel_rfl) (fun _ _ _ h => h) (Or.inl ⟨by rfl, ?_⟩) (by assumption) ?_
 rotate_left
 ·(intro w hSw; (try dsimp only at hSw); go_simp <;> with_reducible rfl)
 try simp only [Act.put]
 refine wpAnyT_take (i := 10) (v := ?_) rfl (by kernel_rfl) (fun _ _ _ h => h) (Or.inl ⟨by rfl, ?_⟩) (by assumption) ?_
 rotate_left
 ·(intro w hSw; (try dsimp only at hSw); go_simp <;> with_reducible rfl)
 try simp only [Act.put]
 refine wpAnyT_take (i := 11) (v := ?_) rfl (by kernel_rfl) (fun _ _ _ h => h) (Or.inl ⟨by rfl, ?_⟩) (by assumption) ?_
 rotate_left
 ·(intro w hSw; (try dsimp only at hSw); go_simp <;> with_reducible rfl)
 try simp only [Act.put]
 refine wpAnyT_take (i := 13) (v := ?_) rfl (by kernel_rfl) (fun _ _ _ h => h) (Or.inl ⟨by rfl, ?_⟩) (by assumption) ?_
 rotate_left
 ·(intro w hSw; (try dsimp only at hSw); go_simp <;> with_reducible rfl)
 try simp only [Act.put]
 refine wpAnyT_one (i := 12) rfl (by kernel_rfl) (fun K hK => ?_)
 go_simp
 go_at_call 75
 refine (renamed_bl _ (HFX2.out.below bD) 78 #[] (enters Tryz.func78 (by kernel_rfl) rfl) (fun v => v) (fun W' a _ _ => same_any W' a) (fun c hc => ⟨fun a ha => I64.small (by have := (A5.out c hc).1 a ha; omega) (by have := (A5.out c hc).1 a ha; omega), by have := (A5.out c hc).2; omega⟩) (by omega)).mono ?_
 rintro e w3 ⟨u3, rfl, hB3, hb3⟩
 obtain ⟨a3, n3, c3, rfl⟩ := ex_slice (hB3.fr (by rw [rnL_len]; unfold capMax; omega))
 rw [rnL_id] at hB3
 have HB3 := Lib.hid hB3
 have hb3' : Below w2.heap.size w2 w3 := bthen bD hb3
 have hz3 := hb3'.size
 have HFX3 := Lib.hid (HFXB.out.below hb3')
 replace f0 := (cellB hb3' (by omega)).trans f0
 replace f1 := (cellB hb3' (by omega)).trans f1
 replace f2 := (cellB hb3' (by omega)).trans f2
 replace g0 := (cellB hb3' (by omega)).trans g0
 replace g1 := (cellB hb3' (by omega)).trans g1
 replace r0 := (cellB hb3' (by omega)).trans r0
 replace r1 := (cellB hb3' (by omega)).trans r1
 replace r2 := (cellB hb3' (by omega)).trans r2
 replace m0 := (frozenB hb3' (by omega)).trans m0
 replace m1 := (frozenB hb3' (by omega)).trans m1
 replace m2 := (frozenB hb3' (by omega)).trans m2
 clear hB3
 dsimp only
 refine hK.out _ _ ⟨f0, f1, g1, g0, f2⟩ (fun hHeld => ?_)
 clear hK K
 refine wpAnyT_one (i := 14) rfl (by kernel_rfl) (fun K hK => ?_)
 refine step_pushOld (E := opT) _ rfl _ _ 29 98 rfl elAtomS rfl HB3.out rfl HFX3.out (by have := hb2.size; simp; omega) (by rw [rnL_len]; omega) (by decide) (by simp; omega) (Nat.le_refl _) ?_
 intro v4 w4 hB4 hg4 _
 have hF4 := hB4.fr (by rw [List.length_append, rnL_len]; unfold capMax; omega)
 obtain ⟨a4, n4, c4, rfl⟩ := ex_slice hF4
 have HF4 := Lib.hid hF4
 have hb4 : Below w2.heap.size w3 w4 := (Below.refl _ w3).grown hg4 (by omega) (fun q hq => by have := HB3.out.own hq; simpa using this)
 have hz4 := hb4.size
 replace f0 := (cellB hb4 (by omega)).trans f0
 replace f1 := (cellB hb4 (by omega)).trans f1
 replace f2 := (cellB hb4 (by omega)).trans f2
 replace g0 := (cellB hb4 (by omega)).trans g0
 replace g1 := (cellB hb4 (by omega)).trans g1
 replace r0 := (cellB hb4 (by omega)).trans r0
 replace r1 := (cellB hb4 (by omega)).trans r1
 replace r2 := (cellB hb4 (by omega)).trans r2
 replace m0 := (frozenB hb4 (by omega)).trans m0
 replace m1 := (frozenB hb4 (by omega)).trans m1
 replace m2 := (frozenB hb4 (by omega)).trans m2
 clear hB4 hF4 hg4
 refine hK.out _ _ ⟨f0, f1, g1, g0, f2⟩ (fun hHeld => ?_)
 clear hK K
 refine wpAnyT_take (i := 15) (v := ?_) rfl (by kernel_rfl) (fun _ _ _ h => h) (Or.inl ⟨by rfl, ?_⟩) (by assumption) ?_
 rotate_left
 ·(intro w hSw; (try dsimp only at hSw); go_simp <;> with_reducible rfl)
 try simp only [Act.put]
 refine wpAnyT_one (i := 16) rfl (by kernel_rfl) (fun K hK => ?_)
 go_simp
 go_at_call 77
 rw [wrap_small (n := f.2.1 + g.2.1) (by omega) (by omega), wrap_small (n := f.2.1 + g.2.1 - g.1) (by omega) (by omega)]
 refine (limited_any _ (base := w1.heap.size) (f := conjF f g) (cs := #[.int .i64 f.1, .int .i64 (f.2.1 + g.2.1 - g.1), .slice a4 n4 c4]) (fr_cons hIf (fr_cons (I64.small (by omega) (by omega)) HF4.out)) (by omega)).mono ?_
 rintro e w5 ⟨cs5, rfl, hf5, hb5⟩
 obtain ⟨ad5, cap5, rfl⟩ := fr_trip hf5
 have HF5 := Lib.hid hf5
 have hz5 := hb5.size
 replace f0 := (cellB hb5 (by omega)).trans f0
 replace f1 := (cellB hb5 (by omega)).trans f1
 replace f2 := (cellB hb5 (by omega)).trans f2
 replace g0 := (cellB hb5 (by omega)).trans g0
 replace g1 := (cellB hb5 (by omega)).trans g1
 replace r0 := (cellB hb5 (by omega)).trans r0
 replace r1 := (cellB hb5 (by omega)).trans r1
 replace r2 := (cellB hb5 (by omega)).trans r2
 replace m0 := (frozenB hb5 (by omega)).trans m0
 replace m1 := (frozenB hb5 (by omega)).trans m1
 replace m2 := (frozenB hb5 (by omega)).trans m2
 clear hf5
 dsimp only
 refine hK.out _ _ ⟨f0, f1, g1, g0, f2⟩ (fun hHeld => ?_)
 clear hK K
 refine wpAnyT_any (i := 17) (v := ?_) rfl (by kernel_rfl) (fun _ _ _ h => h) (Or.inl ⟨by rfl, ?_⟩) (by first | exact fun _ => by assumption | (intro hp; exact absurd hp (by rw [show pastB _ _ = true by kernel_rfl]; simp))) ?_
 rotate_left
 ·(intro w hSw; (try dsimp only at hSw); go_simp <;> with_reducible rfl)
 try simp only [Act.put]
 refine wpAnyT_any (i := 18) (v := ?_) rfl (by kernel_rfl) (fun _ _ _ h => h) (Or.inl ⟨by rfl, ?_⟩) (by first | exact fun _ => by assumption | (intro hp; exact absurd hp (by rw [show pastB _ _ = true by kernel_rfl]; simp))) ?_
 rotate_left
 ·(intro w hSw; (try dsimp only at hSw); go_simp <;> with_reducible rfl)
 try simp only [Act.put]
 obtain ⟨q0, q1, q2⟩ := set3_cells (x := .int .i64 (limV (conjF f g)).1) (y := .int .i64 (limV (conjF f g)).2.1) (z := .slice ad5 (limV (conjF f g)).2.2.length cap5) r0 r1 r2
 refine wpAnyT_last (i := 19) rfl (by kernel_rfl) (by kernel_rfl) (fun K hK => ?_)
 go_simp
 refine hK.out _ _ ?_
 clear hK K
 refine wpAnyT_any (i := 20) (v := ?_) rfl (by kernel_rfl) (fun _ _ _ h => h) (Or.inl ⟨by rfl, ?_⟩) (by first | exact fun _ => by assumption | (intro hp; exact absurd hp (by rw [show pastB _ _ = true by kernel_rfl]; simp))) ?_
 rotate_left
 ·(intro w hSw; (try dsimp only at hSw); go_simp <;> with_reducible rfl)
 try simp only [Act.put]
 refine wpAnyT_done (by kernel_rfl) ?_ _
 go_simp
 go_wp2_with fail
 refine bodyPost_ret (v := .tuple #[.agg #[.int .i64 (limV (conjF f g)).1, .int .i64 (limV (conjF f g)).2.1, .slice ad5 (limV (conjF f g)).2.2.length cap5], .int .i64 (limC (conjF f g))]) (by simp [results, Tryz.results15, go_sem, q0, q1, q2]) rfl ⟨[.int .i64 (limV (conjF f g)).1, .int .i64 (limV (conjF f g)).2.1, .slice ad5 (limV (conjF f g)).2.2.length cap5], by rw [HR.out.2], ?_, ?_⟩
 ·rw [HR.out.1]
  exact (HF5.out.set3 (by omega)).mono (by omega)
 ·exact set3_below (hB2.trans ((hb3'.mono (by omega)).trans ((hb4.mono (by omega)).trans (hb5.mono (by omega))))) (by omega)
end Go.Proofs.YtnhdohednekhjaaGreatDoor
namespace Go.Proofs.YtnhdohednekhjaaGreatDoor
open Go.RowKit Go.Sort
/-- are two values apart at a tuple? -/
noncomputable def apB (t : Int × List (Int × List (List Int))) (f g : Int × Int × List (Int × List Int)) (tu : List Int) : Bool := tb (tu ∈ (vaR t f).2) != tb (tu ∈ (vaR t g).2)
noncomputable def apL (t : Int × List (Int × List (List Int))) (f g : Int × Int × List (Int × List Int)) : List (List Int) := relL t.1 f.1.toNat (apB t f g) (t.1 ^ f.1.toNat).toNat
theorem apL_nil {t : Int × List (Int × List (List Int))} {f g : Int × Int × List (Int × List Int)} (hfg : f.1 = g.1) : headB (apL t f g) = false ↔ vaR t f = vaR t g := by
 have hmf : ∀ k, k < (t.1 ^ f.1.toNat).toNat → tb (digL t.1 (k : Nat) f.1.toNat ∈ (vaR t f).2) = vaP t f (digL t.1 (k : Nat) f.1.toNat) := fun k hk => relL_mem hk
 have hmg : ∀ k, k < (t.1 ^ f.1.toNat).toNat → tb (digL t.1 (k : Nat) f.1.toNat ∈ (vaR t g).2) = vaP t g (digL t.1 (k : Nat) f.1.toNat) := fun k hk => by
  unfold vaR
  rw [← hfg]
  exact relL_mem hk
 constructor
 ·intro h
  have hn := head_no h
  have hall : ∀ k, k < (t.1 ^ f.1.toNat).toNat → vaP t f (digL t.1 (k : Nat) f.1.toNat) = vaP t g (digL t.1 (k : Nat) f.1.toNat) := by
   intro k hk
   have h1 : digL t.1 (k : Nat) f.1.toNat ∉ apL t f g := by rw [hn]; simp
   have h2 : apB t f g (digL t.1 (k : Nat) f.1.toNat) = false := by
    cases h3 : apB t f g (digL t.1 (k : Nat) f.1.toNat)
    ·rfl
    ·exact absurd (List.mem_filter.2 ⟨List.mem_map.2 ⟨k, by simpa using hk, rfl⟩, h3⟩) h1
   unfold apB at h2
   rw [hmf k hk, hmg k hk] at h2
   simpa using h2
  unfold vaR
  rw [← hfg]
  refine Prod.ext rfl ?_
  unfold relL
  refine List.filter_congr fun x hx => ?_
  obtain ⟨k, hk, rfl⟩ := List.mem_map.1 hx
  exact hall k (by simpa using hk)
 ·intro h
  have hb : ∀ tu, apB t f g tu = false := fun tu => by unfold apB; rw [h]; simp
  have : apL t f g = [] := by
   unfold apL relL
   rw [List.filter_eq_nil_iff]
   intro a _
   simp [hb a]
  rw [this]
  rfl
section
variable (t : Int × List (Int × List (List Int))) (f g : Int × Int × List (Int × List Int))
noncomputable def faV : List Int := if twoC t f g = 0 then headV (apL t f g) else []
noncomputable def faC : Int := if twoC t f g = 0 then (match headB (apL t f g) with | true => 0 | false => 6) else twoC t f g
noncomputable def aeB : Bool := if twoC t f g = 0 then eqB (vaR t f) (vaR t g) else false
end
section
variable {t : Int × List (Int × List (List Int))} {f g : Int × Int × List (Int × List Int)}
theorem fa_no (h : twoC t f g ≠ 0) : faV t f g = [] ∧ faC t f g = twoC t f g ∧ aeB t f g = false := by simp [faV, faC, aeB, h]
theorem fa_none (h : twoC t f g = 0) (h2 : headB (apL t f g) = false) : faV t f g = [] ∧ faC t f g = 6 ∧ aeB t f g = true := by
 simp only [faV, faC, aeB, h, h2, if_pos, true_and]
 refine ⟨by rw [head_no h2]; rfl, eqB_true ((apL_nil (two_ok h).2.2).1 h2)⟩
theorem fa_yes (h : twoC t f g = 0) (h2 : headB (apL t f g) = true) : faV t f g = headV (apL t f g) ∧ faC t f g = 0 ∧ aeB t f g = false := by
 simp only [faV, faC, aeB, h, h2, if_pos, true_and]
 refine eqB_false fun e => ?_
 have := (apL_nil (two_ok h).2.2).2 e
 rw [h2] at this
 cases this
end
end Go.Proofs.YtnhdohednekhjaaGreatDoor
namespace Go.Proofs.YtnhdohednekhjaaGreatDoor
open Go.RowKit Go.Sort
section
variable (t : Int × List (Int × List (List Int))) (f : Int × Int × List (Int × List Int))
noncomputable def voV : Int × List (List Int) := match tb (frmOk t f) with
 | true => vaR t f
 | false => (0, [])
noncomputable def voC : Int := match tb (frmOk t f) with
 | true => 0
 | false => 1
end
section
variable {t : Int × List (Int × List (List Int))} {f : Int × Int × List (Int × List Int)}
theorem vo_no (h : tb (frmOk t f) = false) : voV t f = (0, []) ∧ voC t f = 1 := by simp [voV, voC, h]
theorem vo_yes (h : tb (frmOk t f) = true) : voV t f = vaR t f ∧ voC t f = 0 := by simp [voV, voC, h]
end
theorem fr_rel0v {base : Nat} {w : World} : relT.Fr base w [.int .i64 0, .slice none 0 0] (0, []) := fr_cons (I64.small (by omega) (by omega)) fr_nil
set_option maxHeartbeats 1600000 in
set_option maxRecDepth 100000 in
theorem ValueOf_any (w : World) {cs cf : Array Value} {t : Int × List (Int × List (List Int))} {f : Int × Int × List (Int × List Int)} (h : tplT.Rd w cs.toList t) (hf : frmT.Rd w cf.toList f) :
  Calls Tryz.prog 9 #[.agg cs, .agg cf] w (RetAC relT w (voV t f) (voC t f)) := by
 have HT := Lib.hid h
 have HF := Lib.hid hf
 obtain ⟨v1, hv1, hI, -⟩ := pair_ex h
 obtain rfl := agg_of hv1
 obtain ⟨v2, hv2, hIf, hIf2, -⟩ := trip_ex hf
 obtain rfl := agg_of hv2
 clear h hf hv1 hv2
 go_enter Tryz.func9, Tryz.ntmps9
 go_wp2_with fail
 generalize hW : World.alloc _ _ = W
 have hbW : Below w.heap.size w W := hW ▸ ((bAA (w := w)).alloc (by simp; omega) _)
 have hsW : w.heap.size + 3 ≤ W.heap.size := by rw [← hW]; simp
 have t0 : W.cell? ⟨w.heap.size, 0, none⟩ = some (.int .i64 t.1) := by rw [← hW]; simp [go_sem]
 have t1 : W.cell? ⟨w.heap.size, 1, none⟩ = some v1 := by rw [← hW]; simp [go_sem]
 have f0 : W.cell? ⟨w.heap.size + 1, 0, none⟩ = some (.int .i64 f.1) := by rw [← hW]; simp [go_sem]
 have f1 : W.cell? ⟨w.heap.size + 1, 1, none⟩ = some (.int .i64 f.2.1) := by rw [← hW]; simp [go_sem]
 have f2 : W.cell? ⟨w.heap.size + 1, 2, none⟩ = some v2 := by rw [← hW]; simp [go_sem]
 have r0 : W.cell? ⟨w.heap.size + 2, 0, none⟩ = some (.int .i64 0) := by rw [← hW]; simp [go_sem]
 have r1 : W.cell? ⟨w.heap.size + 2, 1, none⟩ = some (.slice none 0 0) := by rw [← hW]; simp [go_sem]
 have m0 : W.frozen? ⟨w.heap.size + 2, 0, none⟩ = false := by rw [← hW]; simp [go_sem]
 have m1 : W.frozen? ⟨w.heap.size + 2, 1, none⟩ = false := by rw [← hW]; simp [go_sem]
 clear hW
 refine (ValidFormula_any _ (cs := #[.int .i64 t.1, v1]) (cs' := #[.int .i64 f.1, .int .i64 f.2.1, v2]) (HT.out.below hbW) (HF.out.below hbW)).mono ?_
 rintro e w1 ⟨rfl, hb1⟩
 have hz1 := hb1.size
 have hB1 := bthen hbW hb1
 replace t0 := (cellB hb1 (by omega)).trans t0
 replace t1 := (cellB hb1 (by omega)).trans t1
 replace f0 := (cellB hb1 (by omega)).trans f0
 replace f1 := (cellB hb1 (by omega)).trans f1
 replace f2 := (cellB hb1 (by omega)).trans f2
 replace r0 := (cellB hb1 (by omega)).trans r0
 replace r1 := (cellB hb1 (by omega)).trans r1
 replace m0 := (frozenB hb1 (by omega)).trans m0
 replace m1 := (frozenB hb1 (by omega)).trans m1
 cases hT : tb (frmOk t f)
 ·have HR := Lib.hid (vo_no hT)
  clear hT
  obtain ⟨g0, g1⟩ := set2_cells (x := .int .i64 0) (y := .slice none 0 0) r0 r1
  go_wp2_with fail
  refine bodyPost_ret (v := .tuple #[.agg #[.int .i64 0, .slice none 0 0], .int .i64 1]) (by simp [results, Tryz.results9, go_sem, g0, g1]) rfl ⟨[.int .i64 0, .slice none 0 0], by rw [HR.out.2], by rw [HR.out.1]; exact fr_rel0v, (hB1.setCell (show w.heap.size ≤ w.heap.size + 2 by omega) _).setCell (show w.heap.size ≤ w.heap.size + 2 by omega) _⟩
 ·have HR := Lib.hid (vo_yes hT)
  have HOK := Lib.hid (tb_iff.1 hT)
  clear hT
  go_wp2_with fail
  refine (valueOf_any _ (cs := #[.int .i64 t.1, v1]) (cf := #[.int .i64 f.1, .int .i64 f.2.1, v2]) (HT.out.below hB1) (HF.out.below hB1) HOK.out).mono ?_
  rintro e w2 ⟨cs2, rfl, hf2, hb2⟩
  obtain ⟨a2, c2, rfl⟩ := fr_pair hf2
  have HF2 := Lib.hid hf2
  have hB2 := bthen hB1 hb2
  have hz2 := hb2.size
  replace r0 := (cellB hb2 (by omega)).trans r0
  replace r1 := (cellB hb2 (by omega)).trans r1
  replace m0 := (frozenB hb2 (by omega)).trans m0
  replace m1 := (frozenB hb2 (by omega)).trans m1
  obtain ⟨g0, g1⟩ := set2_cells (x := .int .i64 (vaR t f).1) (y := .slice a2 (vaR t f).2.length c2) r0 r1
  clear hf2 t0 t1 f0 f1 f2
  go_wp2_with fail
  refine bodyPost_ret (v := .tuple #[.agg #[.int .i64 (vaR t f).1, .slice a2 (vaR t f).2.length c2], .int .i64 0]) (by simp [results, Tryz.results9, go_sem, g0, g1]) rfl ⟨[.int .i64 (vaR t f).1, .slice a2 (vaR t f).2.length c2], by rw [HR.out.2], ?_, ?_⟩
  ·rw [HR.out.1]
   exact (fr_set2 HF2.out (by omega)).mono (by omega)
  ·exact (hB2.setCell (show w.heap.size ≤ w.heap.size + 2 by omega) _).setCell (show w.heap.size ≤ w.heap.size + 2 by omega) _
set_option maxHeartbeats 1600000 in
set_option maxRecDepth 100000 in
theorem specValueOf_any (w : World) {cs cf : Array Value} {t : Int × List (Int × List (List Int))} {f : Int × Int × List (Int × List Int)} (h : tplT.Rd w cs.toList t) (hf : frmT.Rd w cf.toList f) :
  Calls Tryz.prog 10 #[.agg cs, .agg cf] w (RetAC relT w (voV t f) (voC t f)) := by
 have p0 : tplT.Pt ((w.alloc (.cells cs 27)).alloc (.cells cf 31)) (.pointer (some ⟨w.heap.size, 0, none⟩)) t := (pt_box h).below bA
 have p1 : frmT.Pt ((w.alloc (.cells cs 27)).alloc (.cells cf 31)) (.pointer (some ⟨w.heap.size + 1, 0, none⟩)) f := by
  simpa using pt_box (T := 31) (hf.below (bA (o := .cells cs 27)))
 obtain ⟨v1, hv1, hI, -⟩ := pair_ex h
 obtain rfl := agg_of hv1
 obtain ⟨v2, hv2, hIf, hIf2, -⟩ := trip_ex hf
 obtain rfl := agg_of hv2
 clear h hf hv1 hv2
 go_enter Tryz.func10, Tryz.ntmps10
 go_wp2_with fail
 have P0 := p0.below (bA (o := .cells #[.int .i64 0, .slice none 0 0] 35))
 have P1 := p1.below (bA (o := .cells #[.int .i64 0, .slice none 0 0] 35))
 generalize hW : World.alloc (World.alloc (World.alloc _ _) _) _ = W at P0 P1 ⊢
 have hbW : Below w.heap.size w W := hW ▸ ((bAA (w := w)).alloc (by simp; omega) _)
 have hsW : w.heap.size + 3 ≤ W.heap.size := by rw [← hW]; simp
 have r0 : W.cell? ⟨w.heap.size + 2, 0, none⟩ = some (.int .i64 0) := by rw [← hW]; simp [go_sem]
 have r1 : W.cell? ⟨w.heap.size + 2, 1, none⟩ = some (.slice none 0 0) := by rw [← hW]; simp [go_sem]
 have m0 : W.frozen? ⟨w.heap.size + 2, 0, none⟩ = false := by rw [← hW]; simp [go_sem]
 have m1 : W.frozen? ⟨w.heap.size + 2, 1, none⟩ = false := by rw [← hW]; simp [go_sem]
 clear hW p0 p1
 refine (l03Ok_quiet _ P0 P1).mono ?_
 rintro e w1 ⟨rfl, hq1⟩
 have hb1 := hq1.below
 have hz1 := hb1.size
 have hB1 := bthen hbW hb1
 replace r0 := (cellB hb1 (by omega)).trans r0
 replace r1 := (cellB hb1 (by omega)).trans r1
 replace m0 := (frozenB hb1 (by omega)).trans m0
 replace m1 := (frozenB hb1 (by omega)).trans m1
 have P0' := Lib.hid (P0.below hb1)
 have P1' := Lib.hid (P1.below hb1)
 clear hq1 P0 P1
 cases hT : tb (frmOk t f)
 ·have HR := Lib.hid (vo_no hT)
  clear hT
  obtain ⟨g0, g1⟩ := set2_cells (x := .int .i64 0) (y := .slice none 0 0) r0 r1
  go_wp2_with fail
  refine bodyPost_ret (v := .tuple #[.agg #[.int .i64 0, .slice none 0 0], .int .i64 1]) (by simp [results, Tryz.results10, go_sem, g0, g1]) rfl ⟨[.int .i64 0, .slice none 0 0], by rw [HR.out.2], by rw [HR.out.1]; exact fr_rel0v, (hB1.setCell (show w.heap.size ≤ w.heap.size + 2 by omega) _).setCell (show w.heap.size ≤ w.heap.size + 2 by omega) _⟩
 ·have HR := Lib.hid (vo_yes hT)
  have HOK := Lib.hid (tb_iff.1 hT)
  clear hT
  go_wp2_with fail
  refine (l03Value_any _ P0'.out P1'.out HOK.out).mono ?_
  rintro e w2 ⟨cs2, rfl, hf2, hb2⟩
  obtain ⟨a2, c2, rfl⟩ := fr_pair hf2
  have HF2 := Lib.hid hf2
  have hB2 := bthen hB1 hb2
  have hz2 := hb2.size
  replace r0 := (cellB hb2 (by omega)).trans r0
  replace r1 := (cellB hb2 (by omega)).trans r1
  replace m0 := (frozenB hb2 (by omega)).trans m0
  replace m1 := (frozenB hb2 (by omega)).trans m1
  obtain ⟨g0, g1⟩ := set2_cells (x := .int .i64 (vaR t f).1) (y := .slice a2 (vaR t f).2.length c2) r0 r1
  clear hf2
  go_wp2_with fail
  refine bodyPost_ret (v := .tuple #[.agg #[.int .i64 (vaR t f).1, .slice a2 (vaR t f).2.length c2], .int .i64 0]) (by simp [results, Tryz.results10, go_sem, g0, g1]) rfl ⟨[.int .i64 (vaR t f).1, .slice a2 (vaR t f).2.length c2], by rw [HR.out.2], ?_, ?_⟩
  ·rw [HR.out.1]
   exact (fr_set2 HF2.out (by omega)).mono (by omega)
  ·exact (hB2.setCell (show w.heap.size ≤ w.heap.size + 2 by omega) _).setCell (show w.heap.size ≤ w.heap.size + 2 by omega) _
end Go.Proofs.YtnhdohednekhjaaGreatDoor
namespace Go.Proofs.YtnhdohednekhjaaGreatDoor
open Go.RowKit Go.Sort
section
variable (t : Int × List (Int × List (List Int))) (f : Int × Int × List (Int × List Int))
end
section
variable {t : Int × List (Int × List (List Int))} {f : Int × Int × List (Int × List Int)}
end
end Go.Proofs.YtnhdohednekhjaaGreatDoor
namespace Go.Proofs.YtnhdohednekhjaaGreatDoor
open Go.RowKit Go.Sort
abbrev Frm := Int × Int × List (Int × List Int)
/-- a tuple fulfils a formula -/
def ValP (t : Tpl) (f : Frm) (tu : List Int) : Prop := ∃ x : List Int, (x.length : Int) = f.2.1 ∧ (∀ a ∈ x, 0 ≤ a ∧ a ≤ t.1 - 1) ∧ x.take tu.length = tu ∧ ∀ a ∈ f.2.2, holdsA t x a = true
theorem pow_cast {s : Int} (hs : 0 ≤ s) (n : Nat) : s ^ n = (((s ^ n).toNat : Nat) : Int) := by have := pow_nn hs n; omega
theorem va_mem {t : Tpl} {f : Frm} (hok : frmOk t f) {n : Nat} (hn : f.1 = (n : Int)) {l : List Int} : l ∈ (vaR t f).2 ↔ (tupP t.1 n l ∧ ValP t f l) := by
 have hs := hok.1.1.1
 unfold vaR
 rw [hn, Int.toNat_natCast]
 constructor
 ·intro h
  have h1 := relL_tup hs h
  exact ⟨h1, (va_iff hok (by rw [h1.1, hn]) h1.2).1 ((relL_iff hs (pow_cast (by omega) n) h1).1 h)⟩
 ·rintro ⟨h1, h2⟩
  exact (relL_iff hs (pow_cast (by omega) n) h1).2 ((va_iff hok (by rw [h1.1, hn]) h1.2).2 h2)
theorem va_ok {t : Tpl} {f : Frm} (hok : frmOk t f) : relOk t.1 (vaR t f) := by
 have hf := hok.2.1.1
 obtain ⟨n, hn⟩ : ∃ n : Nat, f.1 = (n : Int) := ⟨f.1.toNat, by omega⟩
 unfold vaR
 rw [hn, Int.toNat_natCast]
 exact relL_ok hok.1.1 (by omega) (pow_cast (by have := hok.1.1.1; omega) n)
theorem va_ar {t : Tpl} {f : Frm} : (vaR t f).1 = f.1 := rfl
theorem getD_map0 {x args : List Int} {p : Nat} (hp : p < args.length) : (atL x args).getD p 0 = x.getD (args[p]).toNat 0 := by
 unfold atL
 rw [List.getD_eq_getElem?_getD, List.getElem?_map, List.getElem?_eq_getElem hp]
 rfl
end Go.Proofs.YtnhdohednekhjaaGreatDoor
namespace Go.Proofs.YtnhdohednekhjaaGreatDoor
open Go.RowKit Go.Sort
end Go.Proofs.YtnhdohednekhjaaGreatDoor
namespace Go.Proofs.YtnhdohednekhjaaGreatDoor
open Go.RowKit Go.Sort
section
variable (t : Int × List (Int × List (List Int))) (f : Int × Int × List (Int × List Int)) (rel : Int) (g : Int × Int × List (Int × List Int))
end
section
variable {t : Int × List (Int × List (List Int))} {f : Int × Int × List (Int × List Int)} {rel : Int} {g : Int × Int × List (Int × List Int)}
end
end Go.Proofs.YtnhdohednekhjaaGreatDoor
namespace Go.Proofs.YtnhdohednekhjaaGreatDoor
open Go.RowKit Go.Sort
/-- an atom is told by the values at its places -/
theorem holds_cong {t u : Tpl} {x y : List Int} {rel : Int} {us bs : List Int} (hr : rel = -1 ∨ (relAt t rel).2 = (relAt u rel).2) (h : atL x us = atL y bs) : holdsA t x (rel, us) = holdsA u y (rel, bs) := by
 cases h1 : (rel == -1)
 ·rw [holdsA_rel (a := (rel, us)) h1, holdsA_rel (a := (rel, bs)) h1]
  unfold holdsC
  dsimp only
  rcases hr with h2 | h2
  ·rw [h2] at h1; cases h1
  ·rw [h2, h]
 ·rw [holdsA_eq (a := (rel, us)) h1, holdsA_eq (a := (rel, bs)) h1]
  dsimp only
  rw [h]
theorem atL_app {x y places : List Int} (h : ∀ p ∈ places, 0 ≤ p ∧ p ≤ (x.length : Int) - 1) : atL (x ++ y) places = atL x places := by
 unfold atL
 refine List.map_congr_left fun p hp => ?_
 have := h p hp
 rw [List.getD_eq_getElem?_getD, List.getD_eq_getElem?_getD, List.getElem?_append_left (by omega)]
section
variable {t : Tpl} {g h : Frm}
end
end Go.Proofs.YtnhdohednekhjaaGreatDoor
namespace Go.Proofs.YtnhdohednekhjaaGreatDoor
open Go.RowKit Go.Sort
theorem atL_rn {x y ps : List Int} {g : Int → Int} (h : ∀ p ∈ ps, x.getD (g p).toNat 0 = y.getD p.toNat 0) : atL x (ps.map g) = atL y ps := by
 unfold atL
 rw [List.map_map]
 exact List.map_congr_left h
theorem holds_rn {t : Tpl} {x y : List Int} {g : Int → Int} {a : Int × List Int} (h : ∀ p ∈ a.2, x.getD (g p).toNat 0 = y.getD p.toNat 0) : holdsA t x (a.1, a.2.map g) = holdsA t y a :=
 holds_cong (.inr rfl) (atL_rn h)
theorem getD_take' {x : List Int} {k i : Nat} (h : i < k) : (x.take k).getD i 0 = x.getD i 0 := by
 rw [List.getD_eq_getElem?_getD, List.getElem?_take_of_lt h, List.getD_eq_getElem?_getD]
theorem getD_app_l {x y : List Int} {i : Nat} (h : i < x.length) : (x ++ y).getD i 0 = x.getD i 0 := by
 rw [List.getD_eq_getElem?_getD, List.getElem?_append_left h, List.getD_eq_getElem?_getD]
theorem getD_app_r {x y : List Int} {i : Nat} (h : x.length ≤ i) : (x ++ y).getD i 0 = y.getD (i - x.length) 0 := by
 rw [List.getD_eq_getElem?_getD, List.getElem?_append_right h, List.getD_eq_getElem?_getD]
theorem getD_drop' {x : List Int} {k i : Nat} : (x.drop k).getD i 0 = x.getD (k + i) 0 := by
 rw [List.getD_eq_getElem?_getD, List.getElem?_drop, List.getD_eq_getElem?_getD]
/-- a formula's frame in plain numbers -/
theorem frm_nat {t : Tpl} {f : Frm} (h : frmOk t f) : ∃ n m : Nat, f.1 = (n : Int) ∧ f.2.1 = (m : Int) ∧ 1 ≤ n ∧ n ≤ 4 ∧ n ≤ m ∧ m ≤ 8 ∧ f.2.2.length ≤ 16 ∧ ∀ a ∈ f.2.2, ∀ p ∈ a.2, 0 ≤ p ∧ p < (m : Int) := by
 obtain ⟨h1, h2, h3, h4, h5⟩ := frm_bd (tb_true h)
 have hf := h.2.1
 unfold frameOk at hf
 exact ⟨f.1.toNat, f.2.1.toNat, by omega, by omega, by omega, by omega, by omega, by omega, h4, fun a ha p hp => by have := (h5 a ha).1 p hp; omega⟩
theorem atom_up {t : Tpl} {m k : Int} {a : Int × List Int} (h : atomOk t m a) (hk : m ≤ k) : atomOk t k a := ⟨h.1, h.2.1, fun p hp => by have := h.2.2 p hp; omega⟩
theorem atom_rn {t : Tpl} {m k : Int} {a : Int × List Int} {g : Int → Int} (h : atomOk t m a) (hg : ∀ p ∈ a.2, 0 ≤ g p ∧ g p ≤ k - 1) : atomOk t k (a.1, a.2.map g) :=
 ⟨h.1, by show ((a.2.map g).length : Int) = _; rw [List.length_map]; exact h.2.1, fun p hp => by obtain ⟨q, hq, rfl⟩ := List.mem_map.1 hp; exact hg q hq⟩
section
variable {t : Tpl} {f g : Frm}
/-- the conjunction's value is the meet of the values -/
theorem conj_value (hf : frmOk t f) (hg : frmOk t g) (h1 : f.1 = g.1) (hl : (conjF f g).2.1 ≤ 8 ∧ (conjF f g).2.2.length ≤ 16) :
  frmOk t (conjF f g) ∧ ∀ l, l ∈ (vaR t (conjF f g)).2 ↔ (l ∈ (vaR t f).2 ∧ l ∈ (vaR t g).2) := by
 obtain ⟨n, m, e1, e2, n1, n4, nm, m8, -, fp⟩ := frm_nat hf
 obtain ⟨n', k, e3, e4, -, -, nk, k8, -, gp⟩ := frm_nat hg
 obtain rfl : n = n' := by omega
 have hv : (conjF f g).2.1 = ((m + k - n : Nat) : Int) := by show f.2.1 + g.2.1 - g.1 = _; omega
 have hok : frmOk t (conjF f g) := by
  refine ⟨hf.1, ⟨hf.2.1.1, ⟨?_, hl.1⟩, hl.2⟩, fun a ha => ?_⟩
  ·rw [hv]; show f.1 ≤ _; omega
  ·have ha' : a ∈ f.2.2 ++ rnL (conjTo f g) g.2.2 := ha
   rcases List.mem_append.1 ha' with ha | ha
   ·exact atom_up (hf.2.2 a ha) (by rw [hv]; omega)
   ·obtain ⟨b, hb, rfl⟩ := List.mem_map.1 ha
    refine atom_rn (hg.2.2 b hb) fun p hp => ?_
    have := gp b hb p hp
    rw [hv]
    by_cases c : g.1 ≤ p
    ·rw [conj_ge c]; omega
    ·rw [conj_lt (by omega)]; omega
 refine ⟨hok, fun l => ?_⟩
 rw [va_mem hok (n := n) e1, va_mem hf e1, va_mem hg e3]
 have key : tupP t.1 n l → (ValP t (conjF f g) l ↔ (ValP t f l ∧ ValP t g l)) := fun hl2 => by
  have hll := hl2.1
  constructor
  ·rintro ⟨x, x1, x2, x3, x4⟩
   rw [hv] at x1
   have x4' : ∀ a ∈ f.2.2 ++ rnL (conjTo f g) g.2.2, holdsA t x a = true := x4
   refine ⟨⟨x.take m, by rw [List.length_take]; omega, fun a ha => x2 a (List.mem_of_mem_take ha), by rw [List.take_take, Nat.min_eq_left (by omega)]; exact x3, fun a ha => ?_⟩, ⟨x.take n ++ x.drop m, by simp; omega, fun a ha => (List.mem_append.1 ha).elim (fun h => x2 a (List.mem_of_mem_take h)) (fun h => x2 a (List.mem_of_mem_drop h)), ?_, fun a ha => ?_⟩⟩
   ·rw [← x4' a (List.mem_append_left _ ha)]
    refine holds_cong (.inr rfl) (atL_pre fun p hp => ?_)
    have := fp a ha p hp
    omega
   ·rw [hll] at x3 ⊢
    rw [List.take_append_of_le_length (by rw [List.length_take]; omega), List.take_take, Nat.min_self]
    exact x3
   ·rw [← x4' (a.1, a.2.map (conjTo f g)) (List.mem_append_right _ (List.mem_map.2 ⟨a, ha, rfl⟩))]
    refine (holds_rn fun p hp => ?_).symm
    have := gp a ha p hp
    by_cases c : g.1 ≤ p
    ·rw [conj_ge c, getD_app_r (by rw [List.length_take]; omega), getD_drop']
     congr 1
     rw [List.length_take]
     omega
    ·rw [conj_lt (by omega), getD_app_l (by rw [List.length_take]; omega), getD_take' (by omega)]
  ·rintro ⟨⟨y, y1, y2, y3, y4⟩, z, z1, z2, z3, z4⟩
   rw [hll] at y3 z3
   refine ⟨y ++ z.drop n, by rw [hv, List.length_append, List.length_drop]; omega, fun a ha => (List.mem_append.1 ha).elim (y2 a) (fun h => z2 a (List.mem_of_mem_drop h)), by rw [hll, List.take_append_of_le_length (by omega)]; exact y3, fun a ha => ?_⟩
   have ha' : a ∈ f.2.2 ++ rnL (conjTo f g) g.2.2 := ha
   rcases List.mem_append.1 ha' with ha | ha
   ·rw [← y4 a ha]
    refine holds_cong (.inr rfl) (atL_app fun p hp => ?_)
    have := fp a ha p hp
    omega
   ·obtain ⟨b, hb, rfl⟩ := List.mem_map.1 ha
    rw [← z4 b hb]
    refine holds_rn fun p hp => ?_
    have := gp b hb p hp
    by_cases c : g.1 ≤ p
    ·rw [conj_ge c, getD_app_r (by omega), getD_drop']
     congr 1
     omega
    ·rw [conj_lt (by omega), getD_app_l (by omega), ← getD_take' (x := y) (k := n) (by omega), y3, ← z3, getD_take' (by omega)]
 constructor
 ·rintro ⟨a, b⟩
  have := (key a).1 b
  exact ⟨⟨a, this.1⟩, a, this.2⟩
 ·rintro ⟨⟨a, b⟩, -, c⟩
  exact ⟨a, (key a).2 ⟨b, c⟩⟩
/-- the first variable hidden: of two free ones the second is left -/
theorem hide_value (hf : frmOk t f) (h2 : f.1 = 2) : hideC t f 0 = 0 ∧ frmOk t (hideV t f 0) ∧ (hideV t f 0).1 = 1 ∧ ∀ l, l ∈ (vaR t (hideV t f 0)).2 ↔ ∃ u ∈ (vaR t f).2, l = atL u [1] := by
 obtain ⟨n, m, e1, e2, n1, n4, nm, m8, -, fp⟩ := frm_nat hf
 obtain rfl : n = 2 := by omega
 obtain ⟨v1, v2⟩ := hide_0 (t := t) (f := f) (v := 0) (tb_true hf) (inB_true.2 ⟨by omega, by omega⟩) (by rw [h2]; decide)
 rw [v1]
 have hto : ∀ p : Int, 0 ≤ p → p < (m : Int) → 0 ≤ hideTo f.2.1 0 p ∧ hideTo f.2.1 0 p ≤ (m : Int) - 1 := fun p h0 h1 => by
  by_cases c : p = 0
  ·rw [hideTo_eq c]; omega
  ·rw [hideTo_gt (by omega)]; omega
 have hok : frmOk t (f.1 - 1, f.2.1, rnL (hideTo f.2.1 0) f.2.2) := by
  have hfr := hf.2.1
  unfold frameOk at hfr
  refine ⟨hf.1, ⟨⟨by show (1 : Int) ≤ f.1 - 1; omega, by show f.1 - 1 ≤ (4 : Int); omega⟩, ⟨by show f.1 - 1 ≤ f.2.1; omega, by show f.2.1 ≤ (8 : Int); omega⟩, ?_⟩, fun a ha => ?_⟩
  ·show ((rnL (hideTo f.2.1 0) f.2.2).length) ≤ 16
   unfold rnL
   rw [List.length_map]
   exact hfr.2.2
  ·obtain ⟨b, hb, rfl⟩ := List.mem_map.1 ha
   refine atom_rn (hf.2.2 b hb) fun p hp => ?_
   have := fp b hb p hp
   have h3 := hto p this.1 this.2
   refine ⟨h3.1, ?_⟩
   show _ ≤ f.2.1 - 1
   omega
 refine ⟨v2, hok, by show f.1 - 1 = 1; omega, fun l => ?_⟩
 rw [va_mem hok (n := 1) (by show f.1 - 1 = _; omega)]
 constructor
 ·rintro ⟨hl, x, x1, x2, x3, x4⟩
  have x1' : (x.length : Int) = f.2.1 := x1
  have x4' : ∀ a ∈ rnL (hideTo f.2.1 0) f.2.2, holdsA t x a = true := x4
  have hm : x.length = m := by omega
  have hy : ∀ p : Int, 0 ≤ p → p < (m : Int) → x.getD (hideTo f.2.1 0 p).toNat 0 = (x.getD (m - 1) 0 :: x.take (m - 1)).getD p.toNat 0 := fun p h0 h1 => by
   by_cases c : p = 0
   ·rw [hideTo_eq c, c, show (f.2.1 - 1).toNat = m - 1 by omega]; rfl
   ·rw [hideTo_gt (by omega)]
    obtain ⟨q, hq⟩ : ∃ q : Nat, p = ((q + 1 : Nat) : Int) := ⟨(p - 1).toNat, by omega⟩
    rw [hq, show (((q + 1 : Nat) : Int) - 1).toNat = q by omega, Int.toNat_natCast, List.getD_cons_succ, getD_take' (by omega)]
  have hxi : ∀ i, i < m → 0 ≤ x.getD i 0 ∧ x.getD i 0 ≤ t.1 - 1 := fun i hi => by
   rw [List.getD_eq_getElem?_getD, List.getElem?_eq_getElem (by omega)]
   exact x2 _ (List.getElem_mem _)
  have hyi : ∀ a ∈ x.getD (m - 1) 0 :: x.take (m - 1), 0 ≤ a ∧ a ≤ t.1 - 1 := fun a ha => by
   rcases List.mem_cons.1 ha with rfl | ha
   ·exact hxi _ (by omega)
   ·exact x2 a (List.mem_of_mem_take ha)
  have hyl : (x.getD (m - 1) 0 :: x.take (m - 1)).length = m := by rw [List.length_cons, List.length_take]; omega
  refine ⟨(x.getD (m - 1) 0 :: x.take (m - 1)).take 2, (va_mem hf (n := 2) e1).2 ⟨⟨by rw [List.length_take]; omega, fun a ha => hyi a (List.mem_of_mem_take ha)⟩, x.getD (m - 1) 0 :: x.take (m - 1), by omega, hyi, by rw [List.length_take, Nat.min_eq_left (by omega)], fun a ha => ?_⟩, ?_⟩
  ·rw [← x4' (a.1, a.2.map (hideTo f.2.1 0)) (List.mem_map.2 ⟨a, ha, rfl⟩)]
   refine (holds_rn fun p hp => ?_).symm
   have := fp a ha p hp
   exact hy p this.1 this.2
  ·rw [← x3, hl.1]
   show x.take 1 = [_]
   have e : ((x.getD (m - 1) 0 :: x.take (m - 1)).take 2).getD 1 0 = x.getD 0 0 := by
    rw [getD_take' (by omega), List.getD_cons_succ, getD_take' (by omega)]
   show x.take 1 = [((x.getD (m - 1) 0 :: x.take (m - 1)).take 2).getD ((1 : Int).toNat) 0]
   rw [show (1 : Int).toNat = 1 from rfl, e]
   cases x with
   | nil => simp at hm; omega
   | cons a r => rfl
 ·rintro ⟨u, hu, rfl⟩
  obtain ⟨hu1, y, y1, y2, y3, y4⟩ := (va_mem hf (n := 2) e1).1 hu
  have hul : u.length = 2 := hu1.1
  rw [hul] at y3
  have hym : y.length = m := by omega
  have hyi : ∀ i, i < m → 0 ≤ y.getD i 0 ∧ y.getD i 0 ≤ t.1 - 1 := fun i hi => by
   rw [List.getD_eq_getElem?_getD, List.getElem?_eq_getElem (by omega)]
   exact y2 _ (List.getElem_mem _)
  have hxl : (y.drop 1 ++ [y.getD 0 0]).length = m := by rw [List.length_append, List.length_drop, List.length_singleton]; omega
  have hu' : atL u [1] = (y.drop 1 ++ [y.getD 0 0]).take 1 := by
   have e : (y.drop 1 ++ [y.getD 0 0]).take 1 = [y.getD 1 0] := by
    rw [List.take_append_of_le_length (by rw [List.length_drop]; omega)]
    match y, hym with
    | [], h => simp at h; omega
    | [a], h => simp at h; omega
    | a :: b :: r, _ => rfl
   rw [e, ← y3]
   show [(y.take 2).getD ((1 : Int).toNat) 0] = _
   rw [show (1 : Int).toNat = 1 from rfl, getD_take' (by omega)]
  refine ⟨⟨by rfl, fun a ha => ?_⟩, y.drop 1 ++ [y.getD 0 0], by show ((_ : Nat) : Int) = f.2.1; omega, fun a ha => ?_, ?_, fun a ha => ?_⟩
  ·have ha' : a ∈ [u.getD ((1 : Int).toNat) 0] := ha
   rw [List.mem_singleton.1 ha', ← y3, show (1 : Int).toNat = 1 from rfl, getD_take' (by omega)]
   exact hyi 1 (by omega)
  ·rcases List.mem_append.1 ha with ha | ha
   ·exact y2 a (List.mem_of_mem_drop ha)
   ·rw [List.mem_singleton.1 ha]; exact hyi 0 (by omega)
  ·rw [hu']
   congr 1
   rw [List.length_take]
   omega
  ·have ha' : a ∈ rnL (hideTo f.2.1 0) f.2.2 := ha
   obtain ⟨b, hb, rfl⟩ := List.mem_map.1 ha'
   rw [← y4 b hb]
   refine holds_rn fun p hp => ?_
   have hpb := fp b hb p hp
   by_cases c : p = 0
   ·rw [hideTo_eq c, c, getD_app_r (by rw [List.length_drop]; omega), List.length_drop, show (f.2.1 - 1).toNat - (y.length - 1) = 0 by omega]; rfl
   ·rw [hideTo_gt (by omega), getD_app_l (by rw [List.length_drop]; omega), getD_drop']
    congr 1
    omega
end
end Go.Proofs.YtnhdohednekhjaaGreatDoor
namespace Go.Proofs.YtnhdohednekhjaaGreatDoor
open Go.RowKit Go.Sort
abbrev Atoms := List (Int × List Int)
def mrgX (a : Int × List Int) : Int := a.2.getD 0 0
def mrgY (a : Int × List Int) : Int := a.2.getD 1 0
def loA (a : Int × List Int) : Int := min (mrgX a) (mrgY a)
def hiA (a : Int × List Int) : Int := max (mrgX a) (mrgY a)
/-- it says that two variables are equal, of which one at least is bound -/
def mrgB (fr : Int) (a : Int × List Int) : Bool := (a.1 == -1) && ((mrgX a != mrgY a) && decide (fr ≤ hiA a))
theorem mrgB_iff {fr : Int} {a : Int × List Int} : mrgB fr a = true ↔ a.1 = -1 ∧ mrgX a ≠ mrgY a ∧ fr ≤ hiA a := by simp [mrgB]
def subTo (lo hi v : Int) : Int := match (v == hi) with
 | true => lo
 | false => v
theorem sub_eq {lo hi v : Int} (h : v = hi) : subTo lo hi v = lo := by simp [subTo, h]
theorem sub_ne {lo hi v : Int} (h : v ≠ hi) : subTo lo hi v = v := by
 have : (v == hi) = false := by simpa using h
 simp [subTo, this]
/-- the greater variable of an atom replaced by the lesser one -/
def stM (l : Atoms) (a : Int × List Int) : Atoms := rnL (subTo (loA a) (hiA a)) l
def mrgL (fr : Int) : Nat → Atoms → Atoms
 | 0, l => l
 | n + 1, l => match l.find? (mrgB fr) with
  | none => l
  | some a => mrgL fr n (stM l a)
theorem mrgL_some {fr : Int} {n : Nat} {l : Atoms} {a : Int × List Int} (h : l.find? (mrgB fr) = some a) : mrgL fr (n + 1) l = mrgL fr n (stM l a) := by simp only [mrgL, h]
theorem mrgL_none {fr : Int} {n : Nat} {l : Atoms} (h : l.find? (mrgB fr) = none) : mrgL fr n l = l := by
 cases n with
 | zero => rfl
 | succ n => simp only [mrgL, h]
/-- as long as there is one -/
def mrgF (fr : Int) (l : Atoms) : Atoms := mrgL fr l.length l
def eq2 (l : Atoms) : Prop := ∀ a ∈ l, a.1 = -1 → a.2.length = 2
theorem len_two {xs : List Int} (h : xs.length = 2) : ∃ x y, xs = [x, y] := by
 match xs, h with
 | [x, y], _ => exact ⟨x, y, rfl⟩
theorem mrg_ren {b : Int × List Int} {g : Int → Int} (h : b.2.length = 2) : mrgX (b.1, b.2.map g) = g (mrgX b) ∧ mrgY (b.1, b.2.map g) = g (mrgY b) := by
 obtain ⟨x, y, e⟩ := len_two h
 simp [mrgX, mrgY, e]
theorem st_old {fr : Int} {a b : Int × List Int} (hb : b.1 = -1 → b.2.length = 2) (ha : mrgB fr a = true) (h : mrgB fr (b.1, b.2.map (subTo (loA a) (hiA a))) = true) : mrgB fr b = true := by
 obtain ⟨h1, h2, h3⟩ := mrgB_iff.1 h
 obtain ⟨e1, e2⟩ := mrg_ren (g := subTo (loA a) (hiA a)) (hb h1)
 have h3' : fr ≤ max (mrgX (b.1, b.2.map (subTo (loA a) (hiA a)))) (mrgY (b.1, b.2.map (subTo (loA a) (hiA a)))) := h3
 rw [e1, e2] at h2 h3'
 obtain ⟨-, -, a3⟩ := mrgB_iff.1 ha
 refine mrgB_iff.2 ⟨h1, fun e => h2 (by rw [e]), ?_⟩
 by_cases c1 : mrgX b = hiA a
 ·have : hiA b = max (mrgX b) (mrgY b) := rfl
  omega
 ·by_cases c2 : mrgY b = hiA a
  ·have : hiA b = max (mrgX b) (mrgY b) := rfl
   omega
  ·rw [sub_ne c1, sub_ne c2] at h3'
   exact h3'
theorem st_self {fr : Int} {a : Int × List Int} (hb : a.2.length = 2) (ha : mrgB fr a = true) : mrgB fr (a.1, a.2.map (subTo (loA a) (hiA a))) = false := by
 cases h : mrgB fr (a.1, a.2.map (subTo (loA a) (hiA a)))
 ·rfl
 ·exfalso
  obtain ⟨-, h2, -⟩ := mrgB_iff.1 h
  obtain ⟨e1, e2⟩ := mrg_ren (g := subTo (loA a) (hiA a)) hb
  rw [e1, e2] at h2
  obtain ⟨-, a2, -⟩ := mrgB_iff.1 ha
  have d1 : loA a = min (mrgX a) (mrgY a) := rfl
  have d2 : hiA a = max (mrgX a) (mrgY a) := rfl
  rcases Int.lt_or_gt_of_ne a2 with c | c
  ·exact h2 (by rw [sub_ne (show mrgX a ≠ hiA a by omega), sub_eq (show mrgY a = hiA a by omega)]; omega)
  ·exact h2 (by rw [sub_ne (show mrgY a ≠ hiA a by omega), sub_eq (show mrgX a = hiA a by omega)]; omega)
theorem count_lt {α : Type} {p q : α → Bool} : ∀ {l : List α}, (∀ b ∈ l, p b = true → q b = true) → (∃ a, a ∈ l ∧ q a = true ∧ p a = false) → l.countP p < l.countP q
 | [], _, ⟨a, ha, _⟩ => by simp at ha
 | b :: r, h, ⟨a, ha, h1, h2⟩ => by
  have hr := fun x hx => h x (List.mem_cons_of_mem b hx)
  have hle : r.countP p ≤ r.countP q := List.countP_mono_left hr
  rw [List.countP_cons, List.countP_cons]
  rcases List.mem_cons.1 ha with rfl | hm
  ·rw [h1, h2]
   simp
   omega
  ·have := count_lt hr ⟨a, hm, h1, h2⟩
   have hb := h b (List.mem_cons_self ..)
   cases hp : p b
   ·simp
    omega
   ·rw [hb hp]
    simp
    omega
theorem cnt_st {fr : Int} {l : Atoms} {a : Int × List Int} (he : eq2 l) (ha : a ∈ l) (hm : mrgB fr a = true) : (stM l a).countP (mrgB fr) < l.countP (mrgB fr) := by
 unfold stM rnL
 rw [List.countP_map]
 exact count_lt (fun b hb h => st_old (he b hb) hm h) ⟨a, ha, hm, st_self (he a ha (mrgB_iff.1 hm).1) hm⟩
theorem eq2_rn {l : Atoms} {g : Int → Int} (h : eq2 l) : eq2 (rnL g l) := fun a ha h1 => by
 obtain ⟨b, hb, rfl⟩ := List.mem_map.1 ha
 show (b.2.map g).length = 2
 rw [List.length_map]
 exact h b hb h1
theorem mrg_stab {fr : Int} : ∀ (n : Nat) (l : Atoms), eq2 l → l.countP (mrgB fr) ≤ n → mrgL fr n l = mrgL fr (n + 1) l
 | 0, l, _, hc => by
  have : l.find? (mrgB fr) = none := by
   rw [List.find?_eq_none]
   exact List.countP_eq_zero.1 (Nat.le_zero.1 hc)
  rw [mrgL_none this, mrgL_none this]
 | n + 1, l, he, hc => by
  cases hf : l.find? (mrgB fr) with
  | none => rw [mrgL_none hf, mrgL_none hf]
  | some a =>
   have h1 := cnt_st he (List.mem_of_find?_eq_some hf) (List.find?_some hf)
   rw [mrgL_some hf, mrgL_some hf]
   exact mrg_stab n (stM l a) (eq2_rn he) (by omega)
theorem mrg_done {fr : Int} {l : Atoms} (h : l.find? (mrgB fr) = none) : mrgF fr l = l := mrgL_none h
theorem mrg_go {fr : Int} {l : Atoms} {a : Int × List Int} (he : eq2 l) (h : l.find? (mrgB fr) = some a) : mrgF fr (stM l a) = mrgF fr l := by
 have ha := List.mem_of_find?_eq_some h
 have hm := List.find?_some h
 have h1 := cnt_st he ha hm
 have h2 := List.countP_le_length (p := mrgB fr) (l := l)
 have h3 : (stM l a).length = l.length := rnL_len
 unfold mrgF
 rw [h3]
 obtain ⟨n, hn⟩ : ∃ n, l.length = n + 1 := ⟨l.length - 1, by have := List.length_pos_of_mem ha; omega⟩
 rw [hn, mrgL_some h]
 exact (mrg_stab n (stM l a) (eq2_rn he) (by omega)).symm
theorem first_find {α : Type} {p : α → Bool} {xs : List α} : (firstI p xs = -1 ∧ xs.find? p = none) ∨ ∃ k, ∃ h : k < xs.length, firstI p xs = (k : Int) ∧ xs.find? p = some xs[k] ∧ p xs[k] = true := by
 unfold firstI
 cases h : xs.findIdx? p with
 | none =>
  rw [List.findIdx?_eq_none_iff] at h
  refine .inl ⟨rfl, ?_⟩
  rw [List.find?_eq_none]
  intro x hx
  simp [h x hx]
 | some k =>
  rw [List.findIdx?_eq_some_iff_getElem] at h
  obtain ⟨h1, h2, h3⟩ := h
  refine .inr ⟨k, h1, rfl, ?_, h2⟩
  rw [List.find?_eq_some_iff_getElem]
  exact ⟨h2, k, h1, rfl, fun j hj => by simpa using h3 j hj⟩
/-- what the loops keep -/
def okL (vars : Int) (l : Atoms) : Prop := ∀ a ∈ l, (∀ p ∈ a.2, 0 ≤ p ∧ p < vars) ∧ a.2.length ≤ 4 ∧ (a.1 = -1 → a.2.length = 2)
theorem okL_eq2 {vars : Int} {l : Atoms} (h : okL vars l) : eq2 l := fun a ha => (h a ha).2.2
theorem ok_rn {vars : Int} {l : Atoms} {g : Int → Int} (h : okL vars l) (hg : ∀ a ∈ l, ∀ p ∈ a.2, 0 ≤ g p ∧ g p < vars) : okL vars (rnL g l) := fun a ha => by
 obtain ⟨b, hb, rfl⟩ := List.mem_map.1 ha
 obtain ⟨_, h2, h3⟩ := h b hb
 refine ⟨fun p hp => ?_, by simpa using h2, fun h4 => by simpa using h3 h4⟩
 obtain ⟨q, hq, rfl⟩ := List.mem_map.1 hp
 exact hg b hb q hq
theorem xy_in {vars : Int} {l : Atoms} (h : okL vars l) {a : Int × List Int} (ha : a ∈ l) (h1 : a.1 = -1) : (0 ≤ mrgX a ∧ mrgX a < vars) ∧ 0 ≤ mrgY a ∧ mrgY a < vars := by
 obtain ⟨h2, _, h4⟩ := h a ha
 obtain ⟨x, y, e⟩ := len_two (h4 h1)
 rw [e] at h2
 have hx := h2 x (by simp)
 have hy := h2 y (by simp)
 simp only [mrgX, mrgY, e]
 exact ⟨hx, hy⟩
theorem sub_in {vars : Int} {l : Atoms} (h : okL vars l) {a : Int × List Int} (ha : a ∈ l) (h1 : a.1 = -1) {p : Int} (hp : 0 ≤ p ∧ p < vars) : 0 ≤ subTo (loA a) (hiA a) p ∧ subTo (loA a) (hiA a) p < vars := by
 obtain ⟨hx, hy⟩ := xy_in h ha h1
 by_cases c : p = hiA a
 ·rw [sub_eq c]
  unfold loA
  omega
 ·rw [sub_ne c]
  exact hp
theorem ok_st {vars : Int} {l : Atoms} (h : okL vars l) {a : Int × List Int} (ha : a ∈ l) (h1 : a.1 = -1) : okL vars (stM l a) := ok_rn h (fun b hb p hp => sub_in h ha h1 ((h b hb).1 p hp))
/-- atoms that say nothing, or have come before -/
def dropB (left : Atoms) (a : Int × List Int) : Bool := ((a.1 == -1) && (mrgX a == mrgY a)) || anyB (fun b => eqB a b) left
def lessS (left : Atoms) (a : Int × List Int) : Atoms := match dropB left a with
 | true => left
 | false => left ++ [a]
def lessL (l : Atoms) (k : Nat) : Atoms := (l.take k).foldl lessS []
theorem less_zero {l : Atoms} : lessL l 0 = [] := by simp [lessL]
theorem less_succ {l : Atoms} {k : Nat} (h : k < l.length) : lessL l (k + 1) = lessS (lessL l k) l[k] := by
 unfold lessL
 rw [List.take_succ_eq_append_getElem h, List.foldl_append]
 rfl
theorem less_yes {left : Atoms} {a : Int × List Int} (h : dropB left a = true) : lessS left a = left := by simp [lessS, h]
theorem less_no {left : Atoms} {a : Int × List Int} (h : dropB left a = false) : lessS left a = left ++ [a] := by simp [lessS, h]
theorem less_mem {l : Atoms} : ∀ k, k ≤ l.length → (∀ b ∈ lessL l k, b ∈ l) ∧ (lessL l k).length ≤ k
 | 0, _ => by rw [less_zero]; simp
 | k + 1, h => by
  obtain ⟨h1, h2⟩ := less_mem (l := l) k (by omega)
  rw [less_succ (show k < l.length by omega)]
  cases hd : dropB (lessL l k) (l[k]'(by omega))
  ·rw [less_no hd]
   refine ⟨fun b hb => ?_, by rw [List.length_append]; simp; omega⟩
   rcases List.mem_append.1 hb with hb | hb
   ·exact h1 b hb
   ·rw [List.mem_singleton.1 hb]
    exact List.getElem_mem _
  ·rw [less_yes hd]
   exact ⟨h1, by omega⟩
/-- does a variable occur? -/
def usB (left : Atoms) (v : Int) : Bool := anyB (fun a => hasI a.2 v) left
def varS (fr : Nat) (left : Atoms) (k : Nat) : List Int := upL 0 fr ++ ((List.range k).map fun i : Nat => ((fr + i : Nat) : Int)).filter (usB left)
theorem var_zero {fr : Nat} {left : Atoms} : varS fr left 0 = upL 0 fr := by simp [varS]
theorem var_yes {fr : Nat} {left : Atoms} {k : Nat} (h : usB left ((fr + k : Nat) : Int) = true) : varS fr left k ++ [((fr + k : Nat) : Int)] = varS fr left (k + 1) := by
 unfold varS
 rw [List.range_succ, List.map_append, List.filter_append, ← List.append_assoc]
 congr 1
 simp only [List.map_cons, List.map_nil, List.filter_cons, h, if_true, List.filter_nil]
theorem var_no {fr : Nat} {left : Atoms} {k : Nat} (h : usB left ((fr + k : Nat) : Int) = false) : varS fr left k = varS fr left (k + 1) := by
 unfold varS
 rw [List.range_succ, List.map_append, List.filter_append, ← List.append_assoc]
 simp only [List.map_cons, List.map_nil, List.filter_cons, h, List.filter_nil]
 simp
theorem var_pre {fr : Nat} {left : Atoms} {k : Nat} : ∀ m, ∃ r, varS fr left (k + m) = varS fr left k ++ r
 | 0 => ⟨[], by simp⟩
 | m + 1 => by
  obtain ⟨r, hr⟩ := var_pre (fr := fr) (left := left) (k := k) m
  cases h : usB left ((fr + (k + m) : Nat) : Int)
  ·exact ⟨r, by rw [← Nat.add_assoc, ← var_no h, hr]⟩
  ·exact ⟨r ++ [((fr + (k + m) : Nat) : Int)], by rw [← Nat.add_assoc, ← var_yes h, hr, List.append_assoc]⟩
theorem var_lt {fr : Nat} {left : Atoms} {k : Nat} : ∀ v ∈ varS fr left k, v < ((fr + k : Nat) : Int) := fun v hv => by
 unfold varS at hv
 rcases List.mem_append.1 hv with h | h
 ·unfold upL at h
  obtain ⟨i, hi, rfl⟩ := List.mem_map.1 h
  simp at hi
  omega
 ·obtain ⟨i, hi, rfl⟩ := List.mem_map.1 (List.mem_filter.1 h).1
  simp at hi
  omega
theorem var_len {fr : Nat} {left : Atoms} {k : Nat} : fr ≤ (varS fr left k).length ∧ (varS fr left k).length ≤ fr + k := by
 unfold varS
 rw [List.length_append, upL_len]
 have := List.length_filter_le (usB left) ((List.range k).map fun i : Nat => ((fr + i : Nat) : Int))
 rw [List.length_map, List.length_range] at this
 omega
/-- the new number of a variable -/
def numTo (fr : Nat) (left : Atoms) (v : Int) : Int := if v < fr then v else ((varS fr left (v - fr).toNat).length : Int)
theorem num_lt {fr : Nat} {left : Atoms} {v : Int} (h : v < fr) : numTo fr left v = v := if_pos h
theorem num_ge {fr : Nat} {left : Atoms} {k : Nat} : numTo fr left ((fr + k : Nat) : Int) = ((varS fr left k).length : Int) := by
 unfold numTo
 rw [if_neg (by omega), show (((fr + k : Nat) : Int) - (fr : Int)).toNat = k by omega]
theorem var_first {fr K : Nat} {left : Atoms} {v : Int} (h0 : 0 ≤ v) (h1 : v < ((fr + K : Nat) : Int)) (hu : usB left v = true) : firstI (fun a => v == a) (varS fr left K) = numTo fr left v := by
 rcases ilt v fr with h | h
 ·obtain ⟨k, rfl⟩ : ∃ k : Nat, v = k := ⟨v.toNat, by omega⟩
  rw [num_lt h]
  have hk : k < (varS fr left K).length := by have := (var_len (fr := fr) (left := left) (k := K)).1; omega
  have hku : k < (upL 0 fr).length := by rw [upL_len]; omega
  refine firstI_at hk (fun x hx => ?_) ?_
  ·unfold varS at hx
   rw [List.take_append_of_le_length (by omega)] at hx
   obtain ⟨i, hi, rfl⟩ := List.mem_iff_getElem.1 hx
   rw [List.getElem_take]
   have hi2 : i < k := by rw [List.length_take] at hi; omega
   have : (upL 0 fr)[i]'(by omega) = (i : Int) := by simp [upL]
   rw [this]
   have : (k : Int) ≠ i := by omega
   simpa using this
  ·have : (varS fr left K)[k] = (k : Int) := by
    have h2 : (upL 0 fr ++ ((List.range K).map fun i : Nat => ((fr + i : Nat) : Int)).filter (usB left))[k]'hk = (upL 0 fr)[k] := List.getElem_append_left hku
    refine Eq.trans h2 ?_
    simp [upL]
   rw [this]
   simp
 ·obtain ⟨k, rfl⟩ : ∃ k : Nat, v = ((fr + k : Nat) : Int) := ⟨(v - fr).toNat, by omega⟩
  rw [num_ge]
  obtain ⟨r, hr⟩ := var_pre (fr := fr) (left := left) (k := k + 1) (K - (k + 1))
  rw [show k + 1 + (K - (k + 1)) = K by omega, ← var_yes hu] at hr
  rw [hr]
  refine firstI_at (k := (varS fr left k).length) (by simp) (fun x hx => ?_) ?_
  ·rw [List.append_assoc, List.take_append_of_le_length (Nat.le_refl _), List.take_length] at hx
   have := var_lt x hx
   have h3 : ((fr + k : Nat) : Int) ≠ x := by omega
   simpa using h3
  ·simp
theorem rn_congr {l : Atoms} {g g' : Int → Int} (h : ∀ a ∈ l, ∀ p ∈ a.2, g p = g' p) : rnL g l = rnL g' l := by
 unfold rnL
 refine List.map_congr_left fun a ha => ?_
 rw [List.map_congr_left (h a ha)]
theorem us_yes {left : Atoms} {a : Int × List Int} {p : Int} (ha : a ∈ left) (hp : p ∈ a.2) : usB left p = true := by
 unfold usB anyB hasI anyB
 rw [List.any_eq_true]
 refine ⟨a, ha, ?_⟩
 rw [List.any_eq_true]
 exact ⟨p, hp, by simp⟩
/-- what is left of the atoms -/
def lefL (f : Int × Int × Atoms) : Atoms := lessL (mrgF f.1 f.2.2) (mrgF f.1 f.2.2).length
def simF (f : Int × Int × Atoms) : Int × Int × Atoms := (f.1, ((varS f.1.toNat (lefL f) (f.2.1 - f.1).toNat).length : Int), rnL (numTo f.1.toNat (lefL f)) (lefL f))
theorem mrg_keeps {fr vars : Int} : ∀ (n : Nat) {l : Atoms}, okL vars l → okL vars (mrgL fr n l) ∧ (mrgL fr n l).length = l.length
 | 0, _, h => ⟨h, rfl⟩
 | n + 1, l, h => by
  cases hf : l.find? (mrgB fr) with
  | none => rw [mrgL_none hf]; exact ⟨h, rfl⟩
  | some a =>
   rw [mrgL_some hf]
   obtain ⟨h1, h2⟩ := mrg_keeps n (ok_st h (List.mem_of_find?_eq_some hf) (mrgB_iff.1 (List.find?_some hf)).1)
   exact ⟨h1, h2.trans rnL_len⟩
theorem frm_okL {t : Int × List (Int × List (List Int))} {f : Int × Int × Atoms} (h : frmOk t f) : okL f.2.1 f.2.2 := fun a ha => by
 obtain ⟨-, -, -, -, h5⟩ := frm_bd (tb_true h)
 obtain ⟨h6, h7⟩ := h5 a ha
 refine ⟨h6, h7, fun h1 => ?_⟩
 have h8 := (h.2.2 a ha).2.1
 rw [h1] at h8
 have h9 : arOf t (-1) = 2 := by simp [arOf]
 omega
theorem lef_ok {t : Int × List (Int × List (List Int))} {f : Int × Int × Atoms} (h : frmOk t f) : okL f.2.1 (lefL f) ∧ (lefL f).length ≤ 16 := by
 obtain ⟨h1, h2⟩ := mrg_keeps (fr := f.1) f.2.2.length (frm_okL h)
 obtain ⟨h3, h4⟩ := less_mem (l := mrgF f.1 f.2.2) _ (Nat.le_refl _)
 obtain ⟨-, -, -, h5, -⟩ := frm_bd (tb_true h)
 refine ⟨fun a ha => h1 a (h3 a ha), ?_⟩
 have h6 : (mrgF f.1 f.2.2).length = f.2.2.length := h2
 unfold lefL
 omega
section
variable (t : Int × List (Int × List (List Int))) (f : Int × Int × Atoms)
noncomputable def simV : Int × Int × Atoms := match tb (frmOk t f) with
 | true => simF f
 | false => frm0
noncomputable def simC : Int := match tb (frmOk t f) with
 | true => 0
 | false => 1
end
section
variable {t : Int × List (Int × List (List Int))} {f : Int × Int × Atoms}
theorem sim_no (h : tb (frmOk t f) = false) : simV t f = frm0 ∧ simC t f = 1 := by simp [simV, simC, h]
theorem sim_yes (h : tb (frmOk t f) = true) : simV t f = simF f ∧ simC t f = 0 := by simp [simV, simC, h]
end
end Go.Proofs.YtnhdohednekhjaaGreatDoor
