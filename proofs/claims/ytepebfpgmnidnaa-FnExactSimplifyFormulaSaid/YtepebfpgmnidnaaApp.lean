/-
  The law of an append of a whole row: 'append(a, b...)', where b is new data. No program is named here.
-/
import Derived.Test.YtepebfpgmnidnaaMark
namespace Go.Proofs.Ytepebfpgmnidnaa
open Go.RowKit
theorem run_load_zero {P : Program} (w : World) (a : Addr) : (loadCells a 0).run P w = .ok #[] w := by
  simp [loadCells, loadCellsFrom]
theorem run_append_zero {P : Program} (w : World) (base : Nat) (t ty e : TypeId) {sz bytes : Nat} (hT : ElT P t e sz bytes) (v : Value) (n : Nat) (xs : List Value) (hown : w.ownsRow base e sz v n xs) (ad : Option Addr) (c : Nat) :
    (Builtin.append_ #[t, t] ty #[v, .slice ad 0 c]).run P w = .ok v w := by
  obtain ⟨i, z, ht, hi, hz, rfl, rfl, hzs, hp⟩ := hT
  rcases hown.2 with ⟨rfl, rfl⟩ | ⟨g, cap, cur, rfl, _, _, hnc, _⟩
  · cases ad <;> simp [Builtin.append_, run_underlying ht, sizeOf, typeInfo, hi, Builtin.lenOf, Builtin.firstCells, run_load_zero]
  · cases ad <;> simp [Builtin.append_, run_underlying ht, sizeOf, typeInfo, hi, Builtin.lenOf, Builtin.firstCells, hnc, storeCells, run_load_zero]
theorem getD_slot {n i q sz : Nat} (h : i < n) (hq : q < sz) : i * sz + q < n * sz := by
  have h10 : (i + 1) * sz ≤ n * sz := Nat.mul_le_mul_right _ h
  rw [Nat.add_mul] at h10
  omega
theorem run_pushFx {P : Program} {α : Type} {E : Ty α} (w : World) (t ty e : TypeId) {bytes : Nat} (hT : ElT P t e E.sz bytes)
    {base top : Nat} {v : Value} {ys : List α} (hB : Bl E e base top w v ys) {lo : Nat} {u : Value} {xs : List α} {fpu : List Nat} (hu0 : (Ty.slice E).rd w [u] xs fpu) (hnd : fpu.Nodup) (hbs : ∀ k ∈ fpu, lo ≤ k ∧ (k < base ∨ top ≤ k)) (hun : Unf w fpu) (hlo : lo ≤ base)
    (hlen : ys.length + xs.length ≤ 1000000000) (hby : bytes ≤ 100000) (hbt : base ≤ top) (htop : top ≤ w.heap.size) :
    ∃ v' w', (Builtin.append_ #[t, t] ty #[v, u]).run P w = .ok v' w' ∧ Bl E e lo w'.heap.size w' v' (ys ++ xs) ∧ w.grownBy w' v.ownBlock ∧ (v'.ownBlock = v.ownBlock ∨ v'.ownBlock = some w.heap.size) := by
  obtain ⟨L, fps, g1, g2, g3, g4, g5, g6⟩ := hB
  obtain ⟨ad, cap, hv, k1, k2, k3⟩ := hu0
  have g7 : ∀ g, v.ownBlock = some g → base ≤ g := fun g hg => (g1.lt g hg).1
  have g1' : w.ownsRow lo e E.sz v ys.length L := by
    refine ⟨g1.1, ?_⟩
    rcases g1.2 with h | ⟨g', cap', cur, hg', hbg, hh, r⟩
    · exact .inl h
    · exact .inr ⟨g', cap', cur, hg', Nat.le_trans hlo hbg, hh, r⟩
  obtain rfl : u = _ := by simpa using hv
  rcases k3 with ⟨h0, rfl⟩ | ⟨h0, b, o, fpx, rfl, hb, rfl, hr⟩
  · have hx : xs = [] := List.eq_nil_of_length_eq_zero h0
    subst hx
    exact ⟨v, w, run_append_zero w base t ty e hT v ys.length L g1 ad cap, by rw [List.append_nil]; exact ⟨L, fps, g1', g2, g3, fun b hb => ⟨Nat.le_trans hlo (g4 b hb).1, Nat.lt_of_lt_of_le (g4 b hb).2.1 htop, (g4 b hb).2.2⟩, fun g hg => Nat.lt_of_lt_of_le (g5 g hg) htop, g6⟩, ⟨rfl, rfl, rfl, Nat.le_refl _, fun _ _ _ => rfl⟩, .inl rfl⟩
  · obtain ⟨i, z, ht, hi, hz, hsz, hbt', hzs, hp⟩ := id hT
    have hlen' : (ys.length + xs.length) * bytes ≤ 140737488355328 := Nat.le_trans (Nat.mul_le_mul hlen hby) (by decide)
    have hbase : base ≤ w.heap.size := Nat.le_trans hbt htop
    -- the cells of the row
    have hcell : ∀ j, j < xs.length * E.sz → ∃ u, w.cell? ⟨b, o + j, none⟩ = some u ∧ u.oneCell' = true := by
      intro j hj
      have hi' : j / E.sz < xs.length := (Nat.div_lt_iff_lt_mul hp).2 hj
      have hq : j % E.sz < E.sz := Nat.mod_lt _ hp
      obtain ⟨cs, h1, h2⟩ := hr (j / E.sz) hi'
      have hcl := E.len h1
      have := h2 (j % E.sz) (by omega)
      rw [show o + j / E.sz * E.sz + j % E.sz = o + j by rw [Nat.add_assoc, Nat.div_add_mod']] at this
      exact ⟨_, this, E.one h1 _ (List.getElem_mem _)⟩
    let news : List Value := (List.range (xs.length * E.sz)).map fun j => (w.cell? ⟨b, o + j, none⟩).getD undef
    have hnl : news.length = xs.length * E.sz := by simp [news]
    have hng : ∀ j (h : j < xs.length * E.sz) u, w.cell? ⟨b, o + j, none⟩ = some u → news[j]? = some u := by
      intro j h u hc
      simp only [news, List.getElem?_map, List.getElem?_range h, Option.map_some, hc, Option.getD_some]
    have hnews : ∀ (j : Nat) (u : Value), news[j]? = some u → w.cell? ((⟨b, o, none⟩ : Addr).add j) = some u := by
      intro j u hj
      have hjl : j < xs.length * E.sz := by
        rcases Nat.lt_or_ge j news.length with h | h
        · omega
        · rw [List.getElem?_eq_none h] at hj; cases hj
      obtain ⟨u', h1, _⟩ := hcell j hjl
      have h2 := hng j hjl u' h1
      rw [hj] at h2
      simp only [Option.some.injEq] at h2
      subst h2
      by_cases hj0 : j = 0
      · subst hj0; simpa [Addr.add] using h1
      · simpa [Addr.add, hj0] using h1
    have hone : ∀ u ∈ news, u.oneCell' = true := by
      intro u hu
      obtain ⟨j, hj, rfl⟩ := List.mem_map.1 hu
      obtain ⟨u', h1, h2⟩ := hcell j (by simpa using hj)
      rw [h1]; exact h2
    obtain ⟨v', w', hr', h2, h3, h4⟩ := run_append_own (P := P) w lo t ty e i z E.sz bytes ht hi hz hsz hbt' hzs hp v ys.length L g1' ⟨b, o, none⟩ xs.length cap news hnl hnews hone (by unfold maxLen; omega) hlen' (Nat.le_trans hlo hbase)
    have hblk := run_push_block w lo t ty e hT v ys.length L g1' ⟨b, o, none⟩ xs.length cap news hnl hnews hone (by unfold maxLen; omega) hlen' h0 v' w' hr'
    have hS : ∀ k, v.ownBlock ≠ some k → k < w.heap.size → w'.heap[k]? = w.heap[k]? := fun k hk hlt => h3.block k hlt (fun he => hk he.symm)
    have hlt1 : ∀ b ∈ flat fps ys.length, b < w.heap.size := fun b hb => Nat.lt_of_lt_of_le (g4 b hb).2.1 htop
    have hxlt : ∀ k ∈ flat fpx xs.length, k < w.heap.size ∧ lo ≤ k ∧ (k < base ∨ top ≤ k) := fun k hk => by
      obtain ⟨i', hi', hk'⟩ := List.mem_flatMap.1 hk
      obtain ⟨cs, h1, _⟩ := hr i' (by simpa using hi')
      exact ⟨E.lt h1 k hk', hbs k (List.mem_cons_of_mem _ hk)⟩
    have hne : ∀ k ∈ flat fpx xs.length, v.ownBlock ≠ some k := fun k hk he => by have := g5 k he; have := g7 k he; have := (hxlt k hk).2.2; omega
    have hS1 : Same (flat fps ys.length) w w' := fun k hk => hS k (g4 k hk).2.2 (hlt1 k hk)
    have hS2 : Same (flat fpx xs.length) w w' := fun k hk => hS k (hne k hk) (hxlt k hk).1
    have hndx : (flat fpx xs.length).Nodup := (List.nodup_cons.1 hnd).2
    have hLl : L.length = ys.length * E.sz := g1.1
    refine ⟨v', w', hr', ⟨L ++ news, fun i => if i < ys.length then fps i else fpx (i - ys.length), by simpa using h2, fun i hi => ?_, ?_⟩, h3, hblk⟩
    · by_cases hil : i < ys.length
      · obtain ⟨cs', h7, h8⟩ := g2 i hil
        refine ⟨cs', ?_, fun j hj => ?_⟩
        · rw [List.getElem_append_left hil]
          simp only [if_pos hil]
          exact E.same h7 (fun k hk => hS1 k (List.mem_flatMap.2 ⟨i, by simpa using hil, hk⟩))
        · have hcl := E.len h7
          rw [List.getElem?_append_left (by rw [hLl]; exact getD_slot hil (by omega))]
          exact h8 j hj
      · have hi2 : i - ys.length < xs.length := by rw [List.length_append] at hi; omega
        obtain ⟨cs', h7, h8⟩ := hr (i - ys.length) hi2
        refine ⟨cs', ?_, fun j hj => ?_⟩
        · rw [List.getElem_append_right (by omega)]
          simp only [if_neg hil]
          exact E.same h7 (fun k hk => hS2 k (List.mem_flatMap.2 ⟨_, by simpa using hi2, hk⟩))
        · have hcl := E.len h7
          have hge : ys.length * E.sz ≤ i * E.sz := Nat.mul_le_mul_right _ (by omega)
          rw [List.getElem?_append_right (by omega), hLl]
          have he : i * E.sz + j - ys.length * E.sz = (i - ys.length) * E.sz + j := by rw [Nat.sub_mul]; omega
          rw [he]
          exact hng _ (getD_slot hi2 (by omega)) _ (by rw [← Nat.add_assoc]; exact h8 j hj)
    · have hflat : flat (fun i => if i < ys.length then fps i else fpx (i - ys.length)) (ys ++ xs).length = flat fps ys.length ++ flat fpx xs.length := by
        rw [List.length_append]
        unfold flat
        rw [List.range_add, List.flatMap_append]
        congr 1
        · refine congrArg List.flatten (List.map_congr_left fun i hi => ?_)
          simp at hi
          rw [if_pos hi]
        · rw [List.flatMap_map]
          refine congrArg List.flatten (List.map_congr_left fun i hi => ?_)
          rw [if_neg (by omega), Nat.add_sub_cancel_left]
      rw [hflat]
      have hsz' := h3.size
      refine ⟨List.nodup_append.2 ⟨g3, hndx, fun a ha b hb he => by subst he; have := (g4 a ha).2.1; have := (g4 a ha).1; have := (hxlt a hb).2.2; omega⟩, fun k hk => ?_, fun g hg => (h2.lt g hg).2, fun k hk => ?_⟩
      · rcases List.mem_append.1 hk with hk | hk
        · refine ⟨Nat.le_trans hlo (g4 k hk).1, by have := hlt1 k hk; omega, ?_⟩
          rcases hblk with e1 | e1 <;> rw [e1]
          · exact (g4 k hk).2.2
          · intro he; have := hlt1 k hk; simp at he; omega
        · refine ⟨(hxlt k hk).2.1, by have := (hxlt k hk).1; omega, ?_⟩
          rcases hblk with e1 | e1 <;> rw [e1]
          · exact hne k hk
          · intro he; have := (hxlt k hk).1; simp at he; omega
      · rcases List.mem_append.1 hk with hk | hk
        · exact g6.same hS1 k hk
        · exact (Unf.same (fun b hb => hun b (List.mem_cons_of_mem _ hb)) hS2) k hk
theorem run_pushAll {P : Program} {α : Type} {E : Ty α} (w : World) (t ty e : TypeId) {bytes : Nat} (hT : ElT P t e E.sz bytes)
    {base top : Nat} {v : Value} {ys : List α} (hB : Bl E e base top w v ys) {u : Value} {xs : List α} (hu : (Ty.slice E).Fr top w [u] xs)
    (hlen : ys.length + xs.length ≤ 1000000000) (hby : bytes ≤ 100000) (hbt : base ≤ top) (htop : top ≤ w.heap.size) :
    ∃ v' w', (Builtin.append_ #[t, t] ty #[v, u]).run P w = .ok v' w' ∧ Bl E e base w'.heap.size w' v' (ys ++ xs) ∧ w.grownBy w' v.ownBlock ∧ (v'.ownBlock = v.ownBlock ∨ v'.ownBlock = some w.heap.size) :=
  let ⟨_, h1, h2, h3, h4⟩ := hu
  run_pushFx w t ty e hT hB h1 h2 (fun k hk => ⟨Nat.le_trans hbt (h3 k hk), .inr (h3 k hk)⟩) h4 (Nat.le_refl _) hlen hby hbt htop
theorem wpList_pushAll {P : Program} {α : Type} {E : Ty α} (w : World) {ops : Array Oper} {rest : List Oper} {o : Oper} {a : Act} {Q : Exit → Act → World → Prop} (hgd : o.guard = none) (s x : Operand) (t e : TypeId) {bytes : Nat}
    (ho : o.op = .call { callee := .builtin .append, args := #[s, x], argTypes := #[t, t] }) (hT : ElT P t e E.sz bytes)
    {base top : Nat} {v : Value} {ys : List α} (hs : a.eval s = v) (hB : Bl E e base top w v ys)
    {u : Value} {xs : List α} (hx : a.eval x = u) (hy : (Ty.slice E).Fr top w [u] xs)
    (hlen : ys.length + xs.length ≤ 1000000000) (hby : bytes ≤ 100000) (hbt : base ≤ top) (htop : top ≤ w.heap.size)
    (h : ∀ v' w', Bl E e base w'.heap.size w' v' (ys ++ xs) → w.grownBy w' v.ownBlock → (v'.ownBlock = v.ownBlock ∨ v'.ownBlock = some w.heap.size) → wpList P ops Q rest (a.put o.dst v') w') : wpList P ops Q (o :: rest) a w := by
  refine wpList_plain hgd fun K hK => ?_
  obtain ⟨v', w', hr, h2, h3, h4⟩ := run_pushAll (P := P) w t o.type e hT hB hy hlen hby hbt htop
  unfold Oper.wp execOp
  simp only [ho, resolve, invoke, builtin, Sem.run_bind, Sem.run_pure, Result.andThen_ok, List.map_toArray, List.map_cons, List.map_nil, hs, hx, hr]
  exact hK _ _ (h v' w' h2 h3 h4)
theorem step_pushAll {P : Program} {K : Act → World → Prop} {Ee : Prop} {α : Type} {E : Ty α} (w : World) {ops : Array Oper} {o : Oper} {a : Act} {Q : Exit → Act → World → Prop} (hgd : o.guard = none) (s x : Operand) (t e : TypeId) {bytes : Nat}
    (ho : o.op = .call { callee := .builtin .append, args := #[s, x], argTypes := #[t, t] }) (hT : ElT P t e E.sz bytes)
    {base top : Nat} {v : Value} {ys : List α} (hs : a.eval s = v) (hB : Bl E e base top w v ys)
    {u : Value} {xs : List α} (hx : a.eval x = u) (hy : (Ty.slice E).Fr top w [u] xs)
    (hlen : ys.length + xs.length ≤ 1000000000) (hby : bytes ≤ 100000) (hbt : base ≤ top) (htop : top ≤ w.heap.size)
    (h : ∀ v' w', Bl E e base w'.heap.size w' v' (ys ++ xs) → w.grownBy w' v.ownBlock → (v'.ownBlock = v.ownBlock ∨ v'.ownBlock = some w.heap.size) → K (a.put o.dst v') w') : if Region.wanted o (yielded ops a.tmps) = true then Oper.wp P o a w K Q else Ee := by
  rw [if_pos (by simp [Region.wanted, hgd])]
  obtain ⟨v', w', hr, h2, h3, h4⟩ := run_pushAll (P := P) w t o.type e hT hB hy hlen hby hbt htop
  unfold Oper.wp execOp
  simp only [ho, resolve, invoke, builtin, Sem.run_bind, Sem.run_pure, Result.andThen_ok, List.map_toArray, List.map_cons, List.map_nil, hs, hx, hr]
  exact h v' w' h2 h3 h4
theorem step_pushOld {P : Program} {K : Act → World → Prop} {Ee : Prop} {α : Type} {E : Ty α} (w : World) {ops : Array Oper} {o : Oper} {a : Act} {Q : Exit → Act → World → Prop} (hgd : o.guard = none) (s x : Operand) (t e : TypeId) {bytes : Nat}
    (ho : o.op = .call { callee := .builtin .append, args := #[s, x], argTypes := #[t, t] }) (hT : ElT P t e E.sz bytes)
    {base top lo : Nat} {v : Value} {ys : List α} (hs : a.eval s = v) (hB : Bl E e base top w v ys)
    {u : Value} {xs : List α} (hx : a.eval x = u) (hy : (Ty.slice E).Fx lo base w [u] xs) (hlo : lo ≤ base)
    (hlen : ys.length + xs.length ≤ 1000000000) (hby : bytes ≤ 100000) (hbt : base ≤ top) (htop : top ≤ w.heap.size)
    (h : ∀ v' w', Bl E e lo w'.heap.size w' v' (ys ++ xs) → w.grownBy w' v.ownBlock → (v'.ownBlock = v.ownBlock ∨ v'.ownBlock = some w.heap.size) → K (a.put o.dst v') w') : if Region.wanted o (yielded ops a.tmps) = true then Oper.wp P o a w K Q else Ee := by
  rw [if_pos (by simp [Region.wanted, hgd])]
  obtain ⟨fp, k1, k2, k3, k4⟩ := hy
  obtain ⟨v', w', hr, h2, h3, h4⟩ := run_pushFx (P := P) w t o.type e hT hB k1 k2 (fun k hk => ⟨(k3 k hk).1, .inl (k3 k hk).2⟩) k4 hlo hlen hby hbt htop
  unfold Oper.wp execOp
  simp only [ho, resolve, invoke, builtin, Sem.run_bind, Sem.run_pure, Result.andThen_ok, List.map_toArray, List.map_cons, List.map_nil, hs, hx, hr]
  exact h v' w' h2 h3 h4
end Go.Proofs.Ytepebfpgmnidnaa
