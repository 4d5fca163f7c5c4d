/-
  Slices of the call's own: built by append or by make and stores; what they read as, in which blocks; the law of an append in these words. No program is named here.
-/
import Derived.Test.YtepebfpgmnidnaaBase
namespace Go.Proofs.Ytepebfpgmnidnaa
open Go.RowKit

def Unf (w : World) (fp : List Nat) : Prop := ∀ b ∈ fp, ∀ o, w.frozen? ⟨b, o, none⟩ = false
theorem Unf.same {w w' : World} {fp : List Nat} (h : Unf w fp) (hs : Same fp w w') : Unf w' fp := fun b hb o => by
  rw [World.frozen?_of_block (w := w) (a := ⟨b, o, none⟩) (hs b hb)]; exact h b hb o

/-- read in blocks from base on, each once, none of them frozen: new memory that nothing else shares -/
def Ty.Fr {α : Type} (E : Ty α) (base : Nat) (w : World) (cs : List Value) (x : α) : Prop := ∃ fp, E.rd w cs x fp ∧ fp.Nodup ∧ (∀ b ∈ fp, base ≤ b) ∧ Unf w fp
theorem Ty.Fr.rd {α : Type} {E : Ty α} {base : Nat} {w : World} {cs : List Value} {x : α} (h : E.Fr base w cs x) : E.Rd w cs x := let ⟨fp, h, _⟩ := h; ⟨fp, h⟩
theorem Ty.Fr.mono {α : Type} {E : Ty α} {base base' : Nat} {w : World} {cs : List Value} {x : α} (h : E.Fr base w cs x) (hb : base' ≤ base) : E.Fr base' w cs x :=
  let ⟨fp, h1, h2, h3, h4⟩ := h; ⟨fp, h1, h2, fun b hb' => Nat.le_trans hb (h3 b hb'), h4⟩
theorem Ty.Fr.below {α : Type} {E : Ty α} {base : Nat} {w w' : World} {cs : List Value} {x : α} (h : E.Fr base w cs x) (hb : Below w.heap.size w w') : E.Fr base w' cs x :=
  let ⟨fp, h1, h2, h3, h4⟩ := h
  have hs : Same fp w w' := Same.below hb (E.lt h1)
  ⟨fp, E.same h1 hs, h2, h3, h4.same hs⟩
theorem fr_int {base : Nat} {w : World} {n : Int} (h : I64 n) : Ty.int.Fr base w [.int .i64 n] n := ⟨[], ⟨rfl, h, rfl⟩, List.nodup_nil, by simp, fun b hb => by cases hb⟩
theorem fr_bool {base : Nat} {w : World} {n : Bool} : Ty.bool.Fr base w [.bool n] n := ⟨[], ⟨rfl, rfl⟩, List.nodup_nil, by simp, fun b hb => by cases hb⟩
theorem fr_cons {α : Type} {E : Ty α} {base : Nat} {w : World} {cs : List Value} {n : Int} {x : α} (h0 : I64 n) (h : E.Fr base w cs x) : (Ty.cons E).Fr base w (.int .i64 n :: cs) (n, x) :=
  let ⟨fp, h1, h2⟩ := h; ⟨fp, ⟨cs, rfl, h0, h1⟩, h2⟩
theorem fr_nil {α : Type} {E : Ty α} {base : Nat} {w : World} {ad : Option Addr} {cap : Nat} : (Ty.slice E).Fr base w [.slice ad 0 cap] [] :=
  ⟨[], ⟨ad, cap, rfl, Nat.zero_le _, Nat.zero_le _, .inl ⟨rfl, rfl⟩⟩, List.nodup_nil, by simp, fun b hb => by cases hb⟩

def els {α : Type} (E : Ty α) (w : World) (L : List Value) (ys : List α) (fps : Nat → List Nat) : Prop :=
  ∀ i (h : i < ys.length), ∃ cs, E.rd w cs ys[i] (fps i) ∧ ∀ j (hj : j < cs.length), L[i * E.sz + j]? = some cs[j]

abbrev flat (fps : Nat → List Nat) (n : Nat) : List Nat := (List.range n).flatMap fps

/-- a slice of the call's own that grows by append: its elements read as ys; every block lies in [base, top) -/
def Bl {α : Type} (E : Ty α) (e base top : Nat) (w : World) (v : Value) (ys : List α) : Prop :=
  ∃ L fps, w.ownsRow base e E.sz v ys.length L ∧ els E w L ys fps ∧ (flat fps ys.length).Nodup ∧ (∀ b ∈ flat fps ys.length, base ≤ b ∧ b < top ∧ v.ownBlock ≠ some b) ∧ (∀ g, v.ownBlock = some g → g < top) ∧ Unf w (flat fps ys.length)

section
variable {α : Type} {E : Ty α} {e base top : Nat} {w w' : World} {v : Value} {ys : List α}

theorem Bl.nil : Bl E e base top w (.slice none 0 0) [] :=
  ⟨[], fun _ => [], World.ownsRow_nil w base e E.sz, fun i h => by simp at h, by simp [flat], by simp [flat], by simp [Value.ownBlock], fun b hb => by simp [flat] at hb⟩

theorem Bl.lit0 (hb : base ≤ w.heap.size) : Bl E e base (w.heap.size + 1) (w.alloc (.cells #[] e)) (.slice (some ⟨w.heap.size, 0, none⟩) 0 0) [] :=
  ⟨[], fun _ => [], World.ownsRow_lit w #[] 0 hb (Nat.zero_le _) (by simp), fun i h => by simp at h, by simp [flat], by simp [flat], by simp [Value.ownBlock], fun b hb => by simp [flat] at hb⟩

theorem Bl.mono {top' : Nat} (h : Bl E e base top w v ys) (ht : top ≤ top') : Bl E e base top' w v ys :=
  let ⟨L, fps, h1, h2, h3, h4, h5, h6⟩ := h
  ⟨L, fps, h1, h2, h3, fun b hb => ⟨(h4 b hb).1, Nat.lt_of_lt_of_le (h4 b hb).2.1 ht, (h4 b hb).2.2⟩, fun g hg => Nat.lt_of_lt_of_le (h5 g hg) ht, h6⟩

/-- all its blocks are as they were -/
theorem Bl.sameB (h : Bl E e base top w v ys) (hs : ∀ k, base ≤ k → k < top → w'.heap[k]? = w.heap[k]?) : Bl E e base top w' v ys := by
  obtain ⟨L, fps, h1, h2, h3, h4, h5, h6⟩ := h
  have hS : Same (flat fps ys.length) w w' := fun k hk => hs k (h4 k hk).1 (h4 k hk).2.1
  refine ⟨L, fps, ⟨h1.1, ?_⟩, fun i hi => ?_, h3, h4, h5, h6.same hS⟩
  · rcases h1.2 with h | ⟨g, cap, cur, rfl, hg, hh, r⟩
    · exact .inl h
    · exact .inr ⟨g, cap, cur, rfl, hg, by rw [hs g hg (h5 g rfl)]; exact hh, r⟩
  · obtain ⟨cs, h7, h8⟩ := h2 i hi
    exact ⟨cs, E.same h7 (fun k hk => hS k (List.mem_flatMap.2 ⟨i, by simpa using hi, hk⟩)), h8⟩
theorem Bl.below {B : Nat} (h : Bl E e base top w v ys) (hb : Below B w w') (ht : top ≤ B) : Bl E e base top w' v ys :=
  h.sameB (fun k _ hk => hb.block k (Nat.lt_of_lt_of_le hk ht))

theorem Bl.fr (h : Bl E e base top w v ys) (hl : ys.length ≤ capMax) : (Ty.slice E).Fr base w [v] ys := by
  obtain ⟨L, fps, h1, h2, h3, h4, h5, h6⟩ := h
  rcases h1.2 with ⟨rfl, h0⟩ | ⟨g, cap, cur, rfl, hg, hh, hn, hc, hcs, hL⟩
  · obtain rfl : ys = [] := List.eq_nil_of_length_eq_zero h0
    exact fr_nil
  · rcases Nat.eq_zero_or_pos ys.length with h0 | h0
    · rw [h0]
      obtain rfl : ys = [] := List.eq_nil_of_length_eq_zero h0
      exact fr_nil
    · have hgf : w.frozen? ⟨g, 0, none⟩ = false := by simp [World.frozen?, hh]
      refine ⟨g :: flat fps ys.length, ⟨some ⟨g, 0, none⟩, cap, rfl, hn, hl, .inr ⟨h0, g, 0, fps, rfl, lt_of_block hh, rfl, fun i hi => ?_⟩⟩, List.nodup_cons.2 ⟨fun hm => (h4 g hm).2.2 rfl, h3⟩, ?_, ?_⟩
      · obtain ⟨cs, h7, h8⟩ := h2 i hi
        refine ⟨cs, h7, fun j hj => ?_⟩
        have h9 := h8 j hj
        rw [Nat.zero_add]
        have hlt : i * E.sz + j < ys.length * E.sz := by
          have := E.len h7
          have h10 : (i + 1) * E.sz ≤ ys.length * E.sz := Nat.mul_le_mul_right _ hi
          rw [Nat.add_mul] at h10
          omega
        rw [World.ownsRow.cellAt h1 _ hlt, h9]
      · intro b hb
        rcases List.mem_cons.1 hb with rfl | hb
        · exact hg
        · exact (h4 b hb).1
      · intro b hb o
        rcases List.mem_cons.1 hb with rfl | hb
        · exact World.ownsRow.frozenAt h1 o
        · exact h6 b hb o
end

/-- what an append asks of the program's table -/
def ElT (P : Program) (t e sz bytes : Nat) : Prop := ∃ i z, P.underlying t = some (.slice e) ∧ P.info? e = some i ∧ i.zero = some z ∧ i.size = sz ∧ i.bytes = bytes ∧ z.cells.size = sz ∧ 0 < sz
theorem ElT.mk {P : Program} {t e sz bytes : Nat} {z : Value} (ht : P.underlying t = some (.slice e)) (h : (P.info? e).map (fun i => (i.zero, i.size, i.bytes)) = some (some z, sz, bytes)) (hz : z.cells.size = sz) (hp : 0 < sz) : ElT P t e sz bytes :=
  let ⟨i, h1, h2, h3, h4⟩ := info_parts h; ⟨i, z, ht, h1, h2, h3, h4, hz, hp⟩

theorem run_push_block {P : Program} (w : World) (base t ty e : Nat) {sz bytes : Nat} (hT : ElT P t e sz bytes) (v : Value) (n : Nat) (xs : List Value) (hown : w.ownsRow base e sz v n xs)
    (a : Addr) (m c : Nat) (news : List Value) (hl : news.length = m * sz) (hnews : ∀ j u, news[j]? = some u → w.cell? (a.add j) = some u) (h1 : ∀ u ∈ news, u.oneCell' = true)
    (h63 : n + m ≤ maxLen) (hbytes : (n + m) * bytes ≤ 140737488355328) (hm : 0 < m) (v' : Value) (w' : World)
    (hr : (Builtin.append_ #[t, t] ty #[v, .slice (some a) m c]).run P w = .ok v' w') : v'.ownBlock = v.ownBlock ∨ v'.ownBlock = some w.heap.size := by
  obtain ⟨i, z, ht, hi, hz, rfl, rfl, hzs, hp⟩ := hT
  have hsmall : n + m ≤ 9223372036854775807 := by simp only [maxLen] at h63; omega
  rcases hown.2 with ⟨rfl, rfl⟩ | ⟨g, cap, cur, rfl, hbg, hg, hnc, hcm, hcs, htake⟩
  · rw [run_append_nil (P := P) w t ty e i z ht hi hz a m c news hl hnews hm (by omega) (by have hb := hbytes; simp only [Nat.zero_add] at hb; omega)] at hr
    simp only [Result.ok.injEq] at hr
    rw [← hr.1]
    exact .inr rfl
  · by_cases hroom : n + m ≤ cap
    · have hfit : n * i.size + news.length ≤ cur.size := by rw [hl, hcs, ← Nat.add_mul]; exact Nat.mul_le_mul_right _ hroom
      rw [run_append_room (P := P) w t ty e i ht hi g n cap cur hg a m c news hl hnews h1 hroom hfit] at hr
      simp only [Result.ok.injEq] at hr
      rw [← hr.1]
      exact .inl rfl
    · have holds : ∀ j u, xs[j]? = some u → w.cell? ((⟨g, 0, none⟩ : Addr).add j) = some u := hown.cells (g := g) rfl
      rw [run_append_grow (P := P) w t ty e i z ht hi hz ⟨g, 0, none⟩ n cap xs hown.1 holds a m c news hl hnews (by omega) (by omega) (growslice_fits (by omega) hbytes)] at hr
      simp only [Result.ok.injEq] at hr
      rw [← hr.1]
      exact .inr rfl
theorem el_add {α : Type} {E : Ty α} {w : World} {L : List Value} {ys : List α} {fps : Nat → List Nat} {y : α} {cs : List Value} {fp : List Nat} (h : els E w L ys fps) (hL : L.length = ys.length * E.sz) (hy : E.rd w cs y fp) :
    els E w (L ++ cs) (ys ++ [y]) (fun i => if i = ys.length then fp else fps i) := by
  intro i hi
  have hlen := E.len hy
  by_cases h0 : i = ys.length
  · subst h0
    refine ⟨cs, by simpa using hy, fun j hj => ?_⟩
    rw [List.getElem?_append_right (by rw [hL]; omega), hL, Nat.add_sub_cancel_left]
    exact List.getElem?_eq_getElem hj
  · have hi' : i < ys.length := by simp at hi; omega
    obtain ⟨cs', h7, h8⟩ := h i hi'
    refine ⟨cs', by simpa [h0, List.getElem_append_left hi'] using h7, fun j hj => ?_⟩
    rw [List.getElem?_append_left]
    · exact h8 j hj
    · have := E.len h7
      have h10 : (i + 1) * E.sz ≤ ys.length * E.sz := Nat.mul_le_mul_right _ hi'
      rw [Nat.add_mul] at h10
      omega
theorem flat_add {n : Nat} {fp : List Nat} {fps : Nat → List Nat} : flat (fun i => if i = n then fp else fps i) (n + 1) = flat fps n ++ fp := by
  unfold flat
  rw [List.range_succ, List.flatMap_append]
  congr 1
  · refine congrArg List.flatten (List.map_congr_left fun i hi => ?_)
    simp at hi
    rw [if_neg (by omega)]
  · simp

theorem wpList_push {P : Program} {α : Type} {E : Ty α} (w : World) {ops : Array Oper} {rest : List Oper} {o : Oper} {a : Act} {Q : Exit → Act → World → Prop} (hgd : o.guard = none) (s x : Operand) (t e : TypeId) {bytes : Nat}
    (ho : o.op = .call { callee := .builtin .append, args := #[s, x], argTypes := #[t, t] }) (hT : ElT P t e E.sz bytes)
    {base top : Nat} {v : Value} {ys : List α} (hs : a.eval s = v) (hB : Bl E e base top w v ys)
    {ad : Addr} {c : Nat} {cs : List Value} {y : α} (hx : a.eval x = .slice (some ad) 1 c) (hnews : ∀ j u, cs[j]? = some u → w.cell? (ad.add j) = some u) (hy : E.Fr top w cs y)
    (hlen : ys.length ≤ 1000000000) (hby : bytes ≤ 100000) (hbt : base ≤ top) (htop : top ≤ w.heap.size)
    (h : ∀ v' w', Bl E e base w'.heap.size w' v' (ys ++ [y]) → w.grownBy w' v.ownBlock → (v'.ownBlock = v.ownBlock ∨ v'.ownBlock = some w.heap.size) → wpList P ops Q rest (a.put o.dst v') w') : wpList P ops Q (o :: rest) a w := by
  obtain ⟨L, fps, g1, g2, g3, g4, g5, g6⟩ := hB
  obtain ⟨fp, k1, k2, k3, k4⟩ := hy
  obtain ⟨i, z, ht, hi, hz, hsz, hbt', hzs, hp⟩ := id hT
  have hcl := E.len k1
  have hlen' : (ys.length + 1) * bytes ≤ 140737488355328 := Nat.le_trans (Nat.mul_le_mul (show ys.length + 1 ≤ 1000000001 by omega) hby) (by decide)
  have hbase : base ≤ w.heap.size := Nat.le_trans hbt htop
  refine wpList_plain hgd fun K hK => ?_
  obtain ⟨v', w', hr, h2, h3, h4⟩ := run_append_own (P := P) w base t o.type e i z E.sz bytes ht hi hz hsz hbt' hzs hp v ys.length L g1 ad 1 c cs (by omega) hnews (E.one k1) (by unfold maxLen; omega) hlen' hbase
  have hblk := run_push_block w base t o.type e hT v ys.length L g1 ad 1 c cs (by omega) hnews (E.one k1) (by unfold maxLen; omega) hlen' (by omega) v' w' hr
  have hS : ∀ k, v.ownBlock ≠ some k → k < w.heap.size → w'.heap[k]? = w.heap[k]? := fun k hk hlt => h3.block k hlt (fun he => hk he.symm)
  have hlt1 : ∀ b ∈ flat fps ys.length, b < w.heap.size := fun b hb => Nat.lt_of_lt_of_le (g4 b hb).2.1 htop
  have hlt2 : ∀ b ∈ fp, b < w.heap.size := E.lt k1
  have hS1 : Same (flat fps ys.length) w w' := fun k hk => hS k (g4 k hk).2.2 (hlt1 k hk)
  have hne : ∀ b ∈ fp, v.ownBlock ≠ some b := fun b hb he => by have := g5 b he; have := k3 b hb; omega
  have hS2 : Same fp w w' := fun k hk => hS k (hne k hk) (hlt2 k hk)
  have hBl : Bl E e base w'.heap.size w' v' (ys ++ [y]) := by
    refine ⟨L ++ cs, fun i => if i = ys.length then fp else fps i, by simpa using h2, el_add (fun i hi => ?_) g1.1 (E.same k1 hS2), ?_, ?_, ?_, ?_⟩
    · obtain ⟨cs', h7, h8⟩ := g2 i hi
      exact ⟨cs', E.same h7 (fun k hk => hS1 k (List.mem_flatMap.2 ⟨i, by simpa using hi, hk⟩)), h8⟩
    · rw [List.length_append, List.length_singleton, flat_add]
      exact List.nodup_append.2 ⟨g3, k2, fun a ha b hb he => by subst he; have := (g4 a ha).2.1; have := k3 a hb; omega⟩
    · rw [List.length_append, List.length_singleton, flat_add]
      intro b hb
      have hsz' := h3.size
      rcases List.mem_append.1 hb with hb | hb
      · refine ⟨(g4 b hb).1, by have := hlt1 b hb; omega, ?_⟩
        rcases hblk with e1 | e1 <;> rw [e1]
        · exact (g4 b hb).2.2
        · intro he; have := hlt1 b hb; simp at he; omega
      · refine ⟨by have := k3 b hb; omega, by have := hlt2 b hb; omega, ?_⟩
        rcases hblk with e1 | e1 <;> rw [e1]
        · exact hne b hb
        · intro he; have := hlt2 b hb; simp at he; omega
    · intro g hg
      exact (h2.lt g hg).2
    · rw [List.length_append, List.length_singleton, flat_add]
      intro b hb
      rcases List.mem_append.1 hb with hb | hb
      · exact g6.same hS1 b hb
      · exact k4.same hS2 b hb
  unfold Oper.wp execOp
  simp only [ho, resolve, invoke, builtin, Sem.run_bind, Sem.run_pure, Result.andThen_ok, List.map_toArray, List.map_cons, List.map_nil, hs, hx, hr]
  exact hK _ _ (h v' w' hBl h3 hblk)

/-- a row that make has laid, in block g: n elements, of which the first ones read as ys -/
def Ar {α : Type} (E : Ty α) (e base top : Nat) (w : World) (g n cap : Nat) (ys : List α) : Prop :=
  ∃ L fps, w.ownsRow base e E.sz (.slice (some ⟨g, 0, none⟩) n cap) n L ∧ els E w L ys fps ∧ ys.length ≤ n ∧ (flat fps ys.length).Nodup ∧ (∀ b ∈ flat fps ys.length, base ≤ b ∧ b < top ∧ g ≠ b) ∧ g < top ∧ base ≤ g ∧ Unf w (flat fps ys.length)

section
variable {α : Type} {E : Ty α} {e base top g n cap : Nat} {w w' : World} {ys : List α}
theorem Ar.sameB (h : Ar E e base top w g n cap ys) (hs : ∀ k, base ≤ k → k < top → w'.heap[k]? = w.heap[k]?) : Ar E e base top w' g n cap ys := by
  obtain ⟨L, fps, h1, h2, hn, h3, h4, h5, h5', h6⟩ := h
  have hS : Same (flat fps ys.length) w w' := fun k hk => hs k (h4 k hk).1 (h4 k hk).2.1
  refine ⟨L, fps, ⟨h1.1, ?_⟩, fun i hi => ?_, hn, h3, h4, h5, h5', h6.same hS⟩
  · rcases h1.2 with h | ⟨g', cap, cur, hg', hg, hh, r⟩
    · exact .inl h
    · simp only [Value.slice.injEq, Option.some.injEq, Addr.mk.injEq, and_true, true_and] at hg'
      obtain ⟨rfl, rfl⟩ := hg'
      exact .inr ⟨g, _, cur, rfl, hg, by rw [hs g hg h5]; exact hh, r⟩
  · obtain ⟨cs, h7, h8⟩ := h2 i hi
    exact ⟨cs, E.same h7 (fun k hk => hS k (List.mem_flatMap.2 ⟨i, by simpa using hi, hk⟩)), h8⟩
theorem Ar.below {B : Nat} (h : Ar E e base top w g n cap ys) (hb : Below B w w') (ht : top ≤ B) : Ar E e base top w' g n cap ys :=
  h.sameB (fun k _ hk => hb.block k (Nat.lt_of_lt_of_le hk ht))
theorem Ar.mono {top' : Nat} (h : Ar E e base top w g n cap ys) (ht : top ≤ top') : Ar E e base top' w g n cap ys :=
  let ⟨L, fps, h1, h2, hn, h3, h4, h5, h5', h6⟩ := h
  ⟨L, fps, h1, h2, hn, h3, fun b hb => ⟨(h4 b hb).1, Nat.lt_of_lt_of_le (h4 b hb).2.1 ht, (h4 b hb).2.2⟩, Nat.lt_of_lt_of_le h5 ht, h5', h6⟩
theorem Ar.fr (h : Ar E e base top w g n cap ys) (hl : ys.length ≤ capMax) (hn : n = ys.length) : (Ty.slice E).Fr base w [.slice (some ⟨g, 0, none⟩) n cap] ys := by
  obtain ⟨L, fps, h1, h2, _, h3, h4, h5, h5', h6⟩ := h
  subst hn
  refine Bl.fr (E := E) (e := e) (top := top) ⟨L, fps, h1, h2, h3, fun b hb => ⟨(h4 b hb).1, (h4 b hb).2.1, by simpa [Value.ownBlock] using (h4 b hb).2.2⟩, fun g' hg' => ?_, h6⟩ hl
  simp [Value.ownBlock] at hg'
  omega
theorem Ar.cell (h : Ar E e base top w g n cap ys) {j : Nat} (hj : j < n * E.sz) : ∃ u, w.cell? ⟨g, j, none⟩ = some u := by
  obtain ⟨L, fps, h1, _⟩ := h
  rw [World.ownsRow.cellAt h1 j hj]
  exact ⟨_, List.getElem?_eq_getElem (by rw [h1.1]; exact hj)⟩
theorem Ar.free (h : Ar E e base top w g n cap ys) (j : Nat) : w.frozen? ⟨g, j, none⟩ = false := by
  obtain ⟨L, fps, h1, _⟩ := h
  exact World.ownsRow.frozenAt h1 j
theorem Ar.lt (h : Ar E e base top w g n cap ys) : g < w.heap.size := by
  obtain ⟨L, fps, h1, _⟩ := h
  exact (h1.lt g rfl).2
theorem Ar.base_le (h : Ar E e base top w g n cap ys) : base ≤ g := by
  obtain ⟨L, fps, h1, _, _, _, _, _, h, _⟩ := h
  exact h

theorem els_set {α : Type} {E : Ty α} {w : World} {L : List Value} {ys : List α} {fps : Nat → List Nat} (h : els E w L ys fps) {j : Nat} {u : Value} (hj : ys.length * E.sz ≤ j) : els E w (L.set j u) ys fps := by
  intro i hi
  obtain ⟨cs, h1, h2⟩ := h i hi
  refine ⟨cs, h1, fun k hk => ?_⟩
  have := E.len h1
  have h10 : (i + 1) * E.sz ≤ ys.length * E.sz := Nat.mul_le_mul_right _ hi
  rw [Nat.add_mul] at h10
  rw [List.getElem?_set_ne (by omega)]
  exact h2 k hk
theorem els_put {α : Type} {E : Ty α} {w : World} {L : List Value} {ys : List α} {fps : Nat → List Nat} {y : α} {cs : List Value} {fp : List Nat} (h : els E w L ys fps) (hy : E.rd w cs y fp)
    (hL : ∀ j (hj : j < cs.length), L[ys.length * E.sz + j]? = some cs[j]) : els E w L (ys ++ [y]) (fun i => if i = ys.length then fp else fps i) := by
  intro i hi
  by_cases h0 : i = ys.length
  · subst h0
    exact ⟨cs, by simpa using hy, hL⟩
  · have hi' : i < ys.length := by simp at hi; omega
    obtain ⟨cs', h7, h8⟩ := h i hi'
    exact ⟨cs', by simpa [h0, List.getElem_append_left hi'] using h7, h8⟩

/-- what a store into the row keeps -/
theorem same_set {fp : List Nat} {g j : Nat} {u : Value} (h : ∀ b ∈ fp, g ≠ b) : Same fp w (w.setCell ⟨g, j, none⟩ u) := fun k hk => Below.heap_setCell w ⟨g, j, none⟩ u k (fun e => h k hk e.symm)

theorem Ar.put1 {c : Value} {y : α} (h : Ar E e base top w g n cap ys) (hsz : E.sz = 1) (hy : E.Fr top w [c] y) (hlt : ys.length < n) (ht : top ≤ w.heap.size) :
    Ar E e base w.heap.size (w.setCell ⟨g, ys.length, none⟩ c) g n cap (ys ++ [y]) := by
  obtain ⟨L, fps, h1, h2, hn, h3, h4, h5, h5', h6⟩ := h
  obtain ⟨fp, k1, k2, k3, k4⟩ := hy
  obtain ⟨s1, _⟩ := h1.stored ys.length c
  have hS1 : Same (flat fps ys.length) w (w.setCell ⟨g, ys.length, none⟩ c) := same_set fun b hb => (h4 b hb).2.2
  have hS2 : Same fp w (w.setCell ⟨g, ys.length, none⟩ c) := same_set fun b hb he => by have := k3 b hb; omega
  refine ⟨L.set ys.length c, fun i => if i = ys.length then fp else fps i, s1, els_put (els_set (fun i hi => ?_) (by rw [hsz]; omega)) (E.same k1 hS2) (fun j hj => ?_), by simp; omega, ?_, ?_, by omega, h5', ?_⟩
  · obtain ⟨cs', h7, h8⟩ := h2 i hi
    exact ⟨cs', E.same h7 (fun k hk => hS1 k (List.mem_flatMap.2 ⟨i, by simpa using hi, hk⟩)), h8⟩
  · obtain rfl : j = 0 := by simp at hj; omega
    rw [hsz, Nat.mul_one, Nat.add_zero, List.getElem?_set_self (by rw [h1.1, hsz]; omega)]
    rfl
  all_goals rw [List.length_append, List.length_singleton, flat_add]
  · exact List.nodup_append.2 ⟨h3, k2, fun a ha b hb he => by subst he; have := (h4 a ha).2.1; have := k3 a hb; omega⟩
  · intro b hb
    rcases List.mem_append.1 hb with hb | hb
    · exact ⟨(h4 b hb).1, by have := (h4 b hb).2.1; omega, (h4 b hb).2.2⟩
    · exact ⟨by have := k3 b hb; omega, E.lt k1 b hb, by have := k3 b hb; omega⟩
  · intro b hb
    rcases List.mem_append.1 hb with hb | hb
    · exact h6.same hS1 b hb
    · exact k4.same hS2 b hb

theorem Ar.put2 {c d : Value} {y : α} (h : Ar E e base top w g n cap ys) (hsz : E.sz = 2) (hy : E.Fr top w [c, d] y) (hlt : ys.length < n) (ht : top ≤ w.heap.size) :
    Ar E e base w.heap.size ((w.setCell ⟨g, ys.length * 2, none⟩ c).setCell ⟨g, ys.length * 2 + 1, none⟩ d) g n cap (ys ++ [y]) := by
  obtain ⟨L, fps, h1, h2, hn, h3, h4, h5, h5', h6⟩ := h
  obtain ⟨fp, k1, k2, k3, k4⟩ := hy
  obtain ⟨s1, _⟩ := h1.stored (ys.length * 2) c
  obtain ⟨s2, _⟩ := s1.stored (ys.length * 2 + 1) d
  have hS1 : Same (flat fps ys.length) w ((w.setCell ⟨g, ys.length * 2, none⟩ c).setCell ⟨g, ys.length * 2 + 1, none⟩ d) := (same_set fun b hb => (h4 b hb).2.2).trans (same_set fun b hb => (h4 b hb).2.2)
  have hne : ∀ b ∈ fp, g ≠ b := fun b hb he => by have := k3 b hb; omega
  have hS2 : Same fp w ((w.setCell ⟨g, ys.length * 2, none⟩ c).setCell ⟨g, ys.length * 2 + 1, none⟩ d) := (same_set hne).trans (same_set hne)
  have hLl : L.length = n * 2 := by rw [h1.1, hsz]
  refine ⟨(L.set (ys.length * 2) c).set (ys.length * 2 + 1) d, fun i => if i = ys.length then fp else fps i, s2, els_put (els_set (els_set (fun i hi => ?_) (by rw [hsz]; omega)) (by rw [hsz]; omega)) (E.same k1 hS2) (fun j hj => ?_), by simp; omega, ?_, ?_, by omega, h5', ?_⟩
  · obtain ⟨cs', h7, h8⟩ := h2 i hi
    exact ⟨cs', E.same h7 (fun k hk => hS1 k (List.mem_flatMap.2 ⟨i, by simpa using hi, hk⟩)), h8⟩
  · rw [hsz]
    rcases (show j = 0 ∨ j = 1 by simp at hj; omega) with rfl | rfl
    · rw [List.getElem?_set_ne (by omega), show ys.length * 2 + 0 = ys.length * 2 from rfl, List.getElem?_set_self (by rw [hLl]; omega)]
      rfl
    · rw [List.getElem?_set_self (by rw [List.length_set, hLl]; omega)]
      rfl
  all_goals rw [List.length_append, List.length_singleton, flat_add]
  · exact List.nodup_append.2 ⟨h3, k2, fun a ha b hb he => by subst he; have := (h4 a ha).2.1; have := k3 a hb; omega⟩
  · intro b hb
    rcases List.mem_append.1 hb with hb | hb
    · exact ⟨(h4 b hb).1, by have := (h4 b hb).2.1; omega, (h4 b hb).2.2⟩
    · exact ⟨by have := k3 b hb; omega, E.lt k1 b hb, by have := k3 b hb; omega⟩
  · intro b hb
    rcases List.mem_append.1 hb with hb | hb
    · exact h6.same hS1 b hb
    · exact k4.same hS2 b hb
end

theorem wpList_mk {P : Program} {α : Type} {E : Ty α} (w : World) {ops : Array Oper} {rest : List Oper} {o : Oper} {a : Act} {Q : Exit → Act → World → Prop} (hg : o.guard = none) (l c : Operand) (t e : TypeId) {bytes : Nat}
    (hop : o.op = Op.makeSlice t l c) (hT : ElT P t e E.sz bytes) (base : Nat) (n : Nat) (hl : a.eval l = .int .i64 (n : Int)) (hc : a.eval c = .int .i64 (n : Int)) (hn : n ≤ 1000000000) (hby : bytes ≤ 100000) (hb : base ≤ w.heap.size)
    (hK : ∀ w', Ar E e base (w.heap.size + 1) w' w.heap.size n n [] → w.grownBy w' none → w'.heap.size = w.heap.size + 1 → wpList P ops Q rest (a.put o.dst (.slice (some ⟨w.heap.size, 0, none⟩) n n)) w') :
    wpList P ops Q (o :: rest) a w := by
  obtain ⟨i, z, ht, hi, hz, hsz, hbt', hzs, hp⟩ := id hT
  have hlen' : bytes * n ≤ 281474976710656 := Nat.le_trans (Nat.mul_le_mul hby hn) (by decide)
  refine wpList_plain hg fun K hK' => ?_
  have hb48 : (i.bytes : Int) * (n : Int) ≤ 281474976710656 := by
    have h : ((bytes * n : Nat) : Int) ≤ 281474976710656 := by omega
    rw [hbt']
    rwa [Int.natCast_mul] at h
  have hr := run_make (P := P) w t e i z ht hi hz .i64 .i64 (n : Int) (n : Int) (by omega) (Int.le_refl _) hb48 (by omega)
  simp only [Int.toNat_natCast] at hr
  unfold Oper.wp
  simp only [execOp, hop, hl, hc, hr, Result.andThen_ok, Sem.run_bind, Sem.run_pure]
  have hown := World.ownsRow_lit (base := base) (e := e) (size := E.sz) w (madeCells z.cells (n * i.size)) n hb (by unfold maxLen; omega) (by rw [size_madeCells, hsz])
  exact hK' _ _ (hK _ ⟨_, fun _ => [], hown, fun i h => by simp at h, Nat.zero_le _, by simp [flat], by simp [flat], by omega, hb, fun b hb => by simp [flat] at hb⟩ (World.grownBy_alloc w _ none) (by simp))

/-- a call hands back new memory (one cell: a slice) that reads as x -/
def RetS {α : Type} (E : Ty α) (w : World) (x : α) (e : Ending) (w' : World) : Prop := ∃ u, e = .returned u ∧ E.Fr w.heap.size w' [u] x ∧ Below w.heap.size w w'
/-- .. a struct -/
def RetA {α : Type} (E : Ty α) (w : World) (x : α) (e : Ending) (w' : World) : Prop := ∃ cs : List Value, e = .returned (.agg cs.toArray) ∧ E.Fr w.heap.size w' cs x ∧ Below w.heap.size w w'
theorem Ty.Fr.set {α : Type} {E : Ty α} {base : Nat} {w : World} {cs : List Value} {x : α} {a : Addr} {u : Value} (h : E.Fr base w cs x) (ha : a.block < base) : E.Fr base (w.setCell a u) cs x :=
  let ⟨fp, h1, h2, h3, h4⟩ := h
  have hs : Same fp w (w.setCell a u) := fun k hk => Below.heap_setCell w a u k (fun e => by have := h3 k hk; omega)
  ⟨fp, E.same h1 hs, h2, h3, h4.same hs⟩
theorem fr_slice {α : Type} {E : Ty α} {base : Nat} {w : World} {u : Value} {x : List α} (h : (Ty.slice E).Fr base w [u] x) : ∃ ad cap, u = .slice ad x.length cap :=
  let ⟨_, ⟨ad, cap, hu, _⟩, _⟩ := h; ⟨ad, cap, by simpa using hu⟩
theorem fr_pair {α : Type} {E : Ty α} {base : Nat} {w : World} {cs : List Value} {x : Int × List α} (h : (Ty.cons (Ty.slice E)).Fr base w cs x) : ∃ ad cap, cs = [.int .i64 x.1, .slice ad x.2.length cap] :=
  let ⟨_, ⟨_, h1, _, ad, cap, h2, _⟩, _⟩ := h; ⟨ad, cap, by rw [h1, h2]⟩
theorem fr_trip {α : Type} {E : Ty α} {base : Nat} {w : World} {cs : List Value} {x : Int × Int × List α} (h : (Ty.cons (Ty.cons (Ty.slice E))).Fr base w cs x) : ∃ ad cap, cs = [.int .i64 x.1, .int .i64 x.2.1, .slice ad x.2.2.length cap] :=
  let ⟨_, ⟨_, h1, _, _, h3, _, ad, cap, h2, _⟩, _⟩ := h; ⟨ad, cap, by rw [h1, h3, h2]⟩
theorem below_of_grown {w w' : World} (h : w.grownBy w' none) : Below w.heap.size w w' := (Below.refl _ _).grown h (Nat.le_refl _) (fun k hk => by cases hk)
theorem take_snoc {α : Type} {xs : List α} {k : Nat} (h : k < xs.length) : xs.take k ++ [xs[k]] = xs.take (k + 1) := (List.take_succ_eq_append_getElem h).symm
theorem take_len {α : Type} {xs : List α} {k : Nat} (h : k ≤ xs.length) : (xs.take k).length = k := List.length_take_of_le h
end Go.Proofs.Ytepebfpgmnidnaa
