/-
  From the form's reading of an argument to ours: every argument that reads as data reads as a list, a pair, a number.
-/
import Derived.Test.YtmnjlhcbabhhlaaGreatQAA
import Derived.ProofKit
import Derived.OpenShut
import Derived.SizedLaws
import Derived.Deep.Slices
import Derived.Deep.Fields
namespace Go.Proofs.YtmnjlhcbabhhlaaGreat
open Go.RowKit Go.ChangeShapes Go.WideShapes Go.ChangeAt

def Opens {α : Type} (P : Program) (t : TypeId) (E : Ty α) : Prop :=
  ∀ (H : Type) (enc : TypeId × Value → H) (W : World) (fuel : Nat) (cs : List Value) (d : DataW H) (ps : List MemPlace),
    DataW.trod enc P W 0 (fun _ => true) true fuel t cs = some (d, ps) → (∀ n ∈ d.weights P t, n ≤ reachBytes) → ∃ x, E.Rd W cs x

theorem opens_int {P : Program} {t : TypeId} (ht : P.underlying t = some (.int .i64)) : Opens P t Ty.int := by
  intro H enc W fuel cs d ps h _
  obtain ⟨n, rfl, hx, hw⟩ := DataW.trod_int ht h
  exact ⟨n, [], rfl, I64.of hw, rfl⟩

theorem cells?_get {w : World} {base : Nat} {a : Addr} {n : Nat} {cs : List Value} (h : w.cells? base a n = some cs) : cs.length = n ∧ ∀ j (hj : j < cs.length), w.cell? (a.add j) = some cs[j] := by
  unfold World.cells? at h
  split at h
  · have hl := mapM_some_length h
    refine ⟨by simpa using hl, fun j hj => ?_⟩
    have := mapM_some_get h j j (by have : j < n := by simpa [hl] using hj
                                    simp [this])
    rw [this]
    simp
  · cases h

theorem add_spot {w : World} {a : Addr} {j : Nat} {v : Value} (h : w.cell? (a.add j) = some v) (hj : j = 0 → a.spot = none) : a.add j = ⟨a.block, a.off + j, none⟩ := by
  unfold Addr.add
  split
  · rename_i h0; have := hj h0; subst h0; cases a; simp_all
  · rfl

theorem weights_all {H : Type} {P : Program} {e : TypeId} {l : List (DataW H)} {d : DataW H} (h : d ∈ l) : ∀ {n : Nat}, n ∈ d.weights P e → n ∈ DataW.weightsAll P e l := by
  intro n hn
  induction l with
  | nil => cases h
  | cons x r ih =>
    simp only [DataW.weightsAll, List.mem_append]
    rcases List.mem_cons.1 h with rfl | h
    · exact .inl hn
    · exact .inr (ih h)

theorem opens_slice {α : Type} {P : Program} {t e : TypeId} {E : Ty α} (ht : P.underlying t = some (.slice e)) (hc : P.cellsOf e = E.sz) (hp : 0 < E.sz) (hb : 0 < P.bytesOf e) (he : Opens P e E) : Opens P t (Ty.slice E) := by
  intro H enc W fuel cs d ps h hw
  rcases DataW.trod_slice ht h with ⟨rfl, hx⟩ | ⟨a, len, cap, elems, rest, n, _, rfl, hx, _, hl, hm, hlen, hel, hsp, _⟩
  · exact ⟨[], [], none, 0, rfl, Nat.le_refl _, Nat.zero_le _, .inl ⟨rfl, rfl⟩⟩
  · simp only [Prod.mk.injEq] at hx
    obtain ⟨rfl, rfl⟩ := hx
    obtain ⟨hrest, -⟩ := hsp rfl
    have hcap : cap ≤ capMax := by
      have h1 := hw ((elems.length + rest.length) * P.bytesOf e) (by simp [DataW.weights, ht])
      rw [hlen, hrest, show len + (cap - len) = cap by omega] at h1
      exact Nat.le_trans (Nat.le_mul_of_pos_right cap hb) h1
    have key : ∀ i, i < len → ∃ (y : DataW H × List MemPlace) (cs' : List Value) (x : α), elems[i]? = some y ∧ E.Rd W cs' x ∧ cs'.length = E.sz ∧ ∀ j (hj : j < cs'.length), W.cell? ((a.add (i * E.sz)).add j) = some cs'[j] := by
      intro i hi
      have h1 := hel i hi
      rw [List.getElem?_eq_getElem (by omega : i < elems.length), hc] at h1
      obtain ⟨cs', h2, h3⟩ := Option.bind_eq_some_iff.1 h1
      have hwi : ∀ n ∈ elems[i].1.weights P e, n ≤ reachBytes := by
        intro m hm
        refine hw m ?_
        have : elems[i].1 ∈ elems.map (·.1) := List.mem_map.2 ⟨_, List.getElem_mem (by omega), rfl⟩
        simp only [DataW.weights, ht, List.mem_cons, List.mem_append]
        exact .inr (.inl (weights_all this hm))
      obtain ⟨x, hx⟩ := he H enc W n cs' _ _ h3 hwi
      obtain ⟨h4, h5⟩ := cells?_get h2
      exact ⟨_, cs', x, List.getElem?_eq_getElem (by omega), hx, h4, h5⟩
    rcases Nat.eq_zero_or_pos len with rfl | hpos
    · exact ⟨[], [], some a, cap, rfl, Nat.zero_le _, Nat.zero_le _, .inl ⟨rfl, rfl⟩⟩
    · obtain ⟨_, cs0, x0, _, ⟨fp0, hx0⟩, hl0, hc0⟩ := key 0 hpos
      have hspot : a.spot = none := by
        have := hc0 0 (by omega)
        simp only [Nat.zero_mul, Addr.add, if_true] at this
        exact World.cell?_spot this
      have hblk : a.block < W.heap.size := by
        have := hc0 0 (by omega)
        simp only [Nat.zero_mul, Addr.add, if_true] at this
        obtain ⟨b, o, s⟩ := a
        obtain rfl : s = none := hspot
        exact cell_lt this
      have key2 : ∀ i, ∃ (x : α × List Nat), i < len → ∃ cs', E.rd W cs' x.1 x.2 ∧ ∀ j (hj : j < cs'.length), W.cell? ⟨a.block, a.off + i * E.sz + j, none⟩ = some cs'[j] := by
        intro i
        by_cases hi : i < len
        · obtain ⟨_, cs', x, _, ⟨fp, hx⟩, _, h5⟩ := key i hi
          refine ⟨(x, fp), fun _ => ⟨cs', hx, fun j hj => ?_⟩⟩
          have e : (a.add (i * E.sz)).add j = ⟨a.block, a.off + i * E.sz + j, none⟩ := by
            obtain ⟨b, o, s⟩ := a
            obtain rfl : s = none := hspot
            unfold Addr.add
            split <;> split <;> simp_all
          rw [← e]
          exact h5 j hj
        · exact ⟨(x0, []), fun h => absurd h hi⟩
      obtain ⟨X, hX⟩ := Classical.axiomOfChoice key2
      refine ⟨(List.range len).map (fun i => (X i).1), a.block :: (List.range len).flatMap (fun i => (X i).2), some a, cap, by simp, by simpa using hl, by simpa using Nat.le_trans hl hcap, .inr ⟨by simpa using hpos, a.block, a.off, fun i => (X i).2, ?_, hblk, by simp, ?_⟩⟩
      · obtain ⟨b, o, s⟩ := a
        obtain rfl : s = none := hspot
        rfl
      · intro i hi
        have hi' : i < len := by simpa using hi
        simpa using hX i hi'

theorem opens_cons {α : Type} {P : Program} {t : TypeId} {f0 f1 : Field} {E : Ty α} (ht : P.underlying t = some (.struct #[f0, f1])) (hc : P.cellsOf t = 1 + E.sz)
    (h0 : P.underlying f0.type = some (.int .i64)) (o0 : f0.offset = 0) (c0 : P.cellsOf f0.type = 1) (o1 : f1.offset = 1) (c1 : P.cellsOf f1.type = E.sz) (he : Opens P f1.type E) : Opens P t (Ty.cons E) := by
  intro H enc W fuel cs d ps h hw
  obtain ⟨y0, y1, n, hx, hl, t0, t1⟩ := trod_struct2 ht h
  simp only [Prod.mk.injEq] at hx
  obtain ⟨rfl, rfl⟩ := hx
  rw [o0, c0] at t0
  rw [o1, c1] at t1
  obtain ⟨m, e0, _, hw0⟩ := DataW.trod_int h0 t0
  obtain ⟨x, hx⟩ := he H enc W n _ _ _ t1 (fun k hk => hw k (by simp [DataW.weights, DataW.weightsEach, ht, hk]))
  obtain ⟨fp, hx⟩ := hx
  refine ⟨(m, x), fp, cs.drop 1, ?_, I64.of hw0, ?_⟩
  · match cs, hl, e0 with
    | c :: r, _, e0 => simp at e0; subst e0; rfl
    | [], hl, _ => simp [hc] at hl; omega
  · have : (cs.drop 1).take E.sz = cs.drop 1 := List.take_of_length_le (by rw [List.length_drop, hl, hc]; omega)
    rw [this] at hx
    exact hx

theorem opens_cons3 {α : Type} {P : Program} {t : TypeId} {f0 f1 f2 : Field} {E : Ty α} (ht : P.underlying t = some (.struct #[f0, f1, f2])) (hc : P.cellsOf t = 2 + E.sz)
    (h0 : P.underlying f0.type = some (.int .i64)) (o0 : f0.offset = 0) (c0 : P.cellsOf f0.type = 1) (h1 : P.underlying f1.type = some (.int .i64)) (o1 : f1.offset = 1) (c1 : P.cellsOf f1.type = 1)
    (o2 : f2.offset = 2) (c2 : P.cellsOf f2.type = E.sz) (he : Opens P f2.type E) : Opens P t (Ty.cons (Ty.cons E)) := by
  intro H enc W fuel cs d ps h hw
  obtain ⟨xs, n, _, hx, hl, hlen, hf⟩ := DataW.trod_struct ht h
  simp only [Prod.mk.injEq] at hx
  obtain ⟨rfl, rfl⟩ := hx
  match xs, hlen with
  | [y0, y1, y2], _ =>
    have t0 := hf 0 f0 rfl
    have t1 := hf 1 f1 rfl
    have t2 := hf 2 f2 rfl
    rw [o0, c0] at t0
    rw [o1, c1] at t1
    rw [o2, c2] at t2
    simp only [List.getElem?_cons_zero, List.getElem?_cons_succ] at t0 t1 t2
    obtain ⟨m, e0, _, hw0⟩ := DataW.trod_int h0 t0
    obtain ⟨m1, e1, _, hw1⟩ := DataW.trod_int h1 t1
    obtain ⟨x, fp, hx⟩ := he H enc W n _ _ _ t2 (fun k hk => hw k (by simp [DataW.weights, DataW.weightsEach, ht, hk]))
    refine ⟨(m, m1, x), fp, cs.drop 1, ?_, I64.of hw0, cs.drop 2, ?_, I64.of hw1, ?_⟩
    · match cs, hl, e0 with
      | c :: r, _, e0 => simp at e0; subst e0; rfl
      | [], hl, _ => simp [hc] at hl; omega
    · match cs, hl, e1 with
      | c :: c' :: r, _, e1 => simp at e1; subst e1; rfl
      | [_], hl, _ => simp [hc] at hl; omega
      | [], hl, _ => simp [hc] at hl; omega
    · have : (cs.drop 2).take E.sz = cs.drop 2 := List.take_of_length_le (by rw [List.length_drop, hl, hc]; omega)
      rw [this] at hx
      exact hx
end Go.Proofs.YtmnjlhcbabhhlaaGreat
