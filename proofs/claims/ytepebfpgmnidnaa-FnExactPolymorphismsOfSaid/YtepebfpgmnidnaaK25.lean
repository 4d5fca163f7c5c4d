/-
  Rows of truth values; rows of slices that lie in older memory; indices of lists are one to one.
-/
import Derived.Test.YtepebfpgmnidnaaK24
import Derived.Test.YtepebfpgmnidnaaAlias
namespace Go.Proofs.Ytepebfpgmnidnaa
open Go.RowKit Go.Sort
/-- a row of slices reads as rows do, if each of its slices reads so -/
theorem rows_of_vals {w : World} {v : Value} {vs : List Value} {ts : List (List Int)} (h : (Ty.slice Ty.val).Rd w [v] vs) (hl : vs.length = ts.length) (hr : ∀ i (h : i < vs.length) (h' : i < ts.length), intsT.Rd w [vs[i]] ts[i]) : rowsT.Rd w [v] ts := by
  obtain ⟨fp, ad, cap, hv, h1, h2, h3⟩ := h
  obtain rfl : v = _ := by simpa using hv
  rcases h3 with ⟨h3, _⟩ | ⟨h3, b, o, fps, rfl, hb, _, h4⟩
  · exact ⟨[], ad, cap, by rw [hl], by omega, by omega, .inl ⟨by omega, rfl⟩⟩
  · have hch : ∀ i, ∃ fp, (h : i < ts.length) → intsT.rd w [vs[i]'(by omega)] ts[i] fp := fun i => by
      by_cases hi : i < ts.length
      · obtain ⟨fp, hfp⟩ := hr i (by omega) hi
        exact ⟨fp, fun _ => hfp⟩
      · exact ⟨[], fun h => absurd h hi⟩
    refine ⟨_, some ⟨b, o, none⟩, cap, by rw [hl], by omega, by omega, .inr ⟨by omega, b, o, fun i => (hch i).choose, rfl, hb, rfl, fun i hi => ?_⟩⟩
    obtain ⟨cs, ⟨rfl, _, _⟩, h6⟩ := h4 i (by omega)
    exact ⟨_, (hch i).choose_spec hi, h6⟩

/-- a row of truth values of the call's own -/
def BR (e base : Nat) (w : World) (g n cap : Nat) (L : List Bool) : Prop := L.length = n ∧ base ≤ g ∧ w.ownsRow base e 1 (.slice (some ⟨g, 0, none⟩) n cap) n (L.map Value.bool)
section
variable {e base g n cap : Nat} {w w' : World} {L : List Bool}
theorem BR.cell (h : BR e base w g n cap L) {j : Nat} (hj : j < L.length) : w.cell? ⟨g, j, none⟩ = some (.bool L[j]) := by
  rw [World.ownsRow.cellAt h.2.2 j (by have := h.1; omega)]
  simp [hj]
theorem BR.free (h : BR e base w g n cap L) (j : Nat) : w.frozen? ⟨g, j, none⟩ = false := World.ownsRow.frozenAt h.2.2 j
theorem BR.lt (h : BR e base w g n cap L) : g < w.heap.size := (h.2.2.lt g rfl).2
theorem BR.set (h : BR e base w g n cap L) (j : Nat) (a : Bool) : BR e base (w.setCell ⟨g, j, none⟩ (.bool a)) g n cap (L.set j a) := by
  refine ⟨by rw [List.length_set]; exact h.1, h.2.1, ?_⟩
  rw [List.map_set]
  exact (h.2.2.stored j _).1
theorem BR.below {B : Nat} (h : BR e base w g n cap L) (hb : Below B w w') (hg : g < B) : BR e base w' g n cap L := by
  refine ⟨h.1, h.2.1, h.2.2.1, ?_⟩
  rcases h.2.2.2 with ⟨h', _⟩ | ⟨g', cap', cur, hg', hbg, hh, r⟩
  · simp at h'
  · simp only [Value.slice.injEq, Option.some.injEq, Addr.mk.injEq, and_true, true_and] at hg'
    obtain ⟨rfl, rfl⟩ := hg'
    exact .inr ⟨g, _, cur, rfl, hbg, by rw [hb.block g hg]; exact hh, r⟩
end
theorem wpList_mkB {P : Program} (w : World) {ops : Array Oper} {rest : List Oper} {o : Oper} {a : Act} {Q : Exit → Act → World → Prop} (hg : o.guard = none) (l c : Operand) (t e : TypeId) {bytes : Nat}
    (hop : o.op = Op.makeSlice t l c) (ht : P.underlying t = some (.slice e)) (hinfo : (P.info? e).map (fun i => (i.zero, i.size, i.bytes)) = some (some (.bool false), 1, bytes)) (base : Nat) (n : Nat) (hl : a.eval l = .int .i64 (n : Int)) (hc : a.eval c = .int .i64 (n : Int)) (hn : n ≤ 1000000000) (hby : bytes ≤ 100000) (hb : base ≤ w.heap.size)
    (hK : ∀ w', BR e base w' w.heap.size n n (List.replicate n false) → w.grownBy w' none → w'.heap.size = w.heap.size + 1 → wpList P ops Q rest (a.put o.dst (.slice (some ⟨w.heap.size, 0, none⟩) n n)) w') :
    wpList P ops Q (o :: rest) a w := by
  obtain ⟨i, hi, hz, hsz, hbt'⟩ := info_parts hinfo
  have hlen' : bytes * n ≤ 281474976710656 := Nat.le_trans (Nat.mul_le_mul hby hn) (by decide)
  refine wpList_plain hg fun K hK' => ?_
  have hb48 : (i.bytes : Int) * (n : Int) ≤ 281474976710656 := by
    have h : ((bytes * n : Nat) : Int) ≤ 281474976710656 := by omega
    rw [hbt']
    rwa [Int.natCast_mul] at h
  have hr := run_make (P := P) w t e i (.bool false) ht hi hz .i64 .i64 (n : Int) (n : Int) (by omega) (Int.le_refl _) hb48 (by omega)
  simp only [Int.toNat_natCast] at hr
  unfold Oper.wp
  simp only [execOp, hop, hl, hc, hr, Result.andThen_ok, Sem.run_bind, Sem.run_pure]
  have hown := World.ownsRow_lit (base := base) (e := e) (size := 1) w (madeCells (Value.bool false).cells (n * i.size)) n hb (by unfold maxLen; omega) (by rw [size_madeCells, hsz])
  refine hK' _ _ (hK _ ⟨by simp, hb, ?_⟩ (World.grownBy_alloc w _ none) (by simp))
  have e1 : (madeCells (Value.bool false).cells (n * i.size)).toList = (List.replicate n false).map Value.bool := by
    have hc0 : (Value.bool false).cells = #[.bool false] := by simp [Value.cells]
    rw [hsz, Nat.mul_one, List.map_replicate, hc0]
    exact toList_madeCells_one (.bool false) n
  rw [← e1]
  exact hown

/-- lists of one length with the same index are the same -/
theorem idxL_inj {s : Int} (hs : 1 ≤ s) : ∀ (n : Nat) {xs ys : List Int}, xs.length = n → ys.length = n → (∀ a ∈ xs, 0 ≤ a ∧ a ≤ s - 1) → (∀ a ∈ ys, 0 ≤ a ∧ a ≤ s - 1) → idxL s 0 xs = idxL s 0 ys → xs = ys
  | 0, xs, ys, hx, hy, _, _, _ => by rw [List.eq_nil_of_length_eq_zero hx, List.eq_nil_of_length_eq_zero hy]
  | n + 1, xs, ys, hx, hy, hxi, hyi, he => by
    have hx1 : n < xs.length := by omega
    have hy1 : n < ys.length := by omega
    have ex := idxL_take (s := s) hx1
    have ey := idxL_take (s := s) hy1
    rw [List.take_of_length_le (by omega)] at ex ey
    rw [ex, ey] at he
    have ax := hxi _ (List.getElem_mem hx1)
    have ay := hyi _ (List.getElem_mem hy1)
    have h1 : (idxL s 0 (xs.take n) * s + xs[n]) % s = xs[n] := by
      rw [Int.add_comm, Int.add_mul_emod_self_right]; exact Int.emod_eq_of_lt ax.1 (by omega)
    have h2 : (idxL s 0 (ys.take n) * s + ys[n]) % s = ys[n] := by
      rw [Int.add_comm, Int.add_mul_emod_self_right]; exact Int.emod_eq_of_lt ay.1 (by omega)
    have hn : xs[n] = ys[n] := by rw [← h1, ← h2, he]
    have hq : idxL s 0 (xs.take n) = idxL s 0 (ys.take n) := by
      have h3 : idxL s 0 (xs.take n) * s = idxL s 0 (ys.take n) * s := by omega
      exact Int.eq_of_mul_eq_mul_right (by omega) h3
    have ih := idxL_inj hs n (xs := xs.take n) (ys := ys.take n) (by rw [List.length_take]; omega) (by rw [List.length_take]; omega) (fun a ha => hxi a (List.mem_of_mem_take ha)) (fun a ha => hyi a (List.mem_of_mem_take ha)) hq
    rw [← List.take_of_length_le (l := xs) (i := n + 1) (by omega), ← List.take_of_length_le (l := ys) (i := n + 1) (by omega), List.take_succ_eq_append_getElem hx1, List.take_succ_eq_append_getElem hy1, ih, hn]
end Go.Proofs.Ytepebfpgmnidnaa
