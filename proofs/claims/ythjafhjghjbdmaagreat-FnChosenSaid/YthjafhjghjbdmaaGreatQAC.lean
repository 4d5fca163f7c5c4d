/-
Rows of truth values; rows of slices that lie in older memory; indices of lists are one to one.
Plain: a relation that has all tuples; what an operation makes of tuples of a relation; whether it keeps the relation.
Contracts: the set of a relation's tuples, the reference's.
Contracts: the set of a relation's tuples, filled.
Constraints that hold for values: the program's and the reference's.
Marks: what a write into all numbers of a datum's memory changes, and what the datum then reads as. No program is named here.
Contracts: counting lists, formulas of one atom; results that lie in new memory.
Contracts: atoms whose variables are renamed.
Contracts: hiding a variable of a formula: the reference's.
Contracts: hiding a variable of a formula: the program's.
Contracts: hiding a variable of a formula: the program's.
Contracts: a copy of a list by append, the limits of formulas; the law of an append of many numbers.
Contracts: whether an operation breaks a relation, the reference's.
A region that draws its order, with loads ahead of writes: one condition on the world lets the loads be taken first; it need hold no more once one of the last writes ('tail') has come up. Every load waits for none of these, and these wait for every load. No program is named here.
Contracts: slices.Clone, an instance in new memory.
Contracts: atoms that hold; the greatest number of a row.
Plain mathematics: the lists of tuples that a finder of operations looks at; which are due at each place; whether they go.
Plain mathematics of the search: the lists of values that begin with some and go all the way, in order; what a listener is told of them. No program is named here.
Readings that avoid some blocks; a search's own data; what a listener keeps and touches; an append to a full row. No program is named here.
-/
import Derived.Test.YthjafhjghjbdmaaGreatQAB
import Derived.Deep.RegionHeldLaw
import Derived.Deep.RegionLaw
import Derived.Deep.RegionHeld
import Derived.Below
import Derived.Test.YthjafhjghjbdmaaGreatQAA
namespace Go.Proofs.YthjafhjghjbdmaaGreat
open Go.RowKit Go.Sort
/-- a row of truth values of the call's own -/
def BR (e base : Nat) (w : World) (g n cap : Nat) (L : List Bool) : Prop := L.length = n ∧ base ≤ g ∧ w.ownsRow base e 1 (.slice (some ⟨g, 0, none⟩) n cap) n (L.map Value.bool)
section
variable {e base g n cap : Nat} {w w' : World} {L : List Bool}
theorem BR.cell (h : BR e base w g n cap L) {j : Nat} (hj : j < L.length) : w.cell? ⟨g, j, none⟩ = some (.bool L[j]) := by
  rw [World.ownsRow.cellAt h.2.2 j (by have := h.1; omega)]
  simp [hj]
theorem BR.free (h : BR e base w g n cap L) (j : Nat) : w.frozen? ⟨g, j, none⟩ = false := World.ownsRow.frozenAt h.2.2 j
theorem BR.lt (h : BR e base w g n cap L) : g < w.heap.size := (h.2.2.lt g rfl).2
theorem BR.set (h : BR e base w g n cap L) (j : Nat) (a : Bool) : BR e base (w.setCell ⟨g, j, none⟩ (.bool a)) g n cap (L.set j a) := by
  refine ⟨by rw [List.length_set]; exact h.1, h.2.1, ?_⟩
  rw [List.map_set]
  exact (h.2.2.stored j _).1
theorem BR.below {B : Nat} (h : BR e base w g n cap L) (hb : Below B w w') (hg : g < B) : BR e base w' g n cap L := by
  refine ⟨h.1, h.2.1, h.2.2.1, ?_⟩
  rcases h.2.2.2 with ⟨h', _⟩ | ⟨g', cap', cur, hg', hbg, hh, r⟩
  · simp at h'
  · simp only [Value.slice.injEq, Option.some.injEq, Addr.mk.injEq, and_true, true_and] at hg'
    obtain ⟨rfl, rfl⟩ := hg'
    exact .inr ⟨g, _, cur, rfl, hbg, by rw [hb.block g hg]; exact hh, r⟩
end
theorem wpList_mkB {P : Program} (w : World) {ops : Array Oper} {rest : List Oper} {o : Oper} {a : Act} {Q : Exit → Act → World → Prop} (hg : o.guard = none) (l c : Operand) (t e : TypeId) {bytes : Nat}
    (hop : o.op = Op.makeSlice t l c) (ht : P.underlying t = some (.slice e)) (hinfo : (P.info? e).map (fun i => (i.zero, i.size, i.bytes)) = some (some (.bool false), 1, bytes)) (base : Nat) (n : Nat) (hl : a.eval l = .int .i64 (n : Int)) (hc : a.eval c = .int .i64 (n : Int)) (hn : n ≤ 1000000000) (hby : bytes ≤ 100000) (hb : base ≤ w.heap.size)
    (hK : ∀ w', BR e base w' w.heap.size n n (List.replicate n false) → w.grownBy w' none → w'.heap.size = w.heap.size + 1 → wpList P ops Q rest (a.put o.dst (.slice (some ⟨w.heap.size, 0, none⟩) n n)) w') :
    wpList P ops Q (o :: rest) a w := by
  obtain ⟨i, hi, hz, hsz, hbt'⟩ := info_parts hinfo
  have hlen' : bytes * n ≤ 281474976710656 := Nat.le_trans (Nat.mul_le_mul hby hn) (by decide)
  refine wpList_plain hg fun K hK' => ?_
  have hb48 : (i.bytes : Int) * (n : Int) ≤ 281474976710656 := by
    have h : ((bytes * n : Nat) : Int) ≤ 281474976710656 := by omega
    rw [hbt']
    rwa [Int.natCast_mul] at h
  have hr := run_make (P := P) w t e i (.bool false) ht hi hz .i64 .i64 (n : Int) (n : Int) (by omega) (Int.le_refl _) hb48 (by omega)
  simp only [Int.toNat_natCast] at hr
  unfold Oper.wp
  simp only [execOp, hop, hl, hc, hr, Result.andThen_ok, Sem.run_bind, Sem.run_pure]
  have hown := World.ownsRow_lit (base := base) (e := e) (size := 1) w (madeCells (Value.bool false).cells (n * i.size)) n hb (by unfold maxLen; omega) (by rw [size_madeCells, hsz])
  refine hK' _ _ (hK _ ⟨by simp, hb, ?_⟩ (World.grownBy_alloc w _ none) (by simp))
  have e1 : (madeCells (Value.bool false).cells (n * i.size)).toList = (List.replicate n false).map Value.bool := by
    have hc0 : (Value.bool false).cells = #[.bool false] := by simp [Value.cells]
    rw [hsz, Nat.mul_one, List.map_replicate, hc0]
    exact toList_madeCells_one (.bool false) n
  rw [← e1]
  exact hown

/-- lists of one length with the same index are the same -/
theorem idxL_inj {s : Int} (hs : 1 ≤ s) : ∀ (n : Nat) {xs ys : List Int}, xs.length = n → ys.length = n → (∀ a ∈ xs, 0 ≤ a ∧ a ≤ s - 1) → (∀ a ∈ ys, 0 ≤ a ∧ a ≤ s - 1) → idxL s 0 xs = idxL s 0 ys → xs = ys
  | 0, xs, ys, hx, hy, _, _, _ => by rw [List.eq_nil_of_length_eq_zero hx, List.eq_nil_of_length_eq_zero hy]
  | n + 1, xs, ys, hx, hy, hxi, hyi, he => by
    have hx1 : n < xs.length := by omega
    have hy1 : n < ys.length := by omega
    have ex := idxL_take (s := s) hx1
    have ey := idxL_take (s := s) hy1
    rw [List.take_of_length_le (by omega)] at ex ey
    rw [ex, ey] at he
    have ax := hxi _ (List.getElem_mem hx1)
    have ay := hyi _ (List.getElem_mem hy1)
    have h1 : (idxL s 0 (xs.take n) * s + xs[n]) % s = xs[n] := by
      rw [Int.add_comm, Int.add_mul_emod_self_right]; exact Int.emod_eq_of_lt ax.1 (by omega)
    have h2 : (idxL s 0 (ys.take n) * s + ys[n]) % s = ys[n] := by
      rw [Int.add_comm, Int.add_mul_emod_self_right]; exact Int.emod_eq_of_lt ay.1 (by omega)
    have hn : xs[n] = ys[n] := by rw [← h1, ← h2, he]
    have hq : idxL s 0 (xs.take n) = idxL s 0 (ys.take n) := by
      have h3 : idxL s 0 (xs.take n) * s = idxL s 0 (ys.take n) * s := by omega
      exact Int.eq_of_mul_eq_mul_right (by omega) h3
    have ih := idxL_inj hs n (xs := xs.take n) (ys := ys.take n) (by rw [List.length_take]; omega) (by rw [List.length_take]; omega) (fun a ha => hxi a (List.mem_of_mem_take ha)) (fun a ha => hyi a (List.mem_of_mem_take ha)) hq
    rw [← List.take_of_length_le (l := xs) (i := n + 1) (by omega), ← List.take_of_length_le (l := ys) (i := n + 1) (by omega), List.take_succ_eq_append_getElem hx1, List.take_succ_eq_append_getElem hy1, ih, hn]
end Go.Proofs.YthjafhjghjbdmaaGreat
namespace Go.Proofs.YthjafhjghjbdmaaGreat
open Go.RowKit Go.Sort
theorem nodup_lt_len : ∀ (N : Nat) (L : List Nat), L.Nodup → (∀ x ∈ L, x < N) → L.length ≤ N
  | 0, L, _, h => by
    cases L with
    | nil => exact Nat.le_refl _
    | cons x r => exact absurd (h x (List.mem_cons_self ..)) (Nat.not_lt_zero _)
  | N + 1, L, hn, h => by
    by_cases hm : N ∈ L
    · have h1 := nodup_lt_len N (L.erase N) (hn.erase N) fun x hx => by
        have h2 := h x (List.mem_of_mem_erase hx)
        have h3 : x ≠ N := fun e => by subst e; exact hn.not_mem_erase hx
        omega
      have h4 := List.length_erase_of_mem hm
      omega
    · have := nodup_lt_len N L hn fun x hx => by
        have h2 := h x hx
        have h3 : x ≠ N := fun e => by subst e; exact hm hx
        omega
      omega
/-- a list that rises has nothing twice -/
theorem sortedL_nodup {ts : List (List Int)} (h : sortedL ts) : ts.Nodup := by
  rw [List.Nodup, List.pairwise_iff_getElem]
  intro i j hi hj hij e
  have := sortedL_lt h hj hij
  rw [e] at this
  unfold ltL at this
  rw [cmpL_self] at this
  omega
theorem idx_lt {s : Int} (hs : 1 ≤ s) {xs : List Int} {m : Nat} (hl : xs.length = m) (h : ∀ a ∈ xs, 0 ≤ a ∧ a ≤ s - 1) : 0 ≤ idxL s 0 xs ∧ idxL s 0 xs ≤ s ^ m - 1 := by
  have := idx_bd hs h xs.length (Nat.le_refl _)
  rwa [List.take_length, hl] at this
/-- the tuples of a relation that an index picks -/
def picks (ts : List (List Int)) (ar : Nat) (i : Int) : List (List Int) := (digL ts.length i ar).map fun k => ts.getD k.toNat []
/-- what the operation makes of them -/
def makes (s : Int) (f : Int × List Int) (r : Int × List (List Int)) (i : Int) : List Int := madeL s f.2 (picks r.2 f.1.toNat i) r.1.toNat
def keepsP (s : Int) (f : Int × List Int) (r : Int × List (List Int)) : Prop := ∀ i : Nat, (i : Int) < (r.2.length : Int) ^ f.1.toNat → makes s f r i ∈ r.2
theorem picks_len {ts : List (List Int)} {ar : Nat} {i : Int} : (picks ts ar i).length = ar := by simp [picks, digL_len]
theorem dig_mem {n i : Int} {ar : Nat} (hn : 1 ≤ n) {k : Int} (h : k ∈ digL n i ar) : 0 ≤ k ∧ k < n := by
  obtain ⟨j, _, rfl⟩ := List.mem_map.1 h
  exact dig_nn hn _
theorem picks_ok {s : Int} {f : Int × List Int} {r : Int × List (List Int)} (hr : relOk s r) (hf : opOk s f) (h0 : 0 < r.2.length) (i : Int) : tupsOk s f.1 r.1.toNat (picks r.2 f.1.toNat i) := by
  have ha := hf.2.1
  refine ⟨by rw [picks_len]; omega, fun t ht => ?_⟩
  obtain ⟨k, hk, rfl⟩ := List.mem_map.1 ht
  obtain ⟨k1, k2⟩ := dig_mem (by omega) hk
  have hkl : k.toNat < r.2.length := by omega
  rw [List.getD_eq_getElem?_getD, List.getElem?_eq_getElem hkl]
  obtain ⟨h1, h2⟩ := (hr.2.2 _ hkl).1
  refine ⟨?_, h2⟩
  show (r.2[k.toNat]).length = r.1.toNat
  omega
end Go.Proofs.YthjafhjghjbdmaaGreat
namespace Go.Proofs.YthjafhjghjbdmaaGreat
open Go.RowKit Go.Sort
/-- a set of tuples in new memory: a box whose third cell is a row of truth values -/
def SetAt (e base : Nat) (w : World) (bx g n : Nat) (L : List Bool) : Prop := base ≤ bx ∧ bx < w.heap.size ∧ g ≠ bx ∧ w.cell? ⟨bx, 2, none⟩ = some (.slice (some ⟨g, 0, none⟩) n n) ∧ BR e base w g n n L
theorem SetAt.below {e base bx g n B : Nat} {w w' : World} {L : List Bool} (h : SetAt e base w bx g n L) (hb : Below B w w') (hB : w.heap.size ≤ B) : SetAt e base w' bx g n L :=
  let ⟨h1, h2, h3, h4, h5⟩ := h
  ⟨h1, Nat.lt_of_lt_of_le h2 hb.size, h3, (hb.cell (p := ⟨bx, 2, none⟩) (Nat.lt_of_lt_of_le h2 hB)).trans h4, h5.below hb (Nat.lt_of_lt_of_le h5.lt hB)⟩
theorem infoBool : (Tryz.prog.info? 4).map (fun i => (i.zero, i.size, i.bytes)) = some (some (.bool false), 1, 1) := by kernel_rfl
set_option maxHeartbeats 800000 in
set_option maxRecDepth 100000 in
theorem l01Empty_any (w : World) (s m : Int) (hs : 1 ≤ s) (hs1 : s ≤ 1000) (hm : m ≤ 5) (N : Nat) (hN : s ^ m.toNat = N) (hN1 : N ≤ 1000000) :
    Calls Tryz.prog 188 #[.int .i64 s, .int .i64 m] w fun e w' => ∃ bx g, e = .returned (.pointer (some ⟨bx, 0, none⟩)) ∧ SetAt 4 w.heap.size w' bx g N (List.replicate N false) ∧ Below w.heap.size w w' := by
  go_enter Tryz.func188, Tryz.ntmps188
  go_wp2_with fail
  refine (l01Power_any _ s m (by omega) hs1 hm).mono ?_
  rintro e _ ⟨rfl, rfl⟩
  rw [hN]
  go_wp2_with (refine wpList_mkB _ rfl _ _ 164 4 rfl Tryz.underlying164 infoBool w.heap.size N rfl rfl (by omega) (by decide) (by simp) ?_; intro w1 hA hg1 hs1)
  have hb1 := below_of_grown hg1
  have HA := Lib.hid hA
  clear hA
  go_wp2_with fail
  go_ret
  exact ⟨w.heap.size + 1, w.heap.size, rfl, ⟨by omega, by simp; omega, by omega, by rw [← hs1]; simp, HA.out.below (bA (w := w1)) HA.out.lt⟩, hb1.alloc hb1.size _⟩
/-- the indices that have come up among the first k tuples -/
def seenL (s : Int) (N : Nat) (ts : List (List Int)) : List Bool := (List.range N).map fun j : Nat => ts.any fun t => idxL s 0 t == (j : Int)
theorem seenL_len {s : Int} {N : Nat} {ts : List (List Int)} : (seenL s N ts).length = N := by simp [seenL]
theorem seenL_nil {s : Int} {N : Nat} : seenL s N [] = List.replicate N false := by
  apply List.ext_getElem
  · simp [seenL]
  · intro i h1 h2; simp [seenL]
theorem seenL_set {s : Int} {N : Nat} {ts : List (List Int)} {k j : Nat} (hk : k < ts.length) (hj : idxL s 0 ts[k] = (j : Int)) (_hjN : j < N) : (seenL s N (ts.take k)).set j true = seenL s N (ts.take (k + 1)) := by
  apply List.ext_getElem
  · simp [seenL]
  · intro i h1 h2
    have hi : i < N := by simpa [seenL] using h2
    have htk : ts.take (k + 1) = ts.take k ++ [ts[k]] := List.take_succ_eq_append_getElem hk
    by_cases e : j = i
    · subst e
      rw [List.getElem_set_self]
      simp only [seenL, List.getElem_map, List.getElem_range, htk, List.any_append, List.any_cons, List.any_nil, hj, beq_self_eq_true, Bool.or_true, Bool.true_or]
    · rw [List.getElem_set_ne e]
      have : ((j : Int) == (i : Int)) = false := by simp; omega
      simp only [seenL, List.getElem_map, List.getElem_range, htk, List.any_append, List.any_cons, List.any_nil, hj, this, Bool.or_false]
theorem seenL_get {s : Int} (hs : 1 ≤ s) {m N : Nat} {ts : List (List Int)} (hts : ∀ t ∈ ts, t.length = m ∧ ∀ a ∈ t, 0 ≤ a ∧ a ≤ s - 1) {t : List Int} (ht : t.length = m) (hti : ∀ a ∈ t, 0 ≤ a ∧ a ≤ s - 1) {j : Nat} (hj : idxL s 0 t = (j : Int)) (h : j < (seenL s N ts).length) : (seenL s N ts)[j] = tb (t ∈ ts) := by
  rw [Bool.eq_iff_iff, tb_iff]
  simp only [seenL, List.getElem_map, List.getElem_range, List.any_eq_true, beq_iff_eq]
  constructor
  · rintro ⟨x, hx, he⟩
    obtain ⟨x1, x2⟩ := hts x hx
    have := idxL_inj hs m x1 ht x2 hti (by rw [he, hj])
    rwa [← this]
  · intro hm
    exact ⟨t, hm, hj⟩
end Go.Proofs.YthjafhjghjbdmaaGreat
namespace Go.Proofs.YthjafhjghjbdmaaGreat
open Go.RowKit Go.Sort
set_option maxHeartbeats 1600000 in
set_option maxRecDepth 100000 in
theorem l01SetOf_any (w : World) {v : Value} {r : Int × List (List Int)} (h : relT.Pt w v r) {s : Int} (hr : relOk s r) (N : Nat) (hN : s ^ r.1.toNat = N) :
    Calls Tryz.prog 115 #[.int .i64 s, v] w fun e w' => ∃ bx g, e = .returned (.pointer (some ⟨bx, 0, none⟩)) ∧ SetAt 4 w.heap.size w' bx g N (seenL s N r.2) ∧ w.heap.size ≤ g ∧ Below w.heap.size w w' := by
  obtain ⟨b, o, ad, cap, rfl, hb, hI, c0, c1, hx⟩ := pt_pair h
  obtain ⟨_, _, e1, hle, hle2, hcell⟩ := slices_ex hx
  simp only [List.cons.injEq, Value.slice.injEq, and_true, true_and] at e1
  obtain ⟨rfl, rfl⟩ := e1
  have hs := hr.1
  have hm := hr.2.1
  unfold sizeOk at hs hm
  have HRO := Lib.hid hr
  have hNle : N ≤ 1000000 := by
    have h1 : s ^ r.1.toNat ≤ 1000000 := by
      refine Int.le_trans (pow_mono' (by omega) (show s ≤ 4 by omega) r.1.toNat) ?_
      rcases (show r.1.toNat = 1 ∨ r.1.toNat = 2 ∨ r.1.toNat = 3 ∨ r.1.toNat = 4 by omega) with e | e | e | e <;> rw [e] <;> decide
    omega
  have HN := Lib.hid hN
  clear h hx hr hN
  go_enter Tryz.func115, Tryz.ntmps115
  go_wp2_with fail
  refine (l01Empty_any _ s r.1 (by omega) (by omega) (by omega) N HN.out hNle).mono ?_
  rintro e w1 ⟨bx, g, rfl, hset, hb1⟩
  have HS1 := Lib.hid hset
  clear hset
  go_wp2_with fail
  go_loopw [6] (fun i wr => ∃ k : Nat, k ≤ r.2.length ∧ i = .int .i64 k ∧ SetAt 4 w.heap.size wr bx g N (seenL s N (r.2.take k)) ∧ Below w.heap.size w wr) (fun i _ => r.2.length - (intOf i).toNat)
  case atStart => exact ⟨0, Nat.zero_le _, rfl, by rw [List.take_zero, seenL_nil]; exact HS1.out, hb1⟩
  case round =>
    obtain ⟨k, hk, rfl, hset, hbel⟩ := hrel
    have d1 := (hbel.cell hb).trans c1
    obtain ⟨s1, s2, s3, s4, s5⟩ := id hset
    have HS := Lib.hid hset
    have hgl := s5.2.1
    clear hset
    by_cases hkl : k < r.2.length
    · obtain ⟨a, q, rfl, haa, hce⟩ := hcell (by omega)
      obtain ⟨u, hu, hcu⟩ := hce k hkl
      obtain ⟨au, cu, rfl⟩ := rd_slice hu
      have d2 := (hbel.cell haa).trans hcu
      obtain ⟨t1, t2⟩ := (HRO.out.2.2 k hkl).1
      have htl : (r.2[k]).length = r.1.toNat := by omega
      obtain ⟨i0, i1⟩ := idx_lt (s := s) (by omega) htl t2
      obtain ⟨j, hj⟩ : ∃ j : Nat, idxL s 0 r.2[k] = j := ⟨(idxL s 0 r.2[k]).toNat, by omega⟩
      have hjN : j < N := by have := HN.out; rw [this, hj] at i1; omega
      have e0 := s5.cell (j := j) (by rw [seenL_len]; exact hjN)
      have e1 := s5.free j
      have hgs := s5.lt
      have HST := Lib.hid (seenL_set hkl hj hjN)
      have HBS := Lib.hid (s5.set j true)
      have HU := Lib.hid (hu.below hbel)
      have HT2 := Lib.hid t2
      have HJ := Lib.hid hj
      have hlen5 : (r.2[k]).length ≤ 5 := by omega
      have q1 : 1 ≤ s := hs.1
      have q2 : s ≤ 1000 := by omega
      have n1 : g ≠ b := by omega
      have n2 : g ≠ a := by omega
      have f0 : wr.drew.cell? ⟨g, j, none⟩ = some (.bool ((seenL s N (r.2.take k))[j]'(by rw [seenL_len]; exact hjN))) := e0
      have f1 : wr.drew.frozen? ⟨g, j, none⟩ = false := e1
      clear hce hcell hu hcu t1 t2 htl hj i0 i1 s5 c0 c1
      go_wp2_with fail
      go_region_held_law (fun w' => w'.cell? ⟨bx, 2, none⟩ = some (.slice (some ⟨g, 0, none⟩) N N) ∧ w'.cell? ⟨b, o + 1, none⟩ = some (.slice (some ⟨a, q, none⟩) r.2.length cap) ∧ w'.cell? ⟨a, q + k, none⟩ = some (.slice au (r.2[k]).length cu)) (first | exact ⟨s4, d1, d2⟩ | go_keep)
        (first
          | (go_simp; go_at_call 93; refine (l01Code_any _ s (HU.out.below bD) q1 q2 hlen5 HT2.out).mono ?_; rintro e _ ⟨rfl, rfl⟩; rw [HJ.out]; dsimp only))
      go_wp2_with fail
      go_roundw
      case rel => exact ⟨k + 1, by omega, by go_num, ⟨s1, by simpa [World.setCell] using s2, s3, (World.cell?_setCell_other _ _ _ _ (by first | (simp; done) | (simp; omega))).trans s4, by rw [← HST.out]; exact HBS.out⟩, (hbel.trans bD').setCell (by first | (simp; done) | (simp; omega)) _⟩
      case measure => simp [intOf]; omega
    · obtain rfl : k = r.2.length := by omega
      rw [List.take_length] at HS
      clear hcell
      go_wp2_with fail
      go_ret
      exact ⟨bx, g, rfl, HS.out, hgl, hbel⟩
end Go.Proofs.YthjafhjghjbdmaaGreat
namespace Go.Proofs.YthjafhjghjbdmaaGreat
open Go.RowKit Go.Sort
set_option maxHeartbeats 1600000 in
set_option maxRecDepth 100000 in
theorem l01At_any (w : World) {v u : Value} {xs ps : List Int} (h : intsT.Rd w [v] xs) (h' : intsT.Rd w [u] ps) (hin : ∀ p ∈ ps, 0 ≤ p ∧ p < (xs.length : Int)) (hlen : ps.length ≤ 1000000) :
    Calls Tryz.prog 190 #[v, u] w (RetS intsT w (atL xs ps)) := by
  obtain ⟨ad, cap, hv, hl, hc, hcell⟩ := ints_ex h
  obtain rfl : v = _ := by simpa using hv
  obtain ⟨ad', cap', hv', hl', hc', hcell'⟩ := ints_ex h'
  obtain rfl : u = _ := by simpa using hv'
  have HIN := Lib.hid hin
  clear h hv h' hv' hin
  go_enter Tryz.func190, Tryz.ntmps190
  go_wp2_with fail
  go_loopw [6, 5] (fun i o wr => ∃ k : Nat, k ≤ ps.length ∧ i = .int .i64 k ∧ Bl Ty.int 2 w.heap.size wr.heap.size wr o (atL xs (ps.take k)) ∧ Below w.heap.size w wr) (fun i _ _ => ps.length - (intOf i).toNat)
  case atStart => exact ⟨0, Nat.zero_le _, rfl, by simpa [atL] using Bl.lit0 (E := Ty.int) (e := 2) (w := w) (Nat.le_refl _), bA⟩
  case round =>
    obtain ⟨k, hk, rfl, hBl, hbel⟩ := hrel
    have HB := Lib.hid hBl
    clear hBl
    by_cases hkl : k < ps.length
    · obtain ⟨b', o', rfl, hb', hce'⟩ := hcell' (by omega)
      have hin := HIN.out ps[k] (List.getElem_mem hkl)
      obtain ⟨j, hj⟩ : ∃ j : Nat, ps[k] = j := ⟨ps[k].toNat, by omega⟩
      have hjl : j < xs.length := by omega
      obtain ⟨b, o, rfl, hb, hce⟩ := hcell (by omega)
      have e0 := (hbel.cell hb').trans (hce' k hkl).2
      rw [hj] at e0
      have e1 := (hbel.cell hb).trans (hce j hjl).2
      have hI := (hce j hjl).1
      clear hcell hcell' hce hce' hin
      have hrec := atL_take hkl hj hjl
      have HR := Lib.hid hrec
      clear hrec
      go_wp2_with (refine wpList_push (E := Ty.int) _ rfl _ _ 26 2 rfl elInt rfl (HB.out.below bA (Nat.le_refl _)) rfl news1 (fr_int hI) (by rw [atL_len, take_len hk]; omega) (by decide) hbel.size (by simp) ?_; intro v1 w1 hB1 hg1 _)
      have hbel1 : Below w.heap.size w w1 := (hbel.alloc hbel.size _).grown hg1 (by have := hbel.size; simp; omega) (fun k hk => HB.out.own hk)
      rw [HR.out] at hB1
      have HB1 := Lib.hid hB1
      clear hB1
      go_wp2_with fail
      go_roundw
      case rel => exact ⟨k + 1, by omega, by go_num, HB1.out, hbel1⟩
      case measure => simp [intOf]; omega
    · obtain rfl : k = ps.length := by omega
      go_wp2_with fail
      go_ret
      rw [List.take_length] at HB
      exact ⟨_, rfl, HB.out.fr (by rw [atL_len]; unfold capMax; omega), hbel⟩
/-- the relation with a number; a constraint holds for values -/
def relAt (t : Int × List (Int × List (List Int))) (k : Int) : Int × List (List Int) := t.2.getD k.toNat (0, [])
def holdsC (t : Int × List (Int × List (List Int))) (vals : List Int) (c : Int × List Int) : Prop := atL vals c.2 ∈ (relAt t c.1).2
theorem relAt_nat {t : Int × List (Int × List (List Int))} {k : Nat} (h : k < t.2.length) : relAt t (k : Int) = t.2[k] := by simp [relAt, h]
end Go.Proofs.YthjafhjghjbdmaaGreat
namespace Go.Proofs.YthjafhjghjbdmaaGreat
open Go.RowKit

/-- all blocks but some are as before -/
structure TchF (fp : List Nat) (w w' : World) : Prop where
  os : w'.os = w.os
  tape : w'.tape = w.tape
  output : w'.output = w.output
  size : w.heap.size ≤ w'.heap.size
  block : ∀ k, k < w.heap.size → k ∉ fp → w'.heap[k]? = w.heap[k]?
theorem TchF.refl (fp : List Nat) (w : World) : TchF fp w w := ⟨rfl, rfl, rfl, Nat.le_refl _, fun _ _ _ => rfl⟩
theorem TchF.trans {fp : List Nat} {w w' w'' : World} (h : TchF fp w w') (k : TchF fp w' w'') : TchF fp w w'' :=
  ⟨k.os.trans h.os, k.tape.trans h.tape, k.output.trans h.output, Nat.le_trans h.size k.size, fun i hi hb => (k.block i (Nat.lt_of_lt_of_le hi h.size) hb).trans (h.block i hi hb)⟩
theorem TchF.mono {fp fp' : List Nat} {w w' : World} (h : TchF fp w w') (hs : ∀ k ∈ fp, k ∈ fp') : TchF fp' w w' := ⟨h.os, h.tape, h.output, h.size, fun k hk hn => h.block k hk fun hm => hn (hs k hm)⟩
theorem Below.tchF {w w' : World} (h : Below w.heap.size w w') (fp : List Nat) : TchF fp w w' := ⟨h.os, h.tape, h.output, h.size, fun k hk _ => h.block k hk⟩
theorem TchF.setCell {fp : List Nat} {b : Nat} (hb : b ∈ fp) (o : Nat) (w : World) (u : Value) : TchF fp w (w.setCell ⟨b, o, none⟩ u) :=
  ⟨rfl, rfl, rfl, by simp [World.setCell], fun k _ hk => Below.heap_setCell _ _ _ _ (fun e => hk (by rw [e]; exact hb))⟩
theorem TchF.same {fp g : List Nat} {w w' : World} (h : TchF fp w w') (hg : ∀ k ∈ g, k < w.heap.size ∧ k ∉ fp) : Same g w w' := fun k hk => h.block k (hg k hk).1 (hg k hk).2
theorem TchF.cell {fp : List Nat} {w w' : World} (h : TchF fp w w') {b o : Nat} (hb : b < w.heap.size) (hn : b ∉ fp) : w'.cell? ⟨b, o, none⟩ = w.cell? ⟨b, o, none⟩ := World.cell?_of_block (w := w) (h.block b hb hn)
theorem TchF.frozen {fp : List Nat} {w w' : World} (h : TchF fp w w') {b o : Nat} (hb : b < w.heap.size) (hn : b ∉ fp) : w'.frozen? ⟨b, o, none⟩ = w.frozen? ⟨b, o, none⟩ := World.frozen?_of_block (w := w) (h.block b hb hn)

section
variable {α : Type} {f : Int → α → α} {c : α → Int} {k : Int} {xs : List α} {i : Nat}
end
theorem rowRd.put {α : Type} {E : Ty α} {w w' : World} {b o : Nat} {xs : List α} {fps : Nat → List Nat} {i : Nat} {y : α} (h : rowRd E w b o xs fps) (_hi : i < xs.length)
    (hother : ∀ j, j < xs.length → j ≠ i → Same (fps j) w w' ∧ ∀ q, q < E.sz → w'.cell? ⟨b, o + j * E.sz + q, none⟩ = w.cell? ⟨b, o + j * E.sz + q, none⟩)
    (hthis : ∃ cs, E.rd w' cs y (fps i) ∧ ∀ j (hj : j < cs.length), w'.cell? ⟨b, o + i * E.sz + j, none⟩ = some cs[j]) : rowRd E w' b o (xs.set i y) fps := by
  intro j hj
  by_cases e : i = j
  · subst e
    simpa using hthis
  · have hj' : j < xs.length := by simpa using hj
    obtain ⟨cs, h1, h2⟩ := h j hj'
    obtain ⟨h3, h4⟩ := hother j hj' (fun e' => e e'.symm)
    refine ⟨cs, by rw [List.getElem_set_ne e]; exact E.same h1 h3, fun q hq => ?_⟩
    rw [h4 q (by rw [← E.len h1]; exact hq)]
    exact h2 q hq

/-! memory between two numbers -/
/-- reads so in blocks from lo up to hi, each once, none frozen -/
def Ty.Fx {α : Type} (E : Ty α) (lo hi : Nat) (w : World) (cs : List Value) (x : α) : Prop := ∃ fp, E.rd w cs x fp ∧ fp.Nodup ∧ (∀ b ∈ fp, lo ≤ b ∧ b < hi) ∧ Unf w fp
theorem Ty.Fx.rd {α : Type} {E : Ty α} {lo hi : Nat} {w : World} {cs : List Value} {x : α} (h : E.Fx lo hi w cs x) : E.Rd w cs x := let ⟨fp, h, _⟩ := h; ⟨fp, h⟩
theorem Ty.Fr.fx {α : Type} {E : Ty α} {lo : Nat} {w : World} {cs : List Value} {x : α} (h : E.Fr lo w cs x) : E.Fx lo w.heap.size w cs x :=
  let ⟨fp, h1, h2, h3, h4⟩ := h; ⟨fp, h1, h2, fun b hb => ⟨h3 b hb, E.lt h1 b hb⟩, h4⟩
theorem Ty.Fx.below {α : Type} {E : Ty α} {lo hi : Nat} {w w' : World} {cs : List Value} {x : α} (h : E.Fx lo hi w cs x) (hb : Below w.heap.size w w') : E.Fx lo hi w' cs x :=
  let ⟨fp, h1, h2, h3, h4⟩ := h
  have hs : Same fp w w' := Same.below hb (E.lt h1)
  ⟨fp, E.same h1 hs, h2, h3, h4.same hs⟩
/-- all old blocks but those from lo up to hi are as before -/
structure Tch (lo hi : Nat) (w w' : World) : Prop where
  os : w'.os = w.os
  tape : w'.tape = w.tape
  output : w'.output = w.output
  size : w.heap.size ≤ w'.heap.size
  block : ∀ k, k < w.heap.size → (k < lo ∨ hi ≤ k) → w'.heap[k]? = w.heap[k]?
theorem TchF.tch {fp : List Nat} {lo hi : Nat} {w w' : World} (h : TchF fp w w') (hf : ∀ b ∈ fp, lo ≤ b ∧ b < hi) : Tch lo hi w w' :=
  ⟨h.os, h.tape, h.output, h.size, fun k hk hn => h.block k hk fun hm => by have := hf k hm; omega⟩
theorem Tch.cell {lo hi : Nat} {w w' : World} (h : Tch lo hi w w') {b o : Nat} (hb : b < w.heap.size) (hn : b < lo ∨ hi ≤ b) : w'.cell? ⟨b, o, none⟩ = w.cell? ⟨b, o, none⟩ := World.cell?_of_block (w := w) (h.block b hb hn)
theorem Ty.Fx.tch {α : Type} {E : Ty α} {lo hi lo' hi' : Nat} {w w' : World} {cs : List Value} {x : α} (h : E.Fx lo hi w cs x) (ht : Tch lo' hi' w w') (hd : hi ≤ lo' ∨ hi' ≤ lo) : E.Fx lo hi w' cs x :=
  let ⟨fp, h1, h2, h3, h4⟩ := h
  have hs : Same fp w w' := fun k hk => ht.block k (E.lt h1 k hk) (by have := h3 k hk; omega)
  ⟨fp, E.same h1 hs, h2, h3, h4.same hs⟩
/-- an append at a step of a region that draws its order -/
theorem step_push {P : Program} {K : Act → World → Prop} {Ee : Prop} {α : Type} {E : Ty α} (w : World) {ops : Array Oper} {o : Oper} {a : Act} {Q : Exit → Act → World → Prop} (hgd : o.guard = none) (s x : Operand) (t e : TypeId) {bytes : Nat}
    (ho : o.op = .call { callee := .builtin .append, args := #[s, x], argTypes := #[t, t] }) (hT : ElT P t e E.sz bytes)
    {base top : Nat} {v : Value} {ys : List α} (hs : a.eval s = v) (hB : Bl E e base top w v ys)
    {ad : Addr} {c : Nat} {cs : List Value} {y : α} (hx : a.eval x = .slice (some ad) 1 c) (hnews : ∀ j u, cs[j]? = some u → w.cell? (ad.add j) = some u) (hy : E.Fr top w cs y)
    (hlen : ys.length ≤ 1000000000) (hby : bytes ≤ 100000) (hbt : base ≤ top) (htop : top ≤ w.heap.size)
    (h : ∀ v' w', Bl E e base w'.heap.size w' v' (ys ++ [y]) → w.grownBy w' v.ownBlock → (v'.ownBlock = v.ownBlock ∨ v'.ownBlock = some w.heap.size) → K (a.put o.dst v') w') : if Region.wanted o (yielded ops a.tmps) = true then Oper.wp P o a w K Q else Ee := by
  rw [if_pos (by simp [Region.wanted, hgd])]
  obtain ⟨L, fps, g1, g2, g3, g4, g5, g6⟩ := hB
  obtain ⟨fp, k1, k2, k3, k4⟩ := hy
  obtain ⟨i, z, ht, hi, hz, hsz, hbt', hzs, hp⟩ := id hT
  have hcl := E.len k1
  have hlen' : (ys.length + 1) * bytes ≤ 140737488355328 := Nat.le_trans (Nat.mul_le_mul (show ys.length + 1 ≤ 1000000001 by omega) hby) (by decide)
  have hbase : base ≤ w.heap.size := Nat.le_trans hbt htop
  obtain ⟨v', w', hr, h2, h3, h4⟩ := run_append_own (P := P) w base t o.type e i z E.sz bytes ht hi hz hsz hbt' hzs hp v ys.length L g1 ad 1 c cs (by omega) hnews (E.one k1) (by unfold maxLen; omega) hlen' hbase
  have hblk := run_push_block w base t o.type e hT v ys.length L g1 ad 1 c cs (by omega) hnews (E.one k1) (by unfold maxLen; omega) hlen' (by omega) v' w' hr
  have hS : ∀ k, v.ownBlock ≠ some k → k < w.heap.size → w'.heap[k]? = w.heap[k]? := fun k hk hlt => h3.block k hlt (fun he => hk he.symm)
  have hlt1 : ∀ b ∈ flat fps ys.length, b < w.heap.size := fun b hb => Nat.lt_of_lt_of_le (g4 b hb).2.1 htop
  have hlt2 : ∀ b ∈ fp, b < w.heap.size := E.lt k1
  have hS1 : Same (flat fps ys.length) w w' := fun k hk => hS k (g4 k hk).2.2 (hlt1 k hk)
  have hne : ∀ b ∈ fp, v.ownBlock ≠ some b := fun b hb he => by have := g5 b he; have := k3 b hb; omega
  have hS2 : Same fp w w' := fun k hk => hS k (hne k hk) (hlt2 k hk)
  have hBl : Bl E e base w'.heap.size w' v' (ys ++ [y]) := by
    refine ⟨L ++ cs, fun i => if i = ys.length then fp else fps i, by simpa using h2, el_add (fun i hi => ?_) g1.1 (E.same k1 hS2), ?_, ?_, ?_, ?_⟩
    · obtain ⟨cs', h7, h8⟩ := g2 i hi
      exact ⟨cs', E.same h7 (fun k hk => hS1 k (List.mem_flatMap.2 ⟨i, by simpa using hi, hk⟩)), h8⟩
    · rw [List.length_append, List.length_singleton, flat_add]
      exact List.nodup_append.2 ⟨g3, k2, fun a ha b hb he => by subst he; have := (g4 a ha).2.1; have := k3 a hb; omega⟩
    · rw [List.length_append, List.length_singleton, flat_add]
      intro b hb
      have hsz' := h3.size
      rcases List.mem_append.1 hb with hb | hb
      · refine ⟨(g4 b hb).1, by have := hlt1 b hb; omega, ?_⟩
        rcases hblk with e1 | e1 <;> rw [e1]
        · exact (g4 b hb).2.2
        · intro he; have := hlt1 b hb; simp at he; omega
      · refine ⟨by have := k3 b hb; omega, by have := hlt2 b hb; omega, ?_⟩
        rcases hblk with e1 | e1 <;> rw [e1]
        · exact hne b hb
        · intro he; have := hlt2 b hb; simp at he; omega
    · intro g hg
      exact (h2.lt g hg).2
    · rw [List.length_append, List.length_singleton, flat_add]
      intro b hb
      rcases List.mem_append.1 hb with hb | hb
      · exact g6.same hS1 b hb
      · exact k4.same hS2 b hb
  unfold Oper.wp execOp
  simp only [ho, resolve, invoke, builtin, Sem.run_bind, Sem.run_pure, Result.andThen_ok, List.map_toArray, List.map_cons, List.map_nil, hs, hx, hr]
  exact h v' w' hBl h3 hblk
end Go.Proofs.YthjafhjghjbdmaaGreat
namespace Go.Proofs.YthjafhjghjbdmaaGreat
open Go.RowKit Go.Sort

/-- a struct in new memory, and a code -/
def RetAC {α : Type} (E : Ty α) (w : World) (x : α) (c : Int) (e : Ending) (w' : World) : Prop := ∃ cs : List Value, e = .returned (.tuple #[.agg cs.toArray, .int .i64 c]) ∧ E.Fr w.heap.size w' cs x ∧ Below w.heap.size w w'
/-- a slice in new memory, and a code -/
def RetSC {α : Type} (E : Ty α) (w : World) (x : α) (c : Int) (e : Ending) (w' : World) : Prop := ∃ u, e = .returned (.tuple #[u, .int .i64 c]) ∧ E.Fr w.heap.size w' [u] x ∧ Below w.heap.size w w'
section
variable {t : Int × List (Int × List (List Int))} {rel : Int}
end
end Go.Proofs.YthjafhjghjbdmaaGreat
namespace Go.Proofs.YthjafhjghjbdmaaGreat
open Go.RowKit Go.Sort
theorem news2 {w : World} {u u' : Value} {T : TypeId} : ∀ j x, [u, u'][j]? = some x → (w.alloc (.cells #[u, u'] T)).cell? ((⟨w.heap.size, 0, none⟩ : Addr).add j) = some x := by
  intro j x h
  match j with
  | 0 => simp at h; subst h; simp [Addr.add]
  | 1 => simp at h; subst h; simp [Addr.add]
  | j + 2 => simp at h
end Go.Proofs.YthjafhjghjbdmaaGreat
namespace Go.Proofs.YthjafhjghjbdmaaGreat
open Go.RowKit Go.Sort
section
variable (t : Int × List (Int × List (List Int))) (f : Int × Int × List (Int × List Int)) (v : Int)
end
section
variable {t : Int × List (Int × List (List Int))} {f : Int × Int × List (Int × List Int)} {v : Int}
end
theorem wrap_small {n : Int} (h0 : -1000000000000000000 ≤ n) (h1 : n ≤ 1000000000000000000) : IntKind.i64.wrap n = n := by
  simp [IntKind.wrap, IntKind.signed, IntKind.bits]
  omega
end Go.Proofs.YthjafhjghjbdmaaGreat
namespace Go.Proofs.YthjafhjghjbdmaaGreat
open Go.RowKit Go.Sort
theorem size_set {w : World} {a : Addr} {u : Value} : (w.setCell a u).heap.size = w.heap.size := by simp [World.setCell]
theorem ex_slice {α : Type} {E : Ty α} {base : Nat} {w : World} {u : Value} {x : List α} (h : (Ty.slice E).Fr base w [u] x) : ∃ ad n cap, u = .slice ad n cap := let ⟨a, c, h⟩ := fr_slice h; ⟨a, _, c, h⟩
theorem rd_sl {α : Type} {E : Ty α} {w : World} {u : Value} {x : List α} (h : (Ty.slice E).Rd w [u] x) : ∃ ad n cap, u = .slice ad n cap := let ⟨a, c, h⟩ := rd_slice h; ⟨a, _, c, h⟩
end Go.Proofs.YthjafhjghjbdmaaGreat
namespace Go.Proofs.YthjafhjghjbdmaaGreat
open Go.RowKit Go.Sort
end Go.Proofs.YthjafhjghjbdmaaGreat
namespace Go.Proofs.YthjafhjghjbdmaaGreat
open Go.RowKit Go.Sort
theorem flat_nil (n : Nat) : flat (fun _ => []) n = [] := List.eq_nil_iff_forall_not_mem.2 fun x hx => by obtain ⟨_, _, h⟩ := List.mem_flatMap.1 hx; cases h
theorem wpList_appI {P : Program} (w : World) {ops : Array Oper} {rest : List Oper} {o : Oper} {a : Act} {Q : Exit → Act → World → Prop} (hgd : o.guard = none) (s x : Operand) (t e : TypeId) {bytes : Nat}
    (ho : o.op = .call { callee := .builtin .append, args := #[s, x], argTypes := #[t, t] }) (hT : ElT P t e 1 bytes)
    {base top : Nat} {v : Value} {ys : List Int} (hs : a.eval s = v) (hB : Bl Ty.int e base top w v ys)
    {u : Value} {xs : List Int} (hx : a.eval x = u) (hr : intsT.Rd w [u] xs) (h0 : 0 < xs.length)
    (hlen : ys.length + xs.length ≤ 1000000000) (hby : bytes ≤ 100000) (hbt : base ≤ top) (htop : top ≤ w.heap.size)
    (h : ∀ v' w', Bl Ty.int e base w'.heap.size w' v' (ys ++ xs) → w.grownBy w' v.ownBlock → (v'.ownBlock = v.ownBlock ∨ v'.ownBlock = some w.heap.size) → wpList P ops Q rest (a.put o.dst v') w') : wpList P ops Q (o :: rest) a w := by
  obtain ⟨L, fps, g1, g2, g3, g4, g5, g6⟩ := hB
  obtain ⟨ad', cap', hu, hl, hc, hcell⟩ := ints_ex hr
  obtain ⟨b, o', rfl, hb, hce⟩ := hcell h0
  obtain rfl : u = .slice (some ⟨b, o', none⟩) xs.length cap' := by simpa using hu
  obtain ⟨i, z, ht, hi, hz, hsz, hbt', hzs, hp⟩ := id hT
  have hnews : ∀ (j : Nat) (u : Value), (xs.map (Value.int .i64))[j]? = some u → w.cell? ((⟨b, o', none⟩ : Addr).add j) = some u := by
    intro j u hj
    rw [List.getElem?_map] at hj
    by_cases hjl : j < xs.length
    · rw [List.getElem?_eq_getElem hjl] at hj
      simp only [Option.map_some, Option.some.injEq] at hj
      subst hj
      have := (hce j hjl).2
      by_cases hj0 : j = 0
      · subst hj0
        simpa [Addr.add] using this
      · simpa [Addr.add, hj0] using this
    · rw [List.getElem?_eq_none (by omega)] at hj
      simp at hj
  have hone : ∀ u ∈ xs.map (Value.int .i64), u.oneCell' = true := by
    intro u hu
    obtain ⟨n, _, rfl⟩ := List.mem_map.1 hu
    rfl
  have hnl : (xs.map (Value.int .i64)).length = xs.length * 1 := by simp
  have hlen' : (ys.length + xs.length) * bytes ≤ 140737488355328 := Nat.le_trans (Nat.mul_le_mul hlen hby) (by decide)
  have hbase : base ≤ w.heap.size := Nat.le_trans hbt htop
  have hLl : L.length = ys.length := by have := g1.1; simpa [Ty.int] using this
  refine wpList_plain hgd fun K hK => ?_
  obtain ⟨v', w', hr', h2, h3, h4⟩ := run_append_own (P := P) w base t o.type e i z 1 bytes ht hi hz hsz hbt' hzs hp v ys.length L g1 ⟨b, o', none⟩ xs.length cap' _ hnl hnews hone (by unfold maxLen; omega) hlen' hbase
  have hblk := run_push_block w base t o.type e hT v ys.length L g1 ⟨b, o', none⟩ xs.length cap' _ hnl hnews hone (by unfold maxLen; omega) hlen' h0 v' w' hr'
  have hBl : Bl Ty.int e base w'.heap.size w' v' (ys ++ xs) := by
    refine ⟨L ++ xs.map (Value.int .i64), fun _ => [], by simpa [Ty.int] using h2, fun j hj => ?_, by rw [flat_nil]; exact List.nodup_nil, by rw [flat_nil]; simp, fun g hg => (h2.lt g hg).2, by rw [flat_nil]; intro b hb; cases hb⟩
    by_cases hjy : j < ys.length
    · obtain ⟨cs, ⟨rfl, hI, _⟩, hk⟩ := g2 j hjy
      refine ⟨[.int .i64 (ys ++ xs)[j]], ⟨rfl, by rw [List.getElem_append_left hjy]; exact hI, rfl⟩, fun q hq => ?_⟩
      obtain rfl : q = 0 := by simpa using hq
      have := hk 0 (by simp)
      rw [List.getElem?_append_left (by rw [hLl]; simp [Ty.int]; exact hjy)]
      simpa [List.getElem_append_left hjy] using this
    · have hj' : j - ys.length < xs.length := by rw [List.length_append] at hj; omega
      have hge : (ys ++ xs)[j] = xs[j - ys.length] := List.getElem_append_right (by omega)
      refine ⟨[.int .i64 (ys ++ xs)[j]], ⟨rfl, by rw [hge]; exact (hce _ hj').1, rfl⟩, fun q hq => ?_⟩
      obtain rfl : q = 0 := by simpa using hq
      rw [List.getElem?_append_right (by rw [hLl]; simp [Ty.int]; omega), hLl]
      simp [Ty.int, hge, hj']
  unfold Oper.wp execOp
  simp only [ho, resolve, invoke, builtin, Sem.run_bind, Sem.run_pure, Result.andThen_ok, List.map_toArray, List.map_cons, List.map_nil, hs, hx, hr']
  exact hK _ _ (h v' w' hBl h3 hblk)
set_option maxHeartbeats 800000 in
theorem l00Own_any (w : World) {v : Value} {xs : List Int} (h : intsT.Rd w [v] xs) (hlen : xs.length ≤ 1000000) :
    Calls Tryz.prog 119 #[v] w fun e w' => ∃ u, e = .returned u ∧ Bl Ty.int 2 w.heap.size w'.heap.size w' u xs ∧ Below w.heap.size w w' := by
  have hx := h
  obtain ⟨ad, cap, rfl⟩ := rd_slice h
  have HX := Lib.hid hx
  rcases Nat.eq_zero_or_pos xs.length with h0 | h0
  · obtain rfl := List.eq_nil_of_length_eq_zero h0
    clear h hx h0 HX
    cases ad
    all_goals
      go_enter Tryz.func119, Tryz.ntmps119
      go_wp2_with fail
      go_ret
      exact ⟨_, rfl, by simpa using Bl.lit0 (E := Ty.int) (e := 2) (w := w) (Nat.le_refl _), bA⟩
  · clear h hx
    have HB := Lib.hid (Bl.lit0 (E := Ty.int) (e := 2) (base := w.heap.size) (w := w) (Nat.le_refl _))
    go_enter Tryz.func119, Tryz.ntmps119
    go_wp2_with (refine wpList_appI _ rfl _ _ 26 2 rfl elInt rfl HB.out rfl (HX.out.below bA) h0 (by simp; omega) (by decide) (by omega) (by simp) ?_; intro v1 w1 hB1 hg1 _)
    have HB1 := Lib.hid hB1
    have hb1 : Below w.heap.size w w1 := (bA (w := w)).grown hg1 (by simp) (fun k hk => HB.out.own hk)
    clear hB1
    go_wp2_with fail
    go_ret
    exact ⟨_, rfl, HB1.out, hb1⟩
end Go.Proofs.YthjafhjghjbdmaaGreat
namespace Go.Proofs.YthjafhjghjbdmaaGreat
open Go.RowKit Go.Sort
theorem rel_len_le {s : Int} {r : Int × List (List Int)} (hr : relOk s r) : (r.2.length : Int) ≤ s ^ r.1.toNat ∧ s ^ r.1.toNat ≤ 256 := by
  have hs := hr.1
  have hm := hr.2.1
  unfold sizeOk at hs hm
  have hp : 0 ≤ s ^ r.1.toNat := pow_nn (by omega) _
  constructor
  · have hN : ((r.2.map fun x => (idxL s 0 x).toNat)).Nodup := by
      rw [List.Nodup, List.pairwise_map]
      refine List.Pairwise.imp_of_mem ?_ (sortedL_nodup (relOk_sorted hr))
      intro a b ha hb hab e
      obtain ⟨i, hi, rfl⟩ := List.mem_iff_getElem.1 ha
      obtain ⟨j, hj, rfl⟩ := List.mem_iff_getElem.1 hb
      obtain ⟨a1, a2⟩ := (hr.2.2 i hi).1
      obtain ⟨b1, b2⟩ := (hr.2.2 j hj).1
      have ha3 := idx_lt (m := r.1.toNat) hs.1 (by omega) a2
      have hb3 := idx_lt (m := r.1.toNat) hs.1 (by omega) b2
      exact hab (idxL_inj hs.1 r.1.toNat (by omega) (by omega) a2 b2 (by omega))
    have := nodup_lt_len (s ^ r.1.toNat).toNat _ hN fun x hx => by
      obtain ⟨y, hy, rfl⟩ := List.mem_map.1 hx
      obtain ⟨i, hi, rfl⟩ := List.mem_iff_getElem.1 hy
      obtain ⟨a1, a2⟩ := (hr.2.2 i hi).1
      have ha3 := idx_lt (m := r.1.toNat) hs.1 (by omega) a2
      omega
    rw [List.length_map] at this
    omega
  · refine Int.le_trans (pow_mono' (by omega) (show s ≤ 4 by omega) r.1.toNat) ?_
    rcases (show r.1.toNat = 1 ∨ r.1.toNat = 2 ∨ r.1.toNat = 3 ∨ r.1.toNat = 4 by omega) with e | e | e | e <;> rw [e] <;> decide
/-- the slices that stand in a row read as the first tuples -/
def picked (w : World) (vs : List Value) (ts : List (List Int)) : Prop := vs.length ≤ ts.length ∧ ∀ i (h : i < vs.length) (h' : i < ts.length), intsT.Rd w [vs[i]] ts[i]
theorem picked.below {w w' : World} {vs : List Value} {ts : List (List Int)} (h : picked w vs ts) (hb : Below w.heap.size w w') : picked w' vs ts := ⟨h.1, fun i h1 h2 => (h.2 i h1 h2).below hb⟩
/-- the first relation that is broken, or -1 -/
noncomputable def brokenI (t : Int × List (Int × List (List Int))) (f : Int × List Int) : Int := firstI (fun r => !tb (keepsP t.1 f r)) t.2
end Go.Proofs.YthjafhjghjbdmaaGreat
namespace Go.Proofs.YthjafhjghjbdmaaGreat
theorem cellB {B b o : Nat} {w w' : World} (hb : RowKit.Below B w w') (h : b < B) : w'.cell? ⟨b, o, none⟩ = w.cell? ⟨b, o, none⟩ := hb.cell (p := ⟨b, o, none⟩) h
theorem frozenB {B b o : Nat} {w w' : World} (hb : RowKit.Below B w w') (h : b < B) : w'.frozen? ⟨b, o, none⟩ = w.frozen? ⟨b, o, none⟩ := hb.frozen (p := ⟨b, o, none⟩) h


section
variable {P : Program} {ops : Array Oper} {Q : Exit → Act → World → Prop} {md : Region.Mode} {S : World → Prop} {tail : List Nat}

/-- one of the last writes has come up -/
def pastB (tail : List Nat) (listed : Array Bool) : Bool := tail.any fun t => listed.getD t false

def wpAnyT (P : Program) (md : Region.Mode) (ops : Array Oper) (Q : Exit → Act → World → Prop) (S : World → Prop) (tail : List Nat) : Nat → Array Bool → Act → World → Prop
  | 0, listed, a, w => Region.ready md ops listed = [] ∧ Q .normal a w
  | fuel + 1, listed, a, w =>
    (Region.ready md ops listed = [] → Q .normal a w) ∧
    ∀ i ∈ Region.ready md ops listed, wpOp P ops Q i (fun a' w' => (pastB tail (listed.setIfInBounds i true) = false → S w') ∧ wpAnyT P md ops Q S tail fuel (listed.setIfInBounds i true) a' w') a w

theorem wpAny_of_T : ∀ (fuel : Nat) (listed : Array Bool) (a : Act) (w : World), wpAnyT P md ops Q S tail fuel listed a w → wpAny P md ops Q fuel listed a w
  | 0, _, _, _, h => h
  | fuel + 1, _, _, _, h => ⟨h.1, fun i hi => wpOp_mono (fun a' w' h' => wpAny_of_T fuel _ a' w' h'.2) (h.2 i hi)⟩

/-- what can come up while number i has not: all that are in R -/
def lowB (md : Region.Mode) (ops : Array Oper) (i : Nat) (listed R : Array Bool) (tail : List Nat) : Bool :=
  ((List.range ops.size).all fun k => k == i || R.getD k false || match ops[k]? with
    | some o => o.after.any fun e => Region.binds md e && !R.getD e.on false
    | none => true) && ((List.range ops.size).all fun k => !listed.getD k false || R.getD k false) && tail.all fun t => !R.getD t false && decide (t < ops.size) && t != i
/-- these -/
def grow1 (md : Region.Mode) (ops : Array Oper) (i : Nat) (R : Array Bool) : Array Bool :=
  (Array.range ops.size).map fun k => R.getD k false || (k != i && match ops[k]? with
    | some o => o.after.all fun e => !Region.binds md e || R.getD e.on false
    | none => false)
def lowSet (md : Region.Mode) (ops : Array Oper) (i : Nat) (listed : Array Bool) : Nat → Array Bool
  | 0 => listed
  | n + 1 => grow1 md ops i (lowSet md ops i listed n)
def lateB (md : Region.Mode) (ops : Array Oper) (i : Nat) (listed : Array Bool) (tail : List Nat) : Bool := lowB md ops i listed (lowSet md ops i listed ops.size) tail

structure Low (md : Region.Mode) (ops : Array Oper) (i : Nat) (R : Array Bool) (tail : List Nat) : Prop where
  up : ∀ (k : Nat) (o : Oper), ops[k]? = some o → k ≠ i → (∀ e ∈ o.after, Region.binds md e = true → R.getD e.on false = true) → R.getD k false = true
  out : ∀ t ∈ tail, R.getD t false = false
  ne : ∀ t ∈ tail, t ≠ i
theorem lowB_spec {i : Nat} {listed R : Array Bool} (h : lowB md ops i listed R tail = true) : Low md ops i R tail ∧ ∀ k, k < ops.size → listed.getD k false = true → R.getD k false = true := by
  unfold lowB at h
  simp only [Bool.and_eq_true, List.all_eq_true, List.mem_range] at h
  obtain ⟨⟨h1, h2⟩, h3⟩ := h
  refine ⟨⟨fun k o ho hk hd => ?_, fun t ht => by have := (h3 t ht).1.1; simpa using this, fun t ht => by have := (h3 t ht).2; simpa using this⟩, fun k hk hl => ?_⟩
  · have hks : k < ops.size := by
      rcases Nat.lt_or_ge k ops.size with h' | h'
      · exact h'
      · rw [Array.getElem?_eq_none h'] at ho; cases ho
    have := h1 k hks
    rw [ho] at this
    simp only [Bool.or_eq_true, beq_iff_eq] at this
    rcases this with (rfl | h') | h'
    · exact absurd rfl hk
    · exact h'
    · simp only [Array.any_eq_true, Bool.and_eq_true, Bool.not_eq_true'] at h'
      obtain ⟨x, hx, hb⟩ := h'
      rw [hd _ (Array.getElem_mem hx) hb.1] at hb
      cases hb.2
  · have := h2 k hk
    rw [hl] at this
    simpa using this

theorem low_step {i j : Nat} {listed R : Array Bool} (hL : Low md ops i R tail) (hsub : ∀ k, k < ops.size → listed.getD k false = true → R.getD k false = true) (hbd : ∀ (k : Nat) (o : Oper), ops[k]? = some o → ∀ e ∈ o.after, Region.binds md e = true → e.on < ops.size)
    (hj : j ∈ Region.ready md ops listed) (hji : j ≠ i) : R.getD j false = true ∧ ∀ k, k < ops.size → (listed.setIfInBounds j true).getD k false = true → R.getD k false = true := by
  obtain ⟨-, oj, hoj, hall⟩ := mem_ready.1 hj
  have hR : R.getD j false = true := hL.up j oj hoj hji fun e he hb => hsub e.on (hbd j oj hoj e he hb) (hall e he hb)
  refine ⟨hR, fun k hk hl => ?_⟩
  by_cases e : j = k
  · subst e; exact hR
  · rw [getD_set_ne false e] at hl; exact hsub k hk hl

theorem past_false {R listed : Array Bool} {i : Nat} (hL : Low md ops i R tail) (ht : ∀ t ∈ tail, t < ops.size) (hsub : ∀ k, k < ops.size → listed.getD k false = true → R.getD k false = true) : pastB tail listed = false := by
  unfold pastB
  rw [List.any_eq_false]
  intro t htl hh
  have := hsub t (ht t htl) hh
  rw [hL.out t htl] at this
  cases this

theorem wpAnyT_first {i : Nat} {oi : Oper} {v : Value} (hi : ops[i]? = some oi) (hsel : ∀ (j : Nat) (o : Oper) cs b, ops[j]? = some o → o.op ≠ .select cs b)
    (hQ : ∀ c a w, Q (.panic c) (a.put oi.dst v) w → Q (.panic c) a w) {R : Array Bool} (hL : Low md ops i R tail) (ht : ∀ t ∈ tail, t < ops.size) (hbd : ∀ (k : Nat) (o : Oper), ops[k]? = some o → ∀ e ∈ o.after, Region.binds md e = true → e.on < ops.size) :
    ∀ (fuel : Nat) (listed : Array Bool) (a : Act) (w : World),
      (∀ j oj, ops[j]? = some oj → j ≠ i → listed.getD j true = false → (∀ e ∈ oj.after, Region.binds md e = true → e.on ≠ i) → oi.apart ops oj = true) →
      i ∈ Region.ready md ops listed → YieldsIf P ops S oi v a → S w → (∀ k, k < ops.size → listed.getD k false = true → R.getD k false = true) →
      wpAnyT P md ops Q S tail fuel (listed.setIfInBounds i true) (a.put oi.dst v) w → wpAnyT P md ops Q S tail (fuel + 1) listed a w := by
  intro fuel
  induction fuel with
  | zero =>
    intro listed a w _ hr hy hS hsub H
    refine ⟨fun h => (by rw [h] at hr; cases hr), fun j hj => ?_⟩
    by_cases hji : j = i
    · subst hji; exact hy.wpOp hi hS ⟨fun _ => hS, H⟩
    · have := ready_mono hj hji
      rw [H.1] at this
      cases this
  | succ fuel ih =>
    intro listed a w hfree hr hy hS hsub H
    refine ⟨fun h => (by rw [h] at hr; cases hr), fun j hj => ?_⟩
    by_cases hji : j = i
    · subst hji; exact hy.wpOp hi hS ⟨fun _ => hS, H⟩
    · have h1 := H.2 j (ready_mono hj hji)
      obtain ⟨hjun, oj, hoj, hall⟩ := mem_ready.1 hj
      have hnot : ∀ e ∈ oj.after, Region.binds md e = true → e.on ≠ i := fun e he hb heq => by
        have h1 := hall e he hb
        have h0 := (mem_ready.1 hr).1
        rw [heq] at h1
        rcases Nat.lt_or_ge i listed.size with h' | h'
        · simp [h'] at h0 h1; rw [h0] at h1; cases h1
        · simp [Array.getElem?_eq_none h'] at h1
      have h2 := wpOp_putIf hoj (hfree j oj hoj hji hjun hnot) (fun cs b => hsel i oi cs b hi) (fun cs b => hsel j oj cs b hoj) hQ hy h1
      have hfree' : ∀ k ok, ops[k]? = some ok → k ≠ i → (listed.setIfInBounds j true).getD k true = false →
          (∀ e ∈ ok.after, Region.binds md e = true → e.on ≠ i) → oi.apart ops ok = true := fun k ok hk hki hun hno => by
        refine hfree k ok hk hki ?_ hno
        by_cases hjk : j = k
        · subst hjk; exact hjun
        · rw [getD_set_ne true hjk] at hun; exact hun
      obtain ⟨-, hsub'⟩ := low_step hL hsub hbd hj hji
      have hp : pastB tail ((listed.setIfInBounds i true).setIfInBounds j true) = false := by
        have h0 := past_false hL ht hsub'
        rw [Array.setIfInBounds_comm _ _ (Ne.symm hji)]
        unfold pastB at h0 ⊢
        rw [List.any_eq_false] at h0 ⊢
        intro t htl hh
        rw [getD_set_ne false (Ne.symm (hL.ne t htl))] at hh
        exact h0 t htl hh
      refine wpOp_mono (fun a' w' h3 => ⟨fun _ => h3.2.1 hp, ih (listed.setIfInBounds j true) a' w' hfree' (ready_mono hr (Ne.symm hji)) h3.1 (h3.2.1 hp) hsub' ?_⟩) h2
      rw [Array.setIfInBounds_comm _ _ hji]
      exact h3.2.2

/-- every edge leads to an operation -/
def edgesB (md : Region.Mode) (ops : Array Oper) : Bool := ops.all fun o => o.after.all fun e => !Region.binds md e || decide (e.on < ops.size)
theorem edgesB_spec (h : edgesB md ops = true) : ∀ (k : Nat) (o : Oper), ops[k]? = some o → ∀ e ∈ o.after, Region.binds md e = true → e.on < ops.size := by
  intro k o ho e he hb
  have h1 := Array.all_eq_true_iff_forall_mem.1 h o (Array.mem_of_getElem? ho)
  have h2 := Array.all_eq_true_iff_forall_mem.1 h1 e he
  simpa [hb] using h2

/-- take number i first -/
theorem wpAnyT_take {i : Nat} {oi : Oper} {v : Value} {fuel : Nat} {listed : Array Bool} {a : Act} {w : World} (hi : ops[i]? = some oi)
    (hs : (Region.noSelect ops && edgesB md ops && Region.free md ops listed i && (Region.ready md ops listed).contains i && lateB md ops i listed tail) = true)
    (hQ : ∀ c a w, Q (.panic c) (a.put oi.dst v) w → Q (.panic c) a w) (hy : YieldsIf P ops S oi v a) (hS : S w)
    (h : wpAnyT P md ops Q S tail fuel (listed.setIfInBounds i true) (a.put oi.dst v) w) : wpAnyT P md ops Q S tail (fuel + 1) listed a w := by
  simp only [Bool.and_eq_true] at hs
  obtain ⟨⟨⟨⟨s1, s2⟩, s3⟩, s4⟩, s5⟩ := hs
  obtain ⟨hL, hsub⟩ := lowB_spec s5
  have ht : ∀ t ∈ tail, t < ops.size := fun t ht => by
    unfold lateB lowB at s5
    simp only [Bool.and_eq_true, List.all_eq_true] at s5
    simpa using (s5.2 t ht).1.2
  exact wpAnyT_first hi (Region.noSelect_spec s1) hQ hL ht (edgesB_spec s2) fuel listed a w (Region.free_spec hi s3) (by simpa using s4) hy hS hsub h

/-- what yields in whatever world: taken first, also where the condition holds no more -/
theorem wpAnyT_free {i : Nat} {oi : Oper} {v : Value} (hi : ops[i]? = some oi) (hsel : ∀ (j : Nat) (o : Oper) cs b, ops[j]? = some o → o.op ≠ .select cs b)
    (hQ : ∀ c a w, Q (.panic c) (a.put oi.dst v) w → Q (.panic c) a w) (hti : i ∉ tail) :
    ∀ (fuel : Nat) (listed : Array Bool) (a : Act) (w : World),
      (∀ j oj, ops[j]? = some oj → j ≠ i → listed.getD j true = false → (∀ e ∈ oj.after, Region.binds md e = true → e.on ≠ i) → oi.apart ops oj = true) →
      i ∈ Region.ready md ops listed → YieldsIf P ops (fun _ => True) oi v a → (pastB tail listed = false → S w) →
      wpAnyT P md ops Q S tail fuel (listed.setIfInBounds i true) (a.put oi.dst v) w → wpAnyT P md ops Q S tail (fuel + 1) listed a w := by
  have hpi : ∀ L : Array Bool, pastB tail (L.setIfInBounds i true) = pastB tail L := fun L => by
    unfold pastB
    rw [Bool.eq_iff_iff]
    simp only [List.any_eq_true]
    constructor
    · rintro ⟨t, h1, h2⟩; exact ⟨t, h1, by rwa [getD_set_ne false (show i ≠ t from fun e => hti (by rw [e]; exact h1))] at h2⟩
    · rintro ⟨t, h1, h2⟩; exact ⟨t, h1, by rwa [getD_set_ne false (show i ≠ t from fun e => hti (by rw [e]; exact h1))]⟩
  intro fuel
  induction fuel with
  | zero =>
    intro listed a w _ hr hy hS H
    refine ⟨fun h => (by rw [h] at hr; cases hr), fun j hj => ?_⟩
    by_cases hji : j = i
    · subst hji; exact hy.wpOp hi trivial ⟨fun hp => hS (by rw [← hpi]; exact hp), H⟩
    · have := ready_mono hj hji
      rw [H.1] at this
      cases this
  | succ fuel ih =>
    intro listed a w hfree hr hy hS H
    refine ⟨fun h => (by rw [h] at hr; cases hr), fun j hj => ?_⟩
    by_cases hji : j = i
    · subst hji; exact hy.wpOp hi trivial ⟨fun hp => hS (by rw [← hpi]; exact hp), H⟩
    · have h1 := H.2 j (ready_mono hj hji)
      obtain ⟨hjun, oj, hoj, hall⟩ := mem_ready.1 hj
      have hnot : ∀ e ∈ oj.after, Region.binds md e = true → e.on ≠ i := fun e he hb heq => by
        have h1 := hall e he hb
        have h0 := (mem_ready.1 hr).1
        rw [heq] at h1
        rcases Nat.lt_or_ge i listed.size with h' | h'
        · simp [h'] at h0 h1; rw [h0] at h1; cases h1
        · simp [Array.getElem?_eq_none h'] at h1
      have h2 := wpOp_putIf hoj (hfree j oj hoj hji hjun hnot) (fun cs b => hsel i oi cs b hi) (fun cs b => hsel j oj cs b hoj) hQ hy h1
      have hfree' : ∀ k ok, ops[k]? = some ok → k ≠ i → (listed.setIfInBounds j true).getD k true = false →
          (∀ e ∈ ok.after, Region.binds md e = true → e.on ≠ i) → oi.apart ops ok = true := fun k ok hk hki hun hno => by
        refine hfree k ok hk hki ?_ hno
        by_cases hjk : j = k
        · subst hjk; exact hjun
        · rw [getD_set_ne true hjk] at hun; exact hun
      refine wpOp_mono (fun a' w' h3 => ⟨fun hp => h3.2.1 (by rw [Array.setIfInBounds_comm _ _ (Ne.symm hji), hpi]; exact hp), ih (listed.setIfInBounds j true) a' w' hfree' (ready_mono hr (Ne.symm hji)) h3.1 (fun hp => h3.2.1 (by rw [Array.setIfInBounds_comm _ _ (Ne.symm hji), hpi]; exact hp)) ?_⟩) h2
      rw [Array.setIfInBounds_comm _ _ hji]
      exact h3.2.2
theorem wpAnyT_any {i : Nat} {oi : Oper} {v : Value} {fuel : Nat} {listed : Array Bool} {a : Act} {w : World} (hi : ops[i]? = some oi)
    (hs : (Region.noSelect ops && Region.free md ops listed i && (Region.ready md ops listed).contains i && !tail.contains i) = true)
    (hQ : ∀ c a w, Q (.panic c) (a.put oi.dst v) w → Q (.panic c) a w) (hy : YieldsIf P ops (fun _ => True) oi v a) (hS : pastB tail listed = false → S w)
    (h : wpAnyT P md ops Q S tail fuel (listed.setIfInBounds i true) (a.put oi.dst v) w) : wpAnyT P md ops Q S tail (fuel + 1) listed a w := by
  simp only [Bool.and_eq_true] at hs
  obtain ⟨⟨⟨s1, s2⟩, s3⟩, s4⟩ := hs
  exact wpAnyT_free hi (Region.noSelect_spec s1) hQ (by simpa using s4) fuel listed a w (Region.free_spec hi s2) (by simpa using s3) hy hS h

/-- one alone may come up: not one of the last -/
theorem wpAnyT_one {i : Nat} {o : Oper} {fuel : Nat} {listed : Array Bool} {a : Act} {w : World} (ho : ops[i]? = some o) (hr : Region.ready md ops listed = [i])
    (h : ∀ K' : Act → World → Prop, Shut (∀ a w, S w → (S w → wpAnyT P md ops Q S tail fuel (listed.setIfInBounds i true) a w) → K' a w) → if Region.wanted o (yielded ops a.tmps) = true then Oper.wp P o a w K' Q else K' (a.put o.dst undef) w) :
    wpAnyT P md ops Q S tail (fuel + 1) listed a w := by
  refine ⟨fun h0 => (by rw [h0] at hr; cases hr), fun j hj => ?_⟩
  rw [hr] at hj
  obtain rfl : j = i := by simpa using hj
  exact wpOp_step ho (fun K' hK => h K' (fun a w hS hW => hK a w ⟨fun _ => hS, hW hS⟩))
/-- one alone may come up: one of the last, or behind them -/
theorem wpAnyT_last {i : Nat} {o : Oper} {fuel : Nat} {listed : Array Bool} {a : Act} {w : World} (ho : ops[i]? = some o) (hr : Region.ready md ops listed = [i]) (hp : pastB tail (listed.setIfInBounds i true) = true)
    (h : ∀ K' : Act → World → Prop, Shut (∀ a w, wpAnyT P md ops Q S tail fuel (listed.setIfInBounds i true) a w → K' a w) → if Region.wanted o (yielded ops a.tmps) = true then Oper.wp P o a w K' Q else K' (a.put o.dst undef) w) :
    wpAnyT P md ops Q S tail (fuel + 1) listed a w := by
  refine ⟨fun h0 => (by rw [h0] at hr; cases hr), fun j hj => ?_⟩
  rw [hr] at hj
  obtain rfl : j = i := by simpa using hj
  exact wpOp_step ho (fun K' hK => h K' (fun a w hW => hK a w ⟨fun h => (by rw [hp] at h; cases h), hW⟩))
theorem wpAnyT_done {listed : Array Bool} {a : Act} {w : World} (hr : Region.ready md ops listed = []) (h : Q .normal a w) :
    ∀ fuel, wpAnyT P md ops Q S tail fuel listed a w
  | 0 => ⟨hr, h⟩
  | _ + 1 => ⟨fun _ => h, by rw [hr]; simp⟩
theorem wp_region_T (S : World → Prop) (tail : List Nat) {id : Nat} {a : Act} {w : World} (hm : P.follows .mixedOrders = true) (hS : S w.drew)
    (h : S w.drew → wpAnyT P .any ops Q S tail ops.size (Array.replicate ops.size false) a w.drew) : (Code.region id ops true).wp P Q a w :=
  wp_region_any hm (wpAny_of_T _ _ _ _ (h hS))
end
end Go.Proofs.YthjafhjghjbdmaaGreat
namespace Go.Proofs.YthjafhjghjbdmaaGreat
open Go.RowKit Go.Sort
set_option maxHeartbeats 800000 in
theorem Clone_any (w : World) {v : Value} {xs : List Int} (h : intsT.Rd w [v] xs) (hlen : xs.length ≤ 1000000) :
    Calls Tryz.prog 105 #[v] w (RetS intsT w xs) := by
  have hx := h
  obtain ⟨ad, cap, rfl⟩ := rd_slice h
  have HX := Lib.hid hx
  have hnil := fun w o m c => Lib.run_eql_slice_nil (P := Tryz.prog) w 26 2 o m c 0 0 Tryz.underlying26
  rcases Nat.eq_zero_or_pos xs.length with h0 | h0
  · obtain rfl := List.eq_nil_of_length_eq_zero h0
    clear h hx h0 HX
    cases ad
    · go_enter Tryz.func105, Tryz.ntmps105
      go_wp2_with fail
      go_ret
      exact ⟨_, rfl, fr_nil, Below.refl _ _⟩
    · go_enter Tryz.func105, Tryz.ntmps105
      go_wp2_with fail
      go_ret
      exact ⟨_, rfl, fr_nil, bA⟩
  · obtain ⟨_, _, e1, -, -, hc⟩ := ints_ex h
    simp only [List.cons.injEq, Value.slice.injEq, and_true, true_and] at e1
    obtain ⟨rfl, rfl⟩ := e1
    obtain ⟨b, o, rfl, -⟩ := hc h0
    clear h hx hc
    have HB := Lib.hid (Bl.lit0 (E := Ty.int) (e := 2) (base := w.heap.size) (w := w) (Nat.le_refl _))
    go_enter Tryz.func105, Tryz.ntmps105
    go_wp2_with (refine wpList_appI _ rfl _ _ 26 2 rfl elInt rfl HB.out rfl (HX.out.below bA) h0 (by simp; omega) (by decide) (by omega) (by simp) ?_; intro v1 w1 hB1 hg1 _)
    have HB1 := Lib.hid (hB1.fr (by unfold capMax; simp; omega))
    have hb1 : Below w.heap.size w w1 := (bA (w := w)).grown hg1 (by simp) (fun k hk => HB.out.own hk)
    clear hB1
    go_wp2_with fail
    go_ret
    exact ⟨_, rfl, HB1.out, hb1⟩
theorem news2' {w : World} {u u' : Value} {T : TypeId} {B : Nat} (hB : B = w.heap.size) : ∀ j x, [u, u'][j]? = some x → (w.alloc (.cells #[u, u'] T)).cell? ((⟨B, 0, none⟩ : Addr).add j) = some x := by subst hB; exact news2
theorem set2_cells {w : World} {b : Nat} {x y u v : Value} (h0 : w.cell? ⟨b, 0, none⟩ = some u) (h1 : w.cell? ⟨b, 1, none⟩ = some v) :
    ((w.setCell ⟨b, 0, none⟩ x).setCell ⟨b, 1, none⟩ y).cell? ⟨b, 0, none⟩ = some x ∧ ((w.setCell ⟨b, 0, none⟩ x).setCell ⟨b, 1, none⟩ y).cell? ⟨b, 1, none⟩ = some y :=
  ⟨(World.cell?_setCell_other _ _ _ _ (by simp)).trans (World.cell?_setCell_same _ _ _ h0), World.cell?_setCell_same _ _ _ ((World.cell?_setCell_other _ _ _ _ (by simp)).trans h1)⟩
end Go.Proofs.YthjafhjghjbdmaaGreat
namespace Go.Proofs.YthjafhjghjbdmaaGreat
open Go.RowKit Go.Sort
def topI (xs : List Int) : Int := xs.foldl max 0
theorem topI_take {xs : List Int} {k : Nat} (h : k < xs.length) : topI (xs.take (k + 1)) = max (topI (xs.take k)) xs[k] := by
  unfold topI
  rw [List.take_succ_eq_append_getElem h, List.foldl_append]
  rfl
theorem foldl_max_ge : ∀ {xs : List Int} {a : Int}, a ≤ xs.foldl max a ∧ ∀ x ∈ xs, x ≤ xs.foldl max a
  | [], a => ⟨Int.le_refl _, fun x hx => by cases hx⟩
  | y :: r, a => by
    obtain ⟨h1, h2⟩ := foldl_max_ge (xs := r) (a := max a y)
    rw [List.foldl_cons]
    refine ⟨by omega, fun x hx => ?_⟩
    rcases List.mem_cons.1 hx with rfl | hx
    · omega
    · exact h2 x hx
theorem topI_ge {xs : List Int} {x : Int} (h : x ∈ xs) : x ≤ topI xs := foldl_max_ge.2 x h
theorem topI_nn {xs : List Int} : 0 ≤ topI xs := foldl_max_ge.1
theorem foldl_max_le {c : Int} : ∀ {xs : List Int} {a : Int}, a ≤ c → (∀ x ∈ xs, x ≤ c) → xs.foldl max a ≤ c
  | [], _, h, _ => h
  | y :: r, a, h, h2 => by
    rw [List.foldl_cons]
    exact foldl_max_le (by have := h2 y (List.mem_cons_self ..); omega) fun x hx => h2 x (List.mem_cons_of_mem _ hx)
theorem topI_le {xs : List Int} {c : Int} (h0 : 0 ≤ c) (h : ∀ x ∈ xs, x ≤ c) : topI xs ≤ c := foldl_max_le h0 h
set_option maxHeartbeats 1600000 in
set_option maxRecDepth 100000 in
theorem MaxI_any (w : World) {v : Value} {xs : List Int} (h : intsT.Rd w [v] xs) (h0 : 1 ≤ xs.length) (hnn : ∀ x ∈ xs, 0 ≤ x) :
    Calls Tryz.prog 130 #[v] w fun e w' => e = .returned (.int .i64 (topI xs)) ∧ w = w' := by
  obtain ⟨ad, cap, hv, -, hcl, hcell⟩ := ints_ex h
  obtain rfl : v = _ := by simpa using hv
  obtain ⟨b, o, rfl, hb, hce⟩ := hcell (by omega)
  have HCE := Lib.hid hce
  have HN := Lib.hid hnn
  have c0 := (hce 0 (by omega)).2
  have ht1 : topI (xs.take 1) = xs[0] := by rw [topI_take (show 0 < xs.length by omega)]; have := hnn _ (List.getElem_mem (show 0 < xs.length by omega)); simp [topI]; omega
  have HT1 := Lib.hid ht1
  have h01 : 1 ≤ (xs.length : Int) := by omega
  rw [Nat.add_zero] at c0
  clear h hv hcell hce hnn ht1
  go_enter Tryz.func130, Tryz.ntmps130
  go_wp2_with fail
  go_loop [3, 4] (fun m i => ∃ k : Nat, 1 ≤ k ∧ k ≤ xs.length ∧ i = .int .i64 k ∧ m = .int .i64 (topI (xs.take k))) (fun _ i => xs.length - (intOf i).toNat)
  case atStart => exact ⟨1, Nat.le_refl _, h0, rfl, by rw [HT1.out]⟩
  case round =>
    obtain ⟨k, hk1, hk, rfl, rfl⟩ := hrel
    by_cases hkl : k < xs.length
    · have e0 := (HCE.out k hkl).2
      have HT := Lib.hid (topI_take hkl)
      go_wp2_with fail
      go_round
      case rel => exact ⟨k + 1, by omega, by omega, by go_num, by rw [HT.out]; congr 1; split <;> omega⟩
      case measure => simp [intOf]; omega
    · obtain rfl : k = xs.length := by omega
      rw [List.take_length]
      go_wp2_with fail
      go_ret
      exact ⟨rfl, rfl⟩
end Go.Proofs.YthjafhjghjbdmaaGreat
namespace Go.Proofs.YthjafhjghjbdmaaGreat
open Go.RowKit Go.Sort
abbrev Tpl := Int × List (Int × List (List Int))
/-- the places of the values of a list of tuples -/
def cellsL (s : Int) (ar : Nat) (r : Int × List (List Int)) (i : Int) : List Int := (List.range r.1.toNat).map fun p => idxL s 0 (colL (picks r.2 ar i) p)
theorem cells_len {s : Int} {ar : Nat} {r : Int × List (List Int)} {i : Int} : (cellsL s ar r i).length = r.1.toNat := by simp [cellsL]
/-- the first j lists of a relation -/
def looksR (s : Int) (ar : Nat) (k : Nat) (r : Int × List (List Int)) (j : Nat) : List (Int × List Int) := (List.range j).map fun i : Nat => ((k : Int), cellsL s ar r i)
theorem looksR_zero {s : Int} {ar k : Nat} {r : Int × List (List Int)} : looksR s ar k r 0 = [] := rfl
theorem looksR_succ {s : Int} {ar k : Nat} {r : Int × List (List Int)} {j : Nat} : looksR s ar k r (j + 1) = looksR s ar k r j ++ [((k : Int), cellsL s ar r j)] := by simp [looksR, List.range_succ]
theorem looksR_len {s : Int} {ar k : Nat} {r : Int × List (List Int)} {j : Nat} : (looksR s ar k r j).length = j := by simp [looksR]
def powN (n ar : Nat) : Nat := n ^ ar
theorem powN_cast {n ar : Nat} : ((powN n ar : Nat) : Int) = (n : Int) ^ ar := by unfold powN; exact Int.natCast_pow n ar
/-- those of the first k relations -/
def looksT (t : Tpl) (ar : Nat) (k : Nat) : List (Int × List Int) := (List.range k).flatMap fun q => looksR t.1 ar q (relAt t (q : Int)) (powN (relAt t (q : Int)).2.length ar)
theorem looksT_succ {t : Tpl} {ar k : Nat} : looksT t ar (k + 1) = looksT t ar k ++ looksR t.1 ar k (relAt t (k : Int)) (powN (relAt t (k : Int)).2.length ar) := by simp [looksT, List.range_succ]
def looksA (t : Tpl) (ar : Nat) : List (Int × List Int) := looksT t ar t.2.length
/-- those that are due at a place -/
def dueF (ats : List (Int × List Int)) (v : Nat) : List (Int × List Int) := ats.filter fun a => topI a.2 == (v : Int)
def duesF (ats : List (Int × List Int)) (n : Nat) : List (List (Int × List Int)) := (List.range n).map (dueF ats)
theorem duesF_len {ats : List (Int × List Int)} {n : Nat} : (duesF ats n).length = n := by simp [duesF]
theorem duesF_get {ats : List (Int × List Int)} {n k : Nat} (h : k < (duesF ats n).length) : (duesF ats n)[k] = dueF ats k := by simp [duesF]
/-- does what is due go? -/
noncomputable def goesF (t : Tpl) (due : List (List (Int × List Int))) (vals : List Int) : Bool := !anyB (fun a => !tb (holdsC t vals a)) (due.getD (vals.length - 1) [])
theorem goesF_at {t : Tpl} {due : List (List (Int × List Int))} {vals : List Int} {k : Nat} (h : vals.length = k + 1) (hk : k < due.length) : goesF t due vals = !anyB (fun a => !tb (holdsC t vals a)) due[k] := by
  unfold goesF
  rw [h, Nat.add_sub_cancel, List.getD_eq_getElem?_getD, List.getElem?_eq_getElem hk]
  rfl
theorem noneB_any {α : Type} {p : α → Bool} {xs : List α} (h : noneB p xs) : anyB p xs = false := by
  unfold anyB
  rw [List.any_eq_false]
  intro x hx
  rw [h x hx]
  decide
theorem any_at {α : Type} {p : α → Bool} {xs : List α} {k : Nat} (h : k < xs.length) (hp : p xs[k] = true) : anyB p xs = true := by
  unfold anyB
  rw [List.any_eq_true]
  exact ⟨_, List.getElem_mem h, hp⟩
theorem atL_at {l ps : List Int} {k j : Nat} (hk : k < ps.length) (hj : ps[k] = (j : Int)) (hl : j < l.length) : (atL l ps)[k]'(by rw [atL_len]; exact hk) = l[j] := by
  simp [atL, hj, hl]
/-- a list is right: of a relation, with so many places as its tuples have -/
def lookOk (t : Tpl) (N : Nat) (a : Int × List Int) : Prop := ∃ k : Nat, a.1 = (k : Int) ∧ ∃ h : k < t.2.length, a.2.length = (t.2[k]).1.toNat ∧ ∀ p ∈ a.2, 0 ≤ p ∧ p < (N : Int)
def ldueOk (t : Tpl) (due : List (List (Int × List Int))) : Prop := ∀ k (h : k < due.length), ∀ a ∈ due[k], lookOk t due.length a ∧ ∀ p ∈ a.2, 0 ≤ p ∧ p < (k : Int) + 1
theorem duesF_ok {t : Tpl} {n : Nat} {ats : List (Int × List Int)} (h : ∀ a ∈ ats, lookOk t n a) : ldueOk t (duesF ats n) := fun k hk a ha => by
  rw [duesF_get hk] at ha
  rw [duesF_len]
  obtain ⟨ha, ht⟩ := List.mem_filter.1 ha
  have h1 := h a ha
  refine ⟨h1, fun p hp => ?_⟩
  have h2 := topI_ge hp
  obtain ⟨_, _, _, _, h4⟩ := h1
  have h3 := h4 p hp
  have : topI a.2 = (k : Int) := by simpa using ht
  omega
theorem cells_in {s : Int} {ar N : Nat} {r : Int × List (List Int)} {i : Int} (hs : 1 ≤ s) (hr : relOk s r) (h0 : 0 < r.2.length) (hN : s ^ ar = N) : ∀ p ∈ cellsL s ar r i, 0 ≤ p ∧ p < (N : Int) := fun p hp => by
  obtain ⟨q, hq, rfl⟩ := List.mem_map.1 hp
  have hq' : q < r.1.toNat := by simpa using hq
  have htu : tupsOk s (ar : Int) r.1.toNat (picks r.2 ar i) := by
    refine ⟨by rw [picks_len], fun u hu => ?_⟩
    obtain ⟨k, hk, rfl⟩ := List.mem_map.1 hu
    have hk2 := dig_mem (n := (r.2.length : Int)) (by omega) hk
    have hkl : k.toNat < r.2.length := by omega
    rw [List.getD_eq_getElem?_getD, List.getElem?_eq_getElem hkl]
    obtain ⟨h1, h2⟩ := (hr.2.2 k.toNat hkl).1
    have := hr.2.1
    exact ⟨by show (r.2[k.toNat]).length = r.1.toNat; omega, h2⟩
  have h1 := colL_in htu hq'
  have h2 := idx_lt hs (xs := colL (picks r.2 ar i) q) (m := ar) (by rw [colL_len, picks_len]) h1
  omega
theorem look_ok {t : Tpl} {ar N k : Nat} (hT : tplOk t) (hN : t.1 ^ ar = N) (hk : k < t.2.length) (h0 : 0 < (t.2[k]).2.length) (i : Int) : lookOk t N ((k : Int), cellsL t.1 ar t.2[k] i) := by
  have hs := hT.1
  unfold sizeOk at hs
  exact ⟨k, rfl, hk, by rw [cells_len], cells_in (by omega) (hT.2.2 _ (List.getElem_mem hk)) h0 hN⟩
theorem looksA_ok {t : Tpl} {ar N : Nat} (hT : tplOk t) (hN : t.1 ^ ar = N) (har : 1 ≤ ar) : ∀ k, k ≤ t.2.length → ∀ a ∈ looksT t ar k, lookOk t N a
  | 0, _, a, ha => by simp [looksT] at ha
  | k + 1, hk, a, ha => by
    rw [looksT_succ] at ha
    rcases List.mem_append.1 ha with ha | ha
    · exact looksA_ok hT hN har k (by omega) a ha
    · rw [relAt_nat (show k < t.2.length by omega)] at ha
      obtain ⟨i, hi, rfl⟩ := List.mem_map.1 ha
      refine look_ok hT hN (by omega) ?_ _
      rcases Nat.eq_zero_or_pos (t.2[k]).2.length with h | h
      · rw [h] at hi
        unfold powN at hi
        rw [Nat.zero_pow (by omega)] at hi
        simp at hi
      · exact h
/-- how many lists there are; too many? -/
def manyF (t : Tpl) (ar : Nat) : Int := sumL (fun r : Int × List (List Int) => (r.2.length : Int) ^ ar) t.2
def limF (t : Tpl) (ar : Nat) : Bool := decide (4000 < manyF t ar)
theorem pow0 {n ar : Nat} : (0 : Int) ≤ (n : Int) ^ ar := pow_nn (by omega) ar
theorem sumL_min {α : Type} {f : α → Int} {c : Int} (hc : 0 ≤ c) (hf : ∀ x, 0 ≤ f x) : ∀ xs : List α, (sumL (fun x => min (c + 1) (f x)) xs ≤ sumL f xs) ∧ (sumL (fun x => min (c + 1) (f x)) xs ≤ c → sumL f xs = sumL (fun x => min (c + 1) (f x)) xs) ∧ 0 ≤ sumL (fun x => min (c + 1) (f x)) xs
  | [] => by simp [sumL]
  | x :: r => by
    obtain ⟨h1, h2, h3⟩ := sumL_min hc hf r
    have := hf x
    simp only [sumL]
    refine ⟨by omega, fun h => ?_, by omega⟩
    have := h2 (by omega)
    omega
theorem lim_min {t : Tpl} {ar : Nat} : decide (4000 < sumL (fun r : Int × List (List Int) => min 4001 ((r.2.length : Int) ^ ar)) t.2) = limF t ar := by
  unfold limF manyF
  obtain ⟨h1, h2, h3⟩ := sumL_min (f := fun r : Int × List (List Int) => (r.2.length : Int) ^ ar) (c := 4000) (by omega) (fun r => pow0) t.2
  rw [show (4000 : Int) + 1 = 4001 from rfl] at h1 h2 h3
  refine decide_eq_decide.2 ⟨fun h => by omega, fun h => ?_⟩
  rcases Int.lt_or_le 4000 (sumL (fun r : Int × List (List Int) => min 4001 ((r.2.length : Int) ^ ar)) t.2) with h' | h'
  · exact h'
  · have := h2 h'; omega
theorem looksT_len {t : Tpl} {ar : Nat} : ∀ k, k ≤ t.2.length → ((looksT t ar k).length : Int) = sumL (fun r : Int × List (List Int) => (r.2.length : Int) ^ ar) (t.2.take k)
  | 0, _ => by simp [looksT, sumL]
  | k + 1, h => by
    rw [looksT_succ, List.length_append, looksR_len, sumL_succ _ (show k < t.2.length by omega), relAt_nat (show k < t.2.length by omega), ← looksT_len k (by omega), ← powN_cast]
    omega
theorem looksA_len {t : Tpl} {ar : Nat} (h : limF t ar = false) : (looksA t ar).length ≤ 4000 := by
  have h1 := looksT_len (t := t) (ar := ar) _ (Nat.le_refl _)
  rw [List.take_length] at h1
  have h2 := of_decide_eq_false h
  unfold manyF at h2
  unfold looksA
  omega
/-- a bound on the lists so far -/
theorem looksT_le {t : Tpl} {ar k : Nat} (h : limF t ar = false) (hk : k ≤ t.2.length) : (looksT t ar k).length ≤ 4000 := by
  have h1 := looksT_len (t := t) (ar := ar) k hk
  have h2 := of_decide_eq_false h
  have h3 := sumL_take_le (f := fun r : Int × List (List Int) => (r.2.length : Int) ^ ar) (fun r => pow0) t.2 k
  unfold manyF at h2
  omega
theorem looksT_le' {t : Tpl} {ar k : Nat} (h : limF t ar = false) (hk : k < t.2.length) : (looksT t ar k).length + powN (t.2[k]).2.length ar ≤ 4000 := by
  have h1 := looksT_le h (show k + 1 ≤ t.2.length by omega)
  rw [looksT_succ, List.length_append, looksR_len, relAt_nat hk] at h1
  exact h1
/-- the truth values of a template's relations -/
def insF (t : Tpl) : List (List Bool) := t.2.map fun r => seenL t.1 (t.1 ^ r.1.toNat).toNat r.2
theorem insF_len {t : Tpl} : (insF t).length = t.2.length := by simp [insF]
theorem insF_get {t : Tpl} {k : Nat} (h : k < t.2.length) (h' : k < (insF t).length) : (insF t)[k] = seenL t.1 (t.1 ^ (t.2[k]).1.toNat).toNat (t.2[k]).2 := by simp [insF]
end Go.Proofs.YthjafhjghjbdmaaGreat
namespace Go.Proofs.YthjafhjghjbdmaaGreat
section
variable {s m k : Nat} {sure : List Int → Bool} {vals : List Int}
end
section
variable {go : List (List Int) → Bool} {told xs ys : List (List Int)} {x : List Int}
end
theorem sumL_bd {α : Type} {f : α → Int} {c : Int} : ∀ {xs : List α}, (∀ x ∈ xs, f x ≤ c) → sumL f xs ≤ xs.length * c
  | [], _ => by simp [sumL]
  | x :: r, h => by
    have h1 := h x (List.mem_cons_self ..)
    have h2 := sumL_bd (xs := r) fun y hy => h y (List.mem_cons_of_mem _ hy)
    have e : sumL f (x :: r) = f x + sumL f r := rfl
    rw [e, List.length_cons, show ((r.length + 1 : Nat) : Int) = (r.length : Int) + 1 by omega, Int.add_mul]
    omega
end Go.Proofs.YthjafhjghjbdmaaGreat
namespace Go.Proofs.YthjafhjghjbdmaaGreat
open Go.RowKit
/-- read in blocks for which something is so -/
def Ty.RdP {α : Type} (E : Ty α) (ok : Nat → Prop) (w : World) (cs : List Value) (x : α) : Prop := ∃ fp, E.rd w cs x fp ∧ ∀ k ∈ fp, ok k
section
variable {α : Type} {E : Ty α} {ok ok' : Nat → Prop} {w w' : World} {cs : List Value} {x : α}
theorem Ty.RdP.rd (h : E.RdP ok w cs x) : E.Rd w cs x := let ⟨fp, h, _⟩ := h; ⟨fp, h⟩
theorem Ty.RdP.mono (h : E.RdP ok w cs x) (hk : ∀ k, k < w.heap.size → ok k → ok' k) : E.RdP ok' w cs x := let ⟨fp, h, hf⟩ := h; ⟨fp, h, fun k hk' => hk k (E.lt h k hk') (hf k hk')⟩
theorem Ty.Rd.P (h : E.Rd w cs x) : E.RdP (fun k => k < w.heap.size) w cs x := let ⟨fp, h⟩ := h; ⟨fp, h, E.lt h⟩
theorem Ty.RdP.tch {O : List Nat} (h : E.RdP ok w cs x) (ht : TchF O w w') (hO : ∀ k, k < w.heap.size → ok k → k ∉ O) : E.RdP ok w' cs x :=
  let ⟨fp, h, hf⟩ := h; ⟨fp, E.same h (ht.same fun k hk => ⟨E.lt h k hk, hO k (E.lt h k hk) (hf k hk)⟩), hf⟩
theorem Ty.RdP.below (h : E.RdP ok w cs x) (hb : Below w.heap.size w w') : E.RdP ok w' cs x := h.tch (O := []) (Below.tchF hb []) (fun _ _ _ => List.not_mem_nil)
theorem Ty.rd.below {fp : List Nat} (h : E.rd w cs x fp) (hb : Below w.heap.size w w') : E.rd w' cs x fp := E.same h (Same.below hb (E.lt h))
theorem Ty.rd.tch {fp O : List Nat} (h : E.rd w cs x fp) (ht : TchF O w w') (hO : ∀ k ∈ fp, k ∉ O) : E.rd w' cs x fp := E.same h (ht.same fun k hk => ⟨E.lt h k hk, hO k hk⟩)
end
theorem TchF.then {O O' : List Nat} {a b c : World} (h : TchF O a b) (h' : TchF O' b c) (hO : ∀ k ∈ O', k ∈ O ∨ a.heap.size ≤ k) : TchF O a c :=
  ⟨h'.os.trans h.os, h'.tape.trans h.tape, h'.output.trans h.output, Nat.le_trans h.size h'.size, fun k hk hn => (h'.block k (Nat.lt_of_lt_of_le hk h.size) fun hm => by
    rcases hO k hm with hm | hm
    · exact hn hm
    · omega).trans (h.block k hk hn)⟩
theorem TchF.below {O : List Nat} {a b : World} {B : Nat} (h : TchF O a b) (hB : B ≤ a.heap.size) (hO : ∀ k ∈ O, B ≤ k) : Below B a b :=
  ⟨h.os, h.tape, h.output, h.size, fun k hk => h.block k (Nat.lt_of_lt_of_le hk hB) fun hm => Nat.not_lt.2 (hO k hm) hk⟩
abbrev duesT : Ty (List (List (Int × List Int))) := Ty.slice opsT
/-- a search's data, at block bs: the template, how many variables, the atoms that are due at each -/
def Sv (ok : Nat → Prop) (w : World) (bs : Nat) (t : Int × List (Int × List (List Int))) (vars : Int) (due : List (List (Int × List Int))) : Prop :=
  bs < w.heap.size ∧ ok bs ∧ ∃ v1 v3, w.cell? ⟨bs, 0, none⟩ = some (.int .i64 t.1) ∧ w.cell? ⟨bs, 1, none⟩ = some v1 ∧ w.cell? ⟨bs, 2, none⟩ = some (.int .i64 vars) ∧ w.cell? ⟨bs, 3, none⟩ = some v3 ∧ tplT.RdP ok w [.int .i64 t.1, v1] t ∧ duesT.RdP ok w [v3] due
section
variable {ok ok' : Nat → Prop} {w w' : World} {bs : Nat} {t : Int × List (Int × List (List Int))} {vars : Int} {due : List (List (Int × List Int))}
theorem Sv.tch {O : List Nat} (h : Sv ok w bs t vars due) (ht : TchF O w w') (hO : ∀ k, k < w.heap.size → ok k → k ∉ O) : Sv ok w' bs t vars due := by
  obtain ⟨h1, h2, v1, v3, c0, c1, c2, c3, h3, h4⟩ := h
  have hn := hO bs h1 h2
  exact ⟨Nat.lt_of_lt_of_le h1 ht.size, h2, v1, v3, (ht.cell h1 hn).trans c0, (ht.cell h1 hn).trans c1, (ht.cell h1 hn).trans c2, (ht.cell h1 hn).trans c3, h3.tch ht hO, h4.tch ht hO⟩
theorem Sv.below (h : Sv ok w bs t vars due) (hb : Below w.heap.size w w') : Sv ok w' bs t vars due := h.tch (O := []) (Below.tchF hb []) (fun _ _ _ => List.not_mem_nil)
theorem Sv.mono (h : Sv ok w bs t vars due) (hk : ∀ k, k < w.heap.size → ok k → ok' k) : Sv ok' w bs t vars due := by
  obtain ⟨h1, h2, v1, v3, c0, c1, c2, c3, h3, h4⟩ := h
  exact ⟨h1, hk _ h1 h2, v1, v3, c0, c1, c2, c3, h3.mono hk, h4.mono hk⟩
end
/-- a listener of lists of values: what it keeps (I), and the blocks that it may write (O) -/
structure Yl (P : Program) (g : FuncId) (caps : Array Value) (go : List (List Int) → Bool) (I : List (List Int) → List Nat → World → Prop) : Prop where
  stable : ∀ {told O w w'}, I told O w → Below w.heap.size w w' → I told O w'
  lt : ∀ {told O w}, I told O w → ∀ k ∈ O, k < w.heap.size
  step : ∀ {told O w0 w u x}, I told O w0 → Below w0.heap.size w0 w → intsT.Fr w0.heap.size w [u] x → x.length ≤ 10 → told.length ≤ 2000000 →
    Calls P g (#[u] ++ caps) w fun e w' => e = .returned (.bool (go (told ++ [x]))) ∧ ∃ O', I (told ++ [x]) O' w' ∧ TchF O w w' ∧ ∀ k ∈ O', k ∈ O ∨ w0.heap.size ≤ k
end Go.Proofs.YthjafhjghjbdmaaGreat
