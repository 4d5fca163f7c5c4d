/-
Contracts: slices.Insert of one number into a short list that has no room; the list of an index, with its room.
Contracts: what an operation makes of lists of which one at least is the last, put into the closure's list.
Contracts: the closure of lists under operations, the program's.
Plain: a few rows sorted by insertion, and equal neighbours dropped.
A row of rows while it is sorted: its cells, and what they read outside it.
Contracts: a few rows sorted by insertion, in place.
Contracts: slices.SortFunc on one to three rows of numbers.
Plain: what slices.CompactFunc leaves of a row, step by step.
A row of rows: from its reading to its cells, and back.
-/
import Derived.Test.YtggelmbnliajeaaGreatDoorQAB
import Derived.Test.YtggelmbnliajeaaGreatDoorQAG
import Derived.Test.YtggelmbnliajeaaGreatDoorQAC
import Derived.Laws.CopyOwn
import Derived.Test.YtggelmbnliajeaaGreatDoorQAF
namespace Go.Proofs.YtggelmbnliajeaaGreatDoor
open Go.RowKit Go.Sort
/-- a block: these numbers, and something behind them -/
def CellsI (w : World) (g e : Nat) (xs : List Int) (m : Nat) : Prop := ∃ rs : List Value, xs.length + rs.length = m ∧ w.heap[g]? = some (.cells (xs.map (Value.int .i64) ++ rs).toArray e (0, 0))
theorem CellsI.fr {w : World} {base g e m c : Nat} {xs : List Int} (h : CellsI w g e xs m) (hb : base ≤ g) (hI : ∀ a ∈ xs, I64 a) (hl : xs.length ≤ c) (hl2 : xs.length ≤ capMax) : intsT.Fr base w [.slice (some ⟨g, 0, none⟩) xs.length c] xs := by
 obtain ⟨rs, -, h⟩ := h
 rcases Nat.eq_zero_or_pos xs.length with h0 | h0
 ·obtain rfl := List.eq_nil_of_length_eq_zero h0
  exact fr_nil
 refine ⟨[g], ⟨some ⟨g, 0, none⟩, c, rfl, hl, hl2, .inr ⟨h0, g, 0, fun _ => [], rfl, lt_of_block h, ?_, fun i hi => ⟨[.int .i64 xs[i]], ⟨rfl, hI _ (List.getElem_mem hi), rfl⟩, fun j hj => ?_⟩⟩⟩, by simp, fun b hb' => by rw [List.mem_singleton.1 hb']; exact hb, fun b hb' o => by rw [List.mem_singleton.1 hb']; simp [World.frozen?, h]⟩
 ·have : (List.range xs.length).flatMap (fun _ => ([] : List Nat)) = [] := List.eq_nil_iff_forall_not_mem.2 fun x hx => by obtain ⟨_, _, h⟩ := List.mem_flatMap.1 hx; cases h
  rw [this]
 ·obtain rfl : j = 0 := by simpa using hj
  have : (xs.map (Value.int .i64) ++ rs)[i]? = some (.int .i64 xs[i]) := by rw [List.getElem?_append_left (by simpa using hi)]; simp [hi]
  simp [World.cell?, h, Ty.int, this]
theorem grow_cells {P : Program} (w : World) (t ty e : TypeId) (i : TypeInfo) (z : Value) (ht : P.underlying t = some (.slice e)) (hi : P.info? e = some i) (hz : i.zero = some z) (hsz : i.size = 1) (hzs : z.cells.size = 1)
  (b : Addr) (n : Nat) (olds : List Value) (hlo : olds.length = n) (holds : ∀ j v, olds[j]? = some v → w.cell? (b.add j) = some v) (a : Addr) (c : Nat) (y : Value) (hy : w.cell? (a.add 0) = some y) (hn : n ≤ 1000) (hb : i.bytes ≤ 1000) :
  ∃ w' cap rs, (Builtin.append_ #[t, t] ty #[.slice (some b) n n, .slice (some a) 1 c]).run P w = .ok (.slice (some ⟨w.heap.size, 0, none⟩) (n + 1) cap) w' ∧ n + 1 ≤ cap ∧ n + 1 + rs.length = cap ∧ w'.heap[w.heap.size]? = some (.cells (olds ++ y :: rs).toArray e (0, 0)) ∧ Below w.heap.size w w' := by
 have hfit : Builtin.nextslicecap (n + 1) n * i.bytes ≤ 281474976710656 := growslice_fits (by omega) (Nat.le_trans (Nat.mul_le_mul (show n + 1 ≤ 1001 by omega) hb) (by decide))
 have hr := run_append_grow (P := P) w t ty e i z ht hi hz b n n olds (by rw [hsz]; omega) holds a 1 c [y] (by rw [hsz]; rfl) (fun j v hj => by
  rcases j with _ | j
  ·simp at hj; subst hj; exact hy
  ·simp at hj) (by omega) (by omega) hfit
 have hge : n + 1 ≤ grownCap w (n + 1) n e := grownCap_ge w (n + 1) n e
 refine ⟨_, _, (Builtin.zeroCells z.cells (grownCap w (n + 1) n e - (n + 1))).toList, hr, hge, ?_, ?_, bD.alloc (by simp) _⟩
 ·simp [Builtin.zeroCells, hzs]; omega
 ·have e1 : (w.drew.alloc (Obj.cells (olds.toArray ++ [y].toArray ++ Builtin.zeroCells z.cells (grownCap w (n + 1) n e - (n + 1))) e)).heap[w.heap.size]? = some (Obj.cells (olds.toArray ++ [y].toArray ++ Builtin.zeroCells z.cells (grownCap w (n + 1) n e - (n + 1))) e) := Array.getElem?_push_size
  rw [e1]
  congr 2
  apply Array.ext'
  simp
theorem grow_zeros {P : Program} (w : World) (t tn ty e : TypeId) (i : TypeInfo) (ht : P.underlying t = some (.slice e)) (htn : P.underlying tn = some (.int .i64)) (hi : P.info? e = some i) (hz : i.zero = some (.int .i64 0)) (hsz : i.size = 1)
  (b : Addr) (n cap0 m : Nat) (olds : List Value) (hlo : olds.length = n) (holds : ∀ j v, olds[j]? = some v → w.cell? (b.add j) = some v) (hm : 0 < m) (hn : n + m ≤ 1000) (hc : cap0 < n + m) (hb : i.bytes ≤ 1000) :
  ∃ w' cap rs, (Builtin.append_ #[t, tn] ty #[.slice (some b) n cap0, .int .i64 m]).run P w = .ok (.slice (some ⟨w.heap.size, 0, none⟩) (n + m) cap) w' ∧ n + m ≤ cap ∧ n + m + rs.length = cap ∧ w'.heap[w.heap.size]? = some (.cells (olds ++ (List.replicate m (Value.int .i64 0) ++ rs)).toArray e (0, 0)) ∧ Below w.heap.size w w' := by
 have hfit : Builtin.nextslicecap (n + m) cap0 * i.bytes ≤ 281474976710656 := growslice_fits (by omega) (Nat.le_trans (Nat.mul_le_mul (show n + m ≤ 1000 by omega) hb) (by decide))
 have hge : n + m ≤ grownCap w (n + m) cap0 e := grownCap_ge w (n + m) cap0 e
 have hz1 : (Value.int .i64 0).cells.size = 1 := by simp [Value.cells]
 have hw : IntKind.i64.wrap (m : Int) = (m : Int) := wrap_small (by omega) (by omega)
 have hn1 : ¬ (n + m ≤ cap0) := by omega
 have hneg : ¬ ((m : Int) < 0) := by omega
 have hm0 : ¬ (m * i.size = 0) := by rw [hsz]; omega
 have hmx : max (m : Int) 0 = (m : Int) := by omega
 have h63' : ¬ (9223372036854775807 < ((n : Int) + (m : Int))) := by omega
 have h48' : ¬ (281474976710656 < Builtin.nextslicecap (n + m) cap0 * i.bytes) := by omega
 have hmb : ¬ ((281474976710656 : Int) < (m : Int) * (i.bytes : Int)) := by
  have : m * i.bytes ≤ 1000 * 1000 := Nat.mul_le_mul (by omega) hb
  have h2 : ((m * i.bytes : Nat) : Int) ≤ 1000000 := by omega
  rw [Int.natCast_mul] at h2
  omega
 have hfo := run_firstCells_some (P := P) w.drew i.size n b n cap0 olds (by rw [hsz]; omega) (by simpa using holds)
 have hr : (Builtin.append_ #[t, tn] ty #[.slice (some b) n cap0, .int .i64 m]).run P w = Result.ok (Value.slice (some ⟨w.heap.size, 0, none⟩) (n + m) (grownCap w (n + m) cap0 e)) (w.drew.alloc (Obj.cells (olds.toArray ++ Builtin.zeroCells (Value.int .i64 0).cells m ++ Builtin.zeroCells (Value.int .i64 0).cells (grownCap w (n + m) cap0 e - (n + m))) e)) := by
  simp [Builtin.append_, run_underlying ht, run_underlying htn, sizeOf, typeInfo, zeroValue, hi, hz, hw, hn1, h63', h48', hmb, hneg, hm0, hmx, Question.forced, hfo, newRow, grownCap, asInt, asIntOf]
 refine ⟨_, _, (Builtin.zeroCells (Value.int .i64 0).cells (grownCap w (n + m) cap0 e - (n + m))).toList, hr, hge, ?_, ?_, bD.alloc (by simp) _⟩
 ·simp [Builtin.zeroCells, hz1]; omega
 ·have e1 : (w.drew.alloc (Obj.cells (olds.toArray ++ Builtin.zeroCells (Value.int .i64 0).cells m ++ Builtin.zeroCells (Value.int .i64 0).cells (grownCap w (n + m) cap0 e - (n + m))) e)).heap[w.heap.size]? = some (Obj.cells (olds.toArray ++ Builtin.zeroCells (Value.int .i64 0).cells m ++ Builtin.zeroCells (Value.int .i64 0).cells (grownCap w (n + m) cap0 e - (n + m))) e) := Array.getElem?_push_size
  rw [e1]
  congr 2
  apply Array.ext'
  simp [Builtin.zeroCells, Value.cells]
  refine List.eq_replicate_iff.2 ⟨by simp, fun b hb => ?_⟩
  obtain ⟨i, _, rfl⟩ := List.mem_map.1 hb
  simp [Nat.mod_one]
theorem add_at {g j : Nat} : (⟨g, 0, none⟩ : Addr).add j = ⟨g, j, none⟩ := by
 by_cases h : j = 0
 ·subst h; simp [Addr.add]
 ·simp [Addr.add, h]
theorem cells_ints {w : World} {g : Nat} {xs : List Int} (h : ∀ j (hj : j < xs.length), w.cell? ⟨g, j, none⟩ = some (.int .i64 xs[j])) : ∀ (j : Nat) (v : Value), (xs.map (Value.int .i64))[j]? = some v → w.cell? ((⟨g, 0, none⟩ : Addr).add j) = some v := fun j v hj => by
 obtain ⟨hj', rfl⟩ := List.getElem?_eq_some_iff.1 hj
 have h2 : j < xs.length := by simpa using hj'
 rw [add_at, h j h2, List.getElem_map]
/-- a number put behind a list that is full -/
theorem wpList_growI {P : Program} (w : World) {ops : Array Oper} {rest : List Oper} {o : Oper} {a : Act} {Q : Exit → Act → World → Prop} (hgd : o.guard = none) (s x : Operand) (t e : TypeId) {bytes : Nat}
  (ho : o.op = .call { callee := .builtin .append, args := #[s, x], argTypes := #[t, t] }) (ht : P.underlying t = some (.slice e)) (hinfo : (P.info? e).map (fun i => (i.zero, i.size, i.bytes)) = some (some (.int .i64 0), 1, bytes)) (hby : bytes ≤ 1000)
  {g n : Nat} {xs : List Int} (hs : a.eval s = .slice (some ⟨g, 0, none⟩) n n) (hl : xs.length = n) (holds : ∀ j (hj : j < xs.length), w.cell? ⟨g, j, none⟩ = some (.int .i64 xs[j]))
  {gv c : Nat} {y : Int} (hx : a.eval x = .slice (some ⟨gv, 0, none⟩) 1 c) (hy : w.cell? ⟨gv, 0, none⟩ = some (.int .i64 y)) (hn : n ≤ 1000)
  (h : ∀ w' cap, CellsI w' w.heap.size e (xs ++ [y]) cap → n + 1 ≤ cap → Below w.heap.size w w' → wpList P ops Q rest (a.put o.dst (.slice (some ⟨w.heap.size, 0, none⟩) (n + 1) cap)) w') : wpList P ops Q (o :: rest) a w := by
 obtain ⟨i, hi, hz, hsz, rfl⟩ := info_parts hinfo
 refine wpList_plain hgd fun K hK => ?_
 obtain ⟨w', cap, rs, hr, h1, h2, h3, h4⟩ := grow_cells (P := P) w t o.type e i (.int .i64 0) ht hi hz hsz (by simp [Value.cells]) ⟨g, 0, none⟩ n (xs.map (Value.int .i64)) (by simpa using hl) (cells_ints holds) ⟨gv, 0, none⟩ c (.int .i64 y) (by rw [add_at]; exact hy) hn hby
 unfold Oper.wp execOp
 simp only [ho, resolve, invoke, builtin, Sem.run_bind, Sem.run_pure, Result.andThen_ok, List.map_toArray, List.map_cons, List.map_nil, hs, hx, hr]
 exact hK _ _ (h w' cap ⟨rs, by simp; omega, by rw [h3]; simp⟩ h1 h4)
/-- so many zeros put behind a list without so much room -/
theorem wpList_zerosI {P : Program} (w : World) {ops : Array Oper} {rest : List Oper} {o : Oper} {a : Act} {Q : Exit → Act → World → Prop} (hgd : o.guard = none) (s x : Operand) (t tn e : TypeId) {bytes : Nat}
  (ho : o.op = .call { callee := .builtin .append, args := #[s, x], argTypes := #[t, tn] }) (ht : P.underlying t = some (.slice e)) (htn : P.underlying tn = some (.int .i64)) (hinfo : (P.info? e).map (fun i => (i.zero, i.size, i.bytes)) = some (some (.int .i64 0), 1, bytes)) (hby : bytes ≤ 1000)
  {g n cap0 m : Nat} {xs : List Int} (hs : a.eval s = .slice (some ⟨g, 0, none⟩) n cap0) (hl : xs.length = n) (holds : ∀ j (hj : j < xs.length), w.cell? ⟨g, j, none⟩ = some (.int .i64 xs[j]))
  (hx : a.eval x = .int .i64 (m : Int)) (hm : 0 < m) (hn : n + m ≤ 1000) (hc : cap0 < n + m)
  (h : ∀ w' cap, CellsI w' w.heap.size e (xs ++ List.replicate m 0) cap → n + m ≤ cap → Below w.heap.size w w' → wpList P ops Q rest (a.put o.dst (.slice (some ⟨w.heap.size, 0, none⟩) (n + m) cap)) w') : wpList P ops Q (o :: rest) a w := by
 obtain ⟨i, hi, hz, hsz, rfl⟩ := info_parts hinfo
 refine wpList_plain hgd fun K hK => ?_
 obtain ⟨w', cap, rs, hr, h1, h2, h3, h4⟩ := grow_zeros (P := P) w t tn o.type e i ht htn hi hz hsz ⟨g, 0, none⟩ n cap0 m (xs.map (Value.int .i64)) (by simpa using hl) (cells_ints holds) hm hn hc hby
 unfold Oper.wp execOp
 simp only [ho, resolve, invoke, builtin, Sem.run_bind, Sem.run_pure, Result.andThen_ok, List.map_toArray, List.map_cons, List.map_nil, hs, hx, hr]
 exact hK _ _ (h w' cap ⟨rs, by simp; omega, by rw [h3]; simp⟩ h1 h4)
theorem splice_ints {xs cs : List Int} {rs : List Value} {off : Nat} (h : off + cs.length ≤ xs.length) : splice (xs.map (Value.int .i64) ++ rs) off (cs.map (Value.int .i64)) = (splice xs off cs).map (Value.int .i64) ++ rs := by
 unfold splice
 rw [List.length_map, List.take_append_of_le_length (by simp; omega), List.drop_append_of_le_length (by simp; omega)]
 simp only [List.map_append, List.map_take, List.map_drop, List.append_assoc]
/-- numbers copied into a row -/
theorem wpList_copyI {P : Program} {w : World} {ops : Array Oper} {rest : List Oper} {o : Oper} {a : Act} {Q : Exit → Act → World → Prop} (hgd : o.guard = none) (d s : Operand) (dT : TypeId)
  (ho : o.op = .call { callee := .builtin .copy, args := #[d, s], argTypes := #[dT, dT] }) (elem : TypeId) (hu : P.underlying dT = some (.slice elem)) (hsz : (P.info? elem).map (·.size) = some 1)
  (dp : Option Addr) (gs so dLen dCap sLen sCap : Nat) (hd : a.eval d = .slice dp dLen dCap) (hs : a.eval s = .slice (some ⟨gs, so, none⟩) sLen sCap)
  (g off : Nat) (hdp : dp = some ⟨g, off, none⟩) (xs : List Int) (m : Nat) (hg : CellsI w g elem xs m) (cs : List Int) (hn : cs.length = Nat.min sLen dLen)
  (hcs : ∀ j (hj : j < cs.length), w.cell? ⟨gs, so + j, none⟩ = some (.int .i64 cs[j])) (hfit : off + cs.length ≤ xs.length) (B : Nat) (w0 : World) (hb : Below B w0 w) (hBg : B ≤ g)
  (h : ∀ w', CellsI w' g elem (splice xs off cs) m → Below B w0 w' → wpList P ops Q rest (a.put o.dst (goInt cs.length)) w') :
  wpList P ops Q (o :: rest) a w := by
 obtain ⟨rs, h1, h2⟩ := hg
 refine wpList_copy_splice hgd d s dT dT ho elem hu hsz dp (some ⟨gs, so, none⟩) dLen dCap sLen sCap hd hs g off (xs.map (Value.int .i64) ++ rs) elem h2 (cs.map (Value.int .i64)) (by rw [List.length_map]; exact hn) (fun _ => ⟨hdp, _, rfl, fun j v hj => ?_⟩) (by simp; omega) (fun v hv => by obtain ⟨z, _, rfl⟩ := List.mem_map.1 hv; rfl) B w0 hb hBg (fun w' h3 h4 => ?_)
 ·obtain ⟨hj', rfl⟩ := List.getElem?_eq_some_iff.1 hj
  have hj2 : j < cs.length := by simpa using hj'
  have := hcs j hj2
  rw [List.getElem_map, ← this]
  by_cases h0 : j = 0
  ·subst h0; simp [Addr.add]
  ·simp [Addr.add, h0]
 ·rw [splice_ints hfit] at h3
  rw [List.length_map]
  exact h w' ⟨rs, by rw [length_splice _ _ _ hfit]; exact h1, h3.out⟩ h4
theorem step_copyI {P : Program} {ops : Array Oper} {o : Oper} {a : Act} {w : World} {K : Act → World → Prop} {Q : Exit → Act → World → Prop} {E : Prop} (hgd : o.guard = none) (d s : Operand) (dT : TypeId)
  (ho : o.op = .call { callee := .builtin .copy, args := #[d, s], argTypes := #[dT, dT] }) (elem : TypeId) (hu : P.underlying dT = some (.slice elem)) (hsz : (P.info? elem).map (·.size) = some 1)
  (dp : Option Addr) (gs so dLen dCap sLen sCap : Nat) (hd : a.eval d = .slice dp dLen dCap) (hs : a.eval s = .slice (some ⟨gs, so, none⟩) sLen sCap)
  (g off : Nat) (hdp : dp = some ⟨g, off, none⟩) (xs : List Int) (m : Nat) (hg : CellsI w g elem xs m) (cs : List Int) (hn : cs.length = Nat.min sLen dLen)
  (hcs : ∀ j (hj : j < cs.length), w.cell? ⟨gs, so + j, none⟩ = some (.int .i64 cs[j])) (hfit : off + cs.length ≤ xs.length) (B : Nat) (w0 : World) (hb : Below B w0 w) (hBg : B ≤ g)
  (h : ∀ w', CellsI w' g elem (splice xs off cs) m → Below B w0 w' → K (a.put o.dst (goInt cs.length)) w') :
  if Region.wanted o (yielded ops a.tmps) = true then Oper.wp P o a w K Q else E := by
 obtain ⟨rs, h1, h2⟩ := hg
 refine step_copy_splice hgd d s dT dT ho elem hu hsz dp (some ⟨gs, so, none⟩) dLen dCap sLen sCap hd hs g off (xs.map (Value.int .i64) ++ rs) elem h2 (cs.map (Value.int .i64)) (by rw [List.length_map]; exact hn) (fun _ => ⟨hdp, _, rfl, fun j v hj => ?_⟩) (by simp; omega) (fun v hv => by obtain ⟨z, _, rfl⟩ := List.mem_map.1 hv; rfl) B w0 hb hBg (fun w' h3 h4 => ?_)
 ·obtain ⟨hj', rfl⟩ := List.getElem?_eq_some_iff.1 hj
  have hj2 : j < cs.length := by simpa using hj'
  have := hcs j hj2
  rw [List.getElem_map, ← this]
  by_cases h0 : j = 0
  ·subst h0; simp [Addr.add]
  ·simp [Addr.add, h0]
 ·rw [splice_ints hfit] at h3
  rw [List.length_map]
  exact h w' ⟨rs, by rw [length_splice _ _ _ hfit]; exact h1, h3.out⟩ h4
set_option maxHeartbeats 800000 in
set_option maxRecDepth 100000 in
theorem listOfX_any (w : World) (s idx : Int) (n : Nat) (hs : 1 ≤ s) (hs1 : s ≤ 1000) (hn : n ≤ 5) (h0 : 0 ≤ idx) (h1 : idx ≤ 1000000000000000) :
  Calls Tryz.prog 118 #[.int .i64 s, .int .i64 n, .int .i64 idx] w fun e w' => e = .returned (.slice (some ⟨w.heap.size, 0, none⟩) n n) ∧ intsT.Fr w.heap.size w' [.slice (some ⟨w.heap.size, 0, none⟩) n n] (digL s idx n) ∧ Below w.heap.size w w' := by
 go_enter Tryz.func118, Tryz.ntmps118
 go_wp2_with (refine wpList_mkI _ rfl _ _ 42 2 rfl Tryz.underlying42 infoInt w.heap.size n rfl rfl (by omega) (by decide) (by simp) ?_; intro w1 hA hg1 hs1)
 have hb1 := below_of_grown hg1
 go_loopw [8, 2] (fun i q wr => ∃ (k : Nat) (L : List Int), k ≤ n ∧ i = .int .i64 ((n : Int) - 1 - k) ∧ q = .int .i64 (idx / s ^ k) ∧ IR 2 w.heap.size wr w.heap.size n n L ∧ (∀ (j : Nat) (h : j < L.length), n - k ≤ j → L[j] = dig s idx (n - 1 - j)) ∧ Below w.heap.size w wr) (fun i _ _ => ((intOf i) + 1).toNat)
 case atStart => exact ⟨0, _, Nat.zero_le _, by simp, by simp, hA, fun j h hj => by simp at h; omega, hb1⟩
 case round =>
  obtain ⟨k, L, hk, rfl, rfl, hIR, hL, hbel⟩ := hrel
  have hLl := hIR.1
  by_cases hkl : k < n
  ·obtain ⟨j, hj⟩ : ∃ j : Nat, (n : Int) - 1 - k = j := ⟨n - 1 - k, by omega⟩
   have hjn : j < n := by omega
   have hjk : n - 1 - j = k := by omega
   obtain ⟨u0, d0⟩ := hIR.cell hjn
   have d1 := hIR.free j
   have hg := hIR.lt
   have hd := dig_nn (idx := idx) hs k
   have hq := quo_nn hs h0 k
   have hIs := hIR.set j (I64.small (n := dig s idx k) (by omega) (by omega))
   have HQ := Lib.hid (quo_succ (idx := idx) hs k)
   have HDG : Hid ((idx / s ^ k) % s = dig s idx k) := rfl
   have HIS := Lib.hid hIs
   have HLL := Lib.hid hL
   have HIR := Lib.hid hIR
   clear hIs hL hIR hA
   rw [hj]
   go_wp2_with fail
   refine ⟨⟨k + 1, L.set j (dig s idx k), by omega, congrArg _ (by omega), by rw [HQ.out], HIS.out, fun j' h hj' => ?_, hbel.setCell (Nat.le_refl _) _⟩, by simp [intOf]⟩
   by_cases e : j = j'
   ·subst e
    rw [List.getElem_set_self, hjk]
   ·rw [List.getElem_set_ne e]
    exact HLL.out j' (by simpa using h) (by omega)
  ·obtain rfl : k = n := by omega
   have hfr := Lib.hid (hIR.fr (by unfold capMax; omega))
   have HE : Hid (L = digL s idx k) := List.ext_getElem (by rw [hLl, digL_len]) fun j h h' => by rw [hL j h (by omega)]; simp [digL]
   clear hIR hL hA
   go_wp2_with fail
   go_ret
   exact ⟨rfl, by rw [← HE.out]; exact hfr.out, hbel⟩
theorem insAt_get {L : List Int} {p : Nat} {x : Int} (hp : p < L.length) : insAt L p x = splice (splice (L.take p ++ List.replicate (L.length + 1 - p) 0) p [x]) (p + 1) (L.drop p) := by
 have hl : (L.take p).length = p := List.length_take_of_le (by omega)
 have e1 : splice (L.take p ++ List.replicate (L.length + 1 - p) 0) p [x] = L.take p ++ x :: List.replicate (L.length - p) 0 := by
  unfold splice
  rw [List.take_left' hl, List.drop_append, List.drop_eq_nil_of_le (by rw [hl]; simp), hl, List.drop_replicate]
  simp only [List.length_singleton, List.nil_append, List.singleton_append]
  rw [show L.length + 1 - p - (p + 1 - p) = L.length - p by omega]
 rw [e1]
 have e2 : (L.take p ++ x :: List.replicate (L.length - p) (0 : Int)).take (p + 1) = L.take p ++ [x] := by
  rw [List.take_append, hl, List.take_of_length_le (l := L.take p) (i := p + 1) (by omega), show p + 1 - p = 1 by omega]
  rfl
 have e3 : (L.take p ++ x :: List.replicate (L.length - p) (0 : Int)).drop (p + 1 + (L.drop p).length) = [] := List.drop_eq_nil_of_le (by simp; omega)
 unfold splice insAt
 rw [e2, e3]
 simp
theorem insEnd {L : List Int} {x : Int} {p : Nat} (h : L.length = p) : insAt L p x = L ++ [x] := by
 unfold insAt
 rw [List.take_of_length_le (by omega), List.drop_eq_nil_of_le (by omega)]
set_option maxHeartbeats 800000 in
set_option maxRecDepth 100000 in
theorem insertEnd_any (w : World) {g n gv : Nat} {L : List Int} {x : Int} (hL : L.length = n) (hn : n ≤ 5) (h : ∀ j (hj : j < L.length), w.cell? ⟨g, j, none⟩ = some (.int .i64 L[j])) (hx : w.cell? ⟨gv, 0, none⟩ = some (.int .i64 x)) (hI : ∀ a ∈ L ++ [x], I64 a) :
  Calls Tryz.prog 140 #[.slice (some ⟨g, 0, none⟩) n n, .int .i64 n, .slice (some ⟨gv, 0, none⟩) 1 1] w (RetS intsT w (insAt L n x)) := by
 have HL := Lib.hid hL
 have H := Lib.hid h
 have HI := Lib.hid hI
 clear hL h hI
 go_enter Tryz.func140, Tryz.ntmps140
 go_wp2_with (refine wpList_growI _ rfl _ _ 42 2 rfl Tryz.underlying42 infoInt (by decide) rfl HL.out H.out rfl hx (by omega) ?_; intro w1 cap hC hcap hb1)
 go_ret
 refine ⟨_, rfl, ?_, hb1⟩
 have hl : (insAt L n x).length = n + 1 := by rw [insAt_len, HL.out]
 rw [← hl]
 rw [insEnd HL.out] at hl ⊢
 exact hC.fr (Nat.le_refl _) HI.out (by omega) (by unfold capMax; omega)
set_option maxHeartbeats 1600000 in
set_option maxRecDepth 100000 in
theorem insertMid_any (w : World) {g n p gv : Nat} {L : List Int} {x : Int} (hL : L.length = n) (hn : n ≤ 5) (hp : p < n) (h : ∀ j (hj : j < L.length), w.cell? ⟨g, j, none⟩ = some (.int .i64 L[j])) (hx : w.cell? ⟨gv, 0, none⟩ = some (.int .i64 x)) (hI : ∀ a ∈ insAt L p x, I64 a) (hgw : g < w.heap.size) (hgv : gv < w.heap.size) :
  Calls Tryz.prog 140 #[.slice (some ⟨g, 0, none⟩) n n, .int .i64 p, .slice (some ⟨gv, 0, none⟩) 1 1] w (RetS intsT w (insAt L p x)) := by
 have HL := Lib.hid hL
 have H := Lib.hid h
 have HI := Lib.hid hI
 have HT : Hid ((L.take p).length = p) := by unfold Hid; rw [List.length_take]; omega
 have HTC : Hid (∀ j (hj : j < (L.take p).length), w.cell? ⟨g, j, none⟩ = some (.int .i64 (L.take p)[j])) := fun j hj => by
  rw [List.getElem_take]
  exact h j (by rw [List.length_take] at hj; omega)
 obtain ⟨m, hm⟩ : ∃ m : Nat, (n : Int) + 1 - p = (m : Int) := ⟨n + 1 - p, by omega⟩
 have hpc : (p : Int) ≤ n := by omega
 have hne : ((p : Int) == (n : Int)) = false := by simp; omega
 have hgt : decide ((n : Int) < (n : Int) + 1) = true := by simp; omega
 clear hL h hI
 go_enter Tryz.func140, Tryz.ntmps140
 have H1M : Hid ((1 : Nat) = Nat.min 1 m) := by show 1 = min 1 m; omega
 have hlx : (L.take p ++ List.replicate m 0).length = p + m := by rw [List.length_append, HT.out, List.length_replicate]
 have HLX := Lib.hid hlx
 have HDL : Hid ((L.drop p).length = n - p) := by unfold Hid; rw [List.length_drop, HL.out]
 have HDC : Hid (∀ j (hj : j < (L.drop p).length), w.cell? ⟨g, p + j, none⟩ = some (.int .i64 (L.drop p)[j])) := fun j hj => by
  rw [List.getElem_drop]
  exact H.out (p + j) (by rw [List.length_drop] at hj; omega)
 have HFIN : Hid (insAt L p x = splice (splice (L.take p ++ List.replicate m 0) p [x]) (p + 1) (L.drop p)) := by
  unfold Hid
  rw [insAt_get (by rw [HL.out]; omega), show L.length + 1 - p = m by rw [HL.out]; omega]
 have hw1 : IntKind.i64.wrap ((p : Int) + 1) = ((p + 1 : Nat) : Int) := by rw [wrap_small (by omega) (by omega)]; omega
 have hw2 : (1 : Int) ≤ (m : Int) := by omega
 have hw3 : (0 : Int) ≤ (p : Int) + 1 := by omega
 have hnp : ¬ (n = p) := by omega
 clear hlx
 go_wp2_with (first | (refine wpList_zerosI _ rfl _ _ 42 3 2 rfl Tryz.underlying42 Tryz.underlying3 infoInt (by decide) rfl HT.out HTC.out (m := m) (by first | rfl | (rw [← hm]; rfl)) (by omega) (by omega) (by omega) ?_; intro w1 cap hC hcap hb1; have HC := Lib.hid hC; have hz1 := hb1.size; clear hC) | (refine wpList_copyI rfl (.tmp 43) (.tmp 44) 42 rfl 2 Tryz.underlying42 (by kernel_rfl) (some ⟨w.heap.size, p, none⟩) gv 0 m (cap - p) 1 1 rfl rfl w.heap.size p rfl (L.take p ++ List.replicate m 0) cap HC.out [x] H1M.out (fun j hj => ?_) ?_ w.heap.size w hb1 (Nat.le_refl _) ?_; rotate_left 2; intro w2 hC2 hb2; have HC2 := Lib.hid hC2; clear hC2))
 have hc1 : ¬ (cap = p + 1) := by omega
 rotate_left
 ·obtain rfl : j = 0 := by simpa using hj
  exact (cellB hb1 hgv).trans hx
 ·rw [HLX.out]; simp; omega
 refine wp_region_T (fun _ => True) [8] (by kernel_rfl) trivial (fun hHeld => ?_)
 refine wpAnyT_take (i := 0) (v := ?_) rfl (by kernel_rfl) (fun _ _ _ h => h) (Or.inl ⟨by rfl, ?_⟩) (by assumption) ?_
 rotate_left
 ·(intro w hSw; (try dsimp only at hSw); go_simp <;> with_reducible rfl)
 go_simp
 refine wpAnyT_take (i := 1) (v := ?_) rfl (by kernel_rfl) (fun _ _ _ h => h) (Or.inl ⟨by rfl, ?_⟩) (by assumption) ?_
 rotate_left
 ·(intro w hSw; (try dsimp only at hSw); go_simp <;> with_reducible rfl)
 go_simp
 refine wpAnyT_take (i := 2) (v := ?_) rfl (by kernel_rfl) (fun _ _ _ h => h) (Or.inl ⟨by rfl, ?_⟩) (by assumption) ?_
 rotate_left
 ·(intro w hSw; (try dsimp only at hSw); go_simp <;> with_reducible rfl)
 go_simp
 refine wpAnyT_take (i := 3) (v := ?_) rfl (by kernel_rfl) (fun _ _ _ h => h) (Or.inl ⟨by rfl, ?_⟩) (by assumption) ?_
 rotate_left
 ·(intro w hSw; (try dsimp only at hSw); go_simp <;> with_reducible rfl)
 go_simp
 refine wpAnyT_take (i := 4) (v := ?_) rfl (by kernel_rfl) (fun _ _ _ h => h) (Or.inl ⟨by rfl, ?_⟩) (by assumption) ?_
 rotate_left
 ·(intro w hSw; (try dsimp only at hSw); go_simp <;> with_reducible rfl)
 go_simp
 refine wpAnyT_take (i := 5) (v := ?_) rfl (by kernel_rfl) (fun _ _ _ h => h) (Or.inl ⟨by rfl, ?_⟩) (by assumption) ?_
 rotate_left
 ·(intro w hSw; (try dsimp only at hSw); go_simp <;> with_reducible rfl)
 go_simp
 refine wpAnyT_take (i := 6) (v := ?_) rfl (by kernel_rfl) (fun _ _ _ h => h) (Or.inl ⟨by rfl, ?_⟩) (by assumption) ?_
 rotate_left
 ·(intro w hSw; (try dsimp only at hSw); go_simp <;> with_reducible rfl)
 go_simp
 refine wpAnyT_take (i := 7) (v := ?_) rfl (by kernel_rfl) (fun _ _ _ h => h) (Or.inl ⟨by rfl, ?_⟩) (by assumption) ?_
 rotate_left
 ·(intro w hSw; (try dsimp only at hSw); go_simp <;> with_reducible rfl)
 go_simp
 refine wpAnyT_last (i := 8) rfl (by kernel_rfl) (by kernel_rfl) (fun K hK => ?_)
 refine step_copyI rfl (.tmp 50) (.tmp 53) 42 rfl 2 Tryz.underlying42 (by kernel_rfl) (some ⟨w.heap.size, p + 1, none⟩) g p (p + m - (p + 1)) (cap - (p + 1)) (n - p) (n - p) rfl rfl w.heap.size (p + 1) rfl (splice (L.take p ++ List.replicate m 0) p [x]) cap HC2.out (L.drop p) ?_ (fun j hj => ?_) ?_ w.heap.size w hb2.drew (Nat.le_refl _) ?_
 ·rw [HDL.out]; show n - p = min (n - p) (p + m - (p + 1)); omega
 ·exact (cellB hb2.drew hgw).trans (HDC.out j hj)
 ·rw [length_splice _ _ _ (by rw [HLX.out]; simp; omega), HLX.out, HDL.out]; omega
 intro w3 hC3 hb3
 rw [← HFIN.out] at hC3
 have HC3 := Lib.hid hC3
 clear hC3
 refine hK.out _ _ ?_
 clear hK K
 refine wpAnyT_done (by kernel_rfl) ?_ _
 go_simp
 go_wp2_with fail
 go_ret
 refine ⟨_, rfl, ?_, hb3⟩
 have hl : (insAt L p x).length = p + m := by rw [insAt_len, HL.out]; omega
 rw [← hl]
 exact HC3.out.fr (Nat.le_refl _) HI.out (by omega) (by unfold capMax; omega)
theorem Insert_any (w : World) {g n p gv : Nat} {L : List Int} {x : Int} (hL : L.length = n) (hn : n ≤ 5) (hp : p ≤ n) (h : ∀ j (hj : j < L.length), w.cell? ⟨g, j, none⟩ = some (.int .i64 L[j])) (hx : w.cell? ⟨gv, 0, none⟩ = some (.int .i64 x)) (hI : ∀ a ∈ insAt L p x, I64 a) (hgw : g < w.heap.size) (hgv : gv < w.heap.size) :
  Calls Tryz.prog 140 #[.slice (some ⟨g, 0, none⟩) n n, .int .i64 p, .slice (some ⟨gv, 0, none⟩) 1 1] w (RetS intsT w (insAt L p x)) := by
 by_cases e : p = n
 ·subst e
  exact insertEnd_any w hL hn h hx (by rw [insEnd hL] at hI; exact hI)
 ·exact insertMid_any w hL hn (by omega) h hx hI hgw hgv
end Go.Proofs.YtggelmbnliajeaaGreatDoor
namespace Go.Proofs.YtggelmbnliajeaaGreatDoor
open Go.RowKit Go.Sort
theorem hasI_iff {xs : List Int} {n : Int} : hasI xs n = true ↔ n ∈ xs := by
 unfold hasI anyB
 rw [List.any_eq_true]
 constructor
 ·rintro ⟨a, ha, h⟩
  have : n = a := by simpa using h
  rw [this]; exact ha
 ·intro h
  exact ⟨n, h, by simp⟩
theorem ints_take {w : World} {g n p : Nat} {xs : List Int} (h : intsT.Rd w [.slice (some ⟨g, 0, none⟩) n n] xs) (hp : p ≤ n) : intsT.Rd w [.slice (some ⟨g, 0, none⟩) p n] (xs.take p) := by
 obtain ⟨fp, ad, cap, hv, h1, h2, h3⟩ := h
 simp only [List.cons.injEq, Value.slice.injEq, and_true] at hv
 obtain ⟨rfl, rfl, rfl⟩ := hv
 have hl : (xs.take p).length = p := List.length_take_of_le hp
 rcases Nat.eq_zero_or_pos p with h0 | h0
 ·subst h0
  rw [List.take_zero]
  exact ⟨[], _, _, rfl, Nat.zero_le _, Nat.zero_le _, .inl ⟨rfl, rfl⟩⟩
 ·rcases h3 with ⟨h3, _⟩ | ⟨h3, b, o, fps, he, hb, rfl, h4⟩
  ·omega
  ·simp only [Option.some.injEq, Addr.mk.injEq, and_true] at he
   obtain ⟨rfl, rfl⟩ := he
   refine ⟨_, some ⟨g, 0, none⟩, xs.length, by rw [hl], by omega, by omega, .inr ⟨by omega, g, 0, fps, rfl, hb, rfl, fun i hi => ?_⟩⟩
   obtain ⟨cs, h5, h6⟩ := h4 i (by omega)
   rw [List.getElem_take]
   exact ⟨cs, h5, h6⟩
theorem pickL_get {L : List (List Int)} {ks : List Int} {j d : Nat} (hj : j < ks.length) (hd : ks[j] = (d : Int)) (hdl : d < L.length) (h : j < (pickL L ks).length) : (pickL L ks)[j] = L[d] := by
 have e : (pickL L ks)[j] = L.getD (ks[j]).toNat [] := by simp [pickL]
 rw [e, hd, Int.toNat_natCast, List.getD_eq_getElem?_getD, List.getElem?_eq_getElem hdl]
 rfl
theorem take_get {L : List (List Int)} {n d : Nat} (hd : d < n) (hn : n ≤ L.length) : ∃ _h : d < (L.take n).length, (L.take n)[d] = L[d]'(by omega) := ⟨by rw [List.length_take]; omega, List.getElem_take⟩
/-- the state while an operation is applied -/
structure CmbW (P : Program) (km em te B bs ba mb : Nat) (s : Int) (ops : List (Int × List Int)) (ar : Nat) (T : List (List Int)) (f : Int × List Int) (w0 W : World) (bx g n : Nat) (vs : List Value) (A : List (List Int)) (p k bd : Nat) (wr : World) (v' : Value) (vs' : List Value) (A' : List (List Int)) : Prop where
 st : AddI P km em te B bs ba mb wr v' vs' A'
 pre : A <+: A'
 pvs : vs <+: vs'
 cli : ClI s ops ar T A'
 cmb : CmbTo s f ar (A.take n) A' p k
 len : A'.length ≤ bd
 cel : ∀ j (h : j < n) (h' : j < vs.length), wr.cell? ⟨g, j, none⟩ = some vs[j]
 bel : Below B w0 wr
 box : ∀ j, wr.cell? ⟨bx, j, none⟩ = W.cell? ⟨bx, j, none⟩
 bxl : bx < wr.heap.size
 own : v'.ownBlock ≠ some bx
 gl : g < bx
 siz : w0.heap.size ≤ wr.heap.size
section
variable {P : Program} {km em te B bs ba mb : Nat} {s : Int} {ops : List (Int × List Int)} {ar : Nat} {T : List (List Int)} {f : Int × List Int} {w0 W : World} {bx g n : Nat} {vs : List Value} {A : List (List Int)} {p k bd : Nat} {wr wr' : World} {v' : Value} {vs' : List Value} {A' : List (List Int)}
theorem CmbW.below (h : CmbW P km em te B bs ba mb s ops ar T f w0 W bx g n vs A p k bd wr v' vs' A') (hb : Below wr.heap.size wr wr') (hB : B ≤ w0.heap.size) : CmbW P km em te B bs ba mb s ops ar T f w0 W bx g n vs A p k bd wr' v' vs' A' where
 st := h.st.below hb (Nat.le_refl _)
 pre := h.pre
 pvs := h.pvs
 cli := h.cli
 cmb := h.cmb
 len := h.len
 cel := fun j h1 h2 => (cellB hb (Nat.lt_trans h.gl h.bxl)).trans (h.cel j h1 h2)
 bel := h.bel.trans (hb.mono (Nat.le_trans hB h.siz))
 box := fun j => (cellB hb h.bxl).trans (h.box j)
 bxl := Nat.lt_of_lt_of_le h.bxl hb.size
 own := h.own
 gl := h.gl
 siz := Nat.le_trans h.siz hb.size
theorem CmbW.to {p' k' bd' : Nat} (h : CmbW P km em te B bs ba mb s ops ar T f w0 W bx g n vs A p k bd wr v' vs' A') (hc : CmbTo s f ar (A.take n) A' p k → CmbTo s f ar (A.take n) A' p' k') (hb : bd ≤ bd') : CmbW P km em te B bs ba mb s ops ar T f w0 W bx g n vs A p' k' bd' wr v' vs' A' where
 st := h.st
 pre := h.pre
 pvs := h.pvs
 cli := h.cli
 cmb := hc h.cmb
 len := Nat.le_trans h.len hb
 cel := h.cel
 bel := h.bel
 box := h.box
 bxl := h.bxl
 own := h.own
 gl := h.gl
 siz := h.siz
/-- behind an addition -/
theorem CmbW.add {v2 : Value} {vs2 : List Value} {l : List Int} (h : CmbW P km em te B bs ba mb s ops ar T f w0 W bx g n vs A p k bd wr v' vs' A') (hB : B ≤ w0.heap.size) (hst : AddI P km em te B bs ba mb wr' v2 vs2 (adL A' l)) (hvs : vs' <+: vs2) (hF : AddF ba mb v' vs'.length wr wr') (hown : v2.ownBlock = v'.ownBlock ∨ ∃ q, v2.ownBlock = some q ∧ wr.heap.size ≤ q)
  (hbx : bx ≠ ba ∧ bx ≠ mb) (hg : g ≠ ba ∧ g ≠ mb) (hn : n ≤ vs.length) (hcl : Clo s ops ar T l) (hl : madeL s f.2 (pickL (A.take n) (insAt (digL (A.take n).length k (f.1.toNat - 1)) p (((A.take n).length : Int) - 1))) ar = l) : CmbW P km em te B bs ba mb s ops ar T f w0 W bx g n vs A p (k + 1) (bd + 1) wr' v2 vs2 (adL A' l) where
 st := hst
 pre := h.pre.trans adL_pre
 pvs := h.pvs.trans hvs
 cli := by
  by_cases e : l ∈ A'
  ·rw [adL_yes e]; exact h.cli
  ·rw [adL_no e]; exact cli_add h.cli e hcl
 cmb := cmb_put h.cmb (fun x hx => adL_pre.subset hx) (by rw [hl]; exact adL_mem)
 len := Nat.le_trans adL_len (Nat.succ_le_succ h.len)
 cel := fun j h1 h2 => (hF.2 g j (Nat.lt_trans h.gl h.bxl) hg.1 hg.2 (fun _ => Nat.lt_of_lt_of_le h1 (Nat.le_trans hn h.pvs.length_le))).trans (h.cel j h1 h2)
 bel := h.bel.trans (hF.1.below (Nat.le_trans hB h.siz) (fun q hq hh => by
  obtain ⟨_, g2, g3⟩ := h.st.ge
  rcases hh with hh | hh | hh
  ·omega
  ·omega
  ·have := h.st.row.own hh; omega))
 box := fun j => (hF.2 bx j h.bxl hbx.1 hbx.2 (fun e => absurd e h.own)).trans (h.box j)
 bxl := Nat.lt_of_lt_of_le h.bxl hF.1.size
 own := fun e => by
  rcases hown with h1 | ⟨q, h1, h2⟩
  ·exact h.own (h1.symm.trans e)
  ·rw [h1] at e; cases e; have := h.bxl; omega
 gl := h.gl
 siz := Nat.le_trans h.siz hF.1.size
end
set_option maxHeartbeats 6400000 in
set_option maxRecDepth 100000 in
theorem combine_any (w : World) {B bs ba mb : Nat} {v : Value} {vs : List Value} {A : List (List Int)} (hI : AddI Tryz.prog 9 4 42 B bs ba mb w v vs A) {s : Int} (hs : sizeOk s) {ops : List (Int × List Int)} {ar : Nat} {T : List (List Int)} {f : Int × List Int} (hf : f ∈ ops) (ho : ∀ f ∈ ops, opOk s f) (hT : ∀ l ∈ T, tupP s ar l) (har : ar ≤ 1000) (hCl : ClI s ops ar T A) {cs : Array Value} (hcs : opT.RdP (fun k => k < B) w cs.toList f) {g n cap : Nat} (hg : v.ownBlock = some g) (hn : 1 ≤ n ∧ n ≤ 300 ∧ n ≤ A.length) (hA : A.length ≤ 300) (hB : B ≤ w.heap.size) :
  Calls Tryz.prog 108 #[.int .i64 s, .agg cs, .slice (some ⟨g, 0, none⟩) n cap, .func (.func 106) #[] #[.pointer (some ⟨bs, 0, none⟩), .pointer (some ⟨ba, 0, none⟩)]] w fun e w' => e = .returned (.tuple #[]) ∧ ∃ v' vs' A', AddI Tryz.prog 9 4 42 B bs ba mb w' v' vs' A' ∧ A <+: A' ∧ ClI s ops ar T A' ∧ CmbP s f ar (A.take n) A' ∧ Below B w w' ∧ A'.length ≤ 1000000 := by
 obtain ⟨u, hv, hI1, hx⟩ := pair_ex hcs.rd
 obtain rfl := agg_of hv
 obtain ⟨tad, tcap, htv, -, -, -⟩ := ints_ex hx
 obtain rfl : u = _ := by simpa using htv
 have hfo := ho f hf
 obtain ⟨af, haf⟩ : ∃ af : Nat, f.1 = (af : Int) := ⟨f.1.toNat, by have := hfo.2.1; omega⟩
 have haf3 : 1 ≤ af ∧ af ≤ 3 := by have := hfo.2.1; omega
 obtain ⟨aq, haq⟩ : ∃ aq, af = aq + 1 := ⟨af - 1, by omega⟩
 have hw1 : IntKind.i64.wrap ((af : Int) - 1) = (aq : Int) := by rw [wrap_small (by omega) (by omega)]; omega
 obtain ⟨ln, hln⟩ : ∃ ln, n = ln + 1 := ⟨n - 1, by omega⟩
 have hw2 : IntKind.i64.wrap ((n : Int) - 1) = (ln : Int) := by rw [wrap_small (by omega) (by omega)]; omega
 obtain ⟨M, hM⟩ : ∃ M : Nat, (n : Int) ^ aq = (M : Int) := ⟨((n : Int) ^ aq).toNat, by have := pow_nn (s := (n : Int)) (by omega) aq; omega⟩
 have hMle : M ≤ 90000 := by
  have h1 : (n : Int) ^ aq ≤ 90000 := by
   refine Int.le_trans (pow_mono' (by omega) (show (n : Int) ≤ 300 by omega) aq) ?_
   rcases (show aq = 0 ∨ aq = 1 ∨ aq = 2 by omega) with e | e | e <;> rw [e] <;> decide
  omega
 have hLn : (A.take n).length = n := List.length_take_of_le hn.2.2
 have hfn : f.1.toNat - 1 = aq := by omega
 have HF : Hid (∀ X, Below B w X → opT.Rd X [.int .i64 f.1, .slice tad f.2.length tcap] f) := fun X hX => by
  obtain ⟨fp, h1, h2⟩ := hcs
  exact ⟨fp, opT.same h1 (fun k hk => hX.block k (h2 k hk))⟩
 have HVL : Hid (vs.length = A.length) := hI.len
 have hvn : n ≤ vs.length := by rw [hI.len]; exact hn.2.2
 have hgw : g < w.heap.size := hI.row.own_lt hg
 have hds := hI.ds
 have hgne : g ≠ ba ∧ g ≠ mb := ⟨fun e => hds.2.2.2.2.1 (by rw [← e]; exact hg), fun e => hds.2.2.2.2.2 (by rw [← e]; exact hg)⟩
 have HCE : Hid (∀ j (h : j < n) (h' : j < vs.length), w.cell? ⟨g, j, none⟩ = some vs[j]) := fun j h1 h2 => by
  obtain ⟨o1, -, -⟩ := bl_val_own hI.row
  rcases o1.2 with ⟨rfl, _⟩ | ⟨g', cap', cur, rfl, _⟩
  ·cases hg
  ·obtain rfl : g' = g := by simpa [Value.ownBlock] using hg
   rw [World.ownsRow.cellAt o1 j (by omega), List.getElem?_eq_getElem h2]
 have hlt3 := hI.lt
 have HI := Lib.hid hI
 have HFO := Lib.hid hfo
 have HO := Lib.hid ho
 have HT := Lib.hid hT
 have HCL := Lib.hid hCl
 have HM := Lib.hid hM
 have HG := Lib.hid hg
 have HAF := Lib.hid haf
 have HAQ := Lib.hid haq
 have HLN := Lib.hid hln
 have HLL := Lib.hid hLn
 have HFN := Lib.hid hfn
 have HFM := Lib.hid hf
 have HS := Lib.hid hs
 have hs4 : 1 ≤ s ∧ s ≤ 4 := hs
 have hq2 : aq + 1 ≤ af ∧ af ≤ aq + 1 := by omega
 have hl2 : ln + 1 ≤ n ∧ n ≤ ln + 1 := by omega
 clear hcs hv htv hx hI1 hI hfo ho hT hCl hM hg haf hLn hfn hf hs haq hln
 rw [HAF.out]
 go_enter Tryz.func108, Tryz.ntmps108
 go_wp2_with fail
 generalize hW : World.alloc w _ = W
 have hbW : Below w.heap.size w W := hW ▸ bA
 have hsW : w.heap.size < W.heap.size := by rw [← hW]; simp
 have c0 : W.cell? ⟨w.heap.size, 0, none⟩ = some (.int .i64 (af : Int)) := by rw [← hW]; simp [go_sem]
 have c1 : W.cell? ⟨w.heap.size, 1, none⟩ = some (.slice tad f.2.length tcap) := by rw [← hW]; simp [go_sem]
 clear hW
 have HST : Hid (CmbW Tryz.prog 9 4 42 B bs ba mb s ops ar T f w W w.heap.size g n vs A 0 0 (300 + 0 * M) W v vs A) := by
  refine ⟨HI.out.below hbW (Nat.le_refl _), List.prefix_refl _, List.prefix_refl _, HCL.out, cmb_zero, by omega, fun j h1 h2 => (cellB hbW hgw).trans (HCE.out j h1 h2), hbW.mono hB, fun _ => rfl, hsW, HI.out.row.own_ne (Nat.le_refl _), hgw, hbW.size⟩
 clear HI HCL
 go_wp2_with fail
 go_loopw [22] (fun i wr => ∃ (p : Nat) (v' : Value) (vs' : List Value) (A' : List (List Int)), p ≤ af ∧ i = .int .i64 p ∧ CmbW Tryz.prog 9 4 42 B bs ba mb s ops ar T f w W w.heap.size g n vs A p 0 (300 + p * M) wr v' vs' A') (fun i _ => af - (intOf i).toNat)
 case atStart => exact ⟨0, v, vs, A, Nat.zero_le _, rfl, HST.out⟩
 case round =>
  obtain ⟨p, v1, vs1, A1, hp, rfl, hC1⟩ := hrel
  have HC1 := Lib.hid hC1
  have e0 := (hC1.box 0).trans c0
  clear hC1 HST
  by_cases hpl : p < af
  ·go_wp2_with fail
   refine (power_any wr (n : Int) (aq : Int) (by omega) (by omega) (by omega)).mono ?_
   rintro e _ ⟨rfl, rfl⟩
   rw [Int.toNat_natCast, HM.out]
   clear e0
   go_wp2_with fail
   go_loopw [30] (fun i wr => ∃ (k : Nat) (v' : Value) (vs' : List Value) (A' : List (List Int)), k ≤ M ∧ i = .int .i64 k ∧ CmbW Tryz.prog 9 4 42 B bs ba mb s ops ar T f w W w.heap.size g n vs A p k (300 + p * M + k) wr v' vs' A') (fun i _ => M - (intOf i).toNat)
   case atStart => exact ⟨0, v1, vs1, A1, Nat.zero_le _, rfl, HC1.out⟩
   case round =>
    obtain ⟨k, v2, vs2, A2, hk, rfl, hC2⟩ := hrel
    obtain ⟨wv, rfl⟩ : ∃ wv : World, wv = wr := ⟨_, rfl⟩
    have HC2 := Lib.hid hC2
    have e0 := (hC2.box 0).trans c0
    have hbxl := hC2.bxl
    clear hC2 HC1
    by_cases hkl : k < M
    ·go_wp2_with fail
     refine (listOfX_any wv (n : Int) (k : Int) aq (by omega) (by omega) (by omega) (by omega) (by omega)).mono ?_
     rintro e w1 ⟨rfl, hfr, hb1⟩
     obtain ⟨D, hD⟩ : ∃ D, D = digL (n : Int) (k : Int) aq := ⟨_, rfl⟩
     rw [← hD] at hfr
     have HD := Lib.hid hD
     have HDL : Hid (D.length = aq) := by unfold Hid; rw [hD, digL_len]
     have HFR := Lib.hid hfr
     have hz1 := hb1.size
     have hpq : (p : Int) ≤ (aq : Int) := by omega
     have hpq2 : p ≤ aq := by omega
     have HCW := Lib.hid (HC2.out.below hb1 hB)
     clear hfr hD e0
     go_wp2_with fail
     refine (ContainsI_any _ (ints_take HFR.out.rd hpq2) (ln : Int)).mono ?_
     rintro e _ ⟨rfl, rfl⟩
     cases hh : hasI (D.take p) (ln : Int)
     ·go_wp2_with fail
      have HDC : Hid (∀ j (hj : j < D.length), w1.cell? ⟨wv.heap.size, j, none⟩ = some (.int .i64 D[j])) := fun j hj => by
       obtain ⟨ad, cp, hv, -, -, hc⟩ := ints_ex HFR.out.rd
       simp only [List.cons.injEq, Value.slice.injEq, and_true] at hv
       obtain ⟨rfl, h2, rfl⟩ := hv
       obtain ⟨b, o, e, _, hce⟩ := hc (by omega)
       simp only [Option.some.injEq, Addr.mk.injEq, and_true] at e
       obtain ⟨rfl, rfl⟩ := e
       simpa using (hce j hj).2
      have HDR : Hid (∀ a ∈ insAt D p (ln : Int), 0 ≤ a ∧ a < (n : Int)) := fun a ha => by
       rcases insAt_mem ha with e | e
       ·omega
       ·rw [HD.out] at e
        exact dig_mem (by omega) e
      generalize hWb : World.alloc (World.alloc w1 _) _ = wb
      have hbb : Below w1.heap.size w1 wb := hWb ▸ bAA
      have hsb : w1.heap.size + 2 ≤ wb.heap.size := by rw [← hWb]; simp
      have x0 : wb.cell? ⟨w1.heap.size + 1, 0, none⟩ = some (.int .i64 (ln : Int)) := by rw [← hWb]; simp [go_sem]
      have HB0 : Hid (Bl Ty.val 42 w1.heap.size wb.heap.size wb (.slice (some ⟨w1.heap.size, 0, none⟩) 0 0) []) := by
       unfold Hid
       rw [← hWb]
       exact ((Bl.lit0 (E := Ty.val) (e := 42) (w := w1) (Nat.le_refl _)).below (bA (w := w1.alloc (.cells #[] 42))) (by simp)).mono (by simp)
      clear hWb
      refine (Insert_any wb (g := wv.heap.size) (n := aq) (p := p) (gv := w1.heap.size + 1) (L := D) (x := (ln : Int)) HDL.out (by omega) hpq2 (fun j hj => (cellB hbb (by have := HFR.out.rd; have := hb1.size; have := HDC.out j hj; exact cell_lt this)).trans (HDC.out j hj)) x0 (fun a ha => by have := HDR.out a ha; exact I64.small (by omega) (by omega)) ?_ (by omega)).mono ?_
      ·omega
      rintro e w4 ⟨u, rfl, hfr4, hb4⟩
      obtain ⟨IA, hIA⟩ : ∃ IA, IA = insAt D p (ln : Int) := ⟨_, rfl⟩
      rw [← hIA] at hfr4
      have hIAl : IA.length = af := by rw [hIA, insAt_len, HDL.out, HAQ.out]
      have HIAL := Lib.hid hIAl
      have HIA := Lib.hid hIA
      have HIR : Hid (∀ a ∈ IA, 0 ≤ a ∧ a < (n : Int)) := by unfold Hid; rw [hIA]; exact HDR.out
      obtain ⟨dad, dcap, hdv, -, -, hdc⟩ := ints_ex hfr4.rd
      obtain rfl : u = _ := by simpa using hdv
      obtain ⟨db, dof, rfl, hdb, hdce⟩ := hdc (by omega)
      rw [hIAl]
      have hdbl := fr_block hfr4 (by omega)
      have HDC4 := Lib.hid hdce
      have hz4 := hb4.size
      have hb14 : Below w1.heap.size w1 w4 := bthen hbb hb4
      have HBL0 : Hid (Bl Ty.val 42 w1.heap.size w4.heap.size w4 (.slice (some ⟨w1.heap.size, 0, none⟩) 0 0) []) := (HB0.out.below hb4 (Nat.le_refl _)).mono hz4
      have hbv4 : Below wv.heap.size wv w4 := bthen hb1 hb14
      have HPV : Hid (∀ d, d < n → ∃ (y : Value) (h : d < (A.take n).length), wv.cell? ⟨g, d, none⟩ = some y ∧ intsT.Rd wv [y] (A.take n)[d]) := fun d hd => by
       have hd1 : d < vs.length := by omega
       have hc := HC2.out.cel d hd hd1
       have hd2 : d < vs2.length := Nat.lt_of_lt_of_le hd1 HC2.out.pvs.length_le
       have hd3 : d < A2.length := by have := HC2.out.st.len; omega
       have hr := HC2.out.st.rd d hd2 hd3
       obtain ⟨h4, e4⟩ := take_get hd hn.2.2
       refine ⟨_, h4, hc, ?_⟩
       rw [e4]
       have e5 : vs2[d] = vs[d] := (List.IsPrefix.getElem HC2.out.pvs hd1).symm
       have e6 : A2[d] = A[d] := (List.IsPrefix.getElem HC2.out.pre (by omega)).symm
       rw [e5, e6] at hr
       exact hr.rd
      clear hdv hdc hdce hfr4 hIA hIAl x0 HB0 HDR HFR HDC
      go_wp2_with fail
      go_loopw [51, 13] (fun i q wr => ∃ (j : Nat) (pv : List Value), j ≤ af ∧ i = .int .i64 j ∧ pv.length = j ∧ picked wv pv (pickL (A.take n) IA) ∧ Bl Ty.val 42 w1.heap.size wr.heap.size wr q pv ∧ Below w1.heap.size w1 wr ∧ (q.ownBlock ≠ some db ∧ wr.heap[db]? = w4.heap[db]? ∧ w4.heap.size ≤ wr.heap.size)) (fun i _ _ => af - (intOf i).toNat)
      case atStart => exact ⟨0, [], Nat.zero_le _, rfl, rfl, picked_nil, HBL0.out, hb14, by simp [Value.ownBlock]; omega, rfl, Nat.le_refl _⟩
      case round =>
       obtain ⟨j, pv, hj, rfl, hvl, hpk, hBl, hb5, hdg⟩ := hrel
       have HB2 := Lib.hid hBl
       have HVL := Lib.hid hvl
       have HPK := Lib.hid hpk
       have HDG := Lib.hid hdg
       have hbv5 : Below wv.heap.size wv wr := bthen hb1 hb5
       have hz5 := hb5.size
       clear hBl hvl hpk hdg
       by_cases hjl : j < af
       ·have hjd : j < IA.length := by rw [HIAL.out]; exact hjl
        have hdm := HIR.out _ (List.getElem_mem hjd)
        obtain ⟨dn, hdn⟩ : ∃ dn : Nat, IA[j] = (dn : Int) := ⟨(IA[j]).toNat, by omega⟩
        have hdl : dn < n := by omega
        have e0 := (World.cell?_of_block (a := ⟨db, dof + j, none⟩) HDG.out.2.1).trans (HDC4.out j hjd).2
        rw [hdn] at e0
        obtain ⟨y, hyl, hcy, hry⟩ := HPV.out dn hdl
        obtain ⟨ua, un, uc, rfl⟩ := rd_sl hry
        have e1 := (hbv5.cell (p := ⟨g, dn, none⟩) (show g < wv.heap.size by omega)).trans hcy
        have HPN : Hid (picked wv (pv ++ [.slice ua un uc]) (pickL (A.take n) IA)) := by
         have hl : j < (pickL (A.take n) IA).length := by rw [pickL_len]; exact hjd
         have hg := pickL_get hjd hdn hyl hl
         have hv := HVL.out
         subst hv
         exact picked_snoc HPK.out hl (by rw [hg]; exact hry)
        have hvj : pv.length ≤ 1000000000 := by rw [HVL.out]; omega
        clear hdm hdn hry hcy
        go_wp2_with (refine wpList_push (E := Ty.val) _ rfl _ _ 23 42 rfl elInt64SS rfl (HB2.out.below bA (Nat.le_refl _)) rfl news1 (fr_val rfl) hvj (by decide) hz5 (by simp) ?_; intro v1 w6 hB6 hg6 ho6)
        have hbel6 : Below w1.heap.size w1 w6 := (hb5.alloc hb5.size _).grown hg6 (by simp; omega) (fun k hk => HB2.out.own hk)
        have HB6 := Lib.hid hB6
        have HDN : Hid (v1.ownBlock ≠ some db ∧ w6.heap[db]? = w4.heap[db]? ∧ w4.heap.size ≤ w6.heap.size) := by
         obtain ⟨n1, n2, n3⟩ := HDG.out
         have hz6 := hg6.size
         simp only [World.size_alloc] at hz6
         refine ⟨?_, ?_, by omega⟩
         ·rcases ho6 with e | e <;> rw [e]
          ·exact n1
          ·intro h; simp at h; omega
         ·rw [hg6.block db (by simp; omega) (fun h => n1 h.symm), ← n2]
          exact (bA (w := wr)).block db (by omega)
        clear hB6 ho6 hg6
        go_wp2_with fail
        refine ⟨⟨j + 1, _, by omega, by go_num, by rw [List.length_append, HVL.out]; rfl, HPN.out, HB6.out, hbel6, HDN.out⟩, by simp [intOf]; omega⟩
       ·obtain rfl : j = af := by omega
        obtain ⟨wl, rfl⟩ : ∃ wl : World, wl = wr := ⟨_, rfl⟩
        have hfv := HB2.out.fr (by rw [HVL.out]; unfold capMax; omega)
        have HLR := Lib.hid (rows_of_vals hfv.rd (by rw [HVL.out, pickL_len, HIAL.out]) (fun i h h' => (HPK.out.2 i h h').below hbv5))
        obtain ⟨la, lnn, lc, hq⟩ := ex_slice hfv
        subst hq
        have HC5 := Lib.hid (HC2.out.below hbv5 hB)
        have a0 := (HC5.out.box 0).trans c0
        have a1 := (HC5.out.box 1).trans c1
        have HTL : Hid (∀ l ∈ A.take n, tupP s ar l ∧ Clo s ops ar T l) := fun l hl => by
         have h1 : l ∈ A2 := HC2.out.pre.subset (List.mem_of_mem_take hl)
         have h2 := HC2.out.cli.clo l h1
         exact ⟨clo_in HO.out HT.out h2, h2⟩
        have HIN : Hid (∀ l ∈ pickL (A.take n) IA, l ∈ A.take n) := pickL_in (fun k hk => by rw [HLL.out]; exact HIR.out k hk)
        have HTO : Hid (tupsOk s f.1 ar (pickL (A.take n) IA)) := ⟨by rw [pickL_len, HIAL.out, HAF.out], fun l hl => (HTL.out l (HIN.out l hl)).1⟩
        have HFX : Hid (opT.Rd wl (#[Value.int .i64 (j : Int), .slice tad f.2.length tcap] : Array Value).toList f) := by
         have := HF.out wl HC5.out.bel
         rw [HAF.out] at this
         exact this
        have HCLO : Hid (Clo s ops ar T (madeL s f.2 (pickL (A.take n) IA) ar)) := .step HFM.out (by rw [pickL_len, HIAL.out, HAF.out]) (fun l hl => (HTL.out l (HIN.out l hl)).2)
        have HDG2 : Hid (dgs (madeL s f.2 (pickL (A.take n) IA) ar)) := fun a ha => by
         have := (clo_in HO.out HT.out HCLO.out).2 a ha
         omega
        have HMK : Hid (madeL s f.2 (pickL (A.take n) (insAt (digL (A.take n).length k (f.1.toNat - 1)) p (((A.take n).length : Int) - 1))) ar = madeL s f.2 (pickL (A.take n) IA) ar) := by
         unfold Hid
         rw [HIA.out, HD.out, HLL.out, HFN.out, show (n : Int) - 1 = (ln : Int) by omega]
        have hml : (madeL s f.2 (pickL (A.take n) IA) ar).length = ar := madeL_len
        have HML := Lib.hid hml
        have ha2 : A2.length ≤ 100000000 := by
         have h1 := HC2.out.len
         have h2 : p * M ≤ 3 * 90000 := Nat.mul_le_mul (by omega) hMle
         omega
        clear hfv hml HDC4 HPV HBL0 HTL HIN
        go_wp2_with fail
        refine (made_any wl HFX.out HLR.out HFO.out HTO.out har).mono ?_
        rintro e w6 ⟨mg, rfl, hfm, hb6⟩
        generalize madeL s f.2 (pickL (A.take n) IA) ar = ml at HCLO HDG2 HMK HML hfm
        have HC6 := Lib.hid (HC5.out.below hb6 hB)
        have hlt5 := HC5.out.st.lt
        have HU : Hid (intsT.RdP (avd bs ba mb v2) w6 [.slice (some ⟨mg, 0, none⟩) ar ar] ml) := by
         obtain ⟨fp, q1, -, q3, -⟩ := hfm
         exact ⟨fp, q1, fun k hk => ⟨by have := q3 k hk; omega, by have := q3 k hk; omega, by have := q3 k hk; omega, HC5.out.st.row.own_ne (q3 k hk)⟩⟩
        clear hfm
        go_wp2_with fail
        refine (add_any w6 HC6.out.st HU.out HDG2.out (by rw [HML.out]; exact har) ha2 (Nat.le_trans hB HC6.out.siz)).mono ?_
        rintro e w7 ⟨rfl, v3, vs3, hst3, hvs3, hF3, hown3⟩
        have HFI := Lib.hid (CmbW.add HC6.out hB hst3 hvs3 hF3 hown3 (by omega) hgne hvn HCLO.out HMK.out)
        clear hst3 hvs3 hF3 hown3
        go_wp2_with fail
        go_roundw
        case rel => exact ⟨k + 1, v3, vs3, _, by omega, by go_num, HFI.out⟩
        case measure => simp [intOf]; omega
     ·go_wp2_with fail
      go_roundw
      case rel => exact ⟨k + 1, v2, vs2, A2, by omega, by go_num, HCW.out.to (fun h => cmb_skip h (by rw [HLL.out, HFN.out, ← HD.out]; have := hasI_iff.1 hh; have hl := HLN.out; subst hl; simpa using this)) (by omega)⟩
      case measure => simp [intOf]; omega
    ·obtain rfl : k = M := by omega
     go_wp2_with fail
     go_roundw
     case rel => exact ⟨p + 1, v2, vs2, A2, by omega, by go_num, HC2.out.to (fun h => cmb_next h (by rw [HLL.out, HFN.out]; exact HM.out)) (by rw [Nat.add_mul]; omega)⟩
     case measure => simp [intOf]; omega
  ·obtain rfl : p = af := by omega
   go_wp2_with fail
   go_end0
   exact ⟨rfl, v1, vs1, A1, HC1.out.st, HC1.out.pre, HC1.out.cli, cmb_end HFO.out.2.1.1 (by have := HC1.out.cmb; rw [HAF.out, Int.toNat_natCast]; exact this), HC1.out.bel, by have h1 := HC1.out.len; have h2 : p * M ≤ 3 * 90000 := Nat.mul_le_mul haf3.2 hMle; omega⟩
end Go.Proofs.YtggelmbnliajeaaGreatDoor
namespace Go.Proofs.YtggelmbnliajeaaGreatDoor
open Go.RowKit Go.Sort
theorem AddI.shape {P : Program} {km em te B bs ba mb : Nat} {w : World} {v : Value} {vs : List Value} {A : List (List Int)} (h : AddI P km em te B bs ba mb w v vs A) : ∃ ad cap, v = .slice ad A.length cap ∧ (0 < A.length → ∃ g, ad = some ⟨g, 0, none⟩ ∧ A.length ≤ cap) := by
 obtain ⟨o1, -, -⟩ := bl_val_own h.row
 rcases o1.2 with ⟨rfl, h0⟩ | ⟨g', cap', cur, rfl, _, _, hc, _⟩
 ·have : A.length = 0 := by rw [← h.len]; exact h0
  exact ⟨none, 0, by rw [this], fun h => by omega⟩
 ·exact ⟨_, cap', by rw [h.len], fun _ => ⟨g', rfl, by rw [← h.len]; exact hc⟩⟩
/-- what the closure hands back: a row of lists, each told apart, of the closure; all of it, if they are not too many -/
def CloA (P : Program) (km em te : Nat) (s : Int) (ops : List (Int × List Int)) (ar : Nat) (T : List (List Int)) (most : Nat) (w : World) (e : Ending) (w' : World) : Prop :=
 ∃ (v : Value) (vs : List Value) (A : List (List Int)) (bs ba mb : Nat), e = .returned (.tuple #[v, .bool (decide (A.length ≤ most))]) ∧ AddI P km em te w.heap.size bs ba mb w' v vs A ∧ ClI s ops ar T A ∧ (A.length ≤ most → ∀ l, l ∈ A ↔ Clo s ops ar T l) ∧ Below w.heap.size w w' ∧ A.length ≤ 1000000
set_option maxHeartbeats 6400000 in
set_option maxRecDepth 100000 in
theorem closure_any (w : World) {vo : Value} {ops : List (Int × List Int)} (hops : opsT.Rd w [vo] ops) {s : Int} (hs : sizeOk s) (ho : ∀ f ∈ ops, opOk s f) {vl : Value} {T : List (List Int)} (hl : rowsT.Rd w [vl] T) {ar : Nat} (har : ar ≤ 1000) (hT : ∀ l ∈ T, tupP s ar l) (hTl : T.length ≤ 300) {most : Nat} (hm : most ≤ 299) :
  Calls Tryz.prog 49 #[.int .i64 s, vo, vl, .int .i64 (most : Int)] w (CloA Tryz.prog 9 4 42 s ops ar T most w) := by
 obtain ⟨oad, ocap, hov, -, hol, hoc⟩ := pairs_ex hops
 obtain rfl : vo = _ := by simpa using hov
 obtain ⟨lad, lcap, hlv, -, -, hlc⟩ := slices_ex hl
 obtain rfl : vl = _ := by simpa using hlv
 have hs4 : 1 ≤ s ∧ s ≤ 4 := hs
 have HO := Lib.hid ho
 have HT := Lib.hid hT
 have HOC := Lib.hid hoc
 have HLC := Lib.hid hlc
 have HS := Lib.hid hs
 clear hops hov hl hlv hs ho hT hoc hlc
 have hmm : ∀ W : World, (Instr.makeMap 130 none).run Tryz.prog W = .ok (.map (some W.heap.size)) (W.alloc (.map #[] 0)) := fun W => by simp [Instr.makeMap]
 go_enter Tryz.func49, Tryz.ntmps49
 go_wp2_with fail
 clear hmm
 generalize hW : World.alloc _ _ = W
 have HI0 : Hid (AddI Tryz.prog 9 4 42 w.heap.size (w.heap.size + 1) (w.heap.size + 1 + 1 + 1) w.heap.size W (.slice (some ⟨w.heap.size + 1 + 1, 0, none⟩) 0 0) [] []) := by
  have h1 := SeenM.made (P := Tryz.prog) (k := 9) (e := 4) w
  have hb2 : Below (w.alloc (.map #[] 0)).heap.size (w.alloc (.map #[] 0)) W := by rw [← hW]; exact ((bA.alloc (by simp) _).alloc (by simp) _)
  have hb3 : Below (w.heap.size + 3) (((w.alloc (.map #[] 0)).alloc (.cells #[.map (some w.heap.size)] 130)).alloc (.cells #[] 42)) W := by rw [← hW]; exact (Below.refl _ _).alloc (by simp) _
  have hl0 : Bl Ty.val 42 w.heap.size (w.heap.size + 3) (((w.alloc (.map #[] 0)).alloc (.cells #[.map (some w.heap.size)] 130)).alloc (.cells #[] 42)) (.slice (some ⟨w.heap.size + 1 + 1, 0, none⟩) 0 0) [] := by
   have := Bl.lit0 (E := Ty.val) (e := 42) (base := w.heap.size) (w := (w.alloc (.map #[] 0)).alloc (.cells #[.map (some w.heap.size)] 130)) (by simp; omega)
   simpa using this
  have hsz : W.heap.size = w.heap.size + 4 := by rw [← hW]; simp
  refine ⟨by rw [← hW]; simp [go_sem], by rw [← hW]; simp [go_sem], by rw [← hW]; simp [go_sem], ⟨[], 0, h1.block (hb2.block _ h1.lt), Nat.zero_le _, fun s => by simp⟩, (hl0.below hb3 (Nat.le_refl _)).mono (by omega), rfl, fun i h => absurd h (Nat.not_lt_zero _), ⟨by omega, by omega, by omega, by first | (simp [Value.ownBlock]; done) | (simp [Value.ownBlock]; omega), by first | (simp [Value.ownBlock]; done) | (simp [Value.ownBlock]; omega), by first | (simp [Value.ownBlock]; done) | (simp [Value.ownBlock]; omega)⟩, ⟨by omega, by omega, Nat.le_refl _⟩, fun l hl => by cases hl⟩
 have hbW : Below w.heap.size w W := by rw [← hW]; exact ((bAA.alloc (by simp; omega) _).alloc (by simp; omega) _)
 clear hW
 go_loopw [23] (fun i wr => ∃ (k : Nat) (v' : Value) (vs' : List Value) (A' : List (List Int)), k ≤ T.length ∧ i = .int .i64 k ∧ AddI Tryz.prog 9 4 42 w.heap.size (w.heap.size + 1) (w.heap.size + 1 + 1 + 1) w.heap.size wr v' vs' A' ∧ A'.length ≤ k ∧ A'.Nodup ∧ (∀ l, l ∈ A' ↔ l ∈ T.take k) ∧ Below w.heap.size w wr) (fun i _ => T.length - (intOf i).toNat)
 case atStart => exact ⟨0, _, _, [], Nat.zero_le _, rfl, HI0.out, Nat.le_refl _, List.nodup_nil, fun l => by simp, hbW⟩
 case round =>
  obtain ⟨k, v1, vs1, A1, hk, rfl, hI1, hA1, hnd1, hmem1, hb1⟩ := hrel
  obtain ⟨wv, rfl⟩ : ∃ wv : World, wv = wr := ⟨_, rfl⟩
  have HI1 := Lib.hid hI1
  have HND1 := Lib.hid hnd1
  have HMEM1 := Lib.hid hmem1
  clear hI1 hnd1 hmem1
  by_cases hkl : k < T.length
  ·obtain ⟨lb, lo, rfl, hlb, hlce⟩ := HLC.out (by omega)
   obtain ⟨y, hry, hcy⟩ := hlce k hkl
   have e0 := (cellB hb1 hlb).trans hcy
   have HTK := Lib.hid (HT.out _ (List.getElem_mem hkl))
   have HDG : Hid (dgs T[k]) := fun a ha => by have := HTK.out.2 a ha; omega
   have HU : Hid (intsT.RdP (avd (w.heap.size + 1) (w.heap.size + 1 + 1 + 1) w.heap.size v1) wv [y] T[k]) := by
    obtain ⟨fp, h1, h2⟩ := hry.B
    exact ⟨fp, intsT.same h1 (fun q hq => hb1.block q (h2 q hq)), fun q hq => by have := h2 q hq; exact ⟨by omega, by omega, by omega, fun e => by have := HI1.out.row.own e; omega⟩⟩
   have HMK : Hid (∀ l, l ∈ adL A1 T[k] ↔ l ∈ T.take (k + 1)) := fun l => by
    rw [← take_snoc hkl, List.mem_append, List.mem_singleton, ← HMEM1.out l]
    constructor
    ·exact adL_in
    ·rintro (h | h)
     ·exact adL_pre.subset h
     ·rw [h]; exact adL_mem
   have HNDK : Hid ((adL A1 T[k]).Nodup) := by
    unfold Hid
    by_cases e : T[k] ∈ A1
    ·rw [adL_yes e]; exact HND1.out
    ·rw [adL_no e]
     exact List.nodup_append.2 ⟨HND1.out, by simp, fun a ha b hb e2 => by rw [List.mem_singleton.1 hb] at e2; subst e2; exact e ha⟩
   have hlen := HTK.out.1
   have HLEN : Hid ((T[k]).length ≤ 1000) := by unfold Hid; rw [hlen]; exact har
   clear hlce hry hcy hlen
   generalize hTk : T[k] = tk at *
   obtain ⟨ya, yc, rfl⟩ := rd_slice HU.out.rd
   clear hTk
   go_wp2_with fail
   refine (add_any wv HI1.out HU.out HDG.out HLEN.out (by omega) hb1.size).mono ?_
   rintro e w2 ⟨rfl, v2, vs2, hst2, hvs2, hF2, hown2⟩
   have HST2 := Lib.hid hst2
   have HB2 : Hid (Below w.heap.size w w2) := hb1.trans (hF2.1.below hb1.size (fun q hq hh => by
    rcases hh with hh | hh | hh
    ·omega
    ·omega
    ·have := HI1.out.row.own hh; omega))
   clear hst2 hvs2 hF2 hown2
   go_wp2_with fail
   go_roundw
   case rel => exact ⟨k + 1, v2, vs2, _, by omega, by go_num, HST2.out, Nat.le_trans adL_len (by omega), HNDK.out, HMK.out, HB2.out⟩
   case measure => simp [intOf]; omega
  ·obtain rfl : k = T.length := by omega
   have HCLI : Hid (ClI s ops ar T A1) := ⟨HND1.out, fun l hl => .base (by have := (HMEM1.out l).1 hl; rwa [List.take_length] at this), fun l hl => (HMEM1.out l).2 (by rw [List.take_length]; exact hl)⟩
   have HA1 : Hid (A1.length ≤ 300) := by unfold Hid; omega
   clear HND1 HMEM1
   go_wp2_with fail
   go_loopw [15] (fun i wr => ∃ (d : Nat) (v' : Value) (vs' : List Value) (A' : List (List Int)), i = .int .i64 d ∧ d ≤ A'.length ∧ AddI Tryz.prog 9 4 42 w.heap.size (w.heap.size + 1) (w.heap.size + 1 + 1 + 1) w.heap.size wr v' vs' A' ∧ ClI s ops ar T A' ∧ (A'.length ≤ most → DoneTo s ops ar A' d) ∧ Below w.heap.size w wr ∧ A'.length ≤ 1000000) (fun i _ => most + 1 - (intOf i).toNat)
   case atStart => exact ⟨0, v1, _, A1, by first | rfl | go_num, Nat.zero_le _, HI1.out, HCLI.out, fun _ => done_zero, hb1, by have := HA1.out; omega⟩
   case round =>
    obtain ⟨d, v2, vs2, A2, rfl, hdl, hI2, hcl2, hdn2, hb2, hA2⟩ := hrel
    obtain ⟨wq, rfl⟩ : ∃ wq : World, wq = wr := ⟨_, rfl⟩
    have HI2 := Lib.hid hI2
    have HCL2 := Lib.hid hcl2
    have HDN2 := Lib.hid hdn2
    have c0 := hI2.ca
    obtain ⟨ad2, cp2, hv2, hsh⟩ := hI2.shape
    subst hv2
    have HSH := Lib.hid hsh
    clear hI2 hcl2 hdn2 hsh HI1 HCLI
    by_cases hd : d < A2.length
    ·by_cases hm2 : A2.length ≤ most
     ·have ht1 : decide ((d : Int) < (A2.length : Int)) = true := by simp; omega
      have ht2 : decide ((A2.length : Int) ≤ (most : Int)) = true := by simp; omega
      obtain ⟨g2, rfl, hcp2⟩ := HSH.out (by omega)
      have HDN2' := Lib.hid (HDN2.out hm2)
      clear HDN2 HSH
      go_wp2_with fail
      go_loopw [45] (fun i wr => ∃ (ii : Nat) (v' : Value) (vs' : List Value) (A' : List (List Int)), ii ≤ ops.length ∧ i = .int .i64 ii ∧ AddI Tryz.prog 9 4 42 w.heap.size (w.heap.size + 1) (w.heap.size + 1 + 1 + 1) w.heap.size wr v' vs' A' ∧ A2 <+: A' ∧ ClI s ops ar T A' ∧ (∀ j (h : j < ops.length), j < ii → CmbP s ops[j] ar (A2.take (d + 1)) A') ∧ A'.length ≤ most ∧ Below w.heap.size w wr) (fun i _ => ops.length - (intOf i).toNat)
      case atStart => exact ⟨0, _, vs2, A2, Nat.zero_le _, by first | rfl | go_num, HI2.out, List.prefix_refl _, HCL2.out, fun j h hj => absurd hj (Nat.not_lt_zero _), hm2, hb2⟩
      case round =>
       obtain ⟨ii, v3, vs3, A3, hii, rfl, hI3, hpre3, hcl3, hdn3, hA3, hb3⟩ := hrel
       obtain ⟨wz, rfl⟩ : ∃ wz : World, wz = wr := ⟨_, rfl⟩
       have HI3 := Lib.hid hI3
       have HPRE3 := Lib.hid hpre3
       have HCL3 := Lib.hid hcl3
       have HDN3 := Lib.hid hdn3
       have hle3 : A2.length ≤ A3.length := hpre3.length_le
       obtain ⟨ad3, cp3, hv3, hsh3⟩ := hI3.shape
       subst hv3
       obtain ⟨g3, rfl, hcp3⟩ := hsh3 (by omega)
       have c3 := hI3.ca
       clear hI3 hpre3 hcl3 hdn3 hsh3 c0
       by_cases hil : ii < ops.length
       ·obtain ⟨ob, oo, rfl, hob, hoce⟩ := HOC.out (by omega)
        obtain ⟨tv, htv, hIf, hc0, hc1⟩ := hoce ii hil
        have e0 := (cellB hb3 hob).trans hc0
        have e1 := (cellB hb3 hob).trans hc1
        have HFM := Lib.hid (List.getElem_mem hil)
        have HFR : Hid (opT.RdP (fun k => k < w.heap.size) wz [.int .i64 (ops[ii]).1, tv] ops[ii]) := by
         obtain ⟨fp, h1, h2⟩ := htv.B
         exact ⟨fp, ⟨[tv], rfl, hIf, intsT.same h1 (fun k hk => hb3.block k (h2 k hk))⟩, h2⟩
        have HDNF : Hid (∀ A' : List (List Int), A3 <+: A' → CmbP s ops[ii] ar (A3.take (d + 1)) A' → ∀ j (h : j < ops.length), j < ii + 1 → CmbP s ops[j] ar (A2.take (d + 1)) A') := fun A' h1 h2 j hj hlt => by
         by_cases e : j = ii
         ·subst e; rw [take_pre HPRE3.out (by omega)] at h2; exact h2
         ·exact cmbP_more (HDN3.out j hj (by omega)) (fun l hl => h1.subset hl)
        generalize hf : ops[ii] = f at HFM HFR HDNF e0
        obtain ⟨fa, ft⟩ := f
        have hsl := rd_slice htv
        rw [hf] at hsl
        obtain ⟨ta, tc, rfl⟩ := hsl
        clear hoce htv hIf hc0 hc1 hf
        dsimp only at e0 HFR ⊢
        go_wp2_with fail
        generalize hWa : World.alloc wz _ = wa
        have hba : Below wz.heap.size wz wa := hWa ▸ bA
        have hsa : wz.heap.size < wa.heap.size := by rw [← hWa]; simp
        have o0 : wa.cell? ⟨wz.heap.size, 0, none⟩ = some (.int .i64 fa) := by rw [← hWa]; simp [go_sem]
        have o1 : wa.cell? ⟨wz.heap.size, 1, none⟩ = some (.slice ta ft.length tc) := by rw [← hWa]; simp [go_sem]
        clear hWa
        have hlt3 := HI3.out.lt
        replace c3 := (cellB hba hlt3.2.1).trans c3
        have hw1 : IntKind.i64.wrap ((d : Int) + 1) = (d : Int) + 1 := wrap_small (by omega) (by omega)
        have hn1 : (0 : Int) ≤ (d : Int) + 1 := by omega
        have hn2 : (d : Int) + 1 ≤ (cp3 : Int) := by omega
        have hn3 : ((d : Int) + 1).toNat = d + 1 := by omega
        refine wp_region_T (fun w' => w'.cell? ⟨wz.heap.size, 0, none⟩ = some (.int .i64 fa) ∧ w'.cell? ⟨wz.heap.size, 1, none⟩ = some (.slice ta ft.length tc) ∧ w'.cell? ⟨w.heap.size + 1 + 1 + 1, 0, none⟩ = some (.slice (some ⟨g3, 0, none⟩) A3.length cp3)) [7] (by kernel_rfl) ⟨o0, o1, c3⟩ (fun hHeld => ?_)
        refine wpAnyT_take (i := 0) (v := ?_) rfl (by kernel_rfl) (fun _ _ _ h => h) (Or.inl ⟨by rfl, ?_⟩) (by assumption) ?_
        rotate_left
        ·(intro w hSw; (try dsimp only at hSw); go_simp <;> with_reducible rfl)
        go_simp
        refine wpAnyT_take (i := 1) (v := ?_) rfl (by kernel_rfl) (fun _ _ _ h => h) (Or.inl ⟨by rfl, ?_⟩) (by assumption) ?_
        rotate_left
        ·(intro w hSw; (try dsimp only at hSw); go_simp <;> with_reducible rfl)
        go_simp
        refine wpAnyT_take (i := 2) (v := ?_) rfl (by kernel_rfl) (fun _ _ _ h => h) (Or.inl ⟨by rfl, ?_⟩) (by assumption) ?_
        rotate_left
        ·(intro w hSw; (try dsimp only at hSw); go_simp <;> with_reducible rfl)
        go_simp
        refine wpAnyT_take (i := 3) (v := ?_) rfl (by kernel_rfl) (fun _ _ _ h => h) (Or.inl ⟨by rfl, ?_⟩) (by assumption) ?_
        rotate_left
        ·(intro w hSw; (try dsimp only at hSw); go_simp <;> with_reducible rfl)
        go_simp
        refine wpAnyT_take (i := 4) (v := ?_) rfl (by kernel_rfl) (fun _ _ _ h => h) (Or.inl ⟨by rfl, ?_⟩) (by assumption) ?_
        rotate_left
        ·(intro w hSw; (try dsimp only at hSw); go_simp <;> with_reducible rfl)
        go_simp
        refine wpAnyT_take (i := 5) (v := ?_) rfl (by kernel_rfl) (fun _ _ _ h => h) (Or.inl ⟨by rfl, ?_⟩) (by assumption) ?_
        rotate_left
        ·(intro w hSw; (try dsimp only at hSw); go_simp <;> with_reducible rfl)
        go_simp
        refine wpAnyT_take (i := 6) (v := ?_) rfl (by kernel_rfl) (fun _ _ _ h => h) (Or.inl ⟨by rfl, ?_⟩) (by assumption) ?_
        rotate_left
        ·(intro w hSw; (try dsimp only at hSw); go_simp <;> with_reducible rfl)
        go_simp
        refine wpAnyT_last (i := 7) rfl (by kernel_rfl) (by kernel_rfl) (fun K hK => ?_)
        go_simp
        have hbd : Below wz.heap.size wz wa.drew := bthen hba bD
        have hB4 : w.heap.size ≤ wa.drew.heap.size := Nat.le_trans hb3.size hbd.size
        refine (combine_any wa.drew (HI3.out.below hbd (Nat.le_refl _)) HS.out HFM.out HO.out HT.out har HCL3.out (cs := #[.int .i64 fa, .slice ta ft.length tc]) ((HFR.out.below hba).below bD) rfl ⟨by omega, by omega, by omega⟩ (by omega) hB4).mono ?_
        rintro e w4 ⟨rfl, v4, vs4, A4, hI4, hpre4, hcl4, hcmb4, hb4, hA4⟩
        have HI4 := Lib.hid hI4
        have HCL4 := Lib.hid hcl4
        have HDN4 := Lib.hid (HDNF.out A4 hpre4 hcmb4)
        have HPRE4 := Lib.hid (HPRE3.out.trans hpre4)
        have hle4 : A3.length ≤ A4.length := hpre4.length_le
        have hb04 : Below w.heap.size w w4 := (hb3.trans (hbd.mono hb3.size)).trans hb4
        obtain ⟨ad4, cp4, hv4, -⟩ := hI4.shape
        subst hv4
        have c4 := hI4.ca
        clear hI4 hcl4 hcmb4 hpre4 hb4 HFR HDNF hHeld o0 o1 c3 HI3
        dsimp only
        refine hK.out _ _ ?_
        clear hK K
        refine wpAnyT_done (by kernel_rfl) ?_ _
        go_simp
        by_cases hm4 : A4.length ≤ most
        ·have ht4 : decide ((most : Int) < (A4.length : Int)) = false := by simp; omega
         have ht4' : decide (most < A4.length) = false := by simp; omega
         go_wp2_with fail
         go_roundw
         case rel => exact ⟨ii + 1, _, vs4, A4, by omega, by go_num, HI4.out, HPRE4.out, HCL4.out, HDN4.out, hm4, hb04⟩
         case measure => simp [intOf]; omega
        ·have ht4 : decide ((most : Int) < (A4.length : Int)) = true := by simp; omega
         have ht4' : decide (most < A4.length) = true := by simp; omega
         go_wp2_with fail
         go_roundw
         case rel => exact ⟨d + 1, _, vs4, A4, by go_num, by omega, HI4.out, HCL4.out, fun h => absurd h hm4, hb04, hA4⟩
         case measure => simp [intOf]; omega
       ·obtain rfl : ii = ops.length := by omega
        have HDE : Hid (DoneTo s ops ar A3 (d + 1)) := done_succ (done_more HDN2'.out HPRE3.out (by omega)) (fun f hf => by
         obtain ⟨j, hj, rfl⟩ := List.mem_iff_getElem.1 hf
         rw [take_pre HPRE3.out (by omega)]
         exact HDN3.out j hj hj)
        go_wp2_with fail
        go_roundw
        case rel => exact ⟨d + 1, _, vs3, A3, by go_num, by omega, HI3.out, HCL3.out, fun _ => HDE.out, hb3, by omega⟩
        case measure => simp [intOf]; omega
     ·have hb : decide ((A2.length : Int) ≤ (most : Int)) = false := by simp; omega
      have hb' : decide (A2.length ≤ most) = false := by simp; omega
      have HR : Hid (decide (A2.length ≤ most) = false) := hb'
      go_wp2_with fail
      go_quiet (fail)
      go_wp2_with fail
      go_ret2
      exact ⟨_, vs2, A2, _, _, _, by rw [HR.out]; rfl, HI2.out.below (Quiet.drewN wq _).below (Nat.le_refl _), HCL2.out, fun h => absurd h hm2, bDN hb2, hA2⟩
    ·have hb : decide ((d : Int) < (A2.length : Int)) = false := by simp; omega
     have hb' : decide (d < A2.length) = false := by simp; omega
     go_wp2_with fail
     go_quiet (fail)
     go_wp2_with fail
     go_ret2
     obtain rfl : d = A2.length := by omega
     exact ⟨_, vs2, A2, _, _, _, by first | rfl | simp, HI2.out.below (Quiet.drewN wq _).below (Nat.le_refl _), HCL2.out, fun h l => done_end HO.out HCL2.out (HDN2.out h), bDN hb2, hA2⟩
end Go.Proofs.YtggelmbnliajeaaGreatDoor
namespace Go.Proofs.YtggelmbnliajeaaGreatDoor
open Go.RowKit Go.Sort
/-- a row as it stands in memory, and what it reads -/
abbrev PV := Value × List Int
theorem cmpL_total : ∀ {a b : List Int}, ¬ cmpL a b < 0 → a = b ∨ ltL b a
 | [], [], _ => .inl rfl
 | [], _ :: _, h => by simp [cmpL] at h
 | _ :: _, [], _ => .inr (by simp [ltL, cmpL])
 | x :: a, y :: b, h => by
  unfold ltL
  simp only [cmpL] at h ⊢
  by_cases e : x = y
  ·subst e
   simp only [if_true] at h ⊢
   rcases cmpL_total h with h1 | h1
   ·exact .inl (by rw [h1])
   ·exact .inr h1
  ·rw [if_neg e, cmpI_neg] at h
   rw [if_neg (fun e' => e e'.symm), cmpI_neg]
   exact .inr (by omega)
def leP (a b : PV) : Prop := a.2 = b.2 ∨ ltL a.2 b.2
theorem leP_of {a b : PV} (h : ¬ cmpL b.2 a.2 < 0) : leP a b := (cmpL_total h).elim (fun e => .inl e.symm) .inr
/-- equal neighbours dropped -/
def ddL : List PV → List PV
 | [] => []
 | [a] => [a]
 | a :: b :: l => if a.2 = b.2 then ddL (a :: l) else a :: ddL (b :: l)
theorem dd_mem : ∀ {L : List PV} {x : List Int}, x ∈ (ddL L).map (·.2) ↔ x ∈ L.map (·.2)
 | [], x => by simp [ddL]
 | [a], x => by simp [ddL]
 | a :: b :: l, x => by
  unfold ddL
  split
  ·rename_i h
   rw [dd_mem]
   simp only [List.map_cons, List.mem_cons]
   rw [← h]
   simp
  ·rw [List.map_cons, List.mem_cons, dd_mem, List.map_cons (a := a), List.mem_cons]
termination_by L => L.length
theorem dd_pw : ∀ {L : List PV}, L.Pairwise leP → ((ddL L).map (·.2)).Pairwise ltL
 | [], _ => by simp [ddL]
 | [a], _ => by simp [ddL]
 | a :: b :: l, h => by
  obtain ⟨h1, h2⟩ := List.pairwise_cons.1 h
  obtain ⟨h3, h4⟩ := List.pairwise_cons.1 h2
  unfold ddL
  split
  ·exact dd_pw (List.pairwise_cons.2 ⟨fun y hy => h1 y (List.mem_cons_of_mem _ hy), h4⟩)
  ·rename_i hne
   rw [List.map_cons, List.pairwise_cons]
   refine ⟨fun y hy => ?_, dd_pw h2⟩
   have hab : ltL a.2 b.2 := (h1 b (List.mem_cons_self ..)).elim (fun e => absurd e hne) id
   rw [dd_mem] at hy
   obtain ⟨z, hz, rfl⟩ := List.mem_map.1 hy
   rcases List.mem_cons.1 hz with rfl | hz
   ·exact hab
   ·rcases h3 z hz with e | e
    ·rw [← e]; exact hab
    ·exact ltL_trans hab e
termination_by L => L.length
end Go.Proofs.YtggelmbnliajeaaGreatDoor
namespace Go.Proofs.YtggelmbnliajeaaGreatDoor
open Go.RowKit Go.Sort
/-- block b holds the values of L from place o on; what they read lies elsewhere -/
def SR (w : World) (b o : Nat) (L : List PV) : Prop := b < w.heap.size ∧ (∀ i, w.frozen? ⟨b, i, none⟩ = false) ∧ ∀ i (h : i < L.length), w.cell? ⟨b, o + i, none⟩ = some (L[i]).1 ∧ intsT.RdP (fun q => q ≠ b) w [(L[i]).1] (L[i]).2
theorem SR.below {w w' : World} {b o : Nat} {L : List PV} (h : SR w b o L) (hb : Below w.heap.size w w') : SR w' b o L :=
 ⟨Nat.lt_of_lt_of_le h.1 hb.size, fun i => (frozenB hb h.1).trans (h.2.1 i), fun i hi => ⟨(cellB hb h.1).trans (h.2.2 i hi).1, (h.2.2 i hi).2.below hb⟩⟩
theorem tchP_cell {w : World} {b i : Nat} {v : Value} : TchP (fun q => q = b) w (w.setCell ⟨b, i, none⟩ v) :=
 ⟨rfl, rfl, rfl, Nat.le_of_eq (size_set ..).symm, fun _ _ hn => Below.heap_setCell _ _ _ _ (fun e => hn e)⟩
theorem SR.set {w : World} {b o : Nat} {L : List PV} (h : SR w b o L) {j : Nat} (hj : j < L.length) {x : PV} (hx : intsT.RdP (fun q => q ≠ b) w [x.1] x.2) : SR (w.setCell ⟨b, o + j, none⟩ x.1) b o (L.set j x) := by
 have hr : ∀ (y : PV), intsT.RdP (fun q => q ≠ b) w [y.1] y.2 → intsT.RdP (fun q => q ≠ b) (w.setCell ⟨b, o + j, none⟩ x.1) [y.1] y.2 := fun y hy => hy.tchP tchP_cell fun k _ hk e => hk e
 refine ⟨by rw [size_set]; exact h.1, fun i => (World.frozen?_setCell _ _ _ _).trans (h.2.1 i), fun i hi => ?_⟩
 have hi' : i < L.length := by simpa using hi
 rw [List.getElem_set]
 by_cases e : j = i
 ·subst e
  simp only [if_true]
  exact ⟨World.cell?_setCell_same _ _ _ (h.2.2 j hj).1, hr x hx⟩
 ·simp only [if_neg e]
  exact ⟨(World.cell?_setCell_other _ _ _ _ (by simp)).trans (h.2.2 i hi').1, hr _ (h.2.2 i hi').2⟩
end Go.Proofs.YtggelmbnliajeaaGreatDoor
namespace Go.Proofs.YtggelmbnliajeaaGreatDoor
open Go.RowKit Go.Sort
theorem makeRel1_any (w : World) {v u : Value} {xs ys : List Int} (h : intsT.Rd w [v] xs) (h' : intsT.Rd w [u] ys) :
  Calls Tryz.prog 109 #[v, u] w fun e w' => e = .returned (.int .i64 (cmpL xs ys)) ∧ w = w' := by
 have H := Lib.hid h
 have H' := Lib.hid h'
 clear h h'
 go_enter Tryz.func109, Tryz.ntmps109
 go_wp2_with fail
 refine (Compare_any w H.out H'.out).mono ?_
 rintro e _ ⟨rfl, rfl⟩
 go_wp2_with fail
 go_ret
 exact ⟨rfl, rfl⟩
end Go.Proofs.YtggelmbnliajeaaGreatDoor
namespace Go.Proofs.YtggelmbnliajeaaGreatDoor
open Go.RowKit Go.Sort
end Go.Proofs.YtggelmbnliajeaaGreatDoor
namespace Go.Proofs.YtggelmbnliajeaaGreatDoor
open Go.RowKit Go.Sort
/-- what is kept of a row behind an element: what differs from its left neighbour -/
def kpL : PV → List PV → List PV
 | _, [] => []
 | p, x :: l => match decide (x.2 = p.2) with
  | true => kpL x l
  | false => x :: kpL x l
theorem kpL_yes {p x : PV} {l : List PV} (h : x.2 = p.2) : kpL p (x :: l) = kpL x l := by simp only [kpL, decide_eq_true h]
theorem kpL_no {p x : PV} {l : List PV} (h : x.2 ≠ p.2) : kpL p (x :: l) = x :: kpL x l := by simp only [kpL, decide_eq_false h]
theorem kpL_cong {p q : PV} (h : p.2 = q.2) : ∀ (l : List PV), kpL p l = kpL q l
 | [] => rfl
 | x :: l => by
  by_cases h1 : x.2 = p.2
  ·rw [kpL_yes h1, kpL_yes (h1.trans h)]
  ·rw [kpL_no h1, kpL_no (fun e => h1 (e.trans h.symm))]
theorem ddL_kp : ∀ (l : List PV) (a : PV), ddL (a :: l) = a :: kpL a l
 | [], a => by simp [ddL, kpL]
 | b :: l, a => by
  unfold ddL
  by_cases h : a.2 = b.2
  ·rw [if_pos h, ddL_kp l a, kpL_yes h.symm, kpL_cong h]
  ·rw [if_neg h, ddL_kp l b, kpL_no (fun e => h e.symm)]
theorem ddL_len : ∀ (L : List PV), (ddL L).length ≤ L.length
 | [] => by simp [ddL]
 | a :: l => by
  rw [ddL_kp]
  have : ∀ (l : List PV) (p : PV), (kpL p l).length ≤ l.length := fun l => by
   induction l with
   | nil => intro p; exact Nat.le_refl _
   | cons x l ih =>
    intro p
    by_cases h : x.2 = p.2
    ·rw [kpL_yes h]; exact Nat.le_succ_of_le (ih x)
    ·rw [kpL_no h]; exact Nat.succ_le_succ (ih x)
  simpa using this l a
/-- up to place k nothing has fallen out -/
def cmA (L : List PV) (k : Nat) : Prop := ∃ h : k - 1 < L.length, L.take k ++ kpL (L[k - 1]) (L.drop k) = ddL L
theorem cmA_one {L : List PV} (h : 0 < L.length) : cmA L 1 := by
 cases L with
 | nil => simp at h
 | cons a l => exact ⟨by simp, by simp [ddL_kp]⟩
theorem cmA_step {L : List PV} {k : Nat} (hk : 1 ≤ k) (hl : k < L.length) (h : cmA L k) (hne : (L[k]).2 ≠ (L[k - 1]'(by omega)).2) : cmA L (k + 1) := by
 obtain ⟨h1, h2⟩ := h
 refine ⟨by simpa using hl, ?_⟩
 rw [← h2, List.take_succ_eq_append_getElem hl, List.drop_eq_getElem_cons hl, kpL_no hne, List.append_assoc]
 simp
theorem cmA_end {L : List PV} (h : cmA L L.length) : ddL L = L := by
 obtain ⟨h1, h2⟩ := h
 rw [← h2]
 simp [kpL]
/-- behind the first equal neighbours: M is written up to k, what stands from j - 1 on is L's -/
def cmB (L M : List PV) (k j : Nat) : Prop := 1 ≤ k ∧ k < j ∧ j ≤ L.length ∧ M.length = L.length ∧ (∀ i, j - 1 ≤ i → M[i]? = L[i]?) ∧ ∃ h : j - 1 < L.length, M.take k ++ kpL (L[j - 1]) (L.drop j) = ddL L
theorem cmB_start {L : List PV} {k : Nat} (hk : 1 ≤ k) (hl : k < L.length) (h : cmA L k) (he : (L[k]).2 = (L[k - 1]'(by omega)).2) : cmB L L k (k + 1) := by
 obtain ⟨h1, h2⟩ := h
 refine ⟨hk, by omega, by omega, rfl, fun _ _ => rfl, by simpa using hl, ?_⟩
 rw [← h2, List.drop_eq_getElem_cons hl, kpL_yes he]
 simp
theorem cmB_skip {L M : List PV} {k j : Nat} (hj : j < L.length) (h : cmB L M k j) (he : (L[j]).2 = (L[j - 1]'(by omega)).2) : cmB L M k (j + 1) := by
 obtain ⟨h0, h1, h2, h3, h4, h5, h6⟩ := h
 refine ⟨h0, by omega, by omega, h3, fun i hi => h4 i (by omega), by simpa using hj, ?_⟩
 rw [← h6, List.drop_eq_getElem_cons hj, kpL_yes he]
 simp
theorem cmB_keep {L M : List PV} {k j : Nat} (hj : j < L.length) (h : cmB L M k j) (hne : (L[j]).2 ≠ (L[j - 1]'(by omega)).2) : cmB L (M.set k L[j]) (k + 1) (j + 1) := by
 obtain ⟨h0, h1, h2, h3, h4, h5, h6⟩ := h
 refine ⟨by omega, by omega, by omega, by simpa using h3, fun i hi => ?_, by simpa using hj, ?_⟩
 ·rw [List.getElem?_set_ne (by omega)]
  exact h4 i (by omega)
 ·rw [← h6, List.drop_eq_getElem_cons hj, kpL_no hne, List.take_succ_eq_append_getElem (by rw [List.length_set, h3]; omega), List.getElem_set_self, List.take_set_of_le (Nat.le_refl _), List.append_assoc]
  simp
theorem cmB_end {L M : List PV} {k : Nat} (h : cmB L M k L.length) : ddL L = M.take k := by
 obtain ⟨h0, h1, h2, h3, h4, h5, h6⟩ := h
 rw [← h6]
 simp [kpL]
theorem cmB_len {L M : List PV} {k : Nat} (h : cmB L M k L.length) : (ddL L).length = k := by
 rw [cmB_end h, List.length_take, h.2.2.2.1]
 have := h.2.1
 omega
end Go.Proofs.YtggelmbnliajeaaGreatDoor
namespace Go.Proofs.YtggelmbnliajeaaGreatDoor
open Go.RowKit Go.Sort
/-- the block of a row of numbers -/
def bkV : Value → List Nat
 | .slice (some a) n _ => if n = 0 then [] else [a.block]
 | _ => []
theorem bkV_ints {w : World} {v : Value} {x : List Int} {fp : List Nat} (h : intsT.rd w [v] x fp) : fp = bkV v := by
 obtain ⟨ad, cap, hv, h1, h2, h3⟩ := h
 obtain rfl : v = _ := by simpa using hv
 rcases h3 with ⟨h0, rfl⟩ | ⟨h0, b, o, fps, rfl, hb, rfl, h4⟩
 ·cases ad <;> simp [bkV, h0]
 ·have e : (List.range x.length).flatMap fps = [] := by
   rw [List.flatMap_eq_nil_iff]
   intro i hi
   obtain ⟨cs, ⟨_, _, e⟩, _⟩ := h4 i (by simpa using hi)
   exact e
  rw [e]
  simp only [bkV]
  rw [if_neg (by omega)]
/-- the rows' blocks: each once, new, and free -/
def SRf (base : Nat) (w : World) (L : List PV) : Prop := (L.flatMap (fun p => bkV p.1)).Nodup ∧ ∀ p ∈ L, ∀ k ∈ bkV p.1, base ≤ k ∧ k < w.heap.size ∧ ∀ o, w.frozen? ⟨k, o, none⟩ = false
theorem SRf.perm {base : Nat} {w : World} {L M : List PV} (h : SRf base w L) (hp : M.Perm L) : SRf base w M := ⟨(hp.flatMap_right _).nodup_iff.2 h.1, fun p hp' => h.2 p (hp.mem_iff.1 hp')⟩
theorem sub_flat {α β : Type} {f : α → List β} {M L : List α} (h : M.Sublist L) : (M.flatMap f).Sublist (L.flatMap f) := by
 induction h with
 | slnil => exact List.Sublist.refl _
 | cons a _ ih => rw [List.flatMap_cons]; exact ih.trans (List.sublist_append_right _ _)
 | cons_cons a _ ih => rw [List.flatMap_cons, List.flatMap_cons]; exact (List.Sublist.refl _).append ih
theorem SRf.sub {base : Nat} {w : World} {L M : List PV} (h : SRf base w L) (hp : M.Sublist L) : SRf base w M := ⟨(sub_flat hp).nodup h.1, fun p hp' => h.2 p (hp.subset hp')⟩
theorem sr_of_fr {w : World} {base b o n c : Nat} {xs : List (List Int)} (h : rowsT.Fr base w [.slice (some ⟨b, o, none⟩) n c] xs) (h0 : 0 < xs.length) : base ≤ b ∧ ∃ L : List PV, L.map (·.2) = xs ∧ SR w b o L ∧ SRf base w L := by
 obtain ⟨fp, ⟨ad, cap, hv, h1, h2, h3⟩, hnd, hge, hun⟩ := h
 simp only [List.cons.injEq, Value.slice.injEq, and_true] at hv
 obtain ⟨rfl, rfl, rfl⟩ := hv
 rcases h3 with ⟨h4, -⟩ | ⟨-, b', o', fps, he, hb, rfl, h4⟩
 ·omega
 simp only [Option.some.injEq, Addr.mk.injEq, and_true] at he
 obtain ⟨rfl, rfl⟩ := he
 have hv : ∀ i : Fin xs.length, ∃ v, intsT.rd w [v] xs[i] (fps i) ∧ w.cell? ⟨b, o + i, none⟩ = some v := fun i => by
  obtain ⟨cs, h5, h6⟩ := h4 i i.2
  obtain ⟨ad, cap, rfl, _⟩ := id h5
  refine ⟨_, h5, ?_⟩
  have := h6 0 (by simp)
  simpa [Ty.slice] using this
 have hfp : ∀ i : Fin xs.length, bkV (Classical.choose (hv i)) = fps i := fun i => (bkV_ints (Classical.choose_spec (hv i)).1).symm
 have hin : ∀ (i : Fin xs.length), ∀ k ∈ fps i, k ∈ (List.range xs.length).flatMap fps := fun i k hk => List.mem_flatMap.2 ⟨i, by simp, hk⟩
 refine ⟨hge b (List.mem_cons_self ..), List.ofFn (fun i => (Classical.choose (hv i), xs[i])), ?_, ⟨hb, fun i => hun b (List.mem_cons_self ..) i, fun i hi => ?_⟩, ?_, ?_⟩
 ·rw [List.map_ofFn]
  refine List.ext_getElem (by simp) fun i h h' => ?_
  simp
 ·have hi' : i < xs.length := by simpa using hi
  obtain ⟨g1, g2⟩ := Classical.choose_spec (hv ⟨i, hi'⟩)
  rw [List.getElem_ofFn]
  refine ⟨g2, _, g1, fun k hk e => ?_⟩
  subst e
  exact (List.nodup_cons.1 hnd).1 (List.mem_flatMap.2 ⟨i, by simpa using hi', hk⟩)
 ·have e : (List.ofFn (fun i : Fin xs.length => (Classical.choose (hv i), xs[i]))).flatMap (fun p : PV => bkV p.1) = (List.range xs.length).flatMap fps := by
   rw [List.flatMap_def, List.flatMap_def, List.map_ofFn]
   congr 1
   refine List.ext_getElem (by simp) fun i h h' => ?_
   rw [List.getElem_ofFn, List.getElem_map, List.getElem_range]
   exact hfp _
  rw [e]
  exact (List.nodup_cons.1 hnd).2
 ·intro p hp k hk
  obtain ⟨i, rfl⟩ := List.mem_ofFn.1 hp
  dsimp only at hk
  rw [hfp] at hk
  have hm := List.mem_cons_of_mem b (hin i k hk)
  exact ⟨hge k hm, Ty.lt intsT (Classical.choose_spec (hv i)).1 k hk, fun o => hun k hm o⟩
theorem flat_get {L : List PV} : (List.range L.length).flatMap (fun i => bkV (L.getD i (undef, [])).1) = L.flatMap (fun p => bkV p.1) := by
 rw [List.flatMap_def, List.flatMap_def]
 congr 1
 refine List.ext_getElem (by simp) fun i h h' => ?_
 have hi : i < L.length := by simpa using h
 simp [List.getD_eq_getElem?_getD, hi]
theorem fr_of_sr {w : World} {base b o m c : Nat} {L : List PV} (h : SR w b o L) (hf : SRf base w L) (hb : base ≤ b) (hm : L.length = m) (hc : m ≤ c) (hl : m ≤ capMax) : rowsT.Fr base w [.slice (some ⟨b, o, none⟩) m c] (L.map (·.2)) := by
 subst hm
 rcases Nat.eq_zero_or_pos L.length with h0 | h0
 ·obtain rfl : L = [] := List.eq_nil_of_length_eq_zero h0
  exact fr_nil
 have hlen : (L.map (fun p : PV => p.2)).length = L.length := by simp
 have hne : ∀ k ∈ L.flatMap (fun p => bkV p.1), k ≠ b := fun k hk => by
  obtain ⟨p, hp, hk⟩ := List.mem_flatMap.1 hk
  obtain ⟨i, hi, rfl⟩ := List.mem_iff_getElem.1 hp
  obtain ⟨fp, h1, h2⟩ := (h.2.2 i hi).2
  rw [bkV_ints h1] at h2
  exact h2 k hk
 refine ⟨b :: (List.range (L.map (fun p : PV => p.2)).length).flatMap (fun i => bkV (L.getD i (undef, [])).1), ⟨some ⟨b, o, none⟩, c, by simp, by simpa using hc, by simpa using hl, .inr ⟨by simpa using h0, b, o, _, rfl, h.1, rfl, fun i hi => ?_⟩⟩, ?_, ?_, ?_⟩
 ·have hi' : i < L.length := by simpa using hi
  obtain ⟨g1, fp, g2, g3⟩ := h.2.2 i hi'
  refine ⟨[(L[i]).1], ?_, fun j hj => ?_⟩
  ·rw [List.getElem_map]
   have e : (L.getD i (undef, [])).1 = (L[i]).1 := by simp [List.getD_eq_getElem?_getD, hi']
   rw [e, ← bkV_ints g2]
   exact g2
  ·obtain rfl : j = 0 := by simp at hj; omega
   simpa [Ty.slice] using g1
 ·rw [hlen, flat_get]
  exact List.nodup_cons.2 ⟨fun hm => hne b hm rfl, hf.1⟩
 ·rw [hlen, flat_get]
  intro k hk
  rcases List.mem_cons.1 hk with rfl | hk
  ·exact hb
  ·obtain ⟨p, hp, hk⟩ := List.mem_flatMap.1 hk
   exact (hf.2 p hp k hk).1
 ·rw [hlen, flat_get]
  intro k hk i
  rcases List.mem_cons.1 hk with rfl | hk
  ·exact h.2.1 i
  ·obtain ⟨p, hp, hk⟩ := List.mem_flatMap.1 hk
   exact (hf.2 p hp k hk).2.2 i
/-- the rows stay when the row of rows alone is written -/
theorem SRf.tch {base b : Nat} {w w' : World} {L : List PV} (h : SRf base w L) (hn : ∀ p ∈ L, ∀ k ∈ bkV p.1, k ≠ b) (ht : TchP (fun q => q = b) w w') : SRf base w' L :=
 ⟨h.1, fun p hp k hk => ⟨(h.2 p hp k hk).1, Nat.lt_of_lt_of_le (h.2 p hp k hk).2.1 ht.size, fun o => (ht.frozen (h.2 p hp k hk).2.1 (hn p hp k hk)).trans ((h.2 p hp k hk).2.2 o)⟩⟩
theorem SR.apart {w : World} {b o : Nat} {L : List PV} (h : SR w b o L) : ∀ p ∈ L, ∀ k ∈ bkV p.1, k ≠ b := fun p hp k hk => by
 obtain ⟨i, hi, rfl⟩ := List.mem_iff_getElem.1 hp
 obtain ⟨fp, h1, h2⟩ := (h.2.2 i hi).2
 rw [bkV_ints h1] at h2
 exact h2 k hk
theorem SR.take {w : World} {b o : Nat} {L : List PV} (h : SR w b o L) (k : Nat) : SR w b o (L.take k) := ⟨h.1, h.2.1, fun i hi => by
 rw [List.getElem_take]
 exact h.2.2 i (by rw [List.length_take] at hi; omega)⟩
/-- cells behind a row's first ones are written -/
theorem SR.high {w : World} {b o j : Nat} {v : Value} {L : List PV} (h : SR w b o L) (hj : L.length ≤ j) : SR (w.setCell ⟨b, o + j, none⟩ v) b o L :=
 ⟨by rw [size_set]; exact h.1, fun i => (World.frozen?_setCell _ _ _ _).trans (h.2.1 i), fun i hi => ⟨(World.cell?_setCell_other _ _ _ _ (by intro e; simp only [Addr.mk.injEq] at e; omega)).trans (h.2.2 i hi).1, (h.2.2 i hi).2.tchP tchP_cell fun k _ hk e => hk e⟩⟩
theorem SR.clear {b o : Nat} {L : List PV} : ∀ (zs : List Value) (k : Nat) (w : World), L.length ≤ k → SR w b o L → SR (w.setCells b (o + k) zs) b o L ∧ TchP (fun q => q = b) w (w.setCells b (o + k) zs)
 | [], k, w, _, h => ⟨h, TchP.refl _ _⟩
 | z :: zs, k, w, hk, h => by
  obtain ⟨h1, h2⟩ := SR.clear zs (k + 1) _ (by omega) (h.high (v := z) hk)
  exact ⟨h1, tchP_cell.then h2 (fun _ _ h => h)⟩
theorem kpL_sub : ∀ (l : List PV) (p : PV), (kpL p l).Sublist l
 | [], _ => List.Sublist.refl _
 | x :: l, p => by
  by_cases h : x.2 = p.2
  ·rw [kpL_yes h]; exact (kpL_sub l x).cons _
  ·rw [kpL_no h]; exact (kpL_sub l x).cons_cons _
theorem ddL_sub : ∀ (L : List PV), (ddL L).Sublist L
 | [] => by simp [ddL]
 | a :: l => by rw [ddL_kp]; exact (kpL_sub l a).cons_cons _
end Go.Proofs.YtggelmbnliajeaaGreatDoor
