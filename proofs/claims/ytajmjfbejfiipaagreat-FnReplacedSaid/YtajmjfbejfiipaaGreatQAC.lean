/-
Contracts: the tuple that an operation makes of tuples, the reference's.
Rows whose elements point into older memory of the call's own: they read as new data. No program is named here.
Rows of truth values; rows of slices that lie in older memory; indices of lists are one to one.
Plain: a relation that has all tuples; what an operation makes of tuples of a relation; whether it keeps the relation.
Contracts: the set of a relation's tuples, the reference's.
Contracts: the set of a relation's tuples, filled.
Constraints that hold for values: the program's and the reference's.
Marks: what a write into all numbers of a datum's memory changes, and what the datum then reads as. No program is named here.
Contracts: counting lists, formulas of one atom; results that lie in new memory.
Contracts: atoms whose variables are renamed.
Contracts: hiding a variable of a formula: the reference's.
Contracts: hiding a variable of a formula: the program's.
Contracts: hiding a variable of a formula: the program's.
Contracts: a copy of a list by append, the limits of formulas; the law of an append of many numbers.
-/
import Derived.Test.YtajmjfbejfiipaaGreatQAB
import Derived.Test.YtajmjfbejfiipaaGreatQAA
import Derived.Deep.RegionHeldLaw
import Derived.Deep.RegionLaw
namespace Go.Proofs.YtajmjfbejfiipaaGreat
open Go.RowKit Go.Sort
theorem madeL_succ (s : Int) (tab : List Int) (ts : List (List Int)) (m : Nat) : madeL s tab ts m ++ [madeV s tab ts m] = madeL s tab ts (m + 1) := by simp [madeL, List.range_succ]
theorem sl_ex {α : Type} {E : Ty α} {base : Nat} {w : World} {u : Value} {x : List α} (h : (Ty.slice E).Fr base w [u] x) : ∃ ad n cap, u = .slice ad n cap := let ⟨a, c, h⟩ := fr_slice h; ⟨a, _, c, h⟩
set_option maxHeartbeats 1600000 in
theorem l02Value_quiet (w : World) {v : Value} {f : Int × List Int} (h : opT.Pt w v f) {u : Value} {xs : List Int} (hu : intsT.Rd w [u] xs) {s : Int} (hs : 1 ≤ s) (hs1 : s ≤ 1000) (hl5 : xs.length ≤ 5) (hin : ∀ a ∈ xs, 0 ≤ a ∧ a ≤ s - 1) {k : Nat} (hk : idxL s 0 xs = k) (hkl : k < f.2.length) :
  Calls Tryz.prog 214 #[.int .i64 s, v, u] w fun e w' => e = .returned (.int .i64 f.2[k]) ∧ Quiet w w' := by
 obtain ⟨b, o, ad, cap, rfl, hb, -, c0, c1, hx⟩ := pt_pair h
 obtain ⟨_, _, e1, -, -, hcell⟩ := ints_ex hx
 simp only [List.cons.injEq, Value.slice.injEq, and_true, true_and] at e1
 obtain ⟨rfl, rfl⟩ := e1
 obtain ⟨tb0, to0, rfl, htb, hte⟩ := hcell (by omega)
 have t0 := (hte k hkl).2
 have cC : ∀ n, Calls Tryz.prog 75 #[.int .i64 s, u] (w.drewN n) fun e w'' => e = .returned (.int .i64 k) ∧ ∃ m, w'' = w.drewN m := fun n => by
  have := pure_drawn (l01Code_any (w.drewN n) s (hu.below (Quiet.drewN w n).below) hs hs1 hl5 hin)
  rw [hk] at this
  exact this
 clear h hx hcell hte hu
 go_enter Tryz.func214, Tryz.ntmps214
 go_wp2_with fail
 go_quiet (exact cC _)
 go_wp2_with fail
 go_ret
 exact ⟨rfl, (by first | exact Quiet.refl _ | exact Quiet.drewN _ _ | exact (Quiet.drewN _ _).then (Quiet.drewN _ _) | exact ((Quiet.drewN _ _).then (Quiet.drewN _ _)).then (Quiet.drewN _ _))⟩
set_option maxHeartbeats 3200000 in
set_option maxRecDepth 100000 in
theorem l02Make_any (w : World) {fv : Value} {f : Int × List Int} (h : opT.Pt w fv f) {v : Value} {ts : List (List Int)} (h' : rowsT.Rd w [v] ts) {s : Int} {m : Nat} (hf : opOk s f) (ht : tupsOk s f.1 m ts) (hm : m ≤ 1000) :
  Calls Tryz.prog 177 #[.int .i64 s, fv, v] w (RetS intsT w (madeL s f.2 ts m)) := by
 obtain ⟨ad, cap, hvv, -, hL, hcell⟩ := slices_ex h'
 obtain rfl : v = _ := by simpa using hvv
 have hn : (ts.length : Int) = f.1 := ht.1
 have hs := hf.1
 have ha := hf.2.1
 unfold sizeOk at hs
 have h0 : 0 < ts.length := by omega
 obtain ⟨b, o, rfl, hb, hce⟩ := hcell h0
 obtain ⟨u0, hu0, hc0⟩ := hce 0 h0
 obtain ⟨a0, c0, rfl⟩ := rd_slice hu0
 have hm0 : (ts[0]).length = m := (ht.2 _ (List.getElem_mem h0)).1
 rw [hm0] at hc0
 have hc0' : w.cell? ⟨b, o, none⟩ = some (.slice a0 m c0) := hc0
 have HF := Lib.hid hf
 have HT := Lib.hid ht
 have HC := Lib.hid hce
 have HP := Lib.hid h
 obtain ⟨fb, fo, _, _, rfl, -⟩ := pt_pair h
 clear h h' hvv hf ht hcell hce hu0 hc0
 go_enter Tryz.func177, Tryz.ntmps177
 go_wp2_with fail
 go_loopw [8, 7] (fun i q wr => ∃ p : Nat, p ≤ m ∧ i = .int .i64 p ∧ Bl Ty.int 2 w.heap.size wr.heap.size wr q (madeL s f.2 ts p) ∧ Below w.heap.size w wr) (fun i _ _ => m - (intOf i).toNat)
 case atStart => exact ⟨0, Nat.zero_le _, rfl, by simpa [madeL] using Bl.lit0 (E := Ty.int) (e := 2) (w := w) (Nat.le_refl _), bA⟩
 case round =>
  obtain ⟨p, hp, rfl, hBl, hbel⟩ := hrel
  have HB := Lib.hid hBl
  have y0 := (hbel.cell hb).trans hc0'
  clear hBl
  by_cases hpl : p < m
  ·obtain ⟨kk, hkk, hkl2, hmv⟩ := madeV_get HF.out HT.out hpl
   have HKK := Lib.hid hkk
   have HMV := Lib.hid hmv
   have hsz := hbel.size
   clear hkk hmv
   obtain ⟨wo, rfl⟩ : ∃ wo : World, wo = wr := ⟨_, rfl⟩
   go_wp2_with fail
   go_loopw [10, 9] (fun i q wr => ∃ k : Nat, k ≤ ts.length ∧ i = .int .i64 k ∧ Bl Ty.int 2 wo.heap.size wr.heap.size wr q ((colL ts p).take k) ∧ Below wo.heap.size wo wr) (fun i _ _ => ts.length - (intOf i).toNat)
   case atStart => exact ⟨0, Nat.zero_le _, rfl, by simpa using Bl.lit0 (E := Ty.int) (e := 2) (w := wo) (Nat.le_refl _), bA⟩
   case round =>
    obtain ⟨k, hk, rfl, hBi, hbi⟩ := hrel
    have HBi := Lib.hid hBi
    have hbw : Below w.heap.size w wr := bthen hbel hbi
    have hsi := hbi.size
    clear hBi
    by_cases hkl : k < ts.length
    ·obtain ⟨uk, huk, hck⟩ := HC.out k hkl
     obtain ⟨ak, ck, huv, -, -, hkc⟩ := ints_ex huk
     obtain rfl : uk = _ := by simpa using huv
     have hlk : (ts[k]).length = m := (HT.out.2 _ (List.getElem_mem hkl)).1
     obtain ⟨bk, ok, rfl, hbk, hkce⟩ := hkc (by omega)
     have e0 := (hbw.cell hb).trans hck
     have e1 := (hbw.cell hbk).trans (hkce p (by omega)).2
     have hI1 := (hkce p (by omega)).1
     have hpk : p < (ts[k]).length := by omega
     have hcl : k < (colL ts p).length := by rw [colL_len]; exact hkl
     have HTK : Hid ((colL ts p).take k ++ [(ts[k])[p]] = (colL ts p).take (k + 1)) := by
      unfold Hid
      rw [← colL_get hkl hpk hcl]; exact take_snoc hcl
     clear hkc hkce huv huk hck
     go_wp2_with (refine wpList_push (E := Ty.int) _ rfl _ _ 38 2 rfl elInt rfl (HBi.out.below bA (Nat.le_refl _)) rfl news1 (fr_int hI1) (by rw [List.length_take]; omega) (by decide) hsi (by simp) ?_; intro v1 w3 hB3 hg1 _)
     have hbel1 : Below wo.heap.size wo w3 := (hbi.alloc hbi.size _).grown hg1 (by simp; omega) (fun k hk => HBi.out.own hk)
     rw [HTK.out] at hB3
     have HB3 := Lib.hid hB3
     clear hB3
     go_wp2_with fail
     go_roundw
     case rel => exact ⟨k + 1, by omega, by go_num, HB3.out, hbel1⟩
     case measure => simp [intOf]; omega
    ·obtain rfl : k = ts.length := by omega
     have hfi := HBi.out.fr (by rw [List.length_take]; unfold capMax; omega)
     rw [List.take_of_length_le (by rw [colL_len]; exact Nat.le_refl _)] at hfi
     obtain ⟨aq, nq, cq, rfl⟩ := sl_ex hfi
     have HQ := Lib.hid hfi.rd
     have HIN := Lib.hid (colL_in HT.out hpl)
     have hl5 : (colL ts p).length ≤ 5 := by rw [colL_len]; omega
     clear hfi
     go_wp2_with fail
     refine (l02Value_quiet _ (HP.out.below hbw) HQ.out (by omega) (by omega) hl5 HIN.out HKK.out hkl2).mono ?_
     rintro e w4 ⟨rfl, hq4⟩
     have hb4 := hq4.below
     have hbo : Below wo.heap.size wo w4 := bthen hbi hb4
     have hI4 : I64 f.2[kk] := I64.small (by have := HF.out.2.2.2 _ (List.getElem_mem hkl2); omega) (by have := HF.out.2.2.2 _ (List.getElem_mem hkl2); omega)
     have hz4 := hbo.size
     go_wp2_with (refine wpList_push (E := Ty.int) _ rfl _ _ 38 2 rfl elInt rfl (HB.out.below (hbo.alloc hbo.size _) (Nat.le_refl _)) rfl news1 (fr_int hI4) (by rw [madeL_len]; omega) (by decide) hsz (by simp; omega) ?_; intro v5 w5 hB5 hg5 _)
     have hbel5 : Below w.heap.size w w5 := ((hbel.trans (hbo.mono hsz)).alloc (by omega) _).grown hg5 (by simp; omega) (fun k hk => HB.out.own hk)
     rw [← HMV.out, madeL_succ] at hB5
     have HB5 := Lib.hid hB5
     clear hB5
     go_wp2_with fail
     go_roundw
     case rel => exact ⟨p + 1, by omega, by go_num, HB5.out, hbel5⟩
     case measure => simp [intOf]; omega
  ·obtain rfl : p = m := by omega
   go_wp2_with fail
   go_ret
   exact ⟨_, rfl, HB.out.fr (by rw [madeL_len]; unfold capMax; omega), hbel⟩
end Go.Proofs.YtajmjfbejfiipaaGreat
namespace Go.Proofs.YtajmjfbejfiipaaGreat
open Go.RowKit
/-- a value as it is: for rows whose elements point into older memory -/
def Ty.val : Ty Value where
 sz := 1
 rd := fun _ cs x fp => cs = [x] ∧ x.oneCell' = true ∧ fp = []
 len := by rintro _ _ _ _ ⟨rfl, _, _⟩; rfl
 same := fun h _ => h
 lt := by rintro _ _ _ _ ⟨rfl, _, rfl⟩ k hk; cases hk
 one := by rintro _ _ _ _ ⟨rfl, h, _⟩ u hu; simp at hu; subst hu; exact h
theorem fr_val {base : Nat} {w : World} {x : Value} (h : x.oneCell' = true) : Ty.val.Fr base w [x] x := ⟨[], ⟨rfl, h, rfl⟩, List.nodup_nil, by simp, fun b hb => by cases hb⟩
/-- a number and a value -/
abbrev pvT : Ty (Int × Value) := Ty.cons Ty.val
theorem fr_pv {base : Nat} {w : World} {n : Int} {x : Value} (hn : I64 n) (h : x.oneCell' = true) : pvT.Fr base w [.int .i64 n, x] (n, x) := ⟨[], ⟨[x], rfl, hn, rfl, h, rfl⟩, List.nodup_nil, by simp, fun b hb => by cases hb⟩
end Go.Proofs.YtajmjfbejfiipaaGreat
namespace Go.Proofs.YtajmjfbejfiipaaGreat
open Go.RowKit Go.Sort
/-- a row of slices reads as rows do, if each of its slices reads so -/
theorem rows_of_vals {w : World} {v : Value} {vs : List Value} {ts : List (List Int)} (h : (Ty.slice Ty.val).Rd w [v] vs) (hl : vs.length = ts.length) (hr : ∀ i (h : i < vs.length) (h' : i < ts.length), intsT.Rd w [vs[i]] ts[i]) : rowsT.Rd w [v] ts := by
 obtain ⟨fp, ad, cap, hv, h1, h2, h3⟩ := h
 obtain rfl : v = _ := by simpa using hv
 rcases h3 with ⟨h3, _⟩ | ⟨h3, b, o, fps, rfl, hb, _, h4⟩
 ·exact ⟨[], ad, cap, by rw [hl], by omega, by omega, .inl ⟨by omega, rfl⟩⟩
 ·have hch : ∀ i, ∃ fp, (h : i < ts.length) → intsT.rd w [vs[i]'(by omega)] ts[i] fp := fun i => by
   by_cases hi : i < ts.length
   ·obtain ⟨fp, hfp⟩ := hr i (by omega) hi
    exact ⟨fp, fun _ => hfp⟩
   ·exact ⟨[], fun h => absurd h hi⟩
  refine ⟨_, some ⟨b, o, none⟩, cap, by rw [hl], by omega, by omega, .inr ⟨by omega, b, o, fun i => (hch i).choose, rfl, hb, rfl, fun i hi => ?_⟩⟩
  obtain ⟨cs, ⟨rfl, _, _⟩, h6⟩ := h4 i (by omega)
  exact ⟨_, (hch i).choose_spec hi, h6⟩

/-- a row of truth values of the call's own -/
def BR (e base : Nat) (w : World) (g n cap : Nat) (L : List Bool) : Prop := L.length = n ∧ base ≤ g ∧ w.ownsRow base e 1 (.slice (some ⟨g, 0, none⟩) n cap) n (L.map Value.bool)
section
variable {e base g n cap : Nat} {w w' : World} {L : List Bool}
theorem BR.cell (h : BR e base w g n cap L) {j : Nat} (hj : j < L.length) : w.cell? ⟨g, j, none⟩ = some (.bool L[j]) := by
 rw [World.ownsRow.cellAt h.2.2 j (by have := h.1; omega)]
 simp [hj]
theorem BR.free (h : BR e base w g n cap L) (j : Nat) : w.frozen? ⟨g, j, none⟩ = false := World.ownsRow.frozenAt h.2.2 j
theorem BR.lt (h : BR e base w g n cap L) : g < w.heap.size := (h.2.2.lt g rfl).2
theorem BR.set (h : BR e base w g n cap L) (j : Nat) (a : Bool) : BR e base (w.setCell ⟨g, j, none⟩ (.bool a)) g n cap (L.set j a) := by
 refine ⟨by rw [List.length_set]; exact h.1, h.2.1, ?_⟩
 rw [List.map_set]
 exact (h.2.2.stored j _).1
theorem BR.below {B : Nat} (h : BR e base w g n cap L) (hb : Below B w w') (hg : g < B) : BR e base w' g n cap L := by
 refine ⟨h.1, h.2.1, h.2.2.1, ?_⟩
 rcases h.2.2.2 with ⟨h', _⟩ | ⟨g', cap', cur, hg', hbg, hh, r⟩
 ·simp at h'
 ·simp only [Value.slice.injEq, Option.some.injEq, Addr.mk.injEq, and_true, true_and] at hg'
  obtain ⟨rfl, rfl⟩ := hg'
  exact .inr ⟨g, _, cur, rfl, hbg, by rw [hb.block g hg]; exact hh, r⟩
end
theorem wpList_mkB {P : Program} (w : World) {ops : Array Oper} {rest : List Oper} {o : Oper} {a : Act} {Q : Exit → Act → World → Prop} (hg : o.guard = none) (l c : Operand) (t e : TypeId) {bytes : Nat}
  (hop : o.op = Op.makeSlice t l c) (ht : P.underlying t = some (.slice e)) (hinfo : (P.info? e).map (fun i => (i.zero, i.size, i.bytes)) = some (some (.bool false), 1, bytes)) (base : Nat) (n : Nat) (hl : a.eval l = .int .i64 (n : Int)) (hc : a.eval c = .int .i64 (n : Int)) (hn : n ≤ 1000000000) (hby : bytes ≤ 100000) (hb : base ≤ w.heap.size)
  (hK : ∀ w', BR e base w' w.heap.size n n (List.replicate n false) → w.grownBy w' none → w'.heap.size = w.heap.size + 1 → wpList P ops Q rest (a.put o.dst (.slice (some ⟨w.heap.size, 0, none⟩) n n)) w') :
  wpList P ops Q (o :: rest) a w := by
 obtain ⟨i, hi, hz, hsz, hbt'⟩ := info_parts hinfo
 have hlen' : bytes * n ≤ 281474976710656 := Nat.le_trans (Nat.mul_le_mul hby hn) (by decide)
 refine wpList_plain hg fun K hK' => ?_
 have hb48 : (i.bytes : Int) * (n : Int) ≤ 281474976710656 := by
  have h : ((bytes * n : Nat) : Int) ≤ 281474976710656 := by omega
  rw [hbt']
  rwa [Int.natCast_mul] at h
 have hr := run_make (P := P) w t e i (.bool false) ht hi hz .i64 .i64 (n : Int) (n : Int) (by omega) (Int.le_refl _) hb48 (by omega)
 simp only [Int.toNat_natCast] at hr
 unfold Oper.wp
 simp only [execOp, hop, hl, hc, hr, Result.andThen_ok, Sem.run_bind, Sem.run_pure]
 have hown := World.ownsRow_lit (base := base) (e := e) (size := 1) w (madeCells (Value.bool false).cells (n * i.size)) n hb (by unfold maxLen; omega) (by rw [size_madeCells, hsz])
 refine hK' _ _ (hK _ ⟨by simp, hb, ?_⟩ (World.grownBy_alloc w _ none) (by simp))
 have e1 : (madeCells (Value.bool false).cells (n * i.size)).toList = (List.replicate n false).map Value.bool := by
  have hc0 : (Value.bool false).cells = #[.bool false] := by simp [Value.cells]
  rw [hsz, Nat.mul_one, List.map_replicate, hc0]
  exact toList_madeCells_one (.bool false) n
 rw [← e1]
 exact hown

/-- lists of one length with the same index are the same -/
theorem idxL_inj {s : Int} (hs : 1 ≤ s) : ∀ (n : Nat) {xs ys : List Int}, xs.length = n → ys.length = n → (∀ a ∈ xs, 0 ≤ a ∧ a ≤ s - 1) → (∀ a ∈ ys, 0 ≤ a ∧ a ≤ s - 1) → idxL s 0 xs = idxL s 0 ys → xs = ys
 | 0, xs, ys, hx, hy, _, _, _ => by rw [List.eq_nil_of_length_eq_zero hx, List.eq_nil_of_length_eq_zero hy]
 | n + 1, xs, ys, hx, hy, hxi, hyi, he => by
  have hx1 : n < xs.length := by omega
  have hy1 : n < ys.length := by omega
  have ex := idxL_take (s := s) hx1
  have ey := idxL_take (s := s) hy1
  rw [List.take_of_length_le (by omega)] at ex ey
  rw [ex, ey] at he
  have ax := hxi _ (List.getElem_mem hx1)
  have ay := hyi _ (List.getElem_mem hy1)
  have h1 : (idxL s 0 (xs.take n) * s + xs[n]) % s = xs[n] := by
   rw [Int.add_comm, Int.add_mul_emod_self_right]; exact Int.emod_eq_of_lt ax.1 (by omega)
  have h2 : (idxL s 0 (ys.take n) * s + ys[n]) % s = ys[n] := by
   rw [Int.add_comm, Int.add_mul_emod_self_right]; exact Int.emod_eq_of_lt ay.1 (by omega)
  have hn : xs[n] = ys[n] := by rw [← h1, ← h2, he]
  have hq : idxL s 0 (xs.take n) = idxL s 0 (ys.take n) := by
   have h3 : idxL s 0 (xs.take n) * s = idxL s 0 (ys.take n) * s := by omega
   exact Int.eq_of_mul_eq_mul_right (by omega) h3
  have ih := idxL_inj hs n (xs := xs.take n) (ys := ys.take n) (by rw [List.length_take]; omega) (by rw [List.length_take]; omega) (fun a ha => hxi a (List.mem_of_mem_take ha)) (fun a ha => hyi a (List.mem_of_mem_take ha)) hq
  rw [← List.take_of_length_le (l := xs) (i := n + 1) (by omega), ← List.take_of_length_le (l := ys) (i := n + 1) (by omega), List.take_succ_eq_append_getElem hx1, List.take_succ_eq_append_getElem hy1, ih, hn]
end Go.Proofs.YtajmjfbejfiipaaGreat
namespace Go.Proofs.YtajmjfbejfiipaaGreat
open Go.RowKit Go.Sort
theorem nodup_lt_len : ∀ (N : Nat) (L : List Nat), L.Nodup → (∀ x ∈ L, x < N) → L.length ≤ N
 | 0, L, _, h => by
  cases L with
  | nil => exact Nat.le_refl _
  | cons x r => exact absurd (h x (List.mem_cons_self ..)) (Nat.not_lt_zero _)
 | N + 1, L, hn, h => by
  by_cases hm : N ∈ L
  ·have h1 := nodup_lt_len N (L.erase N) (hn.erase N) fun x hx => by
    have h2 := h x (List.mem_of_mem_erase hx)
    have h3 : x ≠ N := fun e => by subst e; exact hn.not_mem_erase hx
    omega
   have h4 := List.length_erase_of_mem hm
   omega
  ·have := nodup_lt_len N L hn fun x hx => by
    have h2 := h x hx
    have h3 : x ≠ N := fun e => by subst e; exact hm hx
    omega
   omega
/-- a list that rises has nothing twice -/
theorem sortedL_nodup {ts : List (List Int)} (h : sortedL ts) : ts.Nodup := by
 rw [List.Nodup, List.pairwise_iff_getElem]
 intro i j hi hj hij e
 have := sortedL_lt h hj hij
 rw [e] at this
 unfold ltL at this
 rw [cmpL_self] at this
 omega
theorem idx_lt {s : Int} (hs : 1 ≤ s) {xs : List Int} {m : Nat} (hl : xs.length = m) (h : ∀ a ∈ xs, 0 ≤ a ∧ a ≤ s - 1) : 0 ≤ idxL s 0 xs ∧ idxL s 0 xs ≤ s ^ m - 1 := by
 have := idx_bd hs h xs.length (Nat.le_refl _)
 rwa [List.take_length, hl] at this
/-- as many tuples as there can be: all of them -/
theorem full_mem {s : Int} (hs : 1 ≤ s) {m : Nat} {ts : List (List Int)} (hn : ts.Nodup) (hts : ∀ t ∈ ts, t.length = m ∧ ∀ a ∈ t, 0 ≤ a ∧ a ≤ s - 1) (hl : (ts.length : Int) = s ^ m) {t : List Int} (ht : t.length = m) (hti : ∀ a ∈ t, 0 ≤ a ∧ a ≤ s - 1) : t ∈ ts := by
 apply Classical.byContradiction
 intro hno
 have hN : (((t :: ts).map fun x => (idxL s 0 x).toNat)).Nodup := by
  have hn2 : (t :: ts).Nodup := List.nodup_cons.2 ⟨hno, hn⟩
  have hall : ∀ x ∈ t :: ts, x.length = m ∧ ∀ a ∈ x, 0 ≤ a ∧ a ≤ s - 1 := fun x hx => by
   rcases List.mem_cons.1 hx with rfl | hx
   ·exact ⟨ht, hti⟩
   ·exact hts x hx
  rw [List.Nodup, List.pairwise_map]
  refine List.Pairwise.imp_of_mem ?_ hn2
  intro a b ha hb hab e
  obtain ⟨a1, a2⟩ := hall a ha
  obtain ⟨b1, b2⟩ := hall b hb
  have ha3 := idx_lt hs a1 a2
  have hb3 := idx_lt hs b1 b2
  exact hab (idxL_inj hs m a1 b1 a2 b2 (by omega))
 have := nodup_lt_len ts.length _ hN fun x hx => by
  obtain ⟨y, hy, rfl⟩ := List.mem_map.1 hx
  have hall : y.length = m ∧ ∀ a ∈ y, 0 ≤ a ∧ a ≤ s - 1 := by
   rcases List.mem_cons.1 hy with rfl | hy
   ·exact ⟨ht, hti⟩
   ·exact hts y hy
  have h3 := idx_lt hs hall.1 hall.2
  rw [← hl] at h3
  omega
 simp at this
 omega
/-- the tuples of a relation that an index picks -/
def picks (ts : List (List Int)) (ar : Nat) (i : Int) : List (List Int) := (digL ts.length i ar).map fun k => ts.getD k.toNat []
/-- what the operation makes of them -/
def makes (s : Int) (f : Int × List Int) (r : Int × List (List Int)) (i : Int) : List Int := madeL s f.2 (picks r.2 f.1.toNat i) r.1.toNat
def keepsP (s : Int) (f : Int × List Int) (r : Int × List (List Int)) : Prop := ∀ i : Nat, (i : Int) < (r.2.length : Int) ^ f.1.toNat → makes s f r i ∈ r.2
theorem picks_len {ts : List (List Int)} {ar : Nat} {i : Int} : (picks ts ar i).length = ar := by simp [picks, digL_len]
theorem dig_mem {n i : Int} {ar : Nat} (hn : 1 ≤ n) {k : Int} (h : k ∈ digL n i ar) : 0 ≤ k ∧ k < n := by
 obtain ⟨j, _, rfl⟩ := List.mem_map.1 h
 exact dig_nn hn _
theorem picks_ok {s : Int} {f : Int × List Int} {r : Int × List (List Int)} (hr : relOk s r) (hf : opOk s f) (h0 : 0 < r.2.length) (i : Int) : tupsOk s f.1 r.1.toNat (picks r.2 f.1.toNat i) := by
 have ha := hf.2.1
 refine ⟨by rw [picks_len]; omega, fun t ht => ?_⟩
 obtain ⟨k, hk, rfl⟩ := List.mem_map.1 ht
 obtain ⟨k1, k2⟩ := dig_mem (by omega) hk
 have hkl : k.toNat < r.2.length := by omega
 rw [List.getD_eq_getElem?_getD, List.getElem?_eq_getElem hkl]
 obtain ⟨h1, h2⟩ := (hr.2.2 _ hkl).1
 refine ⟨?_, h2⟩
 show (r.2[k.toNat]).length = r.1.toNat
 omega
theorem makes_in {s : Int} {f : Int × List Int} {r : Int × List (List Int)} (hr : relOk s r) (hf : opOk s f) (h0 : 0 < r.2.length) (i : Int) : (makes s f r i).length = r.1.toNat ∧ ∀ a ∈ makes s f r i, 0 ≤ a ∧ a ≤ s - 1 := by
 refine ⟨madeL_len, fun a ha => ?_⟩
 obtain ⟨p, hp, rfl⟩ := List.mem_map.1 ha
 obtain ⟨k, _, hk, he⟩ := madeV_get hf (picks_ok hr hf h0 i) (by simpa using hp)
 show 0 ≤ madeV s f.2 (picks r.2 f.1.toNat i) p ∧ madeV s f.2 (picks r.2 f.1.toNat i) p ≤ s - 1
 rw [he]
 exact hf.2.2.2 _ (List.getElem_mem hk)
/-- a relation with all tuples is kept -/
theorem keeps_full {s : Int} {f : Int × List Int} {r : Int × List (List Int)} (hr : relOk s r) (hf : opOk s f) (hl : (r.2.length : Int) = s ^ r.1.toNat) : keepsP s f r := by
 intro i hi
 have hs := hr.1
 unfold sizeOk at hs
 have h0 : 0 < r.2.length := by
  have : 0 < s ^ r.1.toNat := Int.pow_pos (by omega)
  omega
 obtain ⟨h1, h2⟩ := makes_in hr hf h0 i
 have hso := relOk_sorted hr
 refine full_mem (by omega) (sortedL_nodup hso) (fun t ht => ?_) hl h1 h2
 obtain ⟨k, hk, rfl⟩ := List.mem_iff_getElem.1 ht
 obtain ⟨g1, g2⟩ := (hr.2.2 _ hk).1
 exact ⟨by omega, g2⟩
end Go.Proofs.YtajmjfbejfiipaaGreat
namespace Go.Proofs.YtajmjfbejfiipaaGreat
open Go.RowKit Go.Sort
/-- a set of tuples in new memory: a box whose third cell is a row of truth values -/
def SetAt (e base : Nat) (w : World) (bx g n : Nat) (L : List Bool) : Prop := base ≤ bx ∧ bx < w.heap.size ∧ g ≠ bx ∧ w.cell? ⟨bx, 2, none⟩ = some (.slice (some ⟨g, 0, none⟩) n n) ∧ BR e base w g n n L
theorem SetAt.below {e base bx g n B : Nat} {w w' : World} {L : List Bool} (h : SetAt e base w bx g n L) (hb : Below B w w') (hB : w.heap.size ≤ B) : SetAt e base w' bx g n L :=
 let ⟨h1, h2, h3, h4, h5⟩ := h
 ⟨h1, Nat.lt_of_lt_of_le h2 hb.size, h3, (hb.cell (p := ⟨bx, 2, none⟩) (Nat.lt_of_lt_of_le h2 hB)).trans h4, h5.below hb (Nat.lt_of_lt_of_le h5.lt hB)⟩
theorem infoBool : (Tryz.prog.info? 4).map (fun i => (i.zero, i.size, i.bytes)) = some (some (.bool false), 1, 1) := by kernel_rfl
/-- the indices that have come up among the first k tuples -/
def seenL (s : Int) (N : Nat) (ts : List (List Int)) : List Bool := (List.range N).map fun j : Nat => ts.any fun t => idxL s 0 t == (j : Int)
theorem seenL_len {s : Int} {N : Nat} {ts : List (List Int)} : (seenL s N ts).length = N := by simp [seenL]
theorem seenL_nil {s : Int} {N : Nat} : seenL s N [] = List.replicate N false := by
 apply List.ext_getElem
 ·simp [seenL]
 ·intro i h1 h2; simp [seenL]
theorem seenL_set {s : Int} {N : Nat} {ts : List (List Int)} {k j : Nat} (hk : k < ts.length) (hj : idxL s 0 ts[k] = (j : Int)) (_hjN : j < N) : (seenL s N (ts.take k)).set j true = seenL s N (ts.take (k + 1)) := by
 apply List.ext_getElem
 ·simp [seenL]
 ·intro i h1 h2
  have hi : i < N := by simpa [seenL] using h2
  have htk : ts.take (k + 1) = ts.take k ++ [ts[k]] := List.take_succ_eq_append_getElem hk
  by_cases e : j = i
  ·subst e
   rw [List.getElem_set_self]
   simp only [seenL, List.getElem_map, List.getElem_range, htk, List.any_append, List.any_cons, List.any_nil, hj, beq_self_eq_true, Bool.or_true, Bool.true_or]
  ·rw [List.getElem_set_ne e]
   have : ((j : Int) == (i : Int)) = false := by simp; omega
   simp only [seenL, List.getElem_map, List.getElem_range, htk, List.any_append, List.any_cons, List.any_nil, hj, this, Bool.or_false]
theorem seenL_get {s : Int} (hs : 1 ≤ s) {m N : Nat} {ts : List (List Int)} (hts : ∀ t ∈ ts, t.length = m ∧ ∀ a ∈ t, 0 ≤ a ∧ a ≤ s - 1) {t : List Int} (ht : t.length = m) (hti : ∀ a ∈ t, 0 ≤ a ∧ a ≤ s - 1) {j : Nat} (hj : idxL s 0 t = (j : Int)) (h : j < (seenL s N ts).length) : (seenL s N ts)[j] = tb (t ∈ ts) := by
 rw [Bool.eq_iff_iff, tb_iff]
 simp only [seenL, List.getElem_map, List.getElem_range, List.any_eq_true, beq_iff_eq]
 constructor
 ·rintro ⟨x, hx, he⟩
  obtain ⟨x1, x2⟩ := hts x hx
  have := idxL_inj hs m x1 ht x2 hti (by rw [he, hj])
  rwa [← this]
 ·intro hm
  exact ⟨t, hm, hj⟩
end Go.Proofs.YtajmjfbejfiipaaGreat
namespace Go.Proofs.YtajmjfbejfiipaaGreat
open Go.RowKit Go.Sort
end Go.Proofs.YtajmjfbejfiipaaGreat
namespace Go.Proofs.YtajmjfbejfiipaaGreat
open Go.RowKit Go.Sort
set_option maxHeartbeats 1600000 in
set_option maxRecDepth 100000 in
theorem l01At_any (w : World) {v u : Value} {xs ps : List Int} (h : intsT.Rd w [v] xs) (h' : intsT.Rd w [u] ps) (hin : ∀ p ∈ ps, 0 ≤ p ∧ p < (xs.length : Int)) (hlen : ps.length ≤ 1000000) :
  Calls Tryz.prog 255 #[v, u] w (RetS intsT w (atL xs ps)) := by
 obtain ⟨ad, cap, hv, hl, hc, hcell⟩ := ints_ex h
 obtain rfl : v = _ := by simpa using hv
 obtain ⟨ad', cap', hv', hl', hc', hcell'⟩ := ints_ex h'
 obtain rfl : u = _ := by simpa using hv'
 have HIN := Lib.hid hin
 clear h hv h' hv' hin
 go_enter Tryz.func255, Tryz.ntmps255
 go_wp2_with fail
 go_loopw [6, 5] (fun i o wr => ∃ k : Nat, k ≤ ps.length ∧ i = .int .i64 k ∧ Bl Ty.int 2 w.heap.size wr.heap.size wr o (atL xs (ps.take k)) ∧ Below w.heap.size w wr) (fun i _ _ => ps.length - (intOf i).toNat)
 case atStart => exact ⟨0, Nat.zero_le _, rfl, by simpa [atL] using Bl.lit0 (E := Ty.int) (e := 2) (w := w) (Nat.le_refl _), bA⟩
 case round =>
  obtain ⟨k, hk, rfl, hBl, hbel⟩ := hrel
  have HB := Lib.hid hBl
  clear hBl
  by_cases hkl : k < ps.length
  ·obtain ⟨b', o', rfl, hb', hce'⟩ := hcell' (by omega)
   have hin := HIN.out ps[k] (List.getElem_mem hkl)
   obtain ⟨j, hj⟩ : ∃ j : Nat, ps[k] = j := ⟨ps[k].toNat, by omega⟩
   have hjl : j < xs.length := by omega
   obtain ⟨b, o, rfl, hb, hce⟩ := hcell (by omega)
   have e0 := (hbel.cell hb').trans (hce' k hkl).2
   rw [hj] at e0
   have e1 := (hbel.cell hb).trans (hce j hjl).2
   have hI := (hce j hjl).1
   clear hcell hcell' hce hce' hin
   have hrec := atL_take hkl hj hjl
   have HR := Lib.hid hrec
   clear hrec
   go_wp2_with (refine wpList_push (E := Ty.int) _ rfl _ _ 38 2 rfl elInt rfl (HB.out.below bA (Nat.le_refl _)) rfl news1 (fr_int hI) (by rw [atL_len, take_len hk]; omega) (by decide) hbel.size (by simp) ?_; intro v1 w1 hB1 hg1 _)
   have hbel1 : Below w.heap.size w w1 := (hbel.alloc hbel.size _).grown hg1 (by have := hbel.size; simp; omega) (fun k hk => HB.out.own hk)
   rw [HR.out] at hB1
   have HB1 := Lib.hid hB1
   clear hB1
   go_wp2_with fail
   go_roundw
   case rel => exact ⟨k + 1, by omega, by go_num, HB1.out, hbel1⟩
   case measure => simp [intOf]; omega
  ·obtain rfl : k = ps.length := by omega
   go_wp2_with fail
   go_ret
   rw [List.take_length] at HB
   exact ⟨_, rfl, HB.out.fr (by rw [atL_len]; unfold capMax; omega), hbel⟩
/-- the relation with a number; a constraint holds for values -/
def relAt (t : Int × List (Int × List (List Int))) (k : Int) : Int × List (List Int) := t.2.getD k.toNat (0, [])
def holdsC (t : Int × List (Int × List (List Int))) (vals : List Int) (c : Int × List Int) : Prop := atL vals c.2 ∈ (relAt t c.1).2
theorem relAt_nat {t : Int × List (Int × List (List Int))} {k : Nat} (h : k < t.2.length) : relAt t (k : Int) = t.2[k] := by simp [relAt, h]
end Go.Proofs.YtajmjfbejfiipaaGreat
namespace Go.Proofs.YtajmjfbejfiipaaGreat
open Go.RowKit

/-- all blocks but some are as before -/
structure TchF (fp : List Nat) (w w' : World) : Prop where
 os : w'.os = w.os
 tape : w'.tape = w.tape
 output : w'.output = w.output
 size : w.heap.size ≤ w'.heap.size
 block : ∀ k, k < w.heap.size → k ∉ fp → w'.heap[k]? = w.heap[k]?
theorem TchF.refl (fp : List Nat) (w : World) : TchF fp w w := ⟨rfl, rfl, rfl, Nat.le_refl _, fun _ _ _ => rfl⟩
theorem TchF.trans {fp : List Nat} {w w' w'' : World} (h : TchF fp w w') (k : TchF fp w' w'') : TchF fp w w'' :=
 ⟨k.os.trans h.os, k.tape.trans h.tape, k.output.trans h.output, Nat.le_trans h.size k.size, fun i hi hb => (k.block i (Nat.lt_of_lt_of_le hi h.size) hb).trans (h.block i hi hb)⟩
theorem TchF.mono {fp fp' : List Nat} {w w' : World} (h : TchF fp w w') (hs : ∀ k ∈ fp, k ∈ fp') : TchF fp' w w' := ⟨h.os, h.tape, h.output, h.size, fun k hk hn => h.block k hk fun hm => hn (hs k hm)⟩
theorem Below.tchF {w w' : World} (h : Below w.heap.size w w') (fp : List Nat) : TchF fp w w' := ⟨h.os, h.tape, h.output, h.size, fun k hk _ => h.block k hk⟩
theorem TchF.setCell {fp : List Nat} {b : Nat} (hb : b ∈ fp) (o : Nat) (w : World) (u : Value) : TchF fp w (w.setCell ⟨b, o, none⟩ u) :=
 ⟨rfl, rfl, rfl, by simp [World.setCell], fun k _ hk => Below.heap_setCell _ _ _ _ (fun e => hk (by rw [e]; exact hb))⟩
theorem TchF.same {fp g : List Nat} {w w' : World} (h : TchF fp w w') (hg : ∀ k ∈ g, k < w.heap.size ∧ k ∉ fp) : Same g w w' := fun k hk => h.block k (hg k hk).1 (hg k hk).2
theorem TchF.cell {fp : List Nat} {w w' : World} (h : TchF fp w w') {b o : Nat} (hb : b < w.heap.size) (hn : b ∉ fp) : w'.cell? ⟨b, o, none⟩ = w.cell? ⟨b, o, none⟩ := World.cell?_of_block (w := w) (h.block b hb hn)
theorem TchF.frozen {fp : List Nat} {w w' : World} (h : TchF fp w w') {b o : Nat} (hb : b < w.heap.size) (hn : b ∉ fp) : w'.frozen? ⟨b, o, none⟩ = w.frozen? ⟨b, o, none⟩ := World.frozen?_of_block (w := w) (h.block b hb hn)

section
variable {α : Type} {f : Int → α → α} {c : α → Int} {k : Int} {xs : List α} {i : Nat}
end
def cntI (xs : List Int) : Int := xs.length
def cntOp1 (x : Int × List Int) : Int := 1 + cntI x.2
def cntOps (xs : List (Int × List Int)) : Int := sumL cntOp1 xs
theorem rowRd.put {α : Type} {E : Ty α} {w w' : World} {b o : Nat} {xs : List α} {fps : Nat → List Nat} {i : Nat} {y : α} (h : rowRd E w b o xs fps) (_hi : i < xs.length)
  (hother : ∀ j, j < xs.length → j ≠ i → Same (fps j) w w' ∧ ∀ q, q < E.sz → w'.cell? ⟨b, o + j * E.sz + q, none⟩ = w.cell? ⟨b, o + j * E.sz + q, none⟩)
  (hthis : ∃ cs, E.rd w' cs y (fps i) ∧ ∀ j (hj : j < cs.length), w'.cell? ⟨b, o + i * E.sz + j, none⟩ = some cs[j]) : rowRd E w' b o (xs.set i y) fps := by
 intro j hj
 by_cases e : i = j
 ·subst e
  simpa using hthis
 ·have hj' : j < xs.length := by simpa using hj
  obtain ⟨cs, h1, h2⟩ := h j hj'
  obtain ⟨h3, h4⟩ := hother j hj' (fun e' => e e'.symm)
  refine ⟨cs, by rw [List.getElem_set_ne e]; exact E.same h1 h3, fun q hq => ?_⟩
  rw [h4 q (by rw [← E.len h1]; exact hq)]
  exact h2 q hq

theorem rd_pair {α : Type} {E : Ty α} {w : World} {cs : List Value} {x : Int × List α} {fp : List Nat} (h : (Ty.cons (Ty.slice E)).rd w cs x fp) :
  ∃ u, cs = [.int .i64 x.1, u] ∧ (Ty.slice E).rd w [u] x.2 fp ∧ ∀ w' y, (Ty.slice E).rd w' [u] y fp → (Ty.cons (Ty.slice E)).rd w' [.int .i64 x.1, u] (x.1, y) fp := by
 obtain ⟨cs', rfl, hI, h1⟩ := h
 obtain ⟨_, _, rfl, _⟩ := id h1
 exact ⟨_, rfl, h1, fun w' y hy => ⟨_, rfl, hI, hy⟩⟩
theorem rd_trip {α : Type} {E : Ty α} {w : World} {cs : List Value} {x : Int × Int × List α} {fp : List Nat} (h : (Ty.cons (Ty.cons (Ty.slice E))).rd w cs x fp) :
  ∃ u, cs = [.int .i64 x.1, .int .i64 x.2.1, u] ∧ (Ty.slice E).rd w [u] x.2.2 fp ∧ ∀ w' y, (Ty.slice E).rd w' [u] y fp → (Ty.cons (Ty.cons (Ty.slice E))).rd w' [.int .i64 x.1, .int .i64 x.2.1, u] (x.1, x.2.1, y) fp := by
 obtain ⟨cs', rfl, hI, h1⟩ := h
 obtain ⟨u, rfl, h2, h3⟩ := rd_pair h1
 exact ⟨u, rfl, h2, fun w' y hy => ⟨_, rfl, hI, h3 _ _ hy⟩⟩

/-! memory between two numbers -/
/-- reads so in blocks from lo up to hi, each once, none frozen -/
def Ty.Fx {α : Type} (E : Ty α) (lo hi : Nat) (w : World) (cs : List Value) (x : α) : Prop := ∃ fp, E.rd w cs x fp ∧ fp.Nodup ∧ (∀ b ∈ fp, lo ≤ b ∧ b < hi) ∧ Unf w fp
theorem Ty.Fx.rd {α : Type} {E : Ty α} {lo hi : Nat} {w : World} {cs : List Value} {x : α} (h : E.Fx lo hi w cs x) : E.Rd w cs x := let ⟨fp, h, _⟩ := h; ⟨fp, h⟩
theorem Ty.Fr.fx {α : Type} {E : Ty α} {lo : Nat} {w : World} {cs : List Value} {x : α} (h : E.Fr lo w cs x) : E.Fx lo w.heap.size w cs x :=
 let ⟨fp, h1, h2, h3, h4⟩ := h; ⟨fp, h1, h2, fun b hb => ⟨h3 b hb, E.lt h1 b hb⟩, h4⟩
theorem Ty.Fx.below {α : Type} {E : Ty α} {lo hi : Nat} {w w' : World} {cs : List Value} {x : α} (h : E.Fx lo hi w cs x) (hb : Below w.heap.size w w') : E.Fx lo hi w' cs x :=
 let ⟨fp, h1, h2, h3, h4⟩ := h
 have hs : Same fp w w' := Same.below hb (E.lt h1)
 ⟨fp, E.same h1 hs, h2, h3, h4.same hs⟩
/-- all old blocks but those from lo up to hi are as before -/
structure Tch (lo hi : Nat) (w w' : World) : Prop where
 os : w'.os = w.os
 tape : w'.tape = w.tape
 output : w'.output = w.output
 size : w.heap.size ≤ w'.heap.size
 block : ∀ k, k < w.heap.size → (k < lo ∨ hi ≤ k) → w'.heap[k]? = w.heap[k]?
theorem TchF.tch {fp : List Nat} {lo hi : Nat} {w w' : World} (h : TchF fp w w') (hf : ∀ b ∈ fp, lo ≤ b ∧ b < hi) : Tch lo hi w w' :=
 ⟨h.os, h.tape, h.output, h.size, fun k hk hn => h.block k hk fun hm => by have := hf k hm; omega⟩
theorem Tch.cell {lo hi : Nat} {w w' : World} (h : Tch lo hi w w') {b o : Nat} (hb : b < w.heap.size) (hn : b < lo ∨ hi ≤ b) : w'.cell? ⟨b, o, none⟩ = w.cell? ⟨b, o, none⟩ := World.cell?_of_block (w := w) (h.block b hb hn)
theorem Ty.Fx.tch {α : Type} {E : Ty α} {lo hi lo' hi' : Nat} {w w' : World} {cs : List Value} {x : α} (h : E.Fx lo hi w cs x) (ht : Tch lo' hi' w w') (hd : hi ≤ lo' ∨ hi' ≤ lo) : E.Fx lo hi w' cs x :=
 let ⟨fp, h1, h2, h3, h4⟩ := h
 have hs : Same fp w w' := fun k hk => ht.block k (E.lt h1 k hk) (by have := h3 k hk; omega)
 ⟨fp, E.same h1 hs, h2, h3, h4.same hs⟩
/-- an append at a step of a region that draws its order -/
theorem step_push {P : Program} {K : Act → World → Prop} {Ee : Prop} {α : Type} {E : Ty α} (w : World) {ops : Array Oper} {o : Oper} {a : Act} {Q : Exit → Act → World → Prop} (hgd : o.guard = none) (s x : Operand) (t e : TypeId) {bytes : Nat}
  (ho : o.op = .call { callee := .builtin .append, args := #[s, x], argTypes := #[t, t] }) (hT : ElT P t e E.sz bytes)
  {base top : Nat} {v : Value} {ys : List α} (hs : a.eval s = v) (hB : Bl E e base top w v ys)
  {ad : Addr} {c : Nat} {cs : List Value} {y : α} (hx : a.eval x = .slice (some ad) 1 c) (hnews : ∀ j u, cs[j]? = some u → w.cell? (ad.add j) = some u) (hy : E.Fr top w cs y)
  (hlen : ys.length ≤ 1000000000) (hby : bytes ≤ 100000) (hbt : base ≤ top) (htop : top ≤ w.heap.size)
  (h : ∀ v' w', Bl E e base w'.heap.size w' v' (ys ++ [y]) → w.grownBy w' v.ownBlock → (v'.ownBlock = v.ownBlock ∨ v'.ownBlock = some w.heap.size) → K (a.put o.dst v') w') : if Region.wanted o (yielded ops a.tmps) = true then Oper.wp P o a w K Q else Ee := by
 rw [if_pos (by simp [Region.wanted, hgd])]
 obtain ⟨L, fps, g1, g2, g3, g4, g5, g6⟩ := hB
 obtain ⟨fp, k1, k2, k3, k4⟩ := hy
 obtain ⟨i, z, ht, hi, hz, hsz, hbt', hzs, hp⟩ := id hT
 have hcl := E.len k1
 have hlen' : (ys.length + 1) * bytes ≤ 140737488355328 := Nat.le_trans (Nat.mul_le_mul (show ys.length + 1 ≤ 1000000001 by omega) hby) (by decide)
 have hbase : base ≤ w.heap.size := Nat.le_trans hbt htop
 obtain ⟨v', w', hr, h2, h3, h4⟩ := run_append_own (P := P) w base t o.type e i z E.sz bytes ht hi hz hsz hbt' hzs hp v ys.length L g1 ad 1 c cs (by omega) hnews (E.one k1) (by unfold maxLen; omega) hlen' hbase
 have hblk := run_push_block w base t o.type e hT v ys.length L g1 ad 1 c cs (by omega) hnews (E.one k1) (by unfold maxLen; omega) hlen' (by omega) v' w' hr
 have hS : ∀ k, v.ownBlock ≠ some k → k < w.heap.size → w'.heap[k]? = w.heap[k]? := fun k hk hlt => h3.block k hlt (fun he => hk he.symm)
 have hlt1 : ∀ b ∈ flat fps ys.length, b < w.heap.size := fun b hb => Nat.lt_of_lt_of_le (g4 b hb).2.1 htop
 have hlt2 : ∀ b ∈ fp, b < w.heap.size := E.lt k1
 have hS1 : Same (flat fps ys.length) w w' := fun k hk => hS k (g4 k hk).2.2 (hlt1 k hk)
 have hne : ∀ b ∈ fp, v.ownBlock ≠ some b := fun b hb he => by have := g5 b he; have := k3 b hb; omega
 have hS2 : Same fp w w' := fun k hk => hS k (hne k hk) (hlt2 k hk)
 have hBl : Bl E e base w'.heap.size w' v' (ys ++ [y]) := by
  refine ⟨L ++ cs, fun i => if i = ys.length then fp else fps i, by simpa using h2, el_add (fun i hi => ?_) g1.1 (E.same k1 hS2), ?_, ?_, ?_, ?_⟩
  ·obtain ⟨cs', h7, h8⟩ := g2 i hi
   exact ⟨cs', E.same h7 (fun k hk => hS1 k (List.mem_flatMap.2 ⟨i, by simpa using hi, hk⟩)), h8⟩
  ·rw [List.length_append, List.length_singleton, flat_add]
   exact List.nodup_append.2 ⟨g3, k2, fun a ha b hb he => by subst he; have := (g4 a ha).2.1; have := k3 a hb; omega⟩
  ·rw [List.length_append, List.length_singleton, flat_add]
   intro b hb
   have hsz' := h3.size
   rcases List.mem_append.1 hb with hb | hb
   ·refine ⟨(g4 b hb).1, by have := hlt1 b hb; omega, ?_⟩
    rcases hblk with e1 | e1 <;> rw [e1]
    ·exact (g4 b hb).2.2
    ·intro he; have := hlt1 b hb; simp at he; omega
   ·refine ⟨by have := k3 b hb; omega, by have := hlt2 b hb; omega, ?_⟩
    rcases hblk with e1 | e1 <;> rw [e1]
    ·exact hne b hb
    ·intro he; have := hlt2 b hb; simp at he; omega
  ·intro g hg
   exact (h2.lt g hg).2
  ·rw [List.length_append, List.length_singleton, flat_add]
   intro b hb
   rcases List.mem_append.1 hb with hb | hb
   ·exact g6.same hS1 b hb
   ·exact k4.same hS2 b hb
 unfold Oper.wp execOp
 simp only [ho, resolve, invoke, builtin, Sem.run_bind, Sem.run_pure, Result.andThen_ok, List.map_toArray, List.map_cons, List.map_nil, hs, hx, hr]
 exact h v' w' hBl h3 hblk
end Go.Proofs.YtajmjfbejfiipaaGreat
namespace Go.Proofs.YtajmjfbejfiipaaGreat
open Go.RowKit Go.Sort

/-- a struct in new memory, and a code -/
def RetAC {α : Type} (E : Ty α) (w : World) (x : α) (c : Int) (e : Ending) (w' : World) : Prop := ∃ cs : List Value, e = .returned (.tuple #[.agg cs.toArray, .int .i64 c]) ∧ E.Fr w.heap.size w' cs x ∧ Below w.heap.size w w'
def frm0 : Int × Int × List (Int × List Int) := (0, 0, [])
theorem fr_frm0 {base : Nat} {w : World} : frmT.Fr base w [.int .i64 0, .int .i64 0, .slice none 0 0] frm0 := fr_cons (I64.small (by omega) (by omega)) (fr_cons (I64.small (by omega) (by omega)) fr_nil)
def upL (from0 : Int) (n : Nat) : List Int := (List.range n).map fun i : Nat => from0 + (i : Int)
theorem upL_len {a : Int} {n : Nat} : (upL a n).length = n := by simp [upL]
theorem upL_succ (a : Int) (n : Nat) : upL a n ++ [a + (n : Int)] = upL a (n + 1) := by simp [upL, List.range_succ]
set_option maxHeartbeats 1600000 in
set_option maxRecDepth 100000 in
theorem upTo_any (w : World) (from0 many : Int) (h0 : 0 ≤ from0) (h1 : from0 ≤ 1000000) (h2 : many ≤ 1000000) :
  Calls Tryz.prog 111 #[.int .i64 from0, .int .i64 many] w (RetS intsT w (upL from0 many.toNat)) := by
 go_enter Tryz.func111, Tryz.ntmps111
 go_wp2_with fail
 go_loopw [9, 5] (fun i o wr => ∃ k : Nat, k ≤ many.toNat ∧ i = .int .i64 k ∧ Bl Ty.int 2 w.heap.size wr.heap.size wr o (upL from0 k) ∧ Below w.heap.size w wr) (fun i _ _ => many.toNat - (intOf i).toNat)
 case atStart => exact ⟨0, Nat.zero_le _, rfl, by simpa [upL] using Bl.lit0 (E := Ty.int) (e := 2) (w := w) (Nat.le_refl _), bA⟩
 case round =>
  obtain ⟨k, hk, rfl, hBl, hbel⟩ := hrel
  have HB := Lib.hid hBl
  clear hBl
  by_cases hkl : (k : Int) < many
  ·have hI : I64 (from0 + (k : Int)) := I64.small (by omega) (by omega)
   go_wp2_with (refine wpList_push (E := Ty.int) _ rfl _ _ 38 2 rfl elInt rfl (HB.out.below bA (Nat.le_refl _)) rfl news1 (fr_int hI) (by rw [upL_len]; omega) (by decide) hbel.size (by simp) ?_; intro v1 w1 hB1 hg1 _)
   have hbel1 : Below w.heap.size w w1 := (hbel.alloc hbel.size _).grown hg1 (by have := hbel.size; simp; omega) (fun k hk => HB.out.own hk)
   rw [upL_succ] at hB1
   have HB1 := Lib.hid hB1
   clear hB1
   go_wp2_with fail
   go_roundw
   case rel => exact ⟨k + 1, by omega, by go_num, HB1.out, hbel1⟩
   case measure => simp [intOf]; omega
  ·obtain rfl : k = many.toNat := by omega
   go_wp2_with fail
   go_ret
   exact ⟨_, rfl, HB.out.fr (by rw [upL_len]; unfold capMax; omega), hbel⟩
/-- a slice of one pair, just made -/
theorem fr_one {α : Type} {E : Ty α} {base : Nat} {w : World} {n : Int} {u : Value} {x : List α} {T : TypeId} {g : Nat} (hI : I64 n) (h : (Ty.slice E).Fr base w [u] x) (hg : w.heap.size = g) (hb : base ≤ g) :
  (Ty.slice (Ty.cons (Ty.slice E))).Fr base (w.alloc (.cells #[.int .i64 n, u] T)) [.slice (some ⟨g, 0, none⟩) 1 1] [(n, x)] := by
 subst hg
 obtain ⟨fp, h1, h2, h3, h4⟩ := h
 have hs : Same fp w (w.alloc (.cells #[.int .i64 n, u] T)) := Same.below bA ((Ty.slice E).lt h1)
 have hlt := (Ty.slice E).lt h1
 refine ⟨w.heap.size :: fp, ⟨some ⟨w.heap.size, 0, none⟩, 1, rfl, Nat.le_refl _, by simp [capMax], .inr ⟨by simp, w.heap.size, 0, fun _ => fp, rfl, by simp, by simp, fun i hi => ?_⟩⟩, ?_, ?_, ?_⟩
 ·obtain rfl : i = 0 := by simpa using hi
  refine ⟨[.int .i64 n, u], ⟨[u], rfl, hI, (Ty.slice E).same h1 hs⟩, fun j hj => ?_⟩
  rcases (show j = 0 ∨ j = 1 by simp at hj; omega) with rfl | rfl <;> simp
 ·exact List.nodup_cons.2 ⟨fun hm => by have := hlt _ hm; omega, h2⟩
 ·intro b hb'
  rcases List.mem_cons.1 hb' with rfl | hb'
  ·exact hb
  ·exact h3 b hb'
 ·intro b hb' o
  rcases List.mem_cons.1 hb' with rfl | hb'
  ·unfold World.frozen?; rw [heap_alloc_new]; simp
  ·exact h4.same hs b hb' o
/-- a result of three cells, stored -/
abbrev set3 (w : World) (b : Nat) (x y z : Value) : World := ((w.setCell ⟨b, 0, none⟩ x).setCell ⟨b, 1, none⟩ y).setCell ⟨b, 2, none⟩ z
theorem set3_cells {w : World} {b : Nat} {x y z x' y' z' : Value} (h0 : w.cell? ⟨b, 0, none⟩ = some x') (h1 : w.cell? ⟨b, 1, none⟩ = some y') (h2 : w.cell? ⟨b, 2, none⟩ = some z') :
  (set3 w b x y z).cell? ⟨b, 0, none⟩ = some x ∧ (set3 w b x y z).cell? ⟨b, 1, none⟩ = some y ∧ (set3 w b x y z).cell? ⟨b, 2, none⟩ = some z := by
 have e1 : (w.setCell ⟨b, 0, none⟩ x).cell? ⟨b, 1, none⟩ = some y' := (World.cell?_setCell_other _ _ _ _ (by simp)).trans h1
 have e2 : ((w.setCell ⟨b, 0, none⟩ x).setCell ⟨b, 1, none⟩ y).cell? ⟨b, 2, none⟩ = some z' := (World.cell?_setCell_other _ _ _ _ (by simp)).trans ((World.cell?_setCell_other _ _ _ _ (by simp)).trans h2)
 exact ⟨(World.cell?_setCell_other _ _ _ _ (by simp)).trans ((World.cell?_setCell_other _ _ _ _ (by simp)).trans (World.cell?_setCell_same _ _ _ h0)), (World.cell?_setCell_other _ _ _ _ (by simp)).trans (World.cell?_setCell_same _ _ _ e1), World.cell?_setCell_same _ _ _ e2⟩
theorem set3_alloc {w : World} {b : Nat} {x y z x' y' z' : Value} {o : Obj} (h0 : w.cell? ⟨b, 0, none⟩ = some x') (h1 : w.cell? ⟨b, 1, none⟩ = some y') (h2 : w.cell? ⟨b, 2, none⟩ = some z') :
  ((set3 w b x y z).alloc o).cell? ⟨b, 0, none⟩ = some x ∧ ((set3 w b x y z).alloc o).cell? ⟨b, 1, none⟩ = some y ∧ ((set3 w b x y z).alloc o).cell? ⟨b, 2, none⟩ = some z := by
 obtain ⟨g0, g1, g2⟩ := set3_cells (x := x) (y := y) (z := z) h0 h1 h2
 have hb := cell_lt g0
 exact ⟨(World.cell?_alloc_lt _ _ _ hb).trans g0, (World.cell?_alloc_lt _ _ _ hb).trans g1, (World.cell?_alloc_lt _ _ _ hb).trans g2⟩
theorem Ty.Fr.set3 {α : Type} {E : Ty α} {base : Nat} {w : World} {cs : List Value} {v : α} {b : Nat} {x y z : Value} (h : E.Fr base w cs v) (hb : b < base) : E.Fr base (set3 w b x y z) cs v := ((h.set hb).set hb).set hb
theorem set3_size {w : World} {b : Nat} {x y z : Value} : (set3 w b x y z).heap.size = w.heap.size := by simp [World.setCell]
theorem set3_below {B : Nat} {a w : World} {b : Nat} {x y z : Value} (h : Below B a w) (hb : B ≤ b) : Below B a (set3 w b x y z) := ((h.setCell hb _).setCell hb _).setCell hb _

noncomputable def atomV (t : Int × List (Int × List (List Int))) (rel : Int) : Int × Int × List (Int × List Int) :=
 match tb (tplOk t) && inB rel 0 ((t.2.length : Int) - 1) with
 | true => (arOf t rel, arOf t rel, [(rel, upL 0 (arOf t rel).toNat)])
 | false => frm0
noncomputable def atomC (t : Int × List (Int × List (List Int))) (rel : Int) : Int :=
 match tb (tplOk t), inB rel 0 ((t.2.length : Int) - 1) with
 | false, _ => 1
 | true, false => 2
 | true, true => 0
section
variable {t : Int × List (Int × List (List Int))} {rel : Int}
theorem atom_1 (h : tb (tplOk t) = false) : atomV t rel = frm0 ∧ atomC t rel = 1 := by simp [atomV, atomC, h]
theorem atom_2 (h : tb (tplOk t) = true) (h2 : inB rel 0 ((t.2.length : Int) - 1) = false) : atomV t rel = frm0 ∧ atomC t rel = 2 := by simp [atomV, atomC, h, h2]
theorem atom_0 (h : tb (tplOk t) = true) (h2 : inB rel 0 ((t.2.length : Int) - 1) = true) : atomV t rel = (arOf t rel, arOf t rel, [(rel, upL 0 (arOf t rel).toNat)]) ∧ atomC t rel = 0 := by simp [atomV, atomC, h, h2]
theorem arOf_bd (h : tplOk t) (h2 : inB rel 0 ((t.2.length : Int) - 1) = true) : 0 ≤ arOf t rel ∧ arOf t rel ≤ 4 := by
 have h3 := inB_true.1 h2
 obtain ⟨k, rfl⟩ : ∃ k : Nat, rel = k := ⟨rel.toNat, by omega⟩
 have hk : k < t.2.length := by omega
 rw [arOf_nat hk]
 have := (h.2.2 _ (List.getElem_mem hk)).2.1
 unfold sizeOk at this
 omega
end
set_option maxHeartbeats 1600000 in
set_option maxRecDepth 100000 in
theorem AtomFormula_any (w : World) {cs : Array Value} {t : Int × List (Int × List (List Int))} (h : tplT.Rd w cs.toList t) {rel : Int} :
  Calls Tryz.prog 35 #[.agg cs, .int .i64 rel] w (RetAC frmT w (atomV t rel) (atomC t rel)) := by
 have ht := h
 obtain ⟨v, hv, hI, hx⟩ := pair_ex h
 obtain rfl := agg_of hv
 clear h hv
 obtain ⟨_, _, -, -, hle2, -⟩ := Ty.slice_ex hx
 obtain ⟨ad, cap, rfl⟩ := rd_slice hx
 cases hT : tb (tplOk t)
 ·have HR := Lib.hid (atom_1 (rel := rel) hT)
  go_enter Tryz.func35, Tryz.ntmps35
  go_wp2_with fail
  refine (ValidTemplate_any _ (ht.below (by repeat (first | exact Below.refl _ _ | exact bA | assumption | refine Below.setCell ?_ (by first | omega | (simp; try omega)) _ | refine Below.alloc ?_ (by first | omega | (simp; try omega)) _ | refine Below.drew ?_ | refine bDN ?_ | refine bthen ?_ (by assumption))))).mono ?_
  rintro e w1 ⟨rfl, hb1⟩
  rw [hT]
  obtain ⟨q1, q2⟩ := bcell hb1
  have hz1 : w.heap.size + 2 ≤ w1.heap.size := by have := hb1.size; simp at this; omega
  go_wp2_with fail
  refine bodyPost_ret (v := .tuple #[.agg #[.int .i64 0, .int .i64 0, .slice none 0 0], .int .i64 1]) (by simp [results, Tryz.results35, go_sem, q1]) rfl ⟨[.int .i64 0, .int .i64 0, .slice none 0 0], by rw [HR.out.2], by rw [HR.out.1]; exact fr_frm0, (by repeat (first | exact Below.refl _ _ | exact bA | assumption | refine Below.setCell ?_ (by first | omega | (simp; try omega)) _ | refine Below.alloc ?_ (by first | omega | (simp; try omega)) _ | refine Below.drew ?_ | refine bDN ?_ | refine bthen ?_ (by assumption)))⟩
 cases hA : inB rel 0 ((t.2.length : Int) - 1)
 ·have HR := Lib.hid (atom_2 hT hA)
  go_enter Tryz.func35, Tryz.ntmps35
  go_wp2_with fail
  refine (ValidTemplate_any _ (ht.below (by repeat (first | exact Below.refl _ _ | exact bA | assumption | refine Below.setCell ?_ (by first | omega | (simp; try omega)) _ | refine Below.alloc ?_ (by first | omega | (simp; try omega)) _ | refine Below.drew ?_ | refine bDN ?_ | refine bthen ?_ (by assumption))))).mono ?_
  rintro e w1 ⟨rfl, hb1⟩
  rw [hT]
  obtain ⟨q1, q2⟩ := bcell hb1
  have hz1 : w.heap.size + 2 ≤ w1.heap.size := by have := hb1.size; simp at this; omega
  go_wp2_with fail
  refine (within_any _ _ _ _).mono ?_
  rintro e _ ⟨rfl, rfl⟩
  rw [hA]
  go_wp2_with fail
  refine bodyPost_ret (v := .tuple #[.agg #[.int .i64 0, .int .i64 0, .slice none 0 0], .int .i64 2]) (by simp [results, Tryz.results35, go_sem, q1]) rfl ⟨[.int .i64 0, .int .i64 0, .slice none 0 0], by rw [HR.out.2], by rw [HR.out.1]; exact fr_frm0, (by repeat (first | exact Below.refl _ _ | exact bA | assumption | refine Below.setCell ?_ (by first | omega | (simp; try omega)) _ | refine Below.alloc ?_ (by first | omega | (simp; try omega)) _ | refine Below.drew ?_ | refine bDN ?_ | refine bthen ?_ (by assumption)))⟩
 have HR := Lib.hid (atom_0 hT hA)
 have har := arOf_bd (tb_iff.1 hT) hA
 have hA2 := inB_true.1 hA
 obtain ⟨k, rfl⟩ : ∃ k : Nat, rel = k := ⟨rel.toNat, by omega⟩
 have hkl : k < t.2.length := by omega
 have hak := arOf_nat hkl
 obtain ⟨a, q, rfl, hp⟩ := rd_elem hx hkl
 have hp' : relT.Pt w (.pointer (some ⟨a, q + k * 2, none⟩)) t.2[k] := hp
 obtain ⟨b1, o1, _, _, hbo, hb1, hI1, f0, -, -⟩ := pt_pair hp'
 simp only [Value.pointer.injEq, Option.some.injEq, Addr.mk.injEq, and_true] at hbo
 obtain ⟨rfl, rfl⟩ := hbo
 rw [← hak] at f0 hI1
 have HK := Lib.hid hak
 clear hak hp hp'
 go_enter Tryz.func35, Tryz.ntmps35
 go_wp2_with fail
 refine (ValidTemplate_any _ (ht.below (by repeat (first | exact Below.refl _ _ | exact bA | assumption | refine Below.setCell ?_ (by first | omega | (simp; try omega)) _ | refine Below.alloc ?_ (by first | omega | (simp; try omega)) _ | refine Below.drew ?_ | refine bDN ?_ | refine bthen ?_ (by assumption))))).mono ?_
 rintro e w1 ⟨rfl, hv1⟩
 rw [hT]
 obtain ⟨q1, q2⟩ := bcell hv1
 have hz1 : w.heap.size + 2 ≤ w1.heap.size := by have := hv1.size; simp at this; omega
 have hB1 : Below w.heap.size w w1 := bthen (by repeat (first | exact Below.refl _ _ | exact bA | assumption | refine Below.setCell ?_ (by first | omega | (simp; try omega)) _ | refine Below.alloc ?_ (by first | omega | (simp; try omega)) _ | refine Below.drew ?_ | refine bDN ?_ | refine bthen ?_ (by assumption))) hv1
 have d0 := (hB1.cell hb1).trans f0
 have hb1' : a < w1.heap.size := by omega
 go_wp2_with fail
 refine (within_any _ _ _ _).mono ?_
 rintro e _ ⟨rfl, rfl⟩
 rw [hA]
 go_wp2_with fail
 refine (upTo_any _ _ _ (by omega) (by omega) (by omega)).mono ?_
 rintro e w2 ⟨u, rfl, hf, hv2⟩
 obtain ⟨ad2, cap2, rfl⟩ := fr_slice hf
 obtain ⟨q3, q4⟩ := bcell hv2
 have hz2 : w1.heap.size ≤ w2.heap.size := hv2.size
 have r0 : w2.cell? ⟨w.heap.size + 1, 0, none⟩ = some (.int .i64 0) := by rw [q3 _ _ (by omega), q1 _ _ (by simp)]; simp
 have r1 : w2.cell? ⟨w.heap.size + 1, 1, none⟩ = some (.int .i64 0) := by rw [q3 _ _ (by omega), q1 _ _ (by simp)]; simp
 have r2 : w2.cell? ⟨w.heap.size + 1, 2, none⟩ = some (.slice none 0 0) := by rw [q3 _ _ (by omega), q1 _ _ (by simp)]; simp
 have m0 : w2.frozen? ⟨w.heap.size + 1, 0, none⟩ = false := by rw [q4 _ _ (by omega), q2 _ _ (by simp)]; simp
 have m1 : w2.frozen? ⟨w.heap.size + 1, 1, none⟩ = false := by rw [q4 _ _ (by omega), q2 _ _ (by simp)]; simp
 have m2 : w2.frozen? ⟨w.heap.size + 1, 2, none⟩ = false := by rw [q4 _ _ (by omega), q2 _ _ (by simp)]; simp
 have hz3 : w.heap.size + 1 < w2.heap.size := by omega
 go_wp2_with fail
 obtain ⟨s0, s1, s2⟩ := set3_alloc (x := .int .i64 (arOf t k)) (y := .int .i64 (arOf t k)) (z := .slice (some ⟨w2.heap.size, 0, none⟩) 1 1) (o := .cells #[.int .i64 k, .slice ad2 (upL 0 (arOf t k).toNat).length cap2] 69) r0 r1 r2
 refine bodyPost_ret (v := .tuple #[.agg #[.int .i64 (arOf t k), .int .i64 (arOf t k), .slice (some ⟨w2.heap.size, 0, none⟩) 1 1], .int .i64 0]) (by simp [results, Tryz.results35, go_sem, s0, s1, s2]) rfl ⟨[.int .i64 (arOf t k), .int .i64 (arOf t k), .slice (some ⟨w2.heap.size, 0, none⟩) 1 1], by rw [HR.out.2], ?_, ?_⟩
 ·rw [HR.out.1]
  exact (fr_cons hI1 (fr_cons hI1 (fr_one (T := 69) (I64.small (by omega) (by omega)) (hf.set3 (by omega)) set3_size (by omega)))).mono (by omega)
 ·exact (set3_below (bthen hB1 hv2) (by omega)).alloc (by rw [set3_size]; omega) _
end Go.Proofs.YtajmjfbejfiipaaGreat
namespace Go.Proofs.YtajmjfbejfiipaaGreat
open Go.RowKit Go.Sort
theorem news2 {w : World} {u u' : Value} {T : TypeId} : ∀ j x, [u, u'][j]? = some x → (w.alloc (.cells #[u, u'] T)).cell? ((⟨w.heap.size, 0, none⟩ : Addr).add j) = some x := by
 intro j x h
 match j with
 | 0 => simp at h; subst h; simp [Addr.add]
 | 1 => simp at h; subst h; simp [Addr.add]
 | j + 2 => simp at h
set_option maxHeartbeats 1600000 in
set_option maxRecDepth 100000 in
theorem l01Mapped_any (w : World) {v u : Value} {xs ps : List Int} (h : intsT.Rd w [v] xs) (h' : intsT.Rd w [u] ps) (hin : ∀ p ∈ ps, 0 ≤ p ∧ p < (xs.length : Int)) (hlen : ps.length ≤ 1000000) :
  Calls Tryz.prog 183 #[u, v] w (RetS intsT w (atL xs ps)) := by
 obtain ⟨ad, cap, hv, hl, hc, hcell⟩ := ints_ex h
 obtain rfl : v = _ := by simpa using hv
 obtain ⟨ad', cap', hv', hl', hc', hcell'⟩ := ints_ex h'
 obtain rfl : u = _ := by simpa using hv'
 have HIN := Lib.hid hin
 clear h hv h' hv' hin
 go_enter Tryz.func183, Tryz.ntmps183
 go_wp2_with fail
 go_loopw [6, 5] (fun i o wr => ∃ k : Nat, k ≤ ps.length ∧ i = .int .i64 k ∧ Bl Ty.int 2 w.heap.size wr.heap.size wr o (atL xs (ps.take k)) ∧ Below w.heap.size w wr) (fun i _ _ => ps.length - (intOf i).toNat)
 case atStart => exact ⟨0, Nat.zero_le _, rfl, by simpa [atL] using Bl.lit0 (E := Ty.int) (e := 2) (w := w) (Nat.le_refl _), bA⟩
 case round =>
  obtain ⟨k, hk, rfl, hBl, hbel⟩ := hrel
  have HB := Lib.hid hBl
  clear hBl
  by_cases hkl : k < ps.length
  ·obtain ⟨b', o', rfl, hb', hce'⟩ := hcell' (by omega)
   have hin := HIN.out ps[k] (List.getElem_mem hkl)
   obtain ⟨j, hj⟩ : ∃ j : Nat, ps[k] = j := ⟨ps[k].toNat, by omega⟩
   have hjl : j < xs.length := by omega
   obtain ⟨b, o, rfl, hb, hce⟩ := hcell (by omega)
   have e0 := (hbel.cell hb').trans (hce' k hkl).2
   rw [hj] at e0
   have e1 := (hbel.cell hb).trans (hce j hjl).2
   have hI := (hce j hjl).1
   clear hcell hcell' hce hce' hin
   have hrec := atL_take hkl hj hjl
   have HR := Lib.hid hrec
   clear hrec
   go_wp2_with (refine wpList_push (E := Ty.int) _ rfl _ _ 38 2 rfl elInt rfl (HB.out.below bA (Nat.le_refl _)) rfl news1 (fr_int hI) (by rw [atL_len, take_len hk]; omega) (by decide) hbel.size (by simp) ?_; intro v1 w1 hB1 hg1 _)
   have hbel1 : Below w.heap.size w w1 := (hbel.alloc hbel.size _).grown hg1 (by have := hbel.size; simp; omega) (fun k hk => HB.out.own hk)
   rw [HR.out] at hB1
   have HB1 := Lib.hid hB1
   clear hB1
   go_wp2_with fail
   go_roundw
   case rel => exact ⟨k + 1, by omega, by go_num, HB1.out, hbel1⟩
   case measure => simp [intOf]; omega
  ·obtain rfl : k = ps.length := by omega
   go_wp2_with fail
   go_ret
   rw [List.take_length] at HB
   exact ⟨_, rfl, HB.out.fr (by rw [atL_len]; unfold capMax; omega), hbel⟩
def movedL (mv : List Int) (xs : List (Int × List Int)) : List (Int × List Int) := xs.map fun a => (a.1, atL mv a.2)
theorem movedL_len {mv : List Int} {xs : List (Int × List Int)} : (movedL mv xs).length = xs.length := by simp [movedL]
theorem movedL_take {mv : List Int} {xs : List (Int × List Int)} {k : Nat} (h : k < xs.length) : movedL mv (xs.take k) ++ [((xs[k]).1, atL mv (xs[k]).2)] = movedL mv (xs.take (k + 1)) := by
 simp only [movedL]
 rw [List.take_succ_eq_append_getElem h, List.map_append]
 rfl
set_option maxHeartbeats 3200000 in
set_option maxRecDepth 100000 in
theorem l03Moved_bl (w : World) {v u : Value} {ts : List Int} {xs : List (Int × List Int)} (h : opsT.Rd w [v] xs) (h' : intsT.Rd w [u] ts) (hin : ∀ a ∈ xs, (∀ p ∈ a.2, 0 ≤ p ∧ p < (ts.length : Int)) ∧ a.2.length ≤ 1000000) (hlen : xs.length ≤ 1000000) :
  Calls Tryz.prog 109 #[v, u] w fun e w' => ∃ u, e = .returned u ∧ Bl opT 69 w.heap.size w'.heap.size w' u (movedL ts xs) ∧ Below w.heap.size w w' := by
 obtain ⟨ad, cap, hv, hl, hc, hcell⟩ := pairs_ex h
 obtain rfl : v = _ := by simpa using hv
 obtain ⟨ad', cap', rfl⟩ := rd_slice h'
 have HIN := Lib.hid hin
 clear h hv hin
 go_enter Tryz.func109, Tryz.ntmps109
 go_wp2_with fail
 go_loopw [6, 5] (fun i o wr => ∃ k : Nat, k ≤ xs.length ∧ i = .int .i64 k ∧ Bl opT 69 w.heap.size wr.heap.size wr o (movedL ts (xs.take k)) ∧ Below w.heap.size w wr) (fun i _ _ => xs.length - (intOf i).toNat)
 case atStart => exact ⟨0, Nat.zero_le _, rfl, by simpa [movedL] using Bl.lit0 (E := opT) (e := 69) (w := w) (Nat.le_refl _), bA⟩
 case round =>
  obtain ⟨k, hk, rfl, hBl, hbel⟩ := hrel
  have HB := Lib.hid hBl
  clear hBl
  by_cases hkl : k < xs.length
  ·obtain ⟨b, o, rfl, hb, hce⟩ := hcell (by omega)
   obtain ⟨uk, huk, hIk, g0, g1⟩ := hce k hkl
   obtain ⟨ak, ck, rfl⟩ := rd_slice huk
   have hin := HIN.out xs[k] (List.getElem_mem hkl)
   have d0 := (hbel.cell hb).trans g0
   have d1 := (hbel.cell hb).trans g1
   have HU := Lib.hid (huk.below hbel)
   have HT := Lib.hid (h'.below hbel)
   have HN := Lib.hid hin
   have hsz := hbel.size
   have HR := Lib.hid (movedL_take (mv := ts) hkl)
   have HG0 := Lib.hid g0
   have HG1 := Lib.hid g1
   clear hcell hce hin huk g0 g1
   go_wp2_with fail
   have hbw := Nat.lt_of_lt_of_le hb hsz
   go_region_held_law (fun w' => w'.cell? ⟨b, o + k * 2, none⟩ = some (.int .i64 (xs[k]).1) ∧ w'.cell? ⟨b, o + k * 2 + 1, none⟩ = some (.slice ak (xs[k]).2.length ck)) (first | exact ⟨d0, d1⟩ | exact ⟨e0, e1⟩ | exact ⟨m0, m1⟩ | go_keep)
    (first
     | (refine step_push (E := opT) _ rfl _ _ 45 69 rfl elAtomS rfl (HB.out.below (hbn.alloc hbn.size _) (Nat.le_refl _)) rfl news2 (fr_cons hIk (HF.out.below bA)) (by rw [movedL_len, take_len hk]; omega) (by decide) hsz (by simp; omega) ?_; intro v1 w2 hB1 hg1 _; have hbel1 : Below w.heap.size w w2 := ((hbel.trans (hbn.mono hsz)).alloc (by omega) _).grown hg1 (by simp; omega) (fun k hk => HB.out.own hk); have m0 := (hbel1.cell hb).trans HG0.out; have m1 := (hbel1.cell hb).trans HG1.out)
     | (go_simp; go_at_call 183; refine (l01Mapped_any _ (HT.out.below bD) (HU.out.below bD) HN.out.1 HN.out.2).mono ?_; rintro e w1 ⟨u2, rfl, hf, hb1⟩; obtain ⟨ad2, cap2, rfl⟩ := fr_slice hf; have hbn : Below wr.heap.size wr w1 := bthen bD hb1; have e0 := (hbn.cell hbw).trans d0; have e1 := (hbn.cell hbw).trans d1; have hz1 := hbn.size; have HF := Lib.hid hf; clear hf; dsimp only))
   rw [HR.out] at hB1
   have HB1 := Lib.hid hB1
   clear hB1
   go_simp
   go_wp2_with fail
   go_roundw
   case rel => exact ⟨k + 1, by omega, by go_num, HB1.out, hbel1⟩
   case measure => simp [intOf]; omega
  ·obtain rfl : k = xs.length := by omega
   go_wp2_with fail
   go_ret
   rw [List.take_length] at HB
   exact ⟨_, rfl, HB.out, hbel⟩
theorem l03Moved_any (w : World) {v u : Value} {ts : List Int} {xs : List (Int × List Int)} (h : opsT.Rd w [v] xs) (h' : intsT.Rd w [u] ts) (hin : ∀ a ∈ xs, (∀ p ∈ a.2, 0 ≤ p ∧ p < (ts.length : Int)) ∧ a.2.length ≤ 1000000) (hlen : xs.length ≤ 1000000) :
  Calls Tryz.prog 109 #[v, u] w (RetS opsT w (movedL ts xs)) :=
 (l03Moved_bl w h h' hin hlen).mono fun _ _ ⟨u, he, hB, hb⟩ => ⟨u, he, hB.fr (by rw [movedL_len]; unfold capMax; omega), hb⟩
end Go.Proofs.YtajmjfbejfiipaaGreat
namespace Go.Proofs.YtajmjfbejfiipaaGreat
open Go.RowKit Go.Sort
/-- variables renamed by a function -/
def rnL (g : Int → Int) (xs : List (Int × List Int)) : List (Int × List Int) := xs.map fun a => (a.1, a.2.map g)
def toL (g : Int → Int) (n : Nat) : List Int := (List.range n).map fun i : Nat => g (i : Int)
theorem toL_len {g : Int → Int} {n : Nat} : (toL g n).length = n := by simp [toL]
theorem toL_succ (g : Int → Int) (n : Nat) : toL g n ++ [g (n : Int)] = toL g (n + 1) := by simp [toL, List.range_succ]
theorem atL_toL {g : Int → Int} {n : Nat} {ps : List Int} (h : ∀ p ∈ ps, 0 ≤ p ∧ p < (n : Int)) : atL (toL g n) ps = ps.map g := by
 unfold atL
 apply List.map_congr_left
 intro p hp
 obtain ⟨h1, h2⟩ := h p hp
 have h3 : p.toNat < n := by omega
 rw [List.getD_eq_getElem?_getD, List.getElem?_eq_getElem (by rw [toL_len]; exact h3)]
 simp only [toL, List.getElem_map, List.getElem_range, Option.getD_some]
 congr 1
 omega
theorem movedL_toL {g : Int → Int} {n : Nat} {xs : List (Int × List Int)} (h : ∀ a ∈ xs, ∀ p ∈ a.2, 0 ≤ p ∧ p < (n : Int)) : movedL (toL g n) xs = rnL g xs := by
 unfold movedL rnL
 apply List.map_congr_left
 intro a ha
 rw [atL_toL (h a ha)]
theorem rnL_cnt {g : Int → Int} (xs : List (Int × List Int)) : cntOps (rnL g xs) = cntOps xs := by
 induction xs with
 | nil => rfl
 | cons a r ih =>
  have h1 : cntOps (rnL g (a :: r)) = cntOp1 (a.1, a.2.map g) + cntOps (rnL g r) := rfl
  have h2 : cntOps (a :: r) = cntOp1 a + cntOps r := rfl
  rw [h1, h2, ih]
  simp [cntOp1, cntI]
section
variable (t : Int × List (Int × List (List Int))) (f : Int × Int × List (Int × List Int)) (v : Int)
end
section
variable {t : Int × List (Int × List (List Int))} {f : Int × Int × List (Int × List Int)} {v : Int}
theorem arOf_le (h : tplOk t) (rel : Int) : 0 ≤ arOf t rel ∧ arOf t rel ≤ 4 := by
 by_cases h1 : rel = -1
 ·subst h1; rw [arOf_eq]; omega
 ·cases h2 : inB rel 0 ((t.2.length : Int) - 1)
  ·rw [arOf_no h1 h2]; omega
  ·exact arOf_bd h h2
theorem frm_bd (h : tb (frmOk t f) = true) : 1 ≤ f.1 ∧ f.1 ≤ f.2.1 ∧ f.2.1 ≤ 8 ∧ f.2.2.length ≤ 16 ∧ ∀ a ∈ f.2.2, (∀ p ∈ a.2, 0 ≤ p ∧ p < f.2.1) ∧ a.2.length ≤ 4 := by
 have h := tb_iff.1 h
 obtain ⟨h1, ⟨h2, h3, h4⟩, h5⟩ := h
 refine ⟨by omega, by omega, by omega, h4, fun a ha => ?_⟩
 obtain ⟨_, h6, h7⟩ := h5 a ha
 have h8 := arOf_le h1 a.1
 refine ⟨fun p hp => ?_, by omega⟩
 have := h7 p hp
 omega
theorem cntOps_bd : ∀ {xs : List (Int × List Int)}, (∀ a ∈ xs, a.2.length ≤ 4) → cntOps xs ≤ 5 * xs.length
 | [], _ => by simp [cntOps, sumL]
 | a :: r, h => by
  have h1 := h a (List.mem_cons_self ..)
  have h2 := cntOps_bd (xs := r) fun b hb => h b (List.mem_cons_of_mem _ hb)
  have h3 : cntOps (a :: r) = cntOp1 a + cntOps r := rfl
  rw [h3, List.length_cons]
  simp only [cntOp1, cntI]
  omega
end
theorem wrap_small {n : Int} (h0 : -1000000000000000000 ≤ n) (h1 : n ≤ 1000000000000000000) : IntKind.i64.wrap n = n := by
 simp [IntKind.wrap, IntKind.signed, IntKind.bits]
 omega
end Go.Proofs.YtajmjfbejfiipaaGreat
namespace Go.Proofs.YtajmjfbejfiipaaGreat
open Go.RowKit Go.Sort
theorem rnL_take {g : Int → Int} {xs : List (Int × List Int)} {k : Nat} (h : k < xs.length) : rnL g (xs.take k) ++ [((xs[k]).1, (xs[k]).2.map g)] = rnL g (xs.take (k + 1)) := by
 simp only [rnL]
 rw [List.take_succ_eq_append_getElem h, List.map_append]
 rfl
theorem rnL_len {g : Int → Int} {xs : List (Int × List Int)} : (rnL g xs).length = xs.length := by simp [rnL]
theorem map_take {g : Int → Int} {xs : List Int} {k : Nat} (h : k < xs.length) : (xs.take k).map g ++ [g xs[k]] = (xs.take (k + 1)).map g := by
 rw [List.take_succ_eq_append_getElem h, List.map_append]
 rfl
theorem size_set {w : World} {a : Addr} {u : Value} : (w.setCell a u).heap.size = w.heap.size := by simp [World.setCell]
theorem ex_slice {α : Type} {E : Ty α} {base : Nat} {w : World} {u : Value} {x : List α} (h : (Ty.slice E).Fr base w [u] x) : ∃ ad n cap, u = .slice ad n cap := let ⟨a, c, h⟩ := fr_slice h; ⟨a, _, c, h⟩
theorem rd_sl {α : Type} {E : Ty α} {w : World} {u : Value} {x : List α} (h : (Ty.slice E).Rd w [u] x) : ∃ ad n cap, u = .slice ad n cap := let ⟨a, c, h⟩ := rd_slice h; ⟨a, _, c, h⟩
set_option maxHeartbeats 3200000 in
set_option maxRecDepth 100000 in
theorem renamed_bl (w : World) {v : Value} {xs : List (Int × List Int)} (h : opsT.Rd w [v] xs) (g : Nat) (caps : Array Value) (eg : ∀ args w, (callFunc g args).run Tryz.prog w = .ok (.enter g args) w) (G : Int → Int)
  (hto : Hid (∀ W a, Below w.heap.size w W → (∃ c ∈ xs, a ∈ c.2) → Calls Tryz.prog g (#[.int .i64 a] ++ caps) W fun e w' => e = .returned (.int .i64 (G a)) ∧ W = w'))
  (hG : ∀ c ∈ xs, (∀ a ∈ c.2, I64 (G a)) ∧ c.2.length ≤ 1000000) (hlen : xs.length ≤ 1000000) :
  Calls Tryz.prog 104 #[v, .func (.func g) #[] caps] w fun e w' => ∃ u, e = .returned u ∧ Bl opT 69 w.heap.size w'.heap.size w' u (rnL G xs) ∧ Below w.heap.size w w' := by
 obtain ⟨ad, cap, hv, hl, hc, hcell⟩ := pairs_ex h
 obtain rfl : v = _ := by simpa using hv
 have HG := Lib.hid hG
 clear h hv hG
 go_enter Tryz.func104, Tryz.ntmps104
 go_wp2_with fail
 go_loopw [14, 5] (fun i o wr => ∃ k : Nat, k ≤ xs.length ∧ i = .int .i64 k ∧ Bl opT 69 w.heap.size wr.heap.size wr o (rnL G (xs.take k)) ∧ Below w.heap.size w wr) (fun i _ _ => xs.length - (intOf i).toNat)
 case atStart => exact ⟨0, Nat.zero_le _, rfl, by simpa [rnL] using Bl.lit0 (E := opT) (e := 69) (w := w) (Nat.le_refl _), bA⟩
 case round =>
  obtain ⟨k, hk, rfl, hBl, hbel⟩ := hrel
  have HB := Lib.hid hBl
  clear hBl
  by_cases hkl : k < xs.length
  ·obtain ⟨b, o, rfl, hb, hce⟩ := hcell (by omega)
   obtain ⟨uk, huk, hIk, g0, g1⟩ := hce k hkl
   obtain ⟨ak, ck, huv, hkl2, hkl3, hkc⟩ := ints_ex huk
   obtain rfl : uk = _ := by simpa using huv
   have d0 := (hbel.cell hb).trans g0
   have d1 := (hbel.cell hb).trans g1
   have hgk := HG.out xs[k] (List.getElem_mem hkl)
   have hsz := hbel.size
   have HR := Lib.hid (rnL_take (g := G) hkl)
   clear hcell hce huk huv g0 g1
   obtain ⟨wo, rfl⟩ : ∃ wo : World, wo = wr := ⟨_, rfl⟩
   go_wp2_with fail
   generalize hW2 : (wo.alloc _).alloc _ = W2
   have hbW : Below wo.heap.size wo W2 := hW2 ▸ bAA
   have hs2 : W2.heap.size = wo.heap.size + 2 := by rw [← hW2]; simp
   have x0 : W2.cell? ⟨wo.heap.size + 1, 0, none⟩ = some (.int .i64 (xs[k]).1) := by rw [← hW2]; simp
   have x1 : W2.cell? ⟨wo.heap.size + 1, 1, none⟩ = some (.slice none 0 0) := by rw [← hW2]; simp
   have x2 : W2.frozen? ⟨wo.heap.size + 1, 1, none⟩ = false := by rw [← hW2]; simp
   clear hW2
   go_loopw [24] (fun i wr => ∃ (j : Nat) (v : Value), j ≤ (xs[k]).2.length ∧ i = .int .i64 j ∧ Bl Ty.int 2 (wo.heap.size + 2) wr.heap.size wr v (((xs[k]).2.take j).map G) ∧ wr.cell? ⟨wo.heap.size + 1, 1, none⟩ = some v ∧ wr.cell? ⟨wo.heap.size + 1, 0, none⟩ = some (.int .i64 (xs[k]).1) ∧ wr.frozen? ⟨wo.heap.size + 1, 1, none⟩ = false ∧ Below (wo.heap.size + 1) W2 wr ∧ wo.heap.size + 2 ≤ wr.heap.size) (fun i _ => (xs[k]).2.length - (intOf i).toNat)
   case atStart => exact ⟨0, _, Nat.zero_le _, rfl, by simpa using Bl.nil, x1, x0, x2, Below.refl _ _, by omega⟩
   case round =>
    obtain ⟨j, v, hj, rfl, hBv, y1, y0, y2, hbe, hse⟩ := hrel
    have hbo : Below wo.heap.size wo wr := hbW.trans (hbe.mono (by omega))
    have hbw : Below w.heap.size w wr := bthen hbel hbo
    by_cases hjl : j < (xs[k]).2.length
    ·obtain ⟨bk, ok, rfl, hbk, hck⟩ := hkc (by omega)
     have e0 := (hbw.cell hbk).trans (hck j hjl).2
     have hGI := hgk.1 _ (List.getElem_mem hjl)
     obtain ⟨av0, nv0, cv0, rfl⟩ := ex_slice (hBv.fr (by rw [List.length_map, take_len hj]; unfold capMax; omega))
     have HBv := Lib.hid hBv
     have HMT := Lib.hid (map_take (g := G) hjl)
     have hin : ∃ c ∈ xs, (xs[k]).2[j] ∈ c.2 := ⟨_, List.getElem_mem hkl, List.getElem_mem hjl⟩
     have HIN := Lib.hid hin
     have HGI := Lib.hid hGI
     have hgl := hgk.2
     clear hkc hck hBv hin hGI hgk
     go_wp2_with fail
     have z1 : wr.drew.cell? ⟨wo.heap.size + 1, 1, none⟩ = some (.slice av0 nv0 cv0) := y1
     have z2 : wr.drew.frozen? ⟨wo.heap.size + 1, 1, none⟩ = false := y2
     have z9 : wo.heap.size + 1 < wr.heap.size := by omega
     go_region_law
      (first
       | (refine step_push (E := Ty.int) _ rfl _ _ 38 2 rfl elInt rfl (HBv.out.below (bD.alloc (by simp) _) (Nat.le_refl _)) rfl news1 (fr_int HGI.out) (by rw [List.length_map, take_len hj]; omega) (by decide) hse (by simp) ?_; intro v1 wz hB1 hg1 _; obtain ⟨a1, n1, c1, rfl⟩ := ex_slice (hB1.fr (by rw [List.length_append, List.length_map, take_len hj]; unfold capMax; simp; omega)); have hbz : Below (wo.heap.size + 2) wr wz := (((bD (w := wr)).alloc (by simp) _).mono hse).grown hg1 (by simp; omega) (fun q hq => HBv.out.own hq); have z3 := (hbz.cell (show wo.heap.size + 1 < wo.heap.size + 2 by omega)).trans y1; have z4 := (hbz.frozen (show wo.heap.size + 1 < wo.heap.size + 2 by omega)).trans y2; have z5 := (hbz.cell (show wo.heap.size + 1 < wo.heap.size + 2 by omega)).trans y0; have HB1 := Lib.hid hB1; clear hB1)
       | (go_simp; refine (hto.out _ _ (hbw.trans (bD.mono hbw.size)) HIN.out).mono ?_; rintro e w' ⟨rfl, rfl⟩; dsimp only))
     all_goals
      have hbl := HB1.out
      rw [HMT.out] at hbl
      have HBL := Lib.hid hbl
      have hz5 := hbz.size
      clear hbl HB1
      go_simp
      go_wp2_with fail
      go_roundw
      case rel => exact ⟨j + 1, _, by omega, by go_num, by rw [size_set]; exact HBL.out.sameB (fun q hq1 hq2 => Below.heap_setCell _ _ _ _ (by simp; omega)), World.cell?_setCell_same _ _ _ z3, (World.cell?_setCell_other _ _ _ _ (by simp)).trans z5, (World.frozen?_setCell _ _ _ _).trans z4, (hbe.trans (hbz.mono (by omega))).setCell (by simp) _, by rw [size_set]; omega⟩
      case measure => simp [intOf]; omega
    ·obtain rfl : j = (xs[k]).2.length := by omega
     rw [List.take_length] at hBv
     have hgl := hgk.2
     have hfv := hBv.fr (by rw [List.length_map]; unfold capMax; omega)
     obtain ⟨av, nv, cv, rfl⟩ := ex_slice hfv
     have HF := Lib.hid hfv
     have hzo := hbo.size
     clear hfv hBv hkc hgk
     go_wp2_with (refine wpList_push (E := opT) _ rfl _ _ 45 69 rfl elAtomS rfl (HB.out.below (hbo.alloc hbo.size _) (Nat.le_refl _)) rfl news2 ((fr_cons hIk (HF.out.below bA)).mono (by omega)) (by rw [rnL_len (g := G), take_len hk]; omega) (by decide) hsz (by simp; omega) ?_; intro v1 w2 hB1 hg1 _)
     have hbel1 : Below w.heap.size w w2 := (hbw.alloc hbw.size _).grown hg1 (by have := hbw.size; simp; omega) (fun k hk => HB.out.own hk)
     have hB1' : Bl opT 69 w.heap.size w2.heap.size w2 v1 (rnL G (xs.take k) ++ [((xs[k]).1, (xs[k]).2.map G)]) := hB1
     rw [HR.out] at hB1'
     have HB1 := Lib.hid hB1'
     clear hB1 hB1'
     go_wp2_with fail
     go_roundw
     case rel => exact ⟨k + 1, by omega, by go_num, HB1.out, hbel1⟩
     case measure => simp [intOf]; omega
  ·obtain rfl : k = xs.length := by omega
   go_wp2_with fail
   go_ret
   rw [List.take_length] at HB
   exact ⟨_, rfl, HB.out, hbel⟩
theorem renamed_any (w : World) {v : Value} {xs : List (Int × List Int)} (h : opsT.Rd w [v] xs) (g : Nat) (caps : Array Value) (eg : ∀ args w, (callFunc g args).run Tryz.prog w = .ok (.enter g args) w) (G : Int → Int)
  (hto : Hid (∀ W a, Below w.heap.size w W → (∃ c ∈ xs, a ∈ c.2) → Calls Tryz.prog g (#[.int .i64 a] ++ caps) W fun e w' => e = .returned (.int .i64 (G a)) ∧ W = w'))
  (hG : ∀ c ∈ xs, (∀ a ∈ c.2, I64 (G a)) ∧ c.2.length ≤ 1000000) (hlen : xs.length ≤ 1000000) :
  Calls Tryz.prog 104 #[v, .func (.func g) #[] caps] w (RetS opsT w (rnL G xs)) :=
 (renamed_bl w h g caps eg G hto hG hlen).mono fun _ _ ⟨u, he, hB, hb⟩ => ⟨u, he, hB.fr (by rw [rnL_len]; unfold capMax; omega), hb⟩
end Go.Proofs.YtajmjfbejfiipaaGreat
namespace Go.Proofs.YtajmjfbejfiipaaGreat
open Go.RowKit Go.Sort
end Go.Proofs.YtajmjfbejfiipaaGreat
namespace Go.Proofs.YtajmjfbejfiipaaGreat
open Go.RowKit Go.Sort
theorem flat_nil (n : Nat) : flat (fun _ => []) n = [] := List.eq_nil_iff_forall_not_mem.2 fun x hx => by obtain ⟨_, _, h⟩ := List.mem_flatMap.1 hx; cases h
theorem wpList_appI {P : Program} (w : World) {ops : Array Oper} {rest : List Oper} {o : Oper} {a : Act} {Q : Exit → Act → World → Prop} (hgd : o.guard = none) (s x : Operand) (t e : TypeId) {bytes : Nat}
  (ho : o.op = .call { callee := .builtin .append, args := #[s, x], argTypes := #[t, t] }) (hT : ElT P t e 1 bytes)
  {base top : Nat} {v : Value} {ys : List Int} (hs : a.eval s = v) (hB : Bl Ty.int e base top w v ys)
  {u : Value} {xs : List Int} (hx : a.eval x = u) (hr : intsT.Rd w [u] xs) (h0 : 0 < xs.length)
  (hlen : ys.length + xs.length ≤ 1000000000) (hby : bytes ≤ 100000) (hbt : base ≤ top) (htop : top ≤ w.heap.size)
  (h : ∀ v' w', Bl Ty.int e base w'.heap.size w' v' (ys ++ xs) → w.grownBy w' v.ownBlock → (v'.ownBlock = v.ownBlock ∨ v'.ownBlock = some w.heap.size) → wpList P ops Q rest (a.put o.dst v') w') : wpList P ops Q (o :: rest) a w := by
 obtain ⟨L, fps, g1, g2, g3, g4, g5, g6⟩ := hB
 obtain ⟨ad', cap', hu, hl, hc, hcell⟩ := ints_ex hr
 obtain ⟨b, o', rfl, hb, hce⟩ := hcell h0
 obtain rfl : u = .slice (some ⟨b, o', none⟩) xs.length cap' := by simpa using hu
 obtain ⟨i, z, ht, hi, hz, hsz, hbt', hzs, hp⟩ := id hT
 have hnews : ∀ (j : Nat) (u : Value), (xs.map (Value.int .i64))[j]? = some u → w.cell? ((⟨b, o', none⟩ : Addr).add j) = some u := by
  intro j u hj
  rw [List.getElem?_map] at hj
  by_cases hjl : j < xs.length
  ·rw [List.getElem?_eq_getElem hjl] at hj
   simp only [Option.map_some, Option.some.injEq] at hj
   subst hj
   have := (hce j hjl).2
   by_cases hj0 : j = 0
   ·subst hj0
    simpa [Addr.add] using this
   ·simpa [Addr.add, hj0] using this
  ·rw [List.getElem?_eq_none (by omega)] at hj
   simp at hj
 have hone : ∀ u ∈ xs.map (Value.int .i64), u.oneCell' = true := by
  intro u hu
  obtain ⟨n, _, rfl⟩ := List.mem_map.1 hu
  rfl
 have hnl : (xs.map (Value.int .i64)).length = xs.length * 1 := by simp
 have hlen' : (ys.length + xs.length) * bytes ≤ 140737488355328 := Nat.le_trans (Nat.mul_le_mul hlen hby) (by decide)
 have hbase : base ≤ w.heap.size := Nat.le_trans hbt htop
 have hLl : L.length = ys.length := by have := g1.1; simpa [Ty.int] using this
 refine wpList_plain hgd fun K hK => ?_
 obtain ⟨v', w', hr', h2, h3, h4⟩ := run_append_own (P := P) w base t o.type e i z 1 bytes ht hi hz hsz hbt' hzs hp v ys.length L g1 ⟨b, o', none⟩ xs.length cap' _ hnl hnews hone (by unfold maxLen; omega) hlen' hbase
 have hblk := run_push_block w base t o.type e hT v ys.length L g1 ⟨b, o', none⟩ xs.length cap' _ hnl hnews hone (by unfold maxLen; omega) hlen' h0 v' w' hr'
 have hBl : Bl Ty.int e base w'.heap.size w' v' (ys ++ xs) := by
  refine ⟨L ++ xs.map (Value.int .i64), fun _ => [], by simpa [Ty.int] using h2, fun j hj => ?_, by rw [flat_nil]; exact List.nodup_nil, by rw [flat_nil]; simp, fun g hg => (h2.lt g hg).2, by rw [flat_nil]; intro b hb; cases hb⟩
  by_cases hjy : j < ys.length
  ·obtain ⟨cs, ⟨rfl, hI, _⟩, hk⟩ := g2 j hjy
   refine ⟨[.int .i64 (ys ++ xs)[j]], ⟨rfl, by rw [List.getElem_append_left hjy]; exact hI, rfl⟩, fun q hq => ?_⟩
   obtain rfl : q = 0 := by simpa using hq
   have := hk 0 (by simp)
   rw [List.getElem?_append_left (by rw [hLl]; simp [Ty.int]; exact hjy)]
   simpa [List.getElem_append_left hjy] using this
  ·have hj' : j - ys.length < xs.length := by rw [List.length_append] at hj; omega
   have hge : (ys ++ xs)[j] = xs[j - ys.length] := List.getElem_append_right (by omega)
   refine ⟨[.int .i64 (ys ++ xs)[j]], ⟨rfl, by rw [hge]; exact (hce _ hj').1, rfl⟩, fun q hq => ?_⟩
   obtain rfl : q = 0 := by simpa using hq
   rw [List.getElem?_append_right (by rw [hLl]; simp [Ty.int]; omega), hLl]
   simp [Ty.int, hge, hj']
 unfold Oper.wp execOp
 simp only [ho, resolve, invoke, builtin, Sem.run_bind, Sem.run_pure, Result.andThen_ok, List.map_toArray, List.map_cons, List.map_nil, hs, hx, hr']
 exact hK _ _ (h v' w' hBl h3 hblk)
set_option maxHeartbeats 800000 in
theorem l00Own_any (w : World) {v : Value} {xs : List Int} (h : intsT.Rd w [v] xs) (hlen : xs.length ≤ 1000000) :
  Calls Tryz.prog 108 #[v] w fun e w' => ∃ u, e = .returned u ∧ Bl Ty.int 2 w.heap.size w'.heap.size w' u xs ∧ Below w.heap.size w w' := by
 have hx := h
 obtain ⟨ad, cap, rfl⟩ := rd_slice h
 have HX := Lib.hid hx
 rcases Nat.eq_zero_or_pos xs.length with h0 | h0
 ·obtain rfl := List.eq_nil_of_length_eq_zero h0
  clear h hx h0 HX
  cases ad
  all_goals
   go_enter Tryz.func108, Tryz.ntmps108
   go_wp2_with fail
   go_ret
   exact ⟨_, rfl, by simpa using Bl.lit0 (E := Ty.int) (e := 2) (w := w) (Nat.le_refl _), bA⟩
 ·clear h hx
  have HB := Lib.hid (Bl.lit0 (E := Ty.int) (e := 2) (base := w.heap.size) (w := w) (Nat.le_refl _))
  go_enter Tryz.func108, Tryz.ntmps108
  go_wp2_with (refine wpList_appI _ rfl _ _ 38 2 rfl elInt rfl HB.out rfl (HX.out.below bA) h0 (by simp; omega) (by decide) (by omega) (by simp) ?_; intro v1 w1 hB1 hg1 _)
  have HB1 := Lib.hid hB1
  have hb1 : Below w.heap.size w w1 := (bA (w := w)).grown hg1 (by simp) (fun k hk => HB.out.own hk)
  clear hB1
  go_wp2_with fail
  go_ret
  exact ⟨_, rfl, HB1.out, hb1⟩
noncomputable def limV (f : Int × Int × List (Int × List Int)) : Int × Int × List (Int × List Int) := match tb (f.2.1 ≤ 8 ∧ f.2.2.length ≤ 16) with
 | true => f
 | false => frm0
noncomputable def limC (f : Int × Int × List (Int × List Int)) : Int := match tb (f.2.1 ≤ 8 ∧ f.2.2.length ≤ 16) with
 | true => 0
 | false => 3
theorem lim_yes {f : Int × Int × List (Int × List Int)} (h : f.2.1 ≤ 8 ∧ f.2.2.length ≤ 16) : limV f = f ∧ limC f = 0 := by simp only [limV, limC, tb_true h]; exact ⟨trivial, trivial⟩
theorem lim_no {f : Int × Int × List (Int × List Int)} (h : ¬ (f.2.1 ≤ 8 ∧ f.2.2.length ≤ 16)) : limV f = frm0 ∧ limC f = 3 := by simp only [limV, limC, tb_false h]; exact ⟨trivial, trivial⟩
set_option maxHeartbeats 1600000 in
set_option maxRecDepth 100000 in
theorem limited_any (w : World) {base : Nat} {cs : Array Value} {f : Int × Int × List (Int × List Int)} (h : frmT.Fr base w cs.toList f) (_hb : base ≤ w.heap.size) :
  Calls Tryz.prog 72 #[.agg cs] w fun e w' => ∃ cs' : List Value, e = .returned (.tuple #[.agg cs'.toArray, .int .i64 (limC f)]) ∧ frmT.Fr base w' cs' (limV f) ∧ Below w.heap.size w w' := by
 have hf := h
 obtain ⟨u, hv, hI, hI2, hx⟩ := trip_ex h.rd
 obtain rfl := agg_of hv
 obtain ⟨_, _, -, -, hle2, -⟩ := Ty.slice_ex hx
 obtain ⟨ad, cap, rfl⟩ := rd_slice hx
 have HF := Lib.hid hf
 clear h hv hf hx
 by_cases hl : f.2.1 ≤ 8 ∧ f.2.2.length ≤ 16
 ·have HR := Lib.hid (lim_yes hl)
  obtain ⟨hl1, hl2⟩ := hl
  go_enter Tryz.func72, Tryz.ntmps72
  go_wp2_with fail
  refine bodyPost_ret (v := .tuple #[.agg #[.int .i64 f.1, .int .i64 f.2.1, .slice ad f.2.2.length cap], .int .i64 0]) (by simp [results, Tryz.results72, go_sem]) rfl ⟨[.int .i64 f.1, .int .i64 f.2.1, .slice ad f.2.2.length cap], by rw [HR.out.2], ?_, (by repeat (first | exact Below.refl _ _ | exact bA | assumption | refine Below.setCell ?_ (by first | omega | (simp; try omega)) _ | refine Below.alloc ?_ (by first | omega | (simp; try omega)) _ | refine Below.drew ?_ | refine bDN ?_ | refine bthen ?_ (by assumption)))⟩
  rw [HR.out.1]
  exact HF.out.below (by repeat (first | exact Below.refl _ _ | exact bA | assumption | refine Below.setCell ?_ (by first | omega | (simp; try omega)) _ | refine Below.alloc ?_ (by first | omega | (simp; try omega)) _ | refine Below.drew ?_ | refine bDN ?_ | refine bthen ?_ (by assumption)))
 ·have HR := Lib.hid (lim_no hl)
  rcases ilt 8 f.2.1 with h8 | h8
  ·clear hl
   go_enter Tryz.func72, Tryz.ntmps72
   go_wp2_with fail
   refine bodyPost_ret (v := .tuple #[.agg #[.int .i64 0, .int .i64 0, .slice none 0 0], .int .i64 3]) (by simp [results, Tryz.results72, go_sem]) rfl ⟨[.int .i64 0, .int .i64 0, .slice none 0 0], by rw [HR.out.2], by rw [HR.out.1]; exact fr_frm0, (by repeat (first | exact Below.refl _ _ | exact bA | assumption | refine Below.setCell ?_ (by first | omega | (simp; try omega)) _ | refine Below.alloc ?_ (by first | omega | (simp; try omega)) _ | refine Below.drew ?_ | refine bDN ?_ | refine bthen ?_ (by assumption)))⟩
  ·have hl2 : 16 < f.2.2.length := by omega
   clear hl
   go_enter Tryz.func72, Tryz.ntmps72
   go_wp2_with fail
   refine bodyPost_ret (v := .tuple #[.agg #[.int .i64 0, .int .i64 0, .slice none 0 0], .int .i64 3]) (by simp [results, Tryz.results72, go_sem]) rfl ⟨[.int .i64 0, .int .i64 0, .slice none 0 0], by rw [HR.out.2], by rw [HR.out.1]; exact fr_frm0, (by repeat (first | exact Below.refl _ _ | exact bA | assumption | refine Below.setCell ?_ (by first | omega | (simp; try omega)) _ | refine Below.alloc ?_ (by first | omega | (simp; try omega)) _ | refine Below.drew ?_ | refine bDN ?_ | refine bthen ?_ (by assumption)))⟩
set_option maxHeartbeats 1600000 in
set_option maxRecDepth 100000 in
theorem l03Told_any (w : World) {base : Nat} {cs : Array Value} {f : Int × Int × List (Int × List Int)} (h : frmT.Fr base w cs.toList f) (_hb : base ≤ w.heap.size) :
  Calls Tryz.prog 110 #[.agg cs] w fun e w' => ∃ cs' : List Value, e = .returned (.tuple #[.agg cs'.toArray, .int .i64 (limC f)]) ∧ frmT.Fr base w' cs' (limV f) ∧ Below w.heap.size w w' := by
 have hf := h
 obtain ⟨u, hv, hI, hI2, hx⟩ := trip_ex h.rd
 obtain rfl := agg_of hv
 obtain ⟨_, _, -, -, hle2, -⟩ := Ty.slice_ex hx
 obtain ⟨ad, cap, rfl⟩ := rd_slice hx
 have HF := Lib.hid hf
 clear h hv hf hx
 by_cases hl : f.2.1 ≤ 8 ∧ f.2.2.length ≤ 16
 ·have HR := Lib.hid (lim_yes hl)
  obtain ⟨hl1, hl2⟩ := hl
  go_enter Tryz.func110, Tryz.ntmps110
  go_wp2_with fail
  refine bodyPost_ret (v := .tuple #[.agg #[.int .i64 f.1, .int .i64 f.2.1, .slice ad f.2.2.length cap], .int .i64 0]) (by simp [results, Tryz.results110, go_sem]) rfl ⟨[.int .i64 f.1, .int .i64 f.2.1, .slice ad f.2.2.length cap], by rw [HR.out.2], ?_, (by repeat (first | exact Below.refl _ _ | exact bA | assumption | refine Below.setCell ?_ (by first | omega | (simp; try omega)) _ | refine Below.alloc ?_ (by first | omega | (simp; try omega)) _ | refine Below.drew ?_ | refine bDN ?_ | refine bthen ?_ (by assumption)))⟩
  rw [HR.out.1]
  exact HF.out.below (by repeat (first | exact Below.refl _ _ | exact bA | assumption | refine Below.setCell ?_ (by first | omega | (simp; try omega)) _ | refine Below.alloc ?_ (by first | omega | (simp; try omega)) _ | refine Below.drew ?_ | refine bDN ?_ | refine bthen ?_ (by assumption)))
 ·have HR := Lib.hid (lim_no hl)
  rcases ilt 8 f.2.1 with h8 | h8
  ·clear hl
   go_enter Tryz.func110, Tryz.ntmps110
   go_wp2_with fail
   refine bodyPost_ret (v := .tuple #[.agg #[.int .i64 0, .int .i64 0, .slice none 0 0], .int .i64 3]) (by simp [results, Tryz.results110, go_sem]) rfl ⟨[.int .i64 0, .int .i64 0, .slice none 0 0], by rw [HR.out.2], by rw [HR.out.1]; exact fr_frm0, (by repeat (first | exact Below.refl _ _ | exact bA | assumption | refine Below.setCell ?_ (by first | omega | (simp; try omega)) _ | refine Below.alloc ?_ (by first | omega | (simp; try omega)) _ | refine Below.drew ?_ | refine bDN ?_ | refine bthen ?_ (by assumption)))⟩
  ·have hl2 : 16 < f.2.2.length := by omega
   clear hl
   go_enter Tryz.func110, Tryz.ntmps110
   go_wp2_with fail
   refine bodyPost_ret (v := .tuple #[.agg #[.int .i64 0, .int .i64 0, .slice none 0 0], .int .i64 3]) (by simp [results, Tryz.results110, go_sem]) rfl ⟨[.int .i64 0, .int .i64 0, .slice none 0 0], by rw [HR.out.2], by rw [HR.out.1]; exact fr_frm0, (by repeat (first | exact Below.refl _ _ | exact bA | assumption | refine Below.setCell ?_ (by first | omega | (simp; try omega)) _ | refine Below.alloc ?_ (by first | omega | (simp; try omega)) _ | refine Below.drew ?_ | refine bDN ?_ | refine bthen ?_ (by assumption)))⟩
end Go.Proofs.YtajmjfbejfiipaaGreat
