/-
Contracts: a row of one number so many times (slices.Repeat, for the few lengths that occur).
Small lemmas of lists of tuples that both searches use. No program is named here.
  A finder's data while they are made: rows of lists that are due, each a row of its own, and a row of sets; what each append keeps. No program is named here.
A region that draws its order: what may come up when two or three may; two boxes that are filled last. No program is named here.
-/
import Derived.Test.YtjghcedmlklngaaQAF
import Derived.Test.YtjghcedmlklngaaQAE
import Derived.Test.YtjghcedmlklngaaQAC
import Derived.Laws.CopyOwn
namespace Go.Proofs.Ytjghcedmlklngaa
open Go.RowKit Go.Sort
/-- the lengths of the tables of operations -/
def tabN (N : Nat) : Prop := N = 1 ∨ N = 2 ∨ N = 3 ∨ N = 4 ∨ N = 8 ∨ N = 9 ∨ N = 16 ∨ N = 27 ∨ N = 64
theorem tabN_of {s : Int} {ar N : Nat} (hs : 1 ≤ s ∧ s ≤ 4) (har : 1 ≤ ar ∧ ar ≤ 3) (hN : s ^ ar = (N : Int)) : tabN N := by
  obtain ⟨q, rfl⟩ : ∃ q : Nat, s = q := ⟨s.toNat, by omega⟩
  have h : q ^ ar = N := by rw [← Int.natCast_pow] at hN; exact Int.ofNat.inj hN
  subst h
  unfold tabN
  rcases (show ar = 1 ∨ ar = 2 ∨ ar = 3 by omega) with rfl | rfl | rfl <;> rcases (show q = 1 ∨ q = 2 ∨ q = 3 ∨ q = 4 by omega) with rfl | rfl | rfl | rfl <;> decide
theorem tabN_bd {N : Nat} (h : tabN N) : 1 ≤ N ∧ N ≤ 64 := by unfold tabN at h; omega
set_option maxHeartbeats 1600000 in
theorem Mul64_one (N : Nat) (h : tabN N) (w : World) : Calls Try.prog 143 #[.int .u64 1, .int .u64 (N : Int)] w fun e w' => e = .returned (.tuple #[.int .u64 0, .int .u64 (N : Int)]) ∧ w = w' := by
  rcases h with rfl | rfl | rfl | rfl | rfl | rfl | rfl | rfl | rfl
  all_goals
    go_enter Try.func143, Try.ntmps143
    go_wp2
    go_ret2
    exact ⟨rfl, rfl⟩
set_option maxHeartbeats 1600000 in
theorem Mul_one (N : Nat) (h : tabN N) (w : World) : Calls Try.prog 134 #[.int .u64 1, .int .u64 (N : Int)] w fun e w' => e = .returned (.tuple #[.int .u64 0, .int .u64 (N : Int)]) ∧ w = w' := by
  go_enter Try.func134, Try.ntmps134
  go_wp2_with (go_at_call 143; refine (Mul64_one N h _).mono ?_; rintro e _ ⟨rfl, rfl⟩)
  go_ret2
  exact ⟨rfl, rfl⟩
theorem IR.heapAt {e base : Nat} {w : World} {g n : Nat} {L : List Int} (h : IR e base w g n n L) : w.heap[g]? = some (.cells (L.map (Value.int .i64)).toArray e (0, 0)) := by
  obtain ⟨h1, h2, h3, h4, h5⟩ := h
  rcases h5 with ⟨h6, _⟩ | ⟨g', cap, cur, hv, hg, hh, hn, hc, hcs, hL⟩
  · simp at h6
  · simp only [Value.slice.injEq, Option.some.injEq, Addr.mk.injEq, and_true, true_and] at hv
    obtain ⟨rfl, rfl⟩ := hv
    rw [hh]
    have : cur = (L.map (Value.int .i64)).toArray := by
      rw [← hL, List.take_of_length_le (by simp [hcs])]
    rw [this]
def mone (n N : Nat) : List Value := List.replicate n (Value.int .i64 (-1)) ++ List.replicate (N - n) (Value.int .i64 0)
theorem mone_len {n N : Nat} (h : n ≤ N) : (mone n N).length = N := by simp [mone]; omega
theorem mone_zero {N : Nat} : mone 0 N = (List.replicate N (0 : Int)).map (Value.int .i64) := by simp [mone]
theorem mone_full {N : Nat} : mone N N = List.replicate N (Value.int .i64 (-1)) := by simp [mone]
theorem mone_splice {n m N : Nat} (h : n + m ≤ N) : splice (mone n N) n (List.replicate m (Value.int .i64 (-1))) = mone (n + m) N := by
  unfold splice mone
  rw [List.take_append_of_le_length (by simp), List.take_of_length_le (by simp), List.drop_append, List.length_replicate, List.length_replicate, List.drop_of_length_le (by simp), List.nil_append, List.drop_replicate, ← List.append_assoc, List.replicate_append_replicate, show N - n - (n + m - n) = N - (n + m) by omega]
theorem mone_cell {w : World} {g n N : Nat} {t : TypeId} (hg : w.heap[g]? = some (.cells (mone n N).toArray t (0, 0))) {j : Nat} (hj : j < n) : w.cell? ⟨g, j, none⟩ = some (.int .i64 (-1)) := by
  simp [World.cell?, hg, mone, List.getElem?_append_left, hj]
theorem rep_pos {w1 : World} {b o g : Nat} (c1 : w1.cell? ⟨b, o, none⟩ = some (.int .i64 (-1))) : 0 < [Value.int .i64 (-1)].length → (some (⟨g, 0, none⟩ : Addr) = some ⟨g, 0, none⟩) ∧ ∃ ad, some (⟨b, o, none⟩ : Addr) = some ad ∧ ∀ j v, [Value.int .i64 (-1)][j]? = some v → w1.cell? (ad.add j) = some v :=
  fun _ => ⟨rfl, _, rfl, fun j v hj => by
    cases j with
    | zero => simp at hj; subst hj; simpa [Addr.add] using c1
    | succ j => simp at hj⟩
def RepR (w : World) (N : Nat) (e : Ending) (w' : World) : Prop := ∃ g, e = .returned (.slice (some ⟨g, 0, none⟩) N N) ∧ w.heap.size ≤ g ∧ w'.heap[g]? = some (.cells (mone N N).toArray 2 (0, 0)) ∧ Below w.heap.size w w'
set_option maxHeartbeats 3200000 in
set_option maxRecDepth 100000 in
theorem Repeat_any (w : World) {b o c N : Nat} (hb : b < w.heap.size) (hc : w.cell? ⟨b, o, none⟩ = some (.int .i64 (-1))) (hT : tabN N) :
    Calls Try.prog 105 #[.slice (some ⟨b, o, none⟩) 1 c, .int .i64 (N : Int)] w (RepR w N) := by
  have hN := tabN_bd hT
  have HT := Lib.hid hT
  have hw : IntKind.u64.wrap (N : Int) = N := by rw [IntKind.wrap_u64]; omega
  have hw2 : IntKind.i64.wrap (N : Int) = N := wrap_small (by omega) (by omega)
  have hno : decide ((N : Int) < 0) = false := by simp
  have hno2 : decide ((9223372036854775807 : Int) < (N : Int)) = false := by simp; omega
  have hmin : [Value.int .i64 (-1)].length = Nat.min 1 N := (Nat.min_eq_left hN.1).symm
  have hfit : 0 + [Value.int .i64 (-1)].length ≤ (mone 0 N).length := by rw [mone_len (Nat.zero_le _)]; exact hN.1
  have hone : ∀ v ∈ [Value.int .i64 (-1)], v.oneCell' = true := by intro v hv; rw [List.mem_singleton.1 hv]; rfl
  clear hT
  go_enter Try.func105, Try.ntmps105
  go_wp2_with (first | (go_at_call 134; refine (Mul_one N HT.out _).mono ?_; rintro e _ ⟨rfl, rfl⟩) | (refine wpList_mkI _ rfl _ _ 56 2 rfl Try.underlying56 infoInt w.heap.size N rfl rfl (by omega) (by decide) (by first | (simp; done) | omega) ?_; intro w1 hA hg1 hs1; have hb1 := below_of_grown hg1; have hh := hA.heapAt; have c1 := (hb1.cell (p := ⟨b, o, none⟩) hb).trans hc; rw [← mone_zero] at hh; have hpos := Lib.hid (rep_pos (g := w.heap.size) c1); clear hA hg1 hs1) | (with_reducible refine wpList_copy_splice rfl (.tmp 31) (.tmp 32) 56 56 rfl 2 Try.underlying56 (by kernel_rfl) (some ⟨w.heap.size, 0, none⟩) (some ⟨b, o, none⟩) N N 1 c rfl rfl w.heap.size 0 (mone 0 N) 2 hh [.int .i64 (-1)] hmin hpos.out hfit hone w.heap.size w hb1 (Nat.le_refl _) ?_; intro w2 hg2 hb2))
  have HG2 : Hid (w2.heap[w.heap.size]? = some (.cells (mone 1 N).toArray 2 (0, 0))) := by
    have h1 := hg2.out
    rw [show ([Value.int .i64 (-1)] : List Value) = List.replicate 1 (Value.int .i64 (-1)) from rfl, mone_splice (by omega)] at h1
    exact h1
  clear hg2 hh c1
  go_wp2_with fail
  go_loopw [8] (fun i wr => ∃ n : Nat, 1 ≤ n ∧ n ≤ N ∧ i = .int .i64 n ∧ wr.heap[w.heap.size]? = some (.cells (mone n N).toArray 2 (0, 0)) ∧ Below w.heap.size w wr) (fun i _ => N - (intOf i).toNat)
  case atStart => exact ⟨1, Nat.le_refl _, hN.1, by first | rfl | simp [goInt], HG2.out, hb2⟩
  case round =>
    obtain ⟨n, hn1, hnN, rfl, hg, hbe⟩ := hrel
    have HG := Lib.hid hg
    clear hg HG2
    by_cases hlt : n < N
    · obtain ⟨m, hm⟩ : ∃ m, m = Nat.min n (N - n) := ⟨_, rfl⟩
      have hm1 : m ≤ n ∧ m ≤ N - n ∧ 1 ≤ m := by rw [hm]; refine ⟨Nat.min_le_left _ _, Nat.min_le_right _ _, ?_⟩; show 1 ≤ min n (N - n); omega
      have HM : Hid ((List.replicate m (Value.int .i64 (-1))).length = Nat.min n (N - n)) := by unfold Hid; rw [List.length_replicate, hm]
      have HSP := Lib.hid (mone_splice (n := n) (m := m) (N := N) (by omega))
      have HCE := Lib.hid (fun j (hj : j < n) => mone_cell (n := n) (N := N) HG.out hj)
      have HON : Hid (∀ v ∈ List.replicate m (Value.int .i64 (-1)), v.oneCell' = true) := fun v hv => by rw [List.eq_of_mem_replicate hv]; rfl
      have hne : ¬ (N = n) := by omega
      have hwr : IntKind.i64.wrap ((n : Int) + (m : Int)) = ((n + m : Nat) : Int) := by rw [wrap_small (by omega) (by omega)]; omega
      clear hm
      go_wp2_with fail
      refine wp_region_T (fun _ => True) [7] (by kernel_rfl) trivial (fun hHeld => ?_)
      refine wpAnyT_any (i := 0) (v := ?_) rfl (by kernel_rfl) (fun _ _ _ h => h) (Or.inl ⟨by rfl, ?_⟩) (by first | exact fun _ => by assumption | (intro hp; exact absurd hp (by rw [show pastB _ _ = true by kernel_rfl]; simp))) ?_
      rotate_left
      · (intro w hSw; (try dsimp only at hSw); go_simp <;> with_reducible rfl)
      try simp only [Act.put]
      go_simp
      refine wpAnyT_take (i := 1) (v := ?_) rfl (by kernel_rfl) (fun _ _ _ h => h) (Or.inl ⟨by rfl, ?_⟩) (by assumption) ?_
      rotate_left
      · (intro w hSw; (try dsimp only at hSw); go_simp <;> with_reducible rfl)
      go_simp
      refine wpAnyT_take (i := 2) (v := ?_) rfl (by kernel_rfl) (fun _ _ _ h => h) (Or.inl ⟨by rfl, ?_⟩) (by assumption) ?_
      rotate_left
      · (intro w hSw; (try dsimp only at hSw); go_simp <;> with_reducible rfl)
      go_simp
      refine wpAnyT_take (i := 3) (v := ?_) rfl (by kernel_rfl) (fun _ _ _ h => h) (Or.inl ⟨by rfl, ?_⟩) (by assumption) ?_
      rotate_left
      · (intro w hSw; (try dsimp only at hSw); go_simp <;> with_reducible rfl)
      go_simp
      refine wpAnyT_take (i := 4) (v := ?_) rfl (by kernel_rfl) (fun _ _ _ h => h) (Or.inl ⟨by rfl, ?_⟩) (by assumption) ?_
      rotate_left
      · (intro w hSw; (try dsimp only at hSw); go_simp <;> with_reducible rfl)
      go_simp
      refine wpAnyT_take (i := 5) (v := ?_) rfl (by kernel_rfl) (fun _ _ _ h => h) (Or.inl ⟨by rfl, ?_⟩) (by assumption) ?_
      rotate_left
      · (intro w hSw; (try dsimp only at hSw); go_simp <;> with_reducible rfl)
      go_simp
      refine wpAnyT_take (i := 6) (v := ?_) rfl (by kernel_rfl) (fun _ _ _ h => h) (Or.inl ⟨by rfl, ?_⟩) (by assumption) ?_
      rotate_left
      · (intro w hSw; (try dsimp only at hSw); go_simp <;> with_reducible rfl)
      go_simp
      refine wpAnyT_last (i := 7) rfl (by kernel_rfl) (by kernel_rfl) (fun K hK => ?_)
      refine step_copy_splice rfl (.tmp 41) (.tmp 44) 56 56 rfl 2 Try.underlying56 (by kernel_rfl) (some ⟨w.heap.size, n, none⟩) (some ⟨w.heap.size, 0, none⟩) (N - n) (N - n) n N rfl rfl w.heap.size n (mone n N) 2 HG.out (List.replicate m (Value.int .i64 (-1))) HM.out (fun _ => ⟨rfl, _, rfl, fun j v hj => ?_⟩) (by rw [List.length_replicate, mone_len hnN]; omega) HON.out w.heap.size w (hbe.drew) (Nat.le_refl _) ?_
      · rw [List.getElem?_replicate] at hj
        by_cases hjm : j < m
        · rw [if_pos hjm] at hj
          obtain rfl := Option.some.inj hj
          have h1 := HCE.out j (by omega)
          cases j with
          | zero => simpa [Addr.add] using h1
          | succ j => simpa [Addr.add] using h1
        · rw [if_neg hjm] at hj
          cases hj
      intro w4 hg4 hb4
      rw [HSP.out] at hg4
      simp only [List.length_replicate]
      refine hK.out _ _ ?_
      clear hK K
      refine wpAnyT_last (i := 8) rfl (by kernel_rfl) (by kernel_rfl) (fun K hK => ?_)
      go_simp
      refine hK.out _ _ ?_
      clear hK K
      refine wpAnyT_last (i := 9) rfl (by kernel_rfl) (by kernel_rfl) (fun K hK => ?_)
      go_simp
      refine hK.out _ _ ?_
      clear hK K
      refine wpAnyT_done (by kernel_rfl) ?_ _
      go_simp
      go_wp2_with fail
      go_roundw
      case rel => exact ⟨n + m, by omega, by omega, by first | rfl | go_num | simp [goInt, hwr], hg4.out, hb4⟩
      case measure => (clear hwr; simp [intOf]; omega)
    · obtain rfl : n = N := by omega
      go_wp2_with fail
      go_ret
      exact ⟨_, rfl, Nat.le_refl _, HG.out, hbe⟩
end Go.Proofs.Ytjghcedmlklngaa
namespace Go.Proofs.Ytjghcedmlklngaa
open Go.RowKit Go.Sort
theorem cellsL_zero {s : Int} {ar : Nat} {r : Int × List (List Int)} {i : Int} : (cellsL s ar r i).take 0 = [] := List.take_zero
theorem fr_blk {α : Type} {E : Ty α} {base : Nat} {w : World} {b o n cap : Nat} {xs : List α} (h : (Ty.slice E).Fr base w [.slice (some ⟨b, o, none⟩) n cap] xs) (h0 : 0 < xs.length) : base ≤ b := by
  obtain ⟨fp, ⟨ad, cap', hv, _, _, h3⟩, _, h4, _⟩ := h
  rcases h3 with ⟨h3, _⟩ | ⟨_, b', o', fps, rfl, _, rfl, _⟩
  · omega
  · simp only [List.cons.injEq, Value.slice.injEq, Option.some.injEq, Addr.mk.injEq, and_true] at hv
    obtain ⟨⟨rfl, rfl⟩, -, -⟩ := hv
    exact h4 _ (List.mem_cons_self ..)
theorem col_at {ts : List (List Int)} {n ar : Nat} {i : Int} {p q dn : Nat} (hn : ts.length = n) (hq : q < (digL (n : Int) i ar).length) (hd : (digL (n : Int) i ar)[q] = (dn : Int)) (hdn : dn < ts.length) (hp : p < (ts[dn]).length) (hq' : q < (colL (picks ts ar i) p).length) : (colL (picks ts ar i) p)[q] = (ts[dn])[p] := by
  subst hn
  simp [colL, picks, hd, hdn, hp]
theorem picks_tups {s : Int} {ar : Nat} {r : Int × List (List Int)} {i : Int} (hr : relOk s r) (h0 : 0 < r.2.length) : tupsOk s (ar : Int) r.1.toNat (picks r.2 ar i) := by
  refine ⟨by rw [picks_len], fun u hu => ?_⟩
  obtain ⟨k, hk, rfl⟩ := List.mem_map.1 hu
  have hk2 := dig_mem (n := (r.2.length : Int)) (by omega) hk
  have hkl : k.toNat < r.2.length := by omega
  rw [List.getD_eq_getElem?_getD, List.getElem?_eq_getElem hkl]
  obtain ⟨h1, h2⟩ := (hr.2.2 k.toNat hkl).1
  have := hr.2.1
  exact ⟨by show (r.2[k.toNat]).length = r.1.toNat; omega, h2⟩
theorem cells_get {s : Int} {ar : Nat} {r : Int × List (List Int)} {i : Int} {p : Nat} (h : p < r.1.toNat) : (cellsL s ar r i).take p ++ [idxL s 0 (colL (picks r.2 ar i) p)] = (cellsL s ar r i).take (p + 1) := by
  have h' : p < (cellsL s ar r i).length := by rw [cells_len]; exact h
  rw [List.take_succ_eq_append_getElem h']
  simp [cellsL]
abbrev ZP := (Int × List Int) × (Int × Value)
def zF (Z : List ZP) (v : Nat) : List ZP := Z.filter fun z => topI z.1.2 == (v : Int)
theorem zF_nil {v : Nat} : zF [] v = [] := rfl
theorem zF_yes {Z : List ZP} {z : ZP} {v : Nat} (h : topI z.1.2 = (v : Int)) : zF (Z ++ [z]) v = zF Z v ++ [z] := by
  unfold zF
  rw [List.filter_append]
  simp [h]
theorem zF_no {Z : List ZP} {z : ZP} {v : Nat} (h : topI z.1.2 ≠ (v : Int)) : zF (Z ++ [z]) v = zF Z v := by
  unfold zF
  rw [List.filter_append]
  simp [h]
theorem zF_fst {Z : List ZP} {v : Nat} : (zF Z v).map (·.1) = dueF (Z.map (·.1)) v := by
  unfold zF dueF
  rw [List.filter_map]
  rfl
theorem zF_mem {Z : List ZP} {v : Nat} {z : ZP} (h : z ∈ zF Z v) : z ∈ Z := (List.mem_filter.1 h).1
theorem zF_len {Z : List ZP} {v : Nat} : (zF Z v).length ≤ Z.length := List.length_filter_le _ _
/-- blocks of what is finished -/
def okN (base N : Nat) (us : Nat → Value) (vin : Value) (k : Nat) : Prop := base ≤ k ∧ (∀ v, v < N → (us v).ownBlock ≠ some k) ∧ vin.ownBlock ≠ some k
structure FinS (B : Ty (List Bool)) (eL eR eB base N : Nat) (w : World) (g : Nat) (us : Nat → Value) (vin : Value) (Z : List ZP) (vs : List Value) (ins : List (List Bool)) : Prop where
  du : DU eL eR base w.heap.size w g N us (fun v => (zF Z v).map (·.2))
  zs : ∀ z ∈ Z, pvR (okN base N us vin) w z
  vi : Bl Ty.val eB base w.heap.size w vin vs
  bl : vs.length = ins.length
  br : ∀ i (h : i < vs.length) (h' : i < ins.length), B.RdP (okN base N us vin) w [vs[i]] ins[i]
  vu : ∀ v, v < N → ∀ k, (us v).ownBlock = some k → vin.ownBlock ≠ some k
section
variable {B : Ty (List Bool)} {eL eR eB base N g : Nat} {w w' : World} {us : Nat → Value} {vin : Value} {Z : List ZP} {vs : List Value} {ins : List (List Bool)}
theorem FinS.lt (h : FinS B eL eR eB base N w g us vin Z vs ins) : g < w.heap.size := h.du.lt
theorem FinS.below (h : FinS B eL eR eB base N w g us vin Z vs ins) (hB : base ≤ w.heap.size) (hb : Below w.heap.size w w') : FinS B eL eR eB base N w' g us vin Z vs ins :=
  ⟨(h.du.below hb (Nat.le_refl _) hB).mono hb.size, fun z hz => (h.zs z hz).below hb, (h.vi.below hb (Nat.le_refl _)).mono hb.size, h.bl, fun i h1 h2 => (h.br i h1 h2).below hb, h.vu⟩
/-- a cell of an older block -/
theorem FinS.set {b i : Nat} {u : Value} (h : FinS B eL eR eB base N w g us vin Z vs ins) (hb : b < base) (hg : b ≠ g) : FinS B eL eR eB base N (w.setCell ⟨b, i, none⟩ u) g us vin Z vs ins := by
  have ht : TchP (fun k => k = b) w (w.setCell ⟨b, i, none⟩ u) := TchP.set rfl
  have hk : ∀ k, k < w.heap.size → okN base N us vin k → ¬ (k = b) := fun k _ hk e => by have := hk.1; omega
  have hz : (w.setCell ⟨b, i, none⟩ u).heap.size = w.heap.size := by simp [World.setCell]
  have hh : ∀ k, k ≠ b → (w.setCell ⟨b, i, none⟩ u).heap[k]? = w.heap[k]? := fun k hk => Below.heap_setCell _ _ _ _ hk
  refine ⟨?_, fun z hz => (h.zs z hz).tchP ht hk, bl_val_same h.vi (fun q hq => hh q (by have := h.vi.ge hq; omega)) (by rw [hz]; exact Nat.le_refl _), h.bl, fun j h1 h2 => (h.br j h1 h2).tchP ht hk, h.vu⟩
  obtain ⟨d1, d2, d3, d4⟩ := h.du
  refine ⟨owns_same d1 (hh g (Ne.symm hg)), d2, fun v hv => ?_, d4⟩
  exact pv_same (d3 v hv) (fun q hq => hh q (by have := (d3 v hv).ge hq; omega)) (by rw [hz]; exact Nat.le_refl _)
/-- one more set -/
theorem FinS.pushIn {v' x : Value} {L : List Bool} (h : FinS B eL eR eB base N w g us vin Z vs ins) (_ : base ≤ w.heap.size) (hB : Bl Ty.val eB base w'.heap.size w' v' (vs ++ [x])) (hg : w.grownBy w' vin.ownBlock) (hv : v'.ownBlock = vin.ownBlock ∨ v'.ownBlock = some w.heap.size) (hx : B.RdP (okN base N us vin) w [x] L) :
    FinS B eL eR eB base N w' g us v' Z (vs ++ [x]) (ins ++ [L]) := by
  have ht : TchP (fun k => vin.ownBlock = some k) w w' := TchP.grown hg (fun k h => h)
  have hk : ∀ k, k < w.heap.size → okN base N us vin k → ¬ (vin.ownBlock = some k) := fun k _ hk e => hk.2.2 e
  have hm : ∀ k, k < w'.heap.size → k < w.heap.size → okN base N us vin k → okN base N us v' k := fun k _ hl hk => ⟨hk.1, hk.2.1, fun e => by
    rcases hv with hv | hv
    · rw [hv] at e; exact hk.2.2 e
    · rw [hv] at e; simp at e; omega⟩
  have key : ∀ {α : Type} {E : Ty α} {cs : List Value} {y : α}, E.RdP (okN base N us vin) w cs y → E.RdP (okN base N us v') w' cs y := fun {α} {E} {cs} {y} hy => by
    obtain ⟨fp, h1, h2⟩ := hy
    have hlt := E.lt h1
    exact ⟨fp, E.same h1 (fun k hk' => ht.block k (hlt k hk') (hk k (hlt k hk') (h2 k hk'))), fun k hk' => hm k (Nat.lt_of_lt_of_le (hlt k hk') ht.size) (hlt k hk') (h2 k hk')⟩
  obtain ⟨d1, d2, d3, d4⟩ := h.du
  refine ⟨⟨owns_same d1 (hg.block g h.lt (fun e => by have := h.vi.ge e.symm; omega)), d2, fun v hv' => ?_, d4⟩, fun z hz => ⟨(h.zs z hz).1, (h.zs z hz).2.1, key (h.zs z hz).2.2⟩, hB, by simp [h.bl], fun i h1 h2 => ?_, fun v hv' k hk' e => ?_⟩
  · exact pv_same (d3 v hv') (fun q hq => hg.block q ((d3 v hv').lt_top hq) (fun e => h.vu v hv' q hq e.symm)) hg.size
  · rcases Nat.lt_or_ge i vs.length with hi | hi
    · rw [List.getElem_append_left hi, List.getElem_append_left (by rw [← h.bl]; exact hi)]
      exact key (h.br i hi (by rw [← h.bl]; exact hi))
    · obtain rfl : i = vs.length := by simp at h1; omega
      have e1 : (vs ++ [x])[vs.length]'h1 = x := by simp
      have e2 : (ins ++ [L])[vs.length]'h2 = L := by simp [h.bl]
      rw [e1, e2]
      exact key hx
  · rcases hv with hv | hv
    · rw [hv] at e; exact h.vu v hv' k hk' e
    · rw [hv] at e
      simp at e
      have := (d3 v hv').lt_top hk'
      omega
/-- one more list that is due -/
theorem FinS.pushDue {l : Nat} {v1 : Value} {z : ZP} (h : FinS B eL eR eB base N w g us vin Z vs ins) (_ : base ≤ w.heap.size) (hl : l < N) (ht : topI z.1.2 = (l : Int)) (hB : Bl pvT eL base w'.heap.size w' v1 ((zF Z l).map (·.2) ++ [z.2])) (hg : w.grownBy w' (us l).ownBlock) (hv : v1.ownBlock = (us l).ownBlock ∨ v1.ownBlock = some w.heap.size) (hz : pvR (okN base N us vin) w z) :
    FinS B eL eR eB base N (w'.setCell ⟨g, l, none⟩ v1) g (fun v => if v = l then v1 else us v) vin (Z ++ [z]) vs ins := by
  have hd := DU.push h.du hl hB hg hv (Nat.le_refl _)
  have hzz : (w'.setCell ⟨g, l, none⟩ v1).heap.size = w'.heap.size := by simp [World.setCell]
  have hgb' : g < base := h.du.2.1
  have hs : ∀ k, k < w.heap.size → (us l).ownBlock ≠ some k → k ≠ g → (w'.setCell ⟨g, l, none⟩ v1).heap[k]? = w.heap[k]? := fun k hk hne hkg => (Below.heap_setCell _ _ _ _ (by simpa using hkg)).trans (hg.block k hk (fun e => hne e.symm))
  have hm : ∀ k, k < w.heap.size → okN base N us vin k → okN base N (fun v => if v = l then v1 else us v) vin k := fun k hk' hk => ⟨hk.1, fun v hv' => by
    by_cases e : v = l
    · simp only [if_pos e]
      rcases hv with hv | hv
      · rw [hv]; exact hk.2.1 l hl
      · rw [hv]; intro e'; simp at e'; omega
    · simp only [if_neg e]; exact hk.2.1 v hv', hk.2.2⟩
  have key : ∀ {α : Type} {E : Ty α} {cs : List Value} {y : α}, E.RdP (okN base N us vin) w cs y → E.RdP (okN base N (fun v => if v = l then v1 else us v) vin) (w'.setCell ⟨g, l, none⟩ v1) cs y := fun {α} {E} {cs} {y} hy => by
    obtain ⟨fp, h1, h2⟩ := hy
    have hlt := E.lt h1
    exact ⟨fp, E.same h1 (fun k hk' => hs k (hlt k hk') ((h2 k hk').2.1 l hl) (by have := (h2 k hk').1; omega)), fun k hk' => hm k (hlt k hk') (h2 k hk')⟩
  refine ⟨?_, fun y hy => ?_, bl_val_same h.vi (fun q hq => hs q (h.vi.lt_top hq) (fun e => h.vu l hl q e hq) (by have := h.vi.ge hq; omega)) (by rw [hzz]; exact hg.size), h.bl, fun i h1 h2 => key (h.br i h1 h2), fun v hv' k hk' e => ?_⟩
  · rw [hzz]
    have e : (fun v => if v = l then (zF Z l).map (·.2) ++ [z.2] else (zF Z v).map (·.2)) = fun v => (zF (Z ++ [z]) v).map (·.2) := by
      funext v
      by_cases e : v = l
      · subst e
        rw [if_pos rfl, zF_yes ht, List.map_append]
        rfl
      · rw [if_neg e, zF_no (by rw [ht]; intro h; exact e (by omega))]
    rw [e] at hd
    exact hd
  · rcases List.mem_append.1 hy with hy | hy
    · exact ⟨(h.zs y hy).1, (h.zs y hy).2.1, key (h.zs y hy).2.2⟩
    · rw [List.mem_singleton.1 hy]
      exact ⟨hz.1, hz.2.1, key hz.2.2⟩
  · by_cases e' : v = l
    · simp only [if_pos e'] at hk'
      rcases hv with hv | hv
      · rw [hv] at hk'; exact h.vu l hl k hk' e
      · rw [hv] at hk'
        simp at hk'
        have := h.vi.lt_top e
        omega
    · simp only [if_neg e'] at hk'
      exact h.vu v hv' k hk' e
/-- what they read as in the end -/
theorem FinS.dues (h : FinS B eL eR eB base N w g us vin Z vs ins) (hN : N ≤ 1000) (hZ : Z.length ≤ 1000000) : duesT.RdP (fun k => k = g ∨ base ≤ k) w [.slice (some ⟨g, 0, none⟩) N N] (duesF (Z.map (·.1)) N) := by
  have h1 := dues_of (ok := fun k => k = g ∨ base ≤ k) h.du (by unfold capMax; omega) (fun v _ => by have := zF_len (Z := Z) (v := v); unfold capMax; omega) (fun v _ z hz => (h.zs z (zF_mem hz)).mono (fun k _ hk => .inr hk.1)) (.inl rfl) (fun k hk _ => .inr hk)
  have h2 : (fun v => (zF Z v).map (·.1)) = dueF (Z.map (·.1)) := by
    funext v
    exact zF_fst
  have h3 : ((List.range N).map fun v => (zF Z v).map (·.1)) = duesF (Z.map (·.1)) N := by
    unfold duesF
    rw [← h2]
  rw [h3] at h1
  exact h1
theorem FinS.sets (h : FinS B eL eR eB base N w g us vin Z vs ins) (hB : B.sz = 1) (hn : vs.length ≤ 1000) : (Ty.slice B).RdP (fun k => k = g ∨ base ≤ k) w [vin] ins :=
  rows_ofP hB (bl_val_rdP h.vi (by unfold capMax; omega) (fun q hq => .inr (h.vi.ge hq))) h.bl (fun i h1 h2 => (h.br i h1 h2).mono (fun k _ hk => .inr hk.1))
end
/-- nothing is there yet -/
theorem FinS.start {B : Ty (List Bool)} {eL eR eB base N g : Nat} {w : World} (h : ∀ eA top, DU eA eR base top w g N (fun _ => .slice none 0 0) (fun _ => [])) : FinS B eL eR eB base N w g (fun _ => .slice none 0 0) (.slice none 0 0) [] [] [] :=
  ⟨by simpa [zF] using h eL w.heap.size, fun z hz => by simp at hz, Bl.nil, rfl, fun i h => by simp at h, fun v _ k hk => by simp [Value.ownBlock] at hk⟩
end Go.Proofs.Ytjghcedmlklngaa
namespace Go.Proofs.Ytjghcedmlklngaa
open Go.RowKit
section
variable {P : Program} {ops : Array Oper} {Q : Exit → Act → World → Prop} {md : Region.Mode} {S : World → Prop} {tail : List Nat}
/-- number i comes up -/
def stepT (P : Program) (md : Region.Mode) (ops : Array Oper) (Q : Exit → Act → World → Prop) (S : World → Prop) (tail : List Nat) (fuel : Nat) (listed : Array Bool) (a : Act) (w : World) (i : Nat) (o : Oper) : Prop :=
  ∀ K' : Act → World → Prop, Shut (∀ a w, S w → (S w → wpAnyT P md ops Q S tail fuel (listed.setIfInBounds i true) a w) → K' a w) → if Region.wanted o (yielded ops a.tmps) = true then Oper.wp P o a w K' Q else K' (a.put o.dst undef) w
theorem wpAnyT_two {i j : Nat} {oi oj : Oper} {fuel : Nat} {listed : Array Bool} {a : Act} {w : World} (hi : ops[i]? = some oi) (hj : ops[j]? = some oj) (hr : Region.ready md ops listed = [i, j])
    (h1 : stepT P md ops Q S tail fuel listed a w i oi) (h2 : stepT P md ops Q S tail fuel listed a w j oj) : wpAnyT P md ops Q S tail (fuel + 1) listed a w := by
  refine ⟨fun h0 => (by rw [h0] at hr; cases hr), fun k hk => ?_⟩
  rw [hr] at hk
  have hk' : k = i ∨ k = j := by simpa using hk
  rcases hk' with rfl | rfl
  · exact wpOp_step hi (fun K' hK => h1 K' (fun a w hS hW => hK a w ⟨fun _ => hS, hW hS⟩))
  · exact wpOp_step hj (fun K' hK => h2 K' (fun a w hS hW => hK a w ⟨fun _ => hS, hW hS⟩))
theorem wpAnyT_three {i j k : Nat} {oi oj ok : Oper} {fuel : Nat} {listed : Array Bool} {a : Act} {w : World} (hi : ops[i]? = some oi) (hj : ops[j]? = some oj) (hk : ops[k]? = some ok) (hr : Region.ready md ops listed = [i, j, k])
    (h1 : stepT P md ops Q S tail fuel listed a w i oi) (h2 : stepT P md ops Q S tail fuel listed a w j oj) (h3 : stepT P md ops Q S tail fuel listed a w k ok) : wpAnyT P md ops Q S tail (fuel + 1) listed a w := by
  refine ⟨fun h0 => (by rw [h0] at hr; cases hr), fun q hq => ?_⟩
  rw [hr] at hq
  have hq' : q = i ∨ q = j ∨ q = k := by simpa using hq
  rcases hq' with rfl | rfl | rfl
  · exact wpOp_step hi (fun K' hK => h1 K' (fun a w hS hW => hK a w ⟨fun _ => hS, hW hS⟩))
  · exact wpOp_step hj (fun K' hK => h2 K' (fun a w hS hW => hK a w ⟨fun _ => hS, hW hS⟩))
  · exact wpOp_step hk (fun K' hK => h3 K' (fun a w hS hW => hK a w ⟨fun _ => hS, hW hS⟩))
end
/-- two boxes of two cells, filled -/
theorem two_boxes {α β : Type} {E : Ty α} {F : Ty β} {w1 x : World} {b1 b2 l1 h1 l2 h2 : Nat} {u0 u1 v0 v1 y0 y1 z0 z1 : Value} {r : α} {s : β} (hb : Below w1.heap.size w1 x) (hb1 : w1.heap.size ≤ b1) (hb2 : w1.heap.size ≤ b2) (g1 : b1 < x.heap.size) (g2 : b2 < x.heap.size) (hne : b1 ≠ b2)
    (k10 : x.cell? ⟨b1, 0, none⟩ = some y0) (k11 : x.cell? ⟨b1, 1, none⟩ = some y1) (k20 : x.cell? ⟨b2, 0, none⟩ = some z0) (k21 : x.cell? ⟨b2, 1, none⟩ = some z1)
    (R1 : E.RdP (fun k => l1 ≤ k ∧ k < h1) x [u0, u1] r) (R2 : F.RdP (fun k => l2 ≤ k ∧ k < h2) x [v0, v1] s) (a1 : b1 < l1 ∨ h1 ≤ b1) (a2 : b2 < l1 ∨ h1 ≤ b2) (c1 : b1 < l2 ∨ h2 ≤ b1) (c2 : b2 < l2 ∨ h2 ≤ b2) :
    E.Pt ((((x.setCell ⟨b1, 0, none⟩ u0).setCell ⟨b1, 1, none⟩ u1).setCell ⟨b2, 0, none⟩ v0).setCell ⟨b2, 1, none⟩ v1) (.pointer (some ⟨b1, 0, none⟩)) r ∧
      F.Pt ((((x.setCell ⟨b1, 0, none⟩ u0).setCell ⟨b1, 1, none⟩ u1).setCell ⟨b2, 0, none⟩ v0).setCell ⟨b2, 1, none⟩ v1) (.pointer (some ⟨b2, 0, none⟩)) s ∧
      Below w1.heap.size w1 ((((x.setCell ⟨b1, 0, none⟩ u0).setCell ⟨b1, 1, none⟩ u1).setCell ⟨b2, 0, none⟩ v0).setCell ⟨b2, 1, none⟩ v1) := by
  have hS : ∀ (fp : List Nat) (l h : Nat), (∀ k ∈ fp, l ≤ k ∧ k < h) → (b1 < l ∨ h ≤ b1) → (b2 < l ∨ h ≤ b2) → Same fp x ((((x.setCell ⟨b1, 0, none⟩ u0).setCell ⟨b1, 1, none⟩ u1).setCell ⟨b2, 0, none⟩ v0).setCell ⟨b2, 1, none⟩ v1) := by
    intro fp l h hf h1 h2 k hk
    have := hf k hk
    rw [Below.heap_setCell _ _ _ _ (show k ≠ (⟨b2, 1, none⟩ : Addr).block by simp; omega), Below.heap_setCell _ _ _ _ (show k ≠ (⟨b2, 0, none⟩ : Addr).block by simp; omega), Below.heap_setCell _ _ _ _ (show k ≠ (⟨b1, 1, none⟩ : Addr).block by simp; omega), Below.heap_setCell _ _ _ _ (show k ≠ (⟨b1, 0, none⟩ : Addr).block by simp; omega)]
  have hc1 : b2 ≠ b1 := Ne.symm hne
  obtain ⟨f1, r1, r2⟩ := R1
  obtain ⟨f2, s1, s2⟩ := R2
  refine ⟨⟨b1, 0, [u0, u1], rfl, by simpa [World.setCell] using g1, ⟨f1, E.same r1 (hS f1 _ _ r2 a1 a2)⟩, fun j hj => ?_⟩, ⟨b2, 0, [v0, v1], rfl, by simpa [World.setCell] using g2, ⟨f2, F.same s1 (hS f2 _ _ s2 c1 c2)⟩, fun j hj => ?_⟩, ?_⟩
  · rcases (show j = 0 ∨ j = 1 by simp at hj; omega) with rfl | rfl
    · rw [World.cell?_setCell_other _ _ _ _ (by simp), World.cell?_setCell_other _ _ _ _ (by simp), World.cell?_setCell_other _ _ _ _ (by simp), World.cell?_setCell_same _ _ _ k10]
      rfl
    · rw [World.cell?_setCell_other _ _ _ _ (by simp), World.cell?_setCell_other _ _ _ _ (by simp), World.cell?_setCell_same _ _ _ ((World.cell?_setCell_other _ _ _ _ (by simp)).trans k11)]
      rfl
  · rcases (show j = 0 ∨ j = 1 by simp at hj; omega) with rfl | rfl
    · rw [World.cell?_setCell_other _ _ _ _ (by simp), World.cell?_setCell_same _ _ _ ((World.cell?_setCell_other _ _ _ _ (by simp)).trans ((World.cell?_setCell_other _ _ _ _ (by simp)).trans k20))]
      rfl
    · rw [World.cell?_setCell_same _ _ _ ((World.cell?_setCell_other _ _ _ _ (by simp)).trans ((World.cell?_setCell_other _ _ _ _ (by simp)).trans ((World.cell?_setCell_other _ _ _ _ (by simp)).trans k21)))]
      rfl
  · exact (((hb.setCell hb1 _).setCell hb1 _).setCell hb2 _).setCell hb2 _
end Go.Proofs.Ytjghcedmlklngaa
