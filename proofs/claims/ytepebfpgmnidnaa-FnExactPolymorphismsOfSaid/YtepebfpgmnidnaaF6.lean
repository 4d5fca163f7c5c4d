/-
  Contracts: a row of one number so many times (slices.Repeat, for the few lengths that occur).
-/
import Derived.Test.YtepebfpgmnidnaaF3
import Derived.Test.YtepebfpgmnidnaaReg
import Derived.Test.YtepebfpgmnidnaaK21
import Derived.Laws.CopyOwn
import Derived.Test.YtepebfpgmnidnaaK14
namespace Go.Proofs.Ytepebfpgmnidnaa
open Go.RowKit Go.Sort
/-- the lengths of the tables of operations -/
def tabN (N : Nat) : Prop := N = 1 ∨ N = 2 ∨ N = 3 ∨ N = 4 ∨ N = 8 ∨ N = 9 ∨ N = 16 ∨ N = 27 ∨ N = 64
theorem tabN_of {s : Int} {ar N : Nat} (hs : 1 ≤ s ∧ s ≤ 4) (har : 1 ≤ ar ∧ ar ≤ 3) (hN : s ^ ar = (N : Int)) : tabN N := by
  obtain ⟨q, rfl⟩ : ∃ q : Nat, s = q := ⟨s.toNat, by omega⟩
  have h : q ^ ar = N := by rw [← Int.natCast_pow] at hN; exact Int.ofNat.inj hN
  subst h
  unfold tabN
  rcases (show ar = 1 ∨ ar = 2 ∨ ar = 3 by omega) with rfl | rfl | rfl <;> rcases (show q = 1 ∨ q = 2 ∨ q = 3 ∨ q = 4 by omega) with rfl | rfl | rfl | rfl <;> decide
theorem tabN_bd {N : Nat} (h : tabN N) : 1 ≤ N ∧ N ≤ 64 := by unfold tabN at h; omega
set_option maxHeartbeats 1600000 in
theorem Mul64_one (N : Nat) (h : tabN N) (w : World) : Calls Try.prog 198 #[.int .u64 1, .int .u64 (N : Int)] w fun e w' => e = .returned (.tuple #[.int .u64 0, .int .u64 (N : Int)]) ∧ w = w' := by
  rcases h with rfl | rfl | rfl | rfl | rfl | rfl | rfl | rfl | rfl
  all_goals
    go_enter Try.func198, Try.ntmps198
    go_wp2
    go_ret2
    exact ⟨rfl, rfl⟩
set_option maxHeartbeats 1600000 in
theorem Mul_one (N : Nat) (h : tabN N) (w : World) : Calls Try.prog 187 #[.int .u64 1, .int .u64 (N : Int)] w fun e w' => e = .returned (.tuple #[.int .u64 0, .int .u64 (N : Int)]) ∧ w = w' := by
  go_enter Try.func187, Try.ntmps187
  go_wp2_with (go_at_call 198; refine (Mul64_one N h _).mono ?_; rintro e _ ⟨rfl, rfl⟩)
  go_ret2
  exact ⟨rfl, rfl⟩
theorem IR.heapAt {e base : Nat} {w : World} {g n : Nat} {L : List Int} (h : IR e base w g n n L) : w.heap[g]? = some (.cells (L.map (Value.int .i64)).toArray e (0, 0)) := by
  obtain ⟨h1, h2, h3, h4, h5⟩ := h
  rcases h5 with ⟨h6, _⟩ | ⟨g', cap, cur, hv, hg, hh, hn, hc, hcs, hL⟩
  · simp at h6
  · simp only [Value.slice.injEq, Option.some.injEq, Addr.mk.injEq, and_true, true_and] at hv
    obtain ⟨rfl, rfl⟩ := hv
    rw [hh]
    have : cur = (L.map (Value.int .i64)).toArray := by
      rw [← hL, List.take_of_length_le (by simp [hcs])]
    rw [this]
def mone (n N : Nat) : List Value := List.replicate n (Value.int .i64 (-1)) ++ List.replicate (N - n) (Value.int .i64 0)
theorem mone_len {n N : Nat} (h : n ≤ N) : (mone n N).length = N := by simp [mone]; omega
theorem mone_zero {N : Nat} : mone 0 N = (List.replicate N (0 : Int)).map (Value.int .i64) := by simp [mone]
theorem mone_full {N : Nat} : mone N N = List.replicate N (Value.int .i64 (-1)) := by simp [mone]
theorem mone_splice {n m N : Nat} (h : n + m ≤ N) : splice (mone n N) n (List.replicate m (Value.int .i64 (-1))) = mone (n + m) N := by
  unfold splice mone
  rw [List.take_append_of_le_length (by simp), List.take_of_length_le (by simp), List.drop_append, List.length_replicate, List.length_replicate, List.drop_of_length_le (by simp), List.nil_append, List.drop_replicate, ← List.append_assoc, List.replicate_append_replicate, show N - n - (n + m - n) = N - (n + m) by omega]
theorem mone_cell {w : World} {g n N : Nat} {t : TypeId} (hg : w.heap[g]? = some (.cells (mone n N).toArray t (0, 0))) {j : Nat} (hj : j < n) : w.cell? ⟨g, j, none⟩ = some (.int .i64 (-1)) := by
  simp [World.cell?, hg, mone, List.getElem?_append_left, hj]
theorem rep_pos {w1 : World} {b o g : Nat} (c1 : w1.cell? ⟨b, o, none⟩ = some (.int .i64 (-1))) : 0 < [Value.int .i64 (-1)].length → (some (⟨g, 0, none⟩ : Addr) = some ⟨g, 0, none⟩) ∧ ∃ ad, some (⟨b, o, none⟩ : Addr) = some ad ∧ ∀ j v, [Value.int .i64 (-1)][j]? = some v → w1.cell? (ad.add j) = some v :=
  fun _ => ⟨rfl, _, rfl, fun j v hj => by
    cases j with
    | zero => simp at hj; subst hj; simpa [Addr.add] using c1
    | succ j => simp at hj⟩
def RepR (w : World) (N : Nat) (e : Ending) (w' : World) : Prop := ∃ g, e = .returned (.slice (some ⟨g, 0, none⟩) N N) ∧ w.heap.size ≤ g ∧ w'.heap[g]? = some (.cells (mone N N).toArray 2 (0, 0)) ∧ Below w.heap.size w w'
set_option maxHeartbeats 3200000 in
set_option maxRecDepth 100000 in
theorem Repeat_any (w : World) {b o c N : Nat} (hb : b < w.heap.size) (hc : w.cell? ⟨b, o, none⟩ = some (.int .i64 (-1))) (hT : tabN N) :
    Calls Try.prog 164 #[.slice (some ⟨b, o, none⟩) 1 c, .int .i64 (N : Int)] w (RepR w N) := by
  have hN := tabN_bd hT
  have HT := Lib.hid hT
  have hw : IntKind.u64.wrap (N : Int) = N := by rw [IntKind.wrap_u64]; omega
  have hw2 : IntKind.i64.wrap (N : Int) = N := wrap_small (by omega) (by omega)
  have hno : decide ((N : Int) < 0) = false := by simp
  have hno2 : decide ((9223372036854775807 : Int) < (N : Int)) = false := by simp; omega
  have hmin : [Value.int .i64 (-1)].length = Nat.min 1 N := (Nat.min_eq_left hN.1).symm
  have hfit : 0 + [Value.int .i64 (-1)].length ≤ (mone 0 N).length := by rw [mone_len (Nat.zero_le _)]; exact hN.1
  have hone : ∀ v ∈ [Value.int .i64 (-1)], v.oneCell' = true := by intro v hv; rw [List.mem_singleton.1 hv]; rfl
  clear hT
  go_enter Try.func164, Try.ntmps164
  go_wp2_with (first | (go_at_call 187; refine (Mul_one N HT.out _).mono ?_; rintro e _ ⟨rfl, rfl⟩) | (refine wpList_mkI _ rfl _ _ 62 2 rfl Try.underlying62 infoInt w.heap.size N rfl rfl (by omega) (by decide) (by first | (simp; done) | omega) ?_; intro w1 hA hg1 hs1; have hb1 := below_of_grown hg1; have hh := hA.heapAt; have c1 := (hb1.cell (p := ⟨b, o, none⟩) hb).trans hc; rw [← mone_zero] at hh; have hpos := Lib.hid (rep_pos (g := w.heap.size) c1); clear hA hg1 hs1) | (with_reducible refine wpList_copy_splice rfl (.tmp 31) (.tmp 32) 62 62 rfl 2 Try.underlying62 (by kernel_rfl) (some ⟨w.heap.size, 0, none⟩) (some ⟨b, o, none⟩) N N 1 c rfl rfl w.heap.size 0 (mone 0 N) 2 hh [.int .i64 (-1)] hmin hpos.out hfit hone w.heap.size w hb1 (Nat.le_refl _) ?_; intro w2 hg2 hb2))
  have HG2 : Hid (w2.heap[w.heap.size]? = some (.cells (mone 1 N).toArray 2 (0, 0))) := by
    have h1 := hg2.out
    rw [show ([Value.int .i64 (-1)] : List Value) = List.replicate 1 (Value.int .i64 (-1)) from rfl, mone_splice (by omega)] at h1
    exact h1
  clear hg2 hh c1
  go_wp2_with fail
  go_loopw [8] (fun i wr => ∃ n : Nat, 1 ≤ n ∧ n ≤ N ∧ i = .int .i64 n ∧ wr.heap[w.heap.size]? = some (.cells (mone n N).toArray 2 (0, 0)) ∧ Below w.heap.size w wr) (fun i _ => N - (intOf i).toNat)
  case atStart => exact ⟨1, Nat.le_refl _, hN.1, by first | rfl | simp [goInt], HG2.out, hb2⟩
  case round =>
    obtain ⟨n, hn1, hnN, rfl, hg, hbe⟩ := hrel
    have HG := Lib.hid hg
    clear hg HG2
    by_cases hlt : n < N
    · obtain ⟨m, hm⟩ : ∃ m, m = Nat.min n (N - n) := ⟨_, rfl⟩
      have hm1 : m ≤ n ∧ m ≤ N - n ∧ 1 ≤ m := by rw [hm]; refine ⟨Nat.min_le_left _ _, Nat.min_le_right _ _, ?_⟩; show 1 ≤ min n (N - n); omega
      have HM : Hid ((List.replicate m (Value.int .i64 (-1))).length = Nat.min n (N - n)) := by unfold Hid; rw [List.length_replicate, hm]
      have HSP := Lib.hid (mone_splice (n := n) (m := m) (N := N) (by omega))
      have HCE := Lib.hid (fun j (hj : j < n) => mone_cell (n := n) (N := N) HG.out hj)
      have HON : Hid (∀ v ∈ List.replicate m (Value.int .i64 (-1)), v.oneCell' = true) := fun v hv => by rw [List.eq_of_mem_replicate hv]; rfl
      have hne : ¬ (N = n) := by omega
      have hwr : IntKind.i64.wrap ((n : Int) + (m : Int)) = ((n + m : Nat) : Int) := by rw [wrap_small (by omega) (by omega)]; omega
      clear hm
      go_wp2_with fail
      refine wp_region_T (fun _ => True) [7] (by kernel_rfl) trivial (fun hHeld => ?_)
      refine wpAnyT_any (i := 0) (v := ?_) rfl (by kernel_rfl) (fun _ _ _ h => h) (Or.inl ⟨by rfl, ?_⟩) (by first | exact fun _ => by assumption | (intro hp; exact absurd hp (by rw [show pastB _ _ = true by kernel_rfl]; simp))) ?_
      rotate_left
      · (intro w hSw; (try dsimp only at hSw); go_simp <;> with_reducible rfl)
      try simp only [Act.put]
      go_simp
      refine wpAnyT_take (i := 1) (v := ?_) rfl (by kernel_rfl) (fun _ _ _ h => h) (Or.inl ⟨by rfl, ?_⟩) (by assumption) ?_
      rotate_left
      · (intro w hSw; (try dsimp only at hSw); go_simp <;> with_reducible rfl)
      go_simp
      refine wpAnyT_take (i := 2) (v := ?_) rfl (by kernel_rfl) (fun _ _ _ h => h) (Or.inl ⟨by rfl, ?_⟩) (by assumption) ?_
      rotate_left
      · (intro w hSw; (try dsimp only at hSw); go_simp <;> with_reducible rfl)
      go_simp
      refine wpAnyT_take (i := 3) (v := ?_) rfl (by kernel_rfl) (fun _ _ _ h => h) (Or.inl ⟨by rfl, ?_⟩) (by assumption) ?_
      rotate_left
      · (intro w hSw; (try dsimp only at hSw); go_simp <;> with_reducible rfl)
      go_simp
      refine wpAnyT_take (i := 4) (v := ?_) rfl (by kernel_rfl) (fun _ _ _ h => h) (Or.inl ⟨by rfl, ?_⟩) (by assumption) ?_
      rotate_left
      · (intro w hSw; (try dsimp only at hSw); go_simp <;> with_reducible rfl)
      go_simp
      refine wpAnyT_take (i := 5) (v := ?_) rfl (by kernel_rfl) (fun _ _ _ h => h) (Or.inl ⟨by rfl, ?_⟩) (by assumption) ?_
      rotate_left
      · (intro w hSw; (try dsimp only at hSw); go_simp <;> with_reducible rfl)
      go_simp
      refine wpAnyT_take (i := 6) (v := ?_) rfl (by kernel_rfl) (fun _ _ _ h => h) (Or.inl ⟨by rfl, ?_⟩) (by assumption) ?_
      rotate_left
      · (intro w hSw; (try dsimp only at hSw); go_simp <;> with_reducible rfl)
      go_simp
      refine wpAnyT_last (i := 7) rfl (by kernel_rfl) (by kernel_rfl) (fun K hK => ?_)
      refine step_copy_splice rfl (.tmp 41) (.tmp 44) 62 62 rfl 2 Try.underlying62 (by kernel_rfl) (some ⟨w.heap.size, n, none⟩) (some ⟨w.heap.size, 0, none⟩) (N - n) (N - n) n N rfl rfl w.heap.size n (mone n N) 2 HG.out (List.replicate m (Value.int .i64 (-1))) HM.out (fun _ => ⟨rfl, _, rfl, fun j v hj => ?_⟩) (by rw [List.length_replicate, mone_len hnN]; omega) HON.out w.heap.size w (hbe.drew) (Nat.le_refl _) ?_
      · rw [List.getElem?_replicate] at hj
        by_cases hjm : j < m
        · rw [if_pos hjm] at hj
          obtain rfl := Option.some.inj hj
          have h1 := HCE.out j (by omega)
          cases j with
          | zero => simpa [Addr.add] using h1
          | succ j => simpa [Addr.add] using h1
        · rw [if_neg hjm] at hj
          cases hj
      intro w4 hg4 hb4
      rw [HSP.out] at hg4
      simp only [List.length_replicate]
      refine hK.out _ _ ?_
      clear hK K
      refine wpAnyT_last (i := 8) rfl (by kernel_rfl) (by kernel_rfl) (fun K hK => ?_)
      go_simp
      refine hK.out _ _ ?_
      clear hK K
      refine wpAnyT_last (i := 9) rfl (by kernel_rfl) (by kernel_rfl) (fun K hK => ?_)
      go_simp
      refine hK.out _ _ ?_
      clear hK K
      refine wpAnyT_done (by kernel_rfl) ?_ _
      go_simp
      go_wp2_with fail
      go_roundw
      case rel => exact ⟨n + m, by omega, by omega, by first | rfl | go_num | simp [goInt, hwr], hg4.out, hb4⟩
      case measure => (clear hwr; simp [intOf]; omega)
    · obtain rfl : n = N := by omega
      go_wp2_with fail
      go_ret
      exact ⟨_, rfl, Nat.le_refl _, HG.out, hbe⟩
end Go.Proofs.Ytepebfpgmnidnaa
