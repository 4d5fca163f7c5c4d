/-
  Contracts: valid operations.
-/
import Derived.Test.YtigclobkmocfkaaK21
import Derived.Test.YtigclobkmocfkaaK8
namespace Go.Proofs.Ytigclobkmocfkaa
open Go.RowKit Go.Sort
def opOk (s : Int) (f : Int × List Int) : Prop := sizeOk s ∧ (1 ≤ f.1 ∧ f.1 ≤ 3) ∧ rowOk s (s ^ f.1.toNat) f.2
set_option maxHeartbeats 1600000 in
set_option maxRecDepth 100000 in
theorem ValidOp_any (w : World) {cs : Array Value} {f : Int × List Int} (h : opT.Rd w cs.toList f) (s : Int) :
    Calls Try.prog 75 #[.int .i64 s, .agg cs] w fun e w' => e = .returned (.bool (tb (opOk s f))) ∧ Below w.heap.size w w' := by
  obtain ⟨u, hv, hI, hx⟩ := pair_ex h
  obtain rfl := agg_of hv
  obtain ⟨ad, cap, rfl⟩ := rd_slice hx
  clear h hv
  cases h1 : inB s 1 4
  · have HR : Hid (false = tb (opOk s f)) := (tb_false (fun hh => by have := inB_true.2 hh.1; rw [h1] at this; cases this)).symm
    go_enter Try.func75, Try.ntmps75
    go_wp2_with fail
    generalize hW : w.alloc _ = wr
    have hB : Below w.heap.size w wr := hW ▸ bA
    clear hW
    have cS : ∀ d os, Calls Try.prog 155 #[.int .i64 s] (grow (redrawn wr d) os) fun e w'' => e = .returned (.bool (inB s 1 4)) ∧ ∃ p : Regrown, w'' = grow (redrawn wr p.d) p.os := fun d os =>
      Calls.regrown_of (pure_below (isSize_any _ _))
    rw [h1] at cS
    refine wp_region_quiet_below (by kernel_rfl) (by kernel_rfl) ?_
    repeat (go_big_quiet_step (exact cS _ _))
    refine wpQuiet_nil ?_
    rintro w2 ⟨p, rfl⟩
    have hb2 := below_regrown wr p.d p.os
    go_wp2_with fail
    go_ret
    exact ⟨ret_bool HR.out, bthen hB hb2⟩
  have hs := inB_true.1 h1
  cases h2 : inB f.1 1 3
  · have HR : Hid (false = tb (opOk s f)) := (tb_false (fun hh => by have := inB_true.2 hh.2.1; rw [h2] at this; cases this)).symm
    go_enter Try.func75, Try.ntmps75
    go_wp2_with fail
    generalize hW : w.alloc _ = wr
    have hB : Below w.heap.size w wr := hW ▸ bA
    have e0 : wr.cell? ⟨w.heap.size, 0, none⟩ = some (.int .i64 f.1) := by rw [← hW]; simp
    clear hW
    have k0 := cell_regrown e0
    have cS : ∀ d os, Calls Try.prog 155 #[.int .i64 s] (grow (redrawn wr d) os) fun e w'' => e = .returned (.bool (inB s 1 4)) ∧ ∃ p : Regrown, w'' = grow (redrawn wr p.d) p.os := fun d os =>
      Calls.regrown_of (pure_below (isSize_any _ _))
    have cA : ∀ d os, Calls Try.prog 159 #[.int .i64 f.1] (grow (redrawn wr d) os) fun e w'' => e = .returned (.bool (inB f.1 1 3)) ∧ ∃ p : Regrown, w'' = grow (redrawn wr p.d) p.os := fun d os =>
      Calls.regrown_of (pure_below (isOpArity_any _ _))
    rw [h1] at cS
    rw [h2] at cA
    refine wp_region_quiet_below (by kernel_rfl) (by kernel_rfl) ?_
    repeat (go_big_quiet_step (first | exact cS _ _ | exact cA _ _))
    refine wpQuiet_nil ?_
    rintro w2 ⟨p, rfl⟩
    have hb2 := below_regrown wr p.d p.os
    go_wp2_with fail
    go_ret
    exact ⟨ret_bool HR.out, bthen hB hb2⟩
  have ha := inB_true.1 h2
  have HR : Hid (tb (rowOk s (s ^ f.1.toNat) f.2) = tb (opOk s f)) := tb_congr ⟨fun hh => ⟨hs, ha, hh⟩, fun hh => hh.2.2⟩
  go_enter Try.func75, Try.ntmps75
  go_wp2_with fail
  generalize hW : w.alloc _ = wr
  have hB : Below w.heap.size w wr := hW ▸ bA
  have e0 : wr.cell? ⟨w.heap.size, 0, none⟩ = some (.int .i64 f.1) := by rw [← hW]; simp
  have e1 : wr.cell? ⟨w.heap.size, 1, none⟩ = some (.slice ad f.2.length cap) := by rw [← hW]; simp
  have hxr := hx.below hB
  clear hW
  have k0 := cell_regrown e0
  have k1 := cell_regrown e1
  have cS : ∀ d os, Calls Try.prog 155 #[.int .i64 s] (grow (redrawn wr d) os) fun e w'' => e = .returned (.bool (inB s 1 4)) ∧ ∃ p : Regrown, w'' = grow (redrawn wr p.d) p.os := fun d os =>
    Calls.regrown_of (pure_below (isSize_any _ _))
  have cA : ∀ d os, Calls Try.prog 159 #[.int .i64 f.1] (grow (redrawn wr d) os) fun e w'' => e = .returned (.bool (inB f.1 1 3)) ∧ ∃ p : Regrown, w'' = grow (redrawn wr p.d) p.os := fun d os =>
    Calls.regrown_of (pure_below (isOpArity_any _ _))
  have cP : ∀ d os, Calls Try.prog 128 #[.int .i64 s, .int .i64 f.1] (grow (redrawn wr d) os) fun e w'' => e = .returned (.int .i64 (s ^ f.1.toNat)) ∧ ∃ p : Regrown, w'' = grow (redrawn wr p.d) p.os := fun d os =>
    Calls.regrown_of (pure_below (power_any _ _ _ (by omega) (by omega) (by omega)))
  have cV : ∀ d os, Calls Try.prog 160 #[.int .i64 s, .slice ad f.2.length cap, .int .i64 (s ^ f.1.toNat)] (grow (redrawn wr d) os) fun e w'' => e = .returned (.bool (tb (rowOk s (s ^ f.1.toNat) f.2))) ∧ ∃ p : Regrown, w'' = grow (redrawn wr p.d) p.os := fun d os =>
    Calls.regrown_of (areValues_any _ (hxr.below (below_regrown wr d os)) _ _ (by omega) (by omega))
  rw [h1] at cS
  rw [h2] at cA
  refine wp_region_quiet_below (by kernel_rfl) (by kernel_rfl) ?_
  repeat (go_big_quiet_step (first | exact cS _ _ | exact cA _ _ | exact cP _ _ | exact cV _ _))
  refine wpQuiet_nil ?_
  rintro w2 ⟨p, rfl⟩
  have hb2 := below_regrown wr p.d p.os
  go_wp2_with fail
  go_ret
  exact ⟨ret_bool HR.out, bthen hB hb2⟩
set_option maxHeartbeats 1600000 in
set_option maxRecDepth 100000 in
theorem l02Ok_quiet (w : World) {v : Value} {f : Int × List Int} (h : opT.Pt w v f) (s : Int) :
    Calls Try.prog 71 #[.int .i64 s, v] w fun e w' => e = .returned (.bool (tb (opOk s f))) ∧ Quiet w w' := by
  obtain ⟨b, o, ad, cap, rfl, hb, hI, c0, c1, hx⟩ := pt_pair h
  clear h
  obtain ⟨_, _, e1, hle, hle2, hcell⟩ := ints_ex hx
  simp only [List.cons.injEq, Value.slice.injEq, and_true, true_and] at e1
  obtain ⟨rfl, rfl⟩ := e1
  cases h1 : inB s 1 4
  · have HR : Hid (false = tb (opOk s f)) := (tb_false (fun hh => by have := inB_true.2 hh.1; rw [h1] at this; cases this)).symm
    have cS : ∀ n, Calls Try.prog 150 #[.int .i64 s] (w.drewN n) fun e w'' => e = .returned (.bool (inB s 1 4)) ∧ ∃ m, w'' = w.drewN m := fun n => pure_drawn (l01Size_any _ _)
    rw [h1] at cS
    go_enter Try.func71, Try.ntmps71
    go_wp2_with fail
    go_quiet (exact cS _)
    go_wp2_with fail
    go_ret
    exact ⟨ret_bool HR.out, (by first | exact Quiet.refl _ | exact Quiet.drewN _ _ | exact (Quiet.drewN _ _).then (Quiet.drewN _ _) | exact ((Quiet.drewN _ _).then (Quiet.drewN _ _)).then (Quiet.drewN _ _))⟩
  have hs := inB_true.1 h1
  cases h2 : inB f.1 1 3
  · have HR : Hid (false = tb (opOk s f)) := (tb_false (fun hh => by have := inB_true.2 hh.2.1; rw [h2] at this; cases this)).symm
    have cS : ∀ n, Calls Try.prog 150 #[.int .i64 s] (w.drewN n) fun e w'' => e = .returned (.bool (inB s 1 4)) ∧ ∃ m, w'' = w.drewN m := fun n => pure_drawn (l01Size_any _ _)
    have cA : ∀ n, Calls Try.prog 151 #[.int .i64 f.1] (w.drewN n) fun e w'' => e = .returned (.bool (inB f.1 1 3)) ∧ ∃ m, w'' = w.drewN m := fun n => pure_drawn (l02Arity_any _ _)
    rw [h1] at cS
    rw [h2] at cA
    go_enter Try.func71, Try.ntmps71
    go_wp2_with fail
    go_quiet (first | exact cS _ | exact cA _)
    go_wp2_with fail
    go_ret
    exact ⟨ret_bool HR.out, (by first | exact Quiet.refl _ | exact Quiet.drewN _ _ | exact (Quiet.drewN _ _).then (Quiet.drewN _ _) | exact ((Quiet.drewN _ _).then (Quiet.drewN _ _)).then (Quiet.drewN _ _))⟩
  have ha := inB_true.1 h2
  have cS : ∀ n, Calls Try.prog 150 #[.int .i64 s] (w.drewN n) fun e w'' => e = .returned (.bool (inB s 1 4)) ∧ ∃ m, w'' = w.drewN m := fun n => pure_drawn (l01Size_any _ _)
  have cA : ∀ n, Calls Try.prog 151 #[.int .i64 f.1] (w.drewN n) fun e w'' => e = .returned (.bool (inB f.1 1 3)) ∧ ∃ m, w'' = w.drewN m := fun n => pure_drawn (l02Arity_any _ _)
  have cP : ∀ n, Calls Try.prog 152 #[.int .i64 s, .int .i64 f.1] (w.drewN n) fun e w'' => e = .returned (.int .i64 (s ^ f.1.toNat)) ∧ ∃ m, w'' = w.drewN m := fun n => pure_drawn (l01Power_any _ _ _ (by omega) (by omega) (by omega))
  rw [h1] at cS
  rw [h2] at cA
  cases hl : ((f.2.length : Int) != s ^ f.1.toNat)
  rotate_left
  · have HR : Hid (false = tb (opOk s f)) := (tb_false (fun hh => by have := hh.2.2.1; simp [this] at hl)).symm
    go_enter Try.func71, Try.ntmps71
    go_wp2_with fail
    go_quiet (first | exact cS _ | exact cA _ | exact cP _)
    go_wp2_with fail
    go_ret
    exact ⟨ret_bool HR.out, (by first | exact Quiet.refl _ | exact Quiet.drewN _ _ | exact (Quiet.drewN _ _).then (Quiet.drewN _ _) | exact ((Quiet.drewN _ _).then (Quiet.drewN _ _)).then (Quiet.drewN _ _))⟩
  have HLE : Hid ((f.2.length : Int) = s ^ f.1.toNat) := by unfold Hid; simpa using hl
  go_enter Try.func71, Try.ntmps71
  go_wp2_with fail
  go_quiet (first | exact cS _ | exact cA _ | exact cP _)
  clear cS cA cP hl
  go_wp2_with fail
  go_loopw [5] (fun i wr => ∃ k : Nat, k ≤ f.2.length ∧ i = .int .i64 k ∧ noneB (fun a => !inB a 0 (s - 1)) (f.2.take k) ∧ Quiet w wr) (fun i _ => f.2.length - (intOf i).toNat)
  case atStart => exact ⟨0, Nat.zero_le _, rfl, noneB_zero _ _, (by first | exact Quiet.refl _ | exact Quiet.drewN _ _ | exact (Quiet.drewN _ _).then (Quiet.drewN _ _) | exact ((Quiet.drewN _ _).then (Quiet.drewN _ _)).then (Quiet.drewN _ _))⟩
  case round =>
    obtain ⟨k, hk, rfl, ht, hqw⟩ := hrel
    have HT := Lib.hid ht
    have d0 := (hqw.below.cell hb).trans c0
    have d1 := (hqw.below.cell hb).trans c1
    clear ht c0 c1
    by_cases hkl : k < f.2.length
    · obtain ⟨a, q, rfl, haa, hce⟩ := hcell (by omega)
      have e0 := (hqw.below.cell haa).trans (hce k hkl).2
      clear hcell hce
      cases hr : inB (f.2[k]) 0 (s - 1)
      · have HR : Hid (false = tb (opOk s f)) := (tb_false (fun hh => by have := inB_true.2 (hh.2.2.2 _ (List.getElem_mem hkl)); rw [hr] at this; cases this)).symm
        go_wp2_with fail
        refine (l00In_any _ _ _ _).mono ?_
        rintro e _ ⟨rfl, rfl⟩
        rw [hr]
        go_wp2_with fail
        go_ret
        exact ⟨ret_bool HR.out, hqw⟩
      · go_wp2_with fail
        refine (l00In_any _ _ _ _).mono ?_
        rintro e _ ⟨rfl, rfl⟩
        rw [hr]
        go_wp2_with fail
        go_roundw
        case rel => exact ⟨k + 1, by omega, by go_num, noneB_succ hkl HT.out (by rw [hr]; rfl), hqw⟩
        case measure => simp [intOf]; omega
    · obtain rfl : k = f.2.length := by omega
      have HR : Hid (true = tb (opOk s f)) := (tb_true ⟨hs, ha, HLE.out, fun a ha' => by
        have := HT.out a (by rw [List.take_length]; exact ha')
        have h3 : inB a 0 (s - 1) = true := by simpa using this
        exact inB_true.1 h3⟩).symm
      clear hcell
      go_wp2_with fail
      go_ret
      exact ⟨ret_bool HR.out, hqw⟩
end Go.Proofs.Ytigclobkmocfkaa
