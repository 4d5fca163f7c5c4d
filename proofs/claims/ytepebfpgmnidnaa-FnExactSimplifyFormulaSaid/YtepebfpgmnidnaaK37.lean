/-
  Contracts: the conjunction of two formulas, the reference's.
-/
import Derived.Test.YtepebfpgmnidnaaK36
namespace Go.Proofs.Ytepebfpgmnidnaa
open Go.RowKit Go.Sort
theorem bl_lower {α : Type} {E : Ty α} {e base top lo : Nat} {w : World} {v : Value} {ys : List α} (h : Bl E e base top w v ys) (hlo : lo ≤ base) : Bl E e lo top w v ys := by
  obtain ⟨L, fps, g1, g2, g3, g4, g5, g6⟩ := h
  refine ⟨L, fps, ⟨g1.1, ?_⟩, g2, g3, fun b hb => ⟨Nat.le_trans hlo (g4 b hb).1, (g4 b hb).2⟩, g5, g6⟩
  rcases g1.2 with h | ⟨g', cap', cur, hg', hbg, hh, r⟩
  · exact .inl h
  · exact .inr ⟨g', cap', cur, hg', Nat.le_trans hlo hbg, hh, r⟩
theorem toL_congr {g g' : Int → Int} {n : Nat} (h : ∀ k : Nat, k < n → g k = g' k) : toL g n = toL g' n := by
  unfold toL
  exact List.map_congr_left fun k hk => h k (by simpa using hk)
set_option maxHeartbeats 1600000 in
set_option maxRecDepth 100000 in
theorem l03Own_bl (w : World) {v : Value} {f : Int × Int × List (Int × List Int)} (h : frmT.Pt w v f) (h1 : 0 ≤ f.2.1 ∧ f.2.1 ≤ 1000000) (h2 : ∀ a ∈ f.2.2, (∀ p ∈ a.2, 0 ≤ p ∧ p < f.2.1) ∧ a.2.length ≤ 1000000) (h3 : f.2.2.length ≤ 1000000) :
    Calls Try.prog 125 #[v] w fun e w' => ∃ u, e = .returned u ∧ Bl opT 105 w.heap.size w'.heap.size w' u f.2.2 ∧ w.heap.size ≤ w'.heap.size ∧ Below w.heap.size w w' := by
  obtain ⟨b, o, ad, cap, rfl, hb, hI, hI2, c0, c1, c2, hx⟩ := pt_trip h
  obtain ⟨a2, n2, k2, hv⟩ := rd_sl hx
  rw [hv] at c2 hx
  have HX := Lib.hid hx
  have H2 := Lib.hid h2
  have HM : Hid (movedL (upL 0 f.2.1.toNat) f.2.2 = f.2.2) := by
    unfold Hid
    rw [← toL_id, movedL_toL (fun a ha p hp => by have := (h2 a ha).1 p hp; omega), rnL_id]
  clear h hx hv h2
  go_enter Try.func125, Try.ntmps125
  go_wp2_with fail
  refine wp_region_T (fun w' => w'.cell? ⟨b, o + 2, none⟩ = some (.slice a2 n2 k2) ∧ w'.cell? ⟨b, o + 1, none⟩ = some (.int .i64 f.2.1)) [] (by kernel_rfl) ⟨c2, c1⟩ (fun hHeld => ?_)
  refine wpAnyT_take (i := 0) (v := ?_) rfl (by kernel_rfl) (fun _ _ _ h => h) (Or.inl ⟨by rfl, ?_⟩) (by assumption) ?_
  rotate_left
  · (intro w hSw; (try dsimp only at hSw); go_simp <;> with_reducible rfl)
  try simp only [Act.put]
  refine wpAnyT_take (i := 1) (v := ?_) rfl (by kernel_rfl) (fun _ _ _ h => h) (Or.inl ⟨by rfl, ?_⟩) (by assumption) ?_
  rotate_left
  · (intro w hSw; (try dsimp only at hSw); go_simp <;> with_reducible rfl)
  try simp only [Act.put]
  refine wpAnyT_take (i := 2) (v := ?_) rfl (by kernel_rfl) (fun _ _ _ h => h) (Or.inl ⟨by rfl, ?_⟩) (by assumption) ?_
  rotate_left
  · (intro w hSw; (try dsimp only at hSw); go_simp <;> with_reducible rfl)
  try simp only [Act.put]
  refine wpAnyT_take (i := 3) (v := ?_) rfl (by kernel_rfl) (fun _ _ _ h => h) (Or.inl ⟨by rfl, ?_⟩) (by assumption) ?_
  rotate_left
  · (intro w hSw; (try dsimp only at hSw); go_simp <;> with_reducible rfl)
  try simp only [Act.put]
  refine wpAnyT_take (i := 4) (v := ?_) rfl (by kernel_rfl) (fun _ _ _ h => h) (Or.inl ⟨by rfl, ?_⟩) (by assumption) ?_
  rotate_left
  · (intro w hSw; (try dsimp only at hSw); go_simp <;> with_reducible rfl)
  try simp only [Act.put]
  refine wpAnyT_take (i := 5) (v := ?_) rfl (by kernel_rfl) (fun _ _ _ h => h) (Or.inl ⟨by rfl, ?_⟩) (by assumption) ?_
  rotate_left
  · (intro w hSw; (try dsimp only at hSw); go_simp <;> with_reducible rfl)
  try simp only [Act.put]
  refine wpAnyT_take (i := 6) (v := ?_) rfl (by kernel_rfl) (fun _ _ _ h => h) (Or.inl ⟨by rfl, ?_⟩) (by assumption) ?_
  rotate_left
  · (intro w hSw; (try dsimp only at hSw); go_simp <;> with_reducible rfl)
  try simp only [Act.put]
  refine wpAnyT_take (i := 7) (v := ?_) rfl (by kernel_rfl) (fun _ _ _ h => h) (Or.inl ⟨by rfl, ?_⟩) (by assumption) ?_
  rotate_left
  · (intro w hSw; (try dsimp only at hSw); go_simp <;> with_reducible rfl)
  try simp only [Act.put]
  refine wpAnyT_one (i := 8) rfl (by kernel_rfl) (fun K hK => ?_)
  go_simp
  go_at_call 127
  refine (l03Count_any _ _ h1.2).mono ?_
  rintro e w1 ⟨u1, rfl, hf1, hb1⟩
  have hb1' : Below w.heap.size w w1 := bthen bD hb1
  obtain ⟨a3, n3, k3, rfl⟩ := ex_slice hf1
  have HF1 := Lib.hid hf1.rd
  replace c1 := (cellB hb1' (by omega)).trans c1
  replace c2 := (cellB hb1' (by omega)).trans c2
  clear hf1
  dsimp only
  refine hK.out _ _ ⟨c2, c1⟩ (fun hHeld => ?_)
  clear hK K
  refine wpAnyT_one (i := 9) rfl (by kernel_rfl) (fun K hK => ?_)
  go_simp
  go_at_call 130
  refine (l03Moved_bl _ (HX.out.below hb1') HF1.out (fun a ha => ⟨fun p hp => by have := (H2.out a ha).1 p hp; rw [upL_len]; omega, (H2.out a ha).2⟩) h3).mono ?_
  rintro e w2 ⟨u2, rfl, hB2, hb2⟩
  rw [HM.out] at hB2
  have HB2 := Lib.hid hB2
  have hz1 := hb1'.size
  have hz2 := hb2.size
  replace c1 := (cellB hb2 (by omega)).trans c1
  replace c2 := (cellB hb2 (by omega)).trans c2
  clear hB2
  dsimp only
  refine hK.out _ _ ⟨c2, c1⟩ (fun hHeld => ?_)
  clear hK K
  refine wpAnyT_any (i := 10) (v := ?_) rfl (by kernel_rfl) (fun _ _ _ h => h) (Or.inl ⟨by rfl, ?_⟩) (by first | exact fun _ => by assumption | (intro hp; exact absurd hp (by rw [show pastB _ _ = true by kernel_rfl]; simp))) ?_
  rotate_left
  · (intro w hSw; (try dsimp only at hSw); go_simp <;> with_reducible rfl)
  try simp only [Act.put]
  refine wpAnyT_done (by kernel_rfl) ?_ _
  go_simp
  go_wp2_with fail
  go_ret
  exact ⟨_, rfl, bl_lower HB2.out hz1, by omega, bthen hb1' hb2⟩
end Go.Proofs.Ytepebfpgmnidnaa
