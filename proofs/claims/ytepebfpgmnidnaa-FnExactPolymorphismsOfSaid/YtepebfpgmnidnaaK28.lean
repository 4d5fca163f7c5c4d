/-
  Contracts: the set of a relation's tuples, filled.
-/
import Derived.Test.YtepebfpgmnidnaaK27
namespace Go.Proofs.Ytepebfpgmnidnaa
open Go.RowKit Go.Sort
set_option maxHeartbeats 1600000 in
set_option maxRecDepth 100000 in
theorem l01SetOf_any (w : World) {v : Value} {r : Int × List (List Int)} (h : relT.Pt w v r) {s : Int} (hr : relOk s r) (N : Nat) (hN : s ^ r.1.toNat = N) :
    Calls Try.prog 160 #[.int .i64 s, v] w fun e w' => ∃ bx g, e = .returned (.pointer (some ⟨bx, 0, none⟩)) ∧ SetAt 4 w.heap.size w' bx g N (seenL s N r.2) ∧ w.heap.size ≤ g ∧ Below w.heap.size w w' := by
  obtain ⟨b, o, ad, cap, rfl, hb, hI, c0, c1, hx⟩ := pt_pair h
  obtain ⟨_, _, e1, hle, hle2, hcell⟩ := slices_ex hx
  simp only [List.cons.injEq, Value.slice.injEq, and_true, true_and] at e1
  obtain ⟨rfl, rfl⟩ := e1
  have hs := hr.1
  have hm := hr.2.1
  unfold sizeOk at hs hm
  have HRO := Lib.hid hr
  have hNle : N ≤ 1000000 := by
    have h1 : s ^ r.1.toNat ≤ 1000000 := by
      refine Int.le_trans (pow_mono' (by omega) (show s ≤ 4 by omega) r.1.toNat) ?_
      rcases (show r.1.toNat = 1 ∨ r.1.toNat = 2 ∨ r.1.toNat = 3 ∨ r.1.toNat = 4 by omega) with e | e | e | e <;> rw [e] <;> decide
    omega
  have HN := Lib.hid hN
  clear h hx hr hN
  go_enter Try.func160, Try.ntmps160
  go_wp2_with fail
  refine (l01Empty_any _ s r.1 (by omega) (by omega) (by omega) N HN.out hNle).mono ?_
  rintro e w1 ⟨bx, g, rfl, hset, hb1⟩
  have HS1 := Lib.hid hset
  clear hset
  go_wp2_with fail
  go_loopw [6] (fun i wr => ∃ k : Nat, k ≤ r.2.length ∧ i = .int .i64 k ∧ SetAt 4 w.heap.size wr bx g N (seenL s N (r.2.take k)) ∧ Below w.heap.size w wr) (fun i _ => r.2.length - (intOf i).toNat)
  case atStart => exact ⟨0, Nat.zero_le _, rfl, by rw [List.take_zero, seenL_nil]; exact HS1.out, hb1⟩
  case round =>
    obtain ⟨k, hk, rfl, hset, hbel⟩ := hrel
    have d1 := (hbel.cell hb).trans c1
    obtain ⟨s1, s2, s3, s4, s5⟩ := id hset
    have HS := Lib.hid hset
    have hgl := s5.2.1
    clear hset
    by_cases hkl : k < r.2.length
    · obtain ⟨a, q, rfl, haa, hce⟩ := hcell (by omega)
      obtain ⟨u, hu, hcu⟩ := hce k hkl
      obtain ⟨au, cu, rfl⟩ := rd_slice hu
      have d2 := (hbel.cell haa).trans hcu
      obtain ⟨t1, t2⟩ := (HRO.out.2.2 k hkl).1
      have htl : (r.2[k]).length = r.1.toNat := by omega
      obtain ⟨i0, i1⟩ := idx_lt (s := s) (by omega) htl t2
      obtain ⟨j, hj⟩ : ∃ j : Nat, idxL s 0 r.2[k] = j := ⟨(idxL s 0 r.2[k]).toNat, by omega⟩
      have hjN : j < N := by have := HN.out; rw [this, hj] at i1; omega
      have e0 := s5.cell (j := j) (by rw [seenL_len]; exact hjN)
      have e1 := s5.free j
      have hgs := s5.lt
      have HST := Lib.hid (seenL_set hkl hj hjN)
      have HBS := Lib.hid (s5.set j true)
      have HU := Lib.hid (hu.below hbel)
      have HT2 := Lib.hid t2
      have HJ := Lib.hid hj
      have hlen5 : (r.2[k]).length ≤ 5 := by omega
      have q1 : 1 ≤ s := hs.1
      have q2 : s ≤ 1000 := by omega
      have n1 : g ≠ b := by omega
      have n2 : g ≠ a := by omega
      have f0 : wr.drew.cell? ⟨g, j, none⟩ = some (.bool ((seenL s N (r.2.take k))[j]'(by rw [seenL_len]; exact hjN))) := e0
      have f1 : wr.drew.frozen? ⟨g, j, none⟩ = false := e1
      clear hce hcell hu hcu t1 t2 htl hj i0 i1 s5 c0 c1
      go_wp2_with fail
      go_region_held_law (fun w' => w'.cell? ⟨bx, 2, none⟩ = some (.slice (some ⟨g, 0, none⟩) N N) ∧ w'.cell? ⟨b, o + 1, none⟩ = some (.slice (some ⟨a, q, none⟩) r.2.length cap) ∧ w'.cell? ⟨a, q + k, none⟩ = some (.slice au (r.2[k]).length cu)) (first | exact ⟨s4, d1, d2⟩ | go_keep)
        (first
          | (go_simp; go_at_call 75; refine (l01Code_any _ s (HU.out.below bD) q1 q2 hlen5 HT2.out).mono ?_; rintro e _ ⟨rfl, rfl⟩; rw [HJ.out]; dsimp only))
      go_wp2_with fail
      go_roundw
      case rel => exact ⟨k + 1, by omega, by go_num, ⟨s1, by simpa [World.setCell] using s2, s3, (World.cell?_setCell_other _ _ _ _ (by first | (simp; done) | (simp; omega))).trans s4, by rw [← HST.out]; exact HBS.out⟩, (hbel.trans bD').setCell (by first | (simp; done) | (simp; omega)) _⟩
      case measure => simp [intOf]; omega
    · obtain rfl : k = r.2.length := by omega
      rw [List.take_length] at HS
      clear hcell
      go_wp2_with fail
      go_ret
      exact ⟨bx, g, rfl, HS.out, hgl, hbel⟩
end Go.Proofs.Ytepebfpgmnidnaa
