/-
  Contracts: atoms whose variables are renamed.
-/
import Derived.Test.YtepebfpgmnidnaaK11
import Derived.Deep.RegionHeldLaw
namespace Go.Proofs.Ytepebfpgmnidnaa
open Go.RowKit Go.Sort
theorem news2 {w : World} {u u' : Value} {T : TypeId} : ∀ j x, [u, u'][j]? = some x → (w.alloc (.cells #[u, u'] T)).cell? ((⟨w.heap.size, 0, none⟩ : Addr).add j) = some x := by
  intro j x h
  match j with
  | 0 => simp at h; subst h; simp [Addr.add]
  | 1 => simp at h; subst h; simp [Addr.add]
  | j + 2 => simp at h
set_option maxHeartbeats 1600000 in
set_option maxRecDepth 100000 in
theorem l01Mapped_any (w : World) {v u : Value} {xs ps : List Int} (h : intsT.Rd w [v] xs) (h' : intsT.Rd w [u] ps) (hin : ∀ p ∈ ps, 0 ≤ p ∧ p < (xs.length : Int)) (hlen : ps.length ≤ 1000000) :
    Calls Try.prog 183 #[u, v] w (RetS intsT w (atL xs ps)) := by
  obtain ⟨ad, cap, hv, hl, hc, hcell⟩ := ints_ex h
  obtain rfl : v = _ := by simpa using hv
  obtain ⟨ad', cap', hv', hl', hc', hcell'⟩ := ints_ex h'
  obtain rfl : u = _ := by simpa using hv'
  have HIN := Lib.hid hin
  clear h hv h' hv' hin
  go_enter Try.func183, Try.ntmps183
  go_wp2_with fail
  go_loopw [6, 5] (fun i o wr => ∃ k : Nat, k ≤ ps.length ∧ i = .int .i64 k ∧ Bl Ty.int 2 w.heap.size wr.heap.size wr o (atL xs (ps.take k)) ∧ Below w.heap.size w wr) (fun i _ _ => ps.length - (intOf i).toNat)
  case atStart => exact ⟨0, Nat.zero_le _, rfl, by simpa [atL] using Bl.lit0 (E := Ty.int) (e := 2) (w := w) (Nat.le_refl _), bA⟩
  case round =>
    obtain ⟨k, hk, rfl, hBl, hbel⟩ := hrel
    have HB := Lib.hid hBl
    clear hBl
    by_cases hkl : k < ps.length
    · obtain ⟨b', o', rfl, hb', hce'⟩ := hcell' (by omega)
      have hin := HIN.out ps[k] (List.getElem_mem hkl)
      obtain ⟨j, hj⟩ : ∃ j : Nat, ps[k] = j := ⟨ps[k].toNat, by omega⟩
      have hjl : j < xs.length := by omega
      obtain ⟨b, o, rfl, hb, hce⟩ := hcell (by omega)
      have e0 := (hbel.cell hb').trans (hce' k hkl).2
      rw [hj] at e0
      have e1 := (hbel.cell hb).trans (hce j hjl).2
      have hI := (hce j hjl).1
      clear hcell hcell' hce hce' hin
      have hrec := atL_take hkl hj hjl
      have HR := Lib.hid hrec
      clear hrec
      go_wp2_with (refine wpList_push (E := Ty.int) _ rfl _ _ 62 2 rfl elInt rfl (HB.out.below bA (Nat.le_refl _)) rfl news1 (fr_int hI) (by rw [atL_len, take_len hk]; omega) (by decide) hbel.size (by simp) ?_; intro v1 w1 hB1 hg1 _)
      have hbel1 : Below w.heap.size w w1 := (hbel.alloc hbel.size _).grown hg1 (by have := hbel.size; simp; omega) (fun k hk => HB.out.own hk)
      rw [HR.out] at hB1
      have HB1 := Lib.hid hB1
      clear hB1
      go_wp2_with fail
      go_roundw
      case rel => exact ⟨k + 1, by omega, by go_num, HB1.out, hbel1⟩
      case measure => simp [intOf]; omega
    · obtain rfl : k = ps.length := by omega
      go_wp2_with fail
      go_ret
      rw [List.take_length] at HB
      exact ⟨_, rfl, HB.out.fr (by rw [atL_len]; unfold capMax; omega), hbel⟩
def movedL (to : List Int) (xs : List (Int × List Int)) : List (Int × List Int) := xs.map fun a => (a.1, atL to a.2)
theorem movedL_len {to : List Int} {xs : List (Int × List Int)} : (movedL to xs).length = xs.length := by simp [movedL]
theorem movedL_take {to : List Int} {xs : List (Int × List Int)} {k : Nat} (h : k < xs.length) : movedL to (xs.take k) ++ [((xs[k]).1, atL to (xs[k]).2)] = movedL to (xs.take (k + 1)) := by
  simp only [movedL]
  rw [List.take_succ_eq_append_getElem h, List.map_append]
  rfl
set_option maxHeartbeats 3200000 in
set_option maxRecDepth 100000 in
theorem l03Moved_bl (w : World) {v u : Value} {ts : List Int} {xs : List (Int × List Int)} (h : opsT.Rd w [v] xs) (h' : intsT.Rd w [u] ts) (hin : ∀ a ∈ xs, (∀ p ∈ a.2, 0 ≤ p ∧ p < (ts.length : Int)) ∧ a.2.length ≤ 1000000) (hlen : xs.length ≤ 1000000) :
    Calls Try.prog 130 #[v, u] w fun e w' => ∃ u, e = .returned u ∧ Bl opT 105 w.heap.size w'.heap.size w' u (movedL ts xs) ∧ Below w.heap.size w w' := by
  obtain ⟨ad, cap, hv, hl, hc, hcell⟩ := pairs_ex h
  obtain rfl : v = _ := by simpa using hv
  obtain ⟨ad', cap', rfl⟩ := rd_slice h'
  have HIN := Lib.hid hin
  clear h hv hin
  go_enter Try.func130, Try.ntmps130
  go_wp2_with fail
  go_loopw [6, 5] (fun i o wr => ∃ k : Nat, k ≤ xs.length ∧ i = .int .i64 k ∧ Bl opT 105 w.heap.size wr.heap.size wr o (movedL ts (xs.take k)) ∧ Below w.heap.size w wr) (fun i _ _ => xs.length - (intOf i).toNat)
  case atStart => exact ⟨0, Nat.zero_le _, rfl, by simpa [movedL] using Bl.lit0 (E := opT) (e := 105) (w := w) (Nat.le_refl _), bA⟩
  case round =>
    obtain ⟨k, hk, rfl, hBl, hbel⟩ := hrel
    have HB := Lib.hid hBl
    clear hBl
    by_cases hkl : k < xs.length
    · obtain ⟨b, o, rfl, hb, hce⟩ := hcell (by omega)
      obtain ⟨uk, huk, hIk, g0, g1⟩ := hce k hkl
      obtain ⟨ak, ck, rfl⟩ := rd_slice huk
      have hin := HIN.out xs[k] (List.getElem_mem hkl)
      have d0 := (hbel.cell hb).trans g0
      have d1 := (hbel.cell hb).trans g1
      have HU := Lib.hid (huk.below hbel)
      have HT := Lib.hid (h'.below hbel)
      have HN := Lib.hid hin
      have hsz := hbel.size
      have HR := Lib.hid (movedL_take (to := ts) hkl)
      have HG0 := Lib.hid g0
      have HG1 := Lib.hid g1
      clear hcell hce hin huk g0 g1
      go_wp2_with fail
      have hbw := Nat.lt_of_lt_of_le hb hsz
      go_region_held_law (fun w' => w'.cell? ⟨b, o + k * 2, none⟩ = some (.int .i64 (xs[k]).1) ∧ w'.cell? ⟨b, o + k * 2 + 1, none⟩ = some (.slice ak (xs[k]).2.length ck)) (first | exact ⟨d0, d1⟩ | exact ⟨e0, e1⟩ | exact ⟨m0, m1⟩ | go_keep)
        (first
          | (refine step_push (E := opT) _ rfl _ _ 30 105 rfl elAtomS rfl (HB.out.below (hbn.alloc hbn.size _) (Nat.le_refl _)) rfl news2 (fr_cons hIk (HF.out.below bA)) (by rw [movedL_len, take_len hk]; omega) (by decide) hsz (by simp; omega) ?_; intro v1 w2 hB1 hg1 _; have hbel1 : Below w.heap.size w w2 := ((hbel.trans (hbn.mono hsz)).alloc (by omega) _).grown hg1 (by simp; omega) (fun k hk => HB.out.own hk); have m0 := (hbel1.cell hb).trans HG0.out; have m1 := (hbel1.cell hb).trans HG1.out)
          | (go_simp; go_at_call 183; refine (l01Mapped_any _ (HT.out.below bD) (HU.out.below bD) HN.out.1 HN.out.2).mono ?_; rintro e w1 ⟨u2, rfl, hf, hb1⟩; obtain ⟨ad2, cap2, rfl⟩ := fr_slice hf; have hbn : Below wr.heap.size wr w1 := bthen bD hb1; have e0 := (hbn.cell hbw).trans d0; have e1 := (hbn.cell hbw).trans d1; have hz1 := hbn.size; have HF := Lib.hid hf; clear hf; dsimp only))
      rw [HR.out] at hB1
      have HB1 := Lib.hid hB1
      clear hB1
      go_simp
      go_wp2_with fail
      go_roundw
      case rel => exact ⟨k + 1, by omega, by go_num, HB1.out, hbel1⟩
      case measure => simp [intOf]; omega
    · obtain rfl : k = xs.length := by omega
      go_wp2_with fail
      go_ret
      rw [List.take_length] at HB
      exact ⟨_, rfl, HB.out, hbel⟩
theorem l03Moved_any (w : World) {v u : Value} {ts : List Int} {xs : List (Int × List Int)} (h : opsT.Rd w [v] xs) (h' : intsT.Rd w [u] ts) (hin : ∀ a ∈ xs, (∀ p ∈ a.2, 0 ≤ p ∧ p < (ts.length : Int)) ∧ a.2.length ≤ 1000000) (hlen : xs.length ≤ 1000000) :
    Calls Try.prog 130 #[v, u] w (RetS opsT w (movedL ts xs)) :=
  (l03Moved_bl w h h' hin hlen).mono fun _ _ ⟨u, he, hB, hb⟩ => ⟨u, he, hB.fr (by rw [movedL_len]; unfold capMax; omega), hb⟩
end Go.Proofs.Ytepebfpgmnidnaa
