/-
  Contracts: the numbers from one on, as a row of the call's own; such a row beside a box.
-/
import Derived.Test.YtepebfpgmnidnaaM3
import Derived.Test.YtepebfpgmnidnaaSv2
namespace Go.Proofs.Ytepebfpgmnidnaa
open Go.RowKit Go.Sort
theorem bl_offI {α : Type} {E : Ty α} {bx e base top : Nat} {w : World} {v : Value} {ys : List α} (h : Bl E e base top w v ys) (hb : top ≤ bx) : Bl (E.off bx) e base top w v ys := by
  obtain ⟨L, fps, h1, h2, h3, h4, h5, h6⟩ := h
  refine ⟨L, fps, h1, fun i hi => ?_, h3, h4, h5, h6⟩
  obtain ⟨cs, h7, h8⟩ := h2 i hi
  refine ⟨cs, ⟨h7, fun hm => ?_⟩, h8⟩
  have := (h4 bx (List.mem_flatMap.2 ⟨i, by simpa using hi, hm⟩)).2.1
  omega
/-- a row of numbers hangs on its own block alone -/
theorem int_same {e base top top' : Nat} {w w' : World} {v : Value} {ys : List Int} (h : Bl Ty.int e base top w v ys) (hs : ∀ b, v.ownBlock = some b → w'.heap[b]? = w.heap[b]?) (ht : top ≤ top') : Bl Ty.int e base top' w' v ys := by
  obtain ⟨L, fps, h1, h2, h3, h4, h5, h6⟩ := h
  have hnil : ∀ b, b ∉ flat fps ys.length := by
    intro b hb
    obtain ⟨i, hi, hb⟩ := List.mem_flatMap.1 hb
    obtain ⟨cs, ⟨_, _, hf⟩, _⟩ := h2 i (by simpa using hi)
    rw [hf] at hb
    cases hb
  refine ⟨L, fps, ⟨h1.1, ?_⟩, fun i hi => ?_, h3, fun b hb => absurd hb (hnil b), fun g hg => Nat.lt_of_lt_of_le (h5 g hg) ht, fun b hb => absurd hb (hnil b)⟩
  · rcases h1.2 with h | ⟨g, cap, cur, rfl, hg, hh, r⟩
    · exact .inl h
    · exact .inr ⟨g, cap, cur, rfl, hg, by rw [hs g rfl]; exact hh, r⟩
  · obtain ⟨cs, h7, h8⟩ := h2 i hi
    exact ⟨cs, h7, h8⟩
theorem num_I {fr : Nat} {left : Atoms} {v : Int} (_ : 0 ≤ v) (h1 : v ≤ 8) (_ : fr ≤ 8) : I64 (numTo fr left v) := by
  rcases ilt v fr with h | h
  · rw [num_lt h]; exact I64.small (by omega) (by omega)
  · obtain ⟨k, rfl⟩ : ∃ k : Nat, v = ((fr + k : Nat) : Int) := ⟨(v - fr).toNat, by omega⟩
    rw [num_ge]
    have := (var_len (fr := fr) (left := left) (k := k)).2
    exact I64.small (by omega) (by omega)
theorem var_yes' {fr n : Nat} {left : Atoms} (hn : fr ≤ n) (h : usB left (n : Int) = true) : varS fr left (n - fr) ++ [(n : Int)] = varS fr left (n + 1 - fr) := by
  have e : fr + (n - fr) = n := by omega
  have h1 := var_yes (fr := fr) (left := left) (k := n - fr) (by rw [e]; exact h)
  rw [e] at h1
  rw [h1, show n - fr + 1 = n + 1 - fr by omega]
theorem var_no' {fr n : Nat} {left : Atoms} (hn : fr ≤ n) (h : usB left (n : Int) = false) : varS fr left (n - fr) = varS fr left (n + 1 - fr) := by
  have e : fr + (n - fr) = n := by omega
  have h1 := var_no (fr := fr) (left := left) (k := n - fr) (by rw [e]; exact h)
  rw [h1, show n - fr + 1 = n + 1 - fr by omega]
set_option maxHeartbeats 1600000 in
set_option maxRecDepth 100000 in
theorem upTo_bl (w : World) (from0 many : Int) (h0 : 0 ≤ from0) (h1 : from0 ≤ 1000000) (_ : many ≤ 1000000) :
    Calls Try.prog 146 #[.int .i64 from0, .int .i64 many] w fun e w' => ∃ u, e = .returned u ∧ Bl Ty.int 2 w.heap.size w'.heap.size w' u (upL from0 many.toNat) ∧ Below w.heap.size w w' := by
  go_enter Try.func146, Try.ntmps146
  go_wp2_with fail
  go_loopw [9, 5] (fun i o wr => ∃ k : Nat, k ≤ many.toNat ∧ i = .int .i64 k ∧ Bl Ty.int 2 w.heap.size wr.heap.size wr o (upL from0 k) ∧ Below w.heap.size w wr) (fun i _ _ => many.toNat - (intOf i).toNat)
  case atStart => exact ⟨0, Nat.zero_le _, rfl, by simpa [upL] using Bl.lit0 (E := Ty.int) (e := 2) (w := w) (Nat.le_refl _), bA⟩
  case round =>
    obtain ⟨k, hk, rfl, hBl, hbel⟩ := hrel
    have HB := Lib.hid hBl
    clear hBl
    by_cases hkl : (k : Int) < many
    · have hI : I64 (from0 + (k : Int)) := I64.small (by omega) (by omega)
      go_wp2_with (refine wpList_push (E := Ty.int) _ rfl _ _ 62 2 rfl elInt rfl (HB.out.below bA (Nat.le_refl _)) rfl news1 (fr_int hI) (by rw [upL_len]; omega) (by decide) hbel.size (by simp) ?_; intro v1 w1 hB1 hg1 _)
      have hbel1 : Below w.heap.size w w1 := (hbel.alloc hbel.size _).grown hg1 (by have := hbel.size; simp; omega) (fun k hk => HB.out.own hk)
      rw [upL_succ] at hB1
      have HB1 := Lib.hid hB1
      clear hB1
      go_wp2_with fail
      go_roundw
      case rel => exact ⟨k + 1, by omega, by go_num, HB1.out, hbel1⟩
      case measure => simp [intOf]; omega
    · obtain rfl : k = many.toNat := by omega
      go_wp2_with fail
      go_ret
      exact ⟨_, rfl, HB.out, hbel⟩
end Go.Proofs.Ytepebfpgmnidnaa
