/-
  Contracts: slices.Clone, an instance in new memory.
-/
import Derived.Test.YtepebfpgmnidnaaK17
import Derived.Test.YtepebfpgmnidnaaReg
import Derived.Deep.RegionLaw
namespace Go.Proofs.Ytepebfpgmnidnaa
open Go.RowKit Go.Sort
set_option maxHeartbeats 800000 in
theorem Clone_any (w : World) {v : Value} {xs : List Int} (h : intsT.Rd w [v] xs) (hlen : xs.length ≤ 1000000) :
    Calls Try.prog 119 #[v] w (RetS intsT w xs) := by
  have hx := h
  obtain ⟨ad, cap, rfl⟩ := rd_slice h
  have HX := Lib.hid hx
  have hnil := fun w o m c => Lib.run_eql_slice_nil (P := Try.prog) w 62 2 o m c 0 0 Try.underlying62
  rcases Nat.eq_zero_or_pos xs.length with h0 | h0
  · obtain rfl := List.eq_nil_of_length_eq_zero h0
    clear h hx h0 HX
    cases ad
    · go_enter Try.func119, Try.ntmps119
      go_wp2_with fail
      go_ret
      exact ⟨_, rfl, fr_nil, Below.refl _ _⟩
    · go_enter Try.func119, Try.ntmps119
      go_wp2_with fail
      go_ret
      exact ⟨_, rfl, fr_nil, bA⟩
  · obtain ⟨_, _, e1, -, -, hc⟩ := ints_ex h
    simp only [List.cons.injEq, Value.slice.injEq, and_true, true_and] at e1
    obtain ⟨rfl, rfl⟩ := e1
    obtain ⟨b, o, rfl, -⟩ := hc h0
    clear h hx hc
    have HB := Lib.hid (Bl.lit0 (E := Ty.int) (e := 2) (base := w.heap.size) (w := w) (Nat.le_refl _))
    go_enter Try.func119, Try.ntmps119
    go_wp2_with (refine wpList_appI _ rfl _ _ 62 2 rfl elInt rfl HB.out rfl (HX.out.below bA) h0 (by simp; omega) (by decide) (by omega) (by simp) ?_; intro v1 w1 hB1 hg1 _)
    have HB1 := Lib.hid (hB1.fr (by unfold capMax; simp; omega))
    have hb1 : Below w.heap.size w w1 := (bA (w := w)).grown hg1 (by simp) (fun k hk => HB.out.own hk)
    clear hB1
    go_wp2_with fail
    go_ret
    exact ⟨_, rfl, HB1.out, hb1⟩
theorem news2' {w : World} {u u' : Value} {T : TypeId} {B : Nat} (hB : B = w.heap.size) : ∀ j x, [u, u'][j]? = some x → (w.alloc (.cells #[u, u'] T)).cell? ((⟨B, 0, none⟩ : Addr).add j) = some x := by subst hB; exact news2
theorem news1' {w : World} {u : Value} {T : TypeId} {B : Nat} (hB : B = w.heap.size) : ∀ j x, [u][j]? = some x → (w.alloc (.cells #[u] T)).cell? ((⟨B, 0, none⟩ : Addr).add j) = some x := by subst hB; exact news1
theorem set2_cells {w : World} {b : Nat} {x y u v : Value} (h0 : w.cell? ⟨b, 0, none⟩ = some u) (h1 : w.cell? ⟨b, 1, none⟩ = some v) :
    ((w.setCell ⟨b, 0, none⟩ x).setCell ⟨b, 1, none⟩ y).cell? ⟨b, 0, none⟩ = some x ∧ ((w.setCell ⟨b, 0, none⟩ x).setCell ⟨b, 1, none⟩ y).cell? ⟨b, 1, none⟩ = some y :=
  ⟨(World.cell?_setCell_other _ _ _ _ (by simp)).trans (World.cell?_setCell_same _ _ _ h0), World.cell?_setCell_same _ _ _ ((World.cell?_setCell_other _ _ _ _ (by simp)).trans h1)⟩
theorem fr_set2 {α : Type} {E : Ty α} {base : Nat} {w : World} {cs : List Value} {x : α} {b : Nat} {u v : Value} (h : E.Fr base w cs x) (ha : b < base) : E.Fr base ((w.setCell ⟨b, 0, none⟩ u).setCell ⟨b, 1, none⟩ v) cs x := (h.set (a := ⟨b, 0, none⟩) ha).set (a := ⟨b, 1, none⟩) ha
end Go.Proofs.Ytepebfpgmnidnaa
