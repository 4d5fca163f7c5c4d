/-
  A region that draws its order: what may come up when two or three may; two boxes that are filled last. No program is named here.
-/
import Derived.Test.YtepebfpgmnidnaaReg
import Derived.Test.YtepebfpgmnidnaaSv2
namespace Go.Proofs.Ytepebfpgmnidnaa
open Go.RowKit
section
variable {P : Program} {ops : Array Oper} {Q : Exit → Act → World → Prop} {md : Region.Mode} {S : World → Prop} {tail : List Nat}
/-- number i comes up -/
def stepT (P : Program) (md : Region.Mode) (ops : Array Oper) (Q : Exit → Act → World → Prop) (S : World → Prop) (tail : List Nat) (fuel : Nat) (listed : Array Bool) (a : Act) (w : World) (i : Nat) (o : Oper) : Prop :=
  ∀ K' : Act → World → Prop, Shut (∀ a w, S w → (S w → wpAnyT P md ops Q S tail fuel (listed.setIfInBounds i true) a w) → K' a w) → if Region.wanted o (yielded ops a.tmps) = true then Oper.wp P o a w K' Q else K' (a.put o.dst undef) w
theorem wpAnyT_two {i j : Nat} {oi oj : Oper} {fuel : Nat} {listed : Array Bool} {a : Act} {w : World} (hi : ops[i]? = some oi) (hj : ops[j]? = some oj) (hr : Region.ready md ops listed = [i, j])
    (h1 : stepT P md ops Q S tail fuel listed a w i oi) (h2 : stepT P md ops Q S tail fuel listed a w j oj) : wpAnyT P md ops Q S tail (fuel + 1) listed a w := by
  refine ⟨fun h0 => (by rw [h0] at hr; cases hr), fun k hk => ?_⟩
  rw [hr] at hk
  have hk' : k = i ∨ k = j := by simpa using hk
  rcases hk' with rfl | rfl
  · exact wpOp_step hi (fun K' hK => h1 K' (fun a w hS hW => hK a w ⟨fun _ => hS, hW hS⟩))
  · exact wpOp_step hj (fun K' hK => h2 K' (fun a w hS hW => hK a w ⟨fun _ => hS, hW hS⟩))
theorem wpAnyT_three {i j k : Nat} {oi oj ok : Oper} {fuel : Nat} {listed : Array Bool} {a : Act} {w : World} (hi : ops[i]? = some oi) (hj : ops[j]? = some oj) (hk : ops[k]? = some ok) (hr : Region.ready md ops listed = [i, j, k])
    (h1 : stepT P md ops Q S tail fuel listed a w i oi) (h2 : stepT P md ops Q S tail fuel listed a w j oj) (h3 : stepT P md ops Q S tail fuel listed a w k ok) : wpAnyT P md ops Q S tail (fuel + 1) listed a w := by
  refine ⟨fun h0 => (by rw [h0] at hr; cases hr), fun q hq => ?_⟩
  rw [hr] at hq
  have hq' : q = i ∨ q = j ∨ q = k := by simpa using hq
  rcases hq' with rfl | rfl | rfl
  · exact wpOp_step hi (fun K' hK => h1 K' (fun a w hS hW => hK a w ⟨fun _ => hS, hW hS⟩))
  · exact wpOp_step hj (fun K' hK => h2 K' (fun a w hS hW => hK a w ⟨fun _ => hS, hW hS⟩))
  · exact wpOp_step hk (fun K' hK => h3 K' (fun a w hS hW => hK a w ⟨fun _ => hS, hW hS⟩))
end
/-- two boxes of two cells, filled -/
theorem two_boxes {α β : Type} {E : Ty α} {F : Ty β} {w1 x : World} {b1 b2 l1 h1 l2 h2 : Nat} {u0 u1 v0 v1 y0 y1 z0 z1 : Value} {r : α} {s : β} (hb : Below w1.heap.size w1 x) (hb1 : w1.heap.size ≤ b1) (hb2 : w1.heap.size ≤ b2) (g1 : b1 < x.heap.size) (g2 : b2 < x.heap.size) (hne : b1 ≠ b2)
    (k10 : x.cell? ⟨b1, 0, none⟩ = some y0) (k11 : x.cell? ⟨b1, 1, none⟩ = some y1) (k20 : x.cell? ⟨b2, 0, none⟩ = some z0) (k21 : x.cell? ⟨b2, 1, none⟩ = some z1)
    (R1 : E.RdP (fun k => l1 ≤ k ∧ k < h1) x [u0, u1] r) (R2 : F.RdP (fun k => l2 ≤ k ∧ k < h2) x [v0, v1] s) (a1 : b1 < l1 ∨ h1 ≤ b1) (a2 : b2 < l1 ∨ h1 ≤ b2) (c1 : b1 < l2 ∨ h2 ≤ b1) (c2 : b2 < l2 ∨ h2 ≤ b2) :
    E.Pt ((((x.setCell ⟨b1, 0, none⟩ u0).setCell ⟨b1, 1, none⟩ u1).setCell ⟨b2, 0, none⟩ v0).setCell ⟨b2, 1, none⟩ v1) (.pointer (some ⟨b1, 0, none⟩)) r ∧
      F.Pt ((((x.setCell ⟨b1, 0, none⟩ u0).setCell ⟨b1, 1, none⟩ u1).setCell ⟨b2, 0, none⟩ v0).setCell ⟨b2, 1, none⟩ v1) (.pointer (some ⟨b2, 0, none⟩)) s ∧
      Below w1.heap.size w1 ((((x.setCell ⟨b1, 0, none⟩ u0).setCell ⟨b1, 1, none⟩ u1).setCell ⟨b2, 0, none⟩ v0).setCell ⟨b2, 1, none⟩ v1) := by
  have hS : ∀ (fp : List Nat) (l h : Nat), (∀ k ∈ fp, l ≤ k ∧ k < h) → (b1 < l ∨ h ≤ b1) → (b2 < l ∨ h ≤ b2) → Same fp x ((((x.setCell ⟨b1, 0, none⟩ u0).setCell ⟨b1, 1, none⟩ u1).setCell ⟨b2, 0, none⟩ v0).setCell ⟨b2, 1, none⟩ v1) := by
    intro fp l h hf h1 h2 k hk
    have := hf k hk
    rw [Below.heap_setCell _ _ _ _ (show k ≠ (⟨b2, 1, none⟩ : Addr).block by simp; omega), Below.heap_setCell _ _ _ _ (show k ≠ (⟨b2, 0, none⟩ : Addr).block by simp; omega), Below.heap_setCell _ _ _ _ (show k ≠ (⟨b1, 1, none⟩ : Addr).block by simp; omega), Below.heap_setCell _ _ _ _ (show k ≠ (⟨b1, 0, none⟩ : Addr).block by simp; omega)]
  have hc1 : b2 ≠ b1 := Ne.symm hne
  obtain ⟨f1, r1, r2⟩ := R1
  obtain ⟨f2, s1, s2⟩ := R2
  refine ⟨⟨b1, 0, [u0, u1], rfl, by simpa [World.setCell] using g1, ⟨f1, E.same r1 (hS f1 _ _ r2 a1 a2)⟩, fun j hj => ?_⟩, ⟨b2, 0, [v0, v1], rfl, by simpa [World.setCell] using g2, ⟨f2, F.same s1 (hS f2 _ _ s2 c1 c2)⟩, fun j hj => ?_⟩, ?_⟩
  · rcases (show j = 0 ∨ j = 1 by simp at hj; omega) with rfl | rfl
    · rw [World.cell?_setCell_other _ _ _ _ (by simp), World.cell?_setCell_other _ _ _ _ (by simp), World.cell?_setCell_other _ _ _ _ (by simp), World.cell?_setCell_same _ _ _ k10]
      rfl
    · rw [World.cell?_setCell_other _ _ _ _ (by simp), World.cell?_setCell_other _ _ _ _ (by simp), World.cell?_setCell_same _ _ _ ((World.cell?_setCell_other _ _ _ _ (by simp)).trans k11)]
      rfl
  · rcases (show j = 0 ∨ j = 1 by simp at hj; omega) with rfl | rfl
    · rw [World.cell?_setCell_other _ _ _ _ (by simp), World.cell?_setCell_same _ _ _ ((World.cell?_setCell_other _ _ _ _ (by simp)).trans ((World.cell?_setCell_other _ _ _ _ (by simp)).trans k20))]
      rfl
    · rw [World.cell?_setCell_same _ _ _ ((World.cell?_setCell_other _ _ _ _ (by simp)).trans ((World.cell?_setCell_other _ _ _ _ (by simp)).trans ((World.cell?_setCell_other _ _ _ _ (by simp)).trans k21)))]
      rfl
  · exact (((hb.setCell hb1 _).setCell hb1 _).setCell hb2 _).setCell hb2 _
end Go.Proofs.Ytepebfpgmnidnaa
