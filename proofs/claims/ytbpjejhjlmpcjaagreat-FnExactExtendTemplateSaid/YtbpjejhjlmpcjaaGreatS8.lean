/-
  Contracts: the solutions of an instance, the reference's.
-/
import Derived.Test.YtbpjejhjlmpcjaaGreatS7
namespace Go.Proofs.YtbpjejhjlmpcjaaGreat
open Go.RowKit Go.Sort
/-- an atom that is due at k and does not hold -/
noncomputable def badB (t : Int × List (Int × List (List Int))) (k : Nat) (vals : List Int) (a : Int × List Int) : Bool := (topI a.2 == (k : Int)) && !holdsA t vals a
theorem goes_bad {t : Int × List (Int × List (List Int))} {n k : Nat} {ats : List (Int × List Int)} {vals : List Int} (h : vals.length = k + 1) (hk : k < n) : goesB t (duesL ats n) vals = !anyB (badB t k vals) ats := by
  rw [goesB_at h (by rw [duesL_len]; exact hk), duesL_get]
  unfold anyB dueL badB
  rw [List.any_filter]
theorem bad_no {t : Int × List (Int × List (List Int))} {k : Nat} {vals : List Int} {a : Int × List Int} (h : (topI a.2 == (k : Int)) = false) : badB t k vals a = false := by simp only [badB, h, Bool.false_and]
theorem bad_hold {t : Int × List (Int × List (List Int))} {k : Nat} {vals : List Int} {a : Int × List Int} (h : (topI a.2 == (k : Int)) = true) : badB t k vals a = !holdsA t vals a := by simp only [badB, h, Bool.true_and]
theorem anyB_none {α : Type} {p : α → Bool} {xs : List α} (h : noneB p xs) : anyB p xs = false := by
  unfold anyB
  rw [List.any_eq_false]
  intro x hx
  simp [h x hx]
theorem anyB_some {α : Type} {p : α → Bool} {xs : List α} {k : Nat} (h : k < xs.length) (hp : p xs[k] = true) : anyB p xs = true := by
  unfold anyB
  rw [List.any_eq_true]
  exact ⟨_, List.getElem_mem h, hp⟩
/-- a pointer to a datum in blocks below B -/
def Ty.PtB {α : Type} (E : Ty α) (B : Nat) (w : World) (v : Value) (x : α) : Prop := ∃ b o cs, v = .pointer (some ⟨b, o, none⟩) ∧ b < B ∧ b < w.heap.size ∧ E.RdB B w cs x ∧ ∀ j (hj : j < cs.length), w.cell? ⟨b, o + j, none⟩ = some cs[j]
theorem Ty.PtB.pt {α : Type} {E : Ty α} {B : Nat} {w : World} {v : Value} {x : α} (h : E.PtB B w v x) : E.Pt w v x := let ⟨b, o, cs, h1, _, h3, h4, h5⟩ := h; ⟨b, o, cs, h1, h3, h4.rd, h5⟩
theorem Ty.PtB.below {α : Type} {E : Ty α} {B : Nat} {w w' : World} {v : Value} {x : α} (h : E.PtB B w v x) (hb : Below B w w') : E.PtB B w' v x :=
  let ⟨b, o, cs, h1, h2, h3, h4, h5⟩ := h
  ⟨b, o, cs, h1, h2, Nat.lt_of_lt_of_le h3 hb.size, h4.below hb (Nat.le_refl _), fun j hj => (cellB hb h2).trans (h5 j hj)⟩
theorem Ty.Pt.B {α : Type} {E : Ty α} {w : World} {v : Value} {x : α} (h : E.Pt w v x) : E.PtB w.heap.size w v x := let ⟨b, o, cs, h1, h2, h3, h4⟩ := h; ⟨b, o, cs, h1, h2, h2, h3.B, h4⟩
/-- the first ones, where there is a limit -/
def limL (most : Nat) (l : List (List Int)) : List (List Int) := match (most == 0) with
  | true => l
  | false => l.take most
theorem lim_zero {l : List (List Int)} : limL 0 l = l := rfl
theorem lim_pos {most : Nat} {l : List (List Int)} (h : 0 < most) : limL most l = l.take most := by
  have : (most == 0) = false := by simp; omega
  simp only [limL, this]
theorem lim_self {most : Nat} {l : List (List Int)} (h : most = 0 ∨ l.length ≤ most) : limL most l = l := by
  rcases Nat.eq_zero_or_pos most with h0 | h0
  · subst h0; rfl
  · rw [lim_pos h0, List.take_of_length_le (by omega)]
theorem lim_app {most : Nat} {a b : List (List Int)} : limL most (limL most a ++ b) = limL most (a ++ b) := by
  rcases Nat.eq_zero_or_pos most with h0 | h0
  · subst h0; rfl
  · rw [lim_pos h0, lim_pos h0, lim_pos h0, take_app]
theorem lim_stop {most : Nat} {a b : List (List Int)} (h0 : 0 < most) (h : most ≤ (limL most a).length) : limL most (a ++ b) = limL most a := by
  rw [lim_pos h0] at h ⊢
  rw [List.length_take] at h
  rw [lim_pos h0, List.take_append_of_le_length (by omega)]
theorem lim_len {most : Nat} {l : List (List Int)} : (limL most l).length ≤ l.length := by
  rcases Nat.eq_zero_or_pos most with h0 | h0
  · subst h0; exact Nat.le_refl _
  · rw [lim_pos h0, List.length_take]; omega
theorem lim_bd {most : Nat} {l : List (List Int)} (h0 : 0 < most) : (limL most l).length ≤ most := by
  rw [lim_pos h0, List.length_take]; omega
/-- a search in progress, at block bf: what it was told so far -/
def Fnd (e bf most : Nat) (vt vx : Value) (told : List (List Int)) (O : List Nat) (w : World) : Prop :=
  ∃ v, O = bf :: v.ownBlock.toList ∧ bf < w.heap.size ∧ w.cell? ⟨bf, 0, none⟩ = some vt ∧ w.cell? ⟨bf, 1, none⟩ = some vx ∧ w.cell? ⟨bf, 2, none⟩ = some (.int .i64 most) ∧ w.cell? ⟨bf, 3, none⟩ = some v ∧ w.cell? ⟨bf, 4, none⟩ = some (.int .i64 told.length) ∧
    w.frozen? ⟨bf, 3, none⟩ = false ∧ w.frozen? ⟨bf, 4, none⟩ = false ∧ Bl intsT e (bf + 1) w.heap.size w v (told.take most)
theorem Fnd.below {e bf most : Nat} {vt vx : Value} {told : List (List Int)} {O : List Nat} {w w' : World} (h : Fnd e bf most vt vx told O w) (hb : Below w.heap.size w w') : Fnd e bf most vt vx told O w' := by
  obtain ⟨v, h0, h1, c0, c1, c2, c3, c4, m3, m4, hB⟩ := h
  exact ⟨v, h0, Nat.lt_of_lt_of_le h1 hb.size, (cellB hb h1).trans c0, (cellB hb h1).trans c1, (cellB hb h1).trans c2, (cellB hb h1).trans c3, (cellB hb h1).trans c4, (frozenB hb h1).trans m3, (frozenB hb h1).trans m4, (hB.below hb (Nat.le_refl _)).mono hb.size⟩
theorem Fnd.ge {e bf most : Nat} {vt vx : Value} {told : List (List Int)} {O : List Nat} {w : World} (h : Fnd e bf most vt vx told O w) : ∀ k ∈ O, bf ≤ k := by
  obtain ⟨v, rfl, h1, c0, c1, c2, c3, c4, m3, m4, hB⟩ := h
  intro k hk
  rcases List.mem_cons.1 hk with rfl | hk
  · exact Nat.le_refl _
  · have := hB.ge (show v.ownBlock = some k by simpa using hk)
    omega
theorem Fnd.lt {e bf most : Nat} {vt vx : Value} {told : List (List Int)} {O : List Nat} {w : World} (h : Fnd e bf most vt vx told O w) : ∀ k ∈ O, k < w.heap.size := by
  obtain ⟨v, rfl, h1, c0, c1, c2, c3, c4, m3, m4, hB⟩ := h
  intro k hk
  rcases List.mem_cons.1 hk with rfl | hk
  · exact h1
  · exact hB.lt_top (show v.ownBlock = some k by simpa using hk)
end Go.Proofs.YtbpjejhjlmpcjaaGreat
