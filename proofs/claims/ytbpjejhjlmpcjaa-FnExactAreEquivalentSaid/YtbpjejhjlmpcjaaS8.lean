/-
  Contracts: the solutions of an instance, the reference's.
-/
import Derived.Test.YtbpjejhjlmpcjaaS7
namespace Go.Proofs.Ytbpjejhjlmpcjaa
open Go.RowKit Go.Sort
/-- an atom that is due at k and does not hold -/
noncomputable def badB (t : Int × List (Int × List (List Int))) (k : Nat) (vals : List Int) (a : Int × List Int) : Bool := (topI a.2 == (k : Int)) && !holdsA t vals a
theorem goes_bad {t : Int × List (Int × List (List Int))} {n k : Nat} {ats : List (Int × List Int)} {vals : List Int} (h : vals.length = k + 1) (hk : k < n) : goesB t (duesL ats n) vals = !anyB (badB t k vals) ats := by
  rw [goesB_at h (by rw [duesL_len]; exact hk), duesL_get]
  unfold anyB dueL badB
  rw [List.any_filter]
theorem bad_no {t : Int × List (Int × List (List Int))} {k : Nat} {vals : List Int} {a : Int × List Int} (h : (topI a.2 == (k : Int)) = false) : badB t k vals a = false := by simp only [badB, h, Bool.false_and]
theorem bad_hold {t : Int × List (Int × List (List Int))} {k : Nat} {vals : List Int} {a : Int × List Int} (h : (topI a.2 == (k : Int)) = true) : badB t k vals a = !holdsA t vals a := by simp only [badB, h, Bool.true_and]
theorem anyB_none {α : Type} {p : α → Bool} {xs : List α} (h : noneB p xs) : anyB p xs = false := by
  unfold anyB
  rw [List.any_eq_false]
  intro x hx
  simp [h x hx]
theorem anyB_some {α : Type} {p : α → Bool} {xs : List α} {k : Nat} (h : k < xs.length) (hp : p xs[k] = true) : anyB p xs = true := by
  unfold anyB
  rw [List.any_eq_true]
  exact ⟨_, List.getElem_mem h, hp⟩
set_option maxHeartbeats 3200000 in
set_option maxRecDepth 100000 in
theorem sure_any (w : World) {bf : Nat} {vt vx v : Value} {t : Int × List (Int × List (List Int))} {x : Int × List (Int × List Int)} {vals : List Int} (f0 : w.cell? ⟨bf, 0, none⟩ = some vt) (f1 : w.cell? ⟨bf, 1, none⟩ = some vx) (ht : tplT.Pt w vt t) (hxp : instT.Pt w vx x) (hvr : intsT.Rd w [v] vals) (hok : instOk t x) {k : Nat} (hl : vals.length = k + 1) (hk : (k : Int) < x.1) :
    Calls Try.prog 96 #[.pointer (some ⟨bf, 0, none⟩), v] w fun e w' => e = .returned (.bool (goesB t (duesL x.2 x.1.toNat) vals)) ∧ Below w.heap.size w w' := by
  obtain ⟨b, o, ad, cap, rfl, hb, -, c0, c1, hx⟩ := pt_pair hxp
  obtain ⟨b2, o2, _, _, rfl, hb2, -, -, -, -⟩ := pt_pair ht
  obtain ⟨av, capv, rfl⟩ := rd_slice hvr
  obtain ⟨_, _, e1, hle', hle2', hcell⟩ := pairs_ex hx
  simp only [List.cons.injEq, Value.slice.injEq, and_true, true_and] at e1
  obtain ⟨rfl, rfl⟩ := e1
  have HOK := Lib.hid hok
  have HL := Lib.hid hl
  have HTP := Lib.hid ht
  have HV := Lib.hid hvr
  have HX := Lib.hid hx
  have hbf := cell_lt f0
  have hk10 : k ≤ 10 := by have := hok.2.1; omega
  have HG := Lib.hid (goes_bad (t := t) (ats := x.2) (n := x.1.toNat) hl (by omega))
  rw [hl]
  clear hxp hok hl ht hvr hcell hx
  go_enter Try.func96, Try.ntmps96
  go_wp2_with fail
  go_loopw [6] (fun i wr => ∃ q : Nat, q ≤ x.2.length ∧ i = .int .i64 q ∧ noneB (badB t k vals) (x.2.take q) ∧ Below w.heap.size w wr) (fun i _ => x.2.length - (intOf i).toNat)
  case atStart => exact ⟨0, Nat.zero_le _, rfl, noneB_zero _ _, Below.refl _ _⟩
  case round =>
    obtain ⟨q, hq, rfl, hne, hbel⟩ := hrel
    have HN := Lib.hid hne
    have d1 := (hbel.cell hb).trans c1
    have g0 := (hbel.cell hbf).trans f0
    have g1 := (hbel.cell hbf).trans f1
    clear hne
    by_cases hql : q < x.2.length
    · obtain ⟨a, r, rfl, hp⟩ := rd_elem HX.out hql
      have hp' : opT.Pt w (.pointer (some ⟨a, r + q * 2, none⟩)) x.2[q] := hp
      have HP2 := Lib.hid (hp'.below hbel)
      obtain ⟨_, _, sa, sc, hpe, hpb, -, p0, p1, hps⟩ := pt_pair (hp'.below hbel)
      simp only [Value.pointer.injEq, Option.some.injEq, Addr.mk.injEq, and_true] at hpe
      obtain ⟨rfl, rfl⟩ := hpe
      have hcon := HOK.out.2.2.2 _ (List.getElem_mem hql)
      have hsh := scope_short HOK.out.1 hcon
      have HC := Lib.hid hcon
      obtain ⟨_, _, he, -, -, hsce⟩ := ints_ex hps
      simp only [List.cons.injEq, Value.slice.injEq, and_true, true_and] at he
      obtain ⟨rfl, rfl⟩ := he
      have HSC := Lib.hid hsce
      have HPS := Lib.hid hps
      clear hp hp' hcon hps hsce
      go_wp2_with fail
      obtain ⟨wo, rfl⟩ : ∃ wo : World, wo = wr := ⟨_, rfl⟩
      go_loopw [9, 8] (fun i m wi => ∃ j : Nat, j ≤ (x.2[q]).2.length ∧ i = .int .i64 j ∧ m = .int .i64 (topI ((x.2[q]).2.take j)) ∧ wi = wo) (fun i _ _ => (x.2[q]).2.length - (intOf i).toNat)
      case atStart => exact ⟨0, Nat.zero_le _, rfl, by simp [topI], by first | trivial | rfl⟩
      case round =>
        obtain ⟨j, hj, rfl, rfl, rfl⟩ := hrel
        by_cases hjl : j < (x.2[q]).2.length
        · obtain ⟨sb, so, rfl, hsb, hse⟩ := HSC.out (by omega)
          have s0 := (hse j hjl).2
          have HTK := Lib.hid (topI_take hjl)
          clear hse
          go_wp2_with fail
          refine (l00Max_any _ _ _).mono ?_
          rintro e _ ⟨rfl, rfl⟩
          go_wp2_with fail
          go_roundw
          case rel => exact ⟨j + 1, by omega, by go_num, by rw [HTK.out], by first | trivial | rfl⟩
          case measure => simp [intOf]; omega
        · obtain rfl : j = (x.2[q]).2.length := by omega
          rw [List.take_length]
          cases htop : (topI (x.2[q]).2 == (k : Int))
          · have HN1 := Lib.hid (noneB_succ hql HN.out (bad_no (t := t) (vals := vals) htop))
            go_wp2_with fail
            go_roundw
            case rel => exact ⟨q + 1, by omega, by go_num, HN1.out, hbel⟩
            case measure => simp [intOf]; omega
          · have HBH := Lib.hid (bad_hold (t := t) (vals := vals) htop)
            have htk : topI (x.2[q]).2 = (k : Int) := by simpa using htop
            have HIN : Hid (∀ p ∈ (x.2[q]).2, 0 ≤ p ∧ p < (vals.length : Int)) := fun p hp => by
              have h1 := topI_ge hp
              have h2 := HC.out.2.2 p hp
              have := HL.out
              omega
            have hne1 : ((x.2[q]).1 == -1) = false := by have := HC.out.1; simp; omega
            have HHA := Lib.hid (holdsA_rel (t := t) (vals := vals) hne1)
            clear htk hne1
            go_wp2_with fail
            refine (l05Holds_any _ (HTP.out.below hbel) HP2.out (by have := HV.out.below hbel; rw [HL.out] at this; exact this) HC.out HIN.out (by omega)).mono ?_
            rintro e w1 ⟨rfl, hb1⟩
            have hbw1 := bthen hbel hb1
            rw [← HHA.out]
            cases hh : holdsA t vals x.2[q]
            · have HE : Hid (goesB t (duesL x.2 x.1.toNat) vals = false) := by
                unfold Hid
                rw [HG.out, anyB_some hql (by rw [HBH.out, hh]; rfl)]
                rfl
              clear hh
              go_wp2_with fail
              go_ret
              exact ⟨ret_bool HE.out.symm, hbw1⟩
            · have HN1 := Lib.hid (noneB_succ hql HN.out (by rw [HBH.out, hh]; rfl))
              clear hh
              go_wp2_with fail
              go_roundw
              case rel => exact ⟨q + 1, by omega, by go_num, HN1.out, hbw1⟩
              case measure => simp [intOf]; omega
    · obtain rfl : q = x.2.length := by omega
      have HE : Hid (goesB t (duesL x.2 x.1.toNat) vals = true) := by
        unfold Hid
        rw [HG.out, anyB_none (by have := HN.out; rwa [List.take_length] at this)]
        rfl
      go_wp2_with fail
      go_ret
      exact ⟨ret_bool HE.out.symm, hbel⟩
/-- a pointer to a datum in blocks below B -/
def Ty.PtB {α : Type} (E : Ty α) (B : Nat) (w : World) (v : Value) (x : α) : Prop := ∃ b o cs, v = .pointer (some ⟨b, o, none⟩) ∧ b < B ∧ b < w.heap.size ∧ E.RdB B w cs x ∧ ∀ j (hj : j < cs.length), w.cell? ⟨b, o + j, none⟩ = some cs[j]
theorem Ty.PtB.pt {α : Type} {E : Ty α} {B : Nat} {w : World} {v : Value} {x : α} (h : E.PtB B w v x) : E.Pt w v x := let ⟨b, o, cs, h1, _, h3, h4, h5⟩ := h; ⟨b, o, cs, h1, h3, h4.rd, h5⟩
theorem Ty.PtB.below {α : Type} {E : Ty α} {B : Nat} {w w' : World} {v : Value} {x : α} (h : E.PtB B w v x) (hb : Below B w w') : E.PtB B w' v x :=
  let ⟨b, o, cs, h1, h2, h3, h4, h5⟩ := h
  ⟨b, o, cs, h1, h2, Nat.lt_of_lt_of_le h3 hb.size, h4.below hb (Nat.le_refl _), fun j hj => (cellB hb h2).trans (h5 j hj)⟩
theorem Ty.Pt.B {α : Type} {E : Ty α} {w : World} {v : Value} {x : α} (h : E.Pt w v x) : E.PtB w.heap.size w v x := let ⟨b, o, cs, h1, h2, h3, h4⟩ := h; ⟨b, o, cs, h1, h2, h2, h3.B, h4⟩
/-- the first ones, where there is a limit -/
def limL (most : Nat) (l : List (List Int)) : List (List Int) := match (most == 0) with
  | true => l
  | false => l.take most
theorem lim_zero {l : List (List Int)} : limL 0 l = l := rfl
theorem lim_pos {most : Nat} {l : List (List Int)} (h : 0 < most) : limL most l = l.take most := by
  have : (most == 0) = false := by simp; omega
  simp only [limL, this]
theorem lim_self {most : Nat} {l : List (List Int)} (h : most = 0 ∨ l.length ≤ most) : limL most l = l := by
  rcases Nat.eq_zero_or_pos most with h0 | h0
  · subst h0; rfl
  · rw [lim_pos h0, List.take_of_length_le (by omega)]
theorem lim_app {most : Nat} {a b : List (List Int)} : limL most (limL most a ++ b) = limL most (a ++ b) := by
  rcases Nat.eq_zero_or_pos most with h0 | h0
  · subst h0; rfl
  · rw [lim_pos h0, lim_pos h0, lim_pos h0, take_app]
theorem lim_stop {most : Nat} {a b : List (List Int)} (h0 : 0 < most) (h : most ≤ (limL most a).length) : limL most (a ++ b) = limL most a := by
  rw [lim_pos h0] at h ⊢
  rw [List.length_take] at h
  rw [lim_pos h0, List.take_append_of_le_length (by omega)]
theorem lim_len {most : Nat} {l : List (List Int)} : (limL most l).length ≤ l.length := by
  rcases Nat.eq_zero_or_pos most with h0 | h0
  · subst h0; exact Nat.le_refl _
  · rw [lim_pos h0, List.length_take]; omega
theorem lim_bd {most : Nat} {l : List (List Int)} (h0 : 0 < most) : (limL most l).length ≤ most := by
  rw [lim_pos h0, List.length_take]; omega
/-- a search in progress, at block bf: what it was told so far -/
def Fnd (e bf most : Nat) (vt vx : Value) (told : List (List Int)) (O : List Nat) (w : World) : Prop :=
  ∃ v, O = bf :: v.ownBlock.toList ∧ bf < w.heap.size ∧ w.cell? ⟨bf, 0, none⟩ = some vt ∧ w.cell? ⟨bf, 1, none⟩ = some vx ∧ w.cell? ⟨bf, 2, none⟩ = some (.int .i64 most) ∧ w.cell? ⟨bf, 3, none⟩ = some v ∧ w.cell? ⟨bf, 4, none⟩ = some (.int .i64 told.length) ∧
    w.frozen? ⟨bf, 3, none⟩ = false ∧ w.frozen? ⟨bf, 4, none⟩ = false ∧ Bl intsT e (bf + 1) w.heap.size w v (told.take most)
theorem Fnd.below {e bf most : Nat} {vt vx : Value} {told : List (List Int)} {O : List Nat} {w w' : World} (h : Fnd e bf most vt vx told O w) (hb : Below w.heap.size w w') : Fnd e bf most vt vx told O w' := by
  obtain ⟨v, h0, h1, c0, c1, c2, c3, c4, m3, m4, hB⟩ := h
  exact ⟨v, h0, Nat.lt_of_lt_of_le h1 hb.size, (cellB hb h1).trans c0, (cellB hb h1).trans c1, (cellB hb h1).trans c2, (cellB hb h1).trans c3, (cellB hb h1).trans c4, (frozenB hb h1).trans m3, (frozenB hb h1).trans m4, (hB.below hb (Nat.le_refl _)).mono hb.size⟩
theorem Fnd.ge {e bf most : Nat} {vt vx : Value} {told : List (List Int)} {O : List Nat} {w : World} (h : Fnd e bf most vt vx told O w) : ∀ k ∈ O, bf ≤ k := by
  obtain ⟨v, rfl, h1, c0, c1, c2, c3, c4, m3, m4, hB⟩ := h
  intro k hk
  rcases List.mem_cons.1 hk with rfl | hk
  · exact Nat.le_refl _
  · have := hB.ge (show v.ownBlock = some k by simpa using hk)
    omega
theorem Fnd.lt {e bf most : Nat} {vt vx : Value} {told : List (List Int)} {O : List Nat} {w : World} (h : Fnd e bf most vt vx told O w) : ∀ k ∈ O, k < w.heap.size := by
  obtain ⟨v, rfl, h1, c0, c1, c2, c3, c4, m3, m4, hB⟩ := h
  intro k hk
  rcases List.mem_cons.1 hk with rfl | hk
  · exact h1
  · exact hB.lt_top (show v.ownBlock = some k by simpa using hk)
set_option maxHeartbeats 6400000 in
set_option maxRecDepth 100000 in
theorem from_any {t : Int × List (Int × List (List Int))} {x : Int × List (Int × List Int)} (hok : instOk t x) {n s : Nat} (hn : x.1 = n) (hs : t.1 = s) (bf most : Nat) (hm : most ≤ 1000) (vt vx : Value) :
    ∀ (m : Nat) (w : World) (v : Value) (vals : List Int) (fpv : List Nat) (told : List (List Int)) (O : List Nat), vals.length + m = n → Fnd 54 bf most vt vx told O w → tplT.PtB bf w vt t → instT.PtB bf w vx x → intsT.rd w [v] vals fpv → (∀ k ∈ fpv, k ∉ O) → (most = 0 ∨ told.length < most) →
      told.length + (solsL s (goesB t (duesL x.2 n)) m vals).length ≤ 2000000 →
      Calls Try.prog 57 #[.pointer (some ⟨bf, 0, none⟩), v] w fun e w' => (∃ u, e = .returned u) ∧
        ∃ O', Fnd 54 bf most vt vx (limL most (told ++ solsL s (goesB t (duesL x.2 n)) m vals)) O' w' ∧ TchF O w w' ∧ ∀ k ∈ O', k ∈ O ∨ w.heap.size ≤ k := by
  have HOK := Lib.hid hok
  have hs4 := hok.1.1
  unfold sizeOk at hs4
  have hn1 := hok.2.1
  have hs41 : 1 ≤ s ∧ s ≤ 4 := by omega
  have hn10 : 1 ≤ n ∧ n ≤ 10 := by omega
  have HN := Lib.hid hn
  have HS := Lib.hid hs
  clear hok hs4 hn1 hn hs
  intro m
  induction m with
  | zero =>
    intro w v vals fpv told O hlen hF ht hx hv hfv hmt hbd
    obtain ⟨vl, rfl, h1, c0, c1, c2, c3, c4, m3, m4, hB⟩ := hF
    obtain ⟨bx, ox, _, _, rfl, hbx, -, x0, -, -⟩ := pt_pair hx.pt
    obtain ⟨va, vc, rfl⟩ := rd_slice ⟨fpv, hv⟩
    have HV : Hid (intsT.Rd w [.slice va vals.length vc] vals) := ⟨fpv, hv⟩
    have hl : vals.length = n := by omega
    rw [solsL_zero] at hbd ⊢
    have htl : told.length ≤ 2000000 := by simp at hbd; omega
    have hnw : ((vals.length : Int) == (n : Int)) = true := by simp; omega
    rw [HN.out] at x0
    obtain ⟨al, cl, rfl⟩ := rd_slice (hB.fr (by rw [List.length_take]; unfold capMax; omega)).rd
    have hll : (told.take most).length = min most told.length := List.length_take
    generalize (told.take most).length = ln at *
    have HB := Lib.hid hB
    have hrv := hv
    have hfv' := hfv
    clear hv hfv hbd hB
    rw [hl] at HV hnw ⊢
    go_enter Try.func57, Try.ntmps57
    go_wp2_with fail
    generalize hW1 : World.setCell w _ _ = w1
    have hb1 : Below bf w w1 := by rw [← hW1]; exact Below.setCell (Below.refl bf w) (show bf ≤ (⟨bf, 4, none⟩ : Addr).block from Nat.le_refl _) _
    have hsz1 : w.heap.size ≤ w1.heap.size := hb1.size
    have ht1 : TchF (bf :: (Value.slice al ln cl).ownBlock.toList) w w1 := by rw [← hW1]; exact TchF.setCell (List.mem_cons_self ..) _ _ _
    have d0 : w1.cell? ⟨bf, 0, none⟩ = some vt := by rw [← hW1]; exact (World.cell?_setCell_other _ _ _ _ (by simp)).trans c0
    have d1 : w1.cell? ⟨bf, 1, none⟩ = some (.pointer (some ⟨bx, ox, none⟩)) := by rw [← hW1]; exact (World.cell?_setCell_other _ _ _ _ (by simp)).trans c1
    have d2 : w1.cell? ⟨bf, 2, none⟩ = some (.int .i64 most) := by rw [← hW1]; exact (World.cell?_setCell_other _ _ _ _ (by simp)).trans c2
    have d3 : w1.cell? ⟨bf, 3, none⟩ = some (.slice al ln cl) := by rw [← hW1]; exact (World.cell?_setCell_other _ _ _ _ (by simp)).trans c3
    have d4 : w1.cell? ⟨bf, 4, none⟩ = some (.int .i64 ((told.length : Int) + 1)) := by rw [← hW1]; exact World.cell?_setCell_same _ _ _ c4
    have e3 : w1.frozen? ⟨bf, 3, none⟩ = false := by rw [← hW1]; exact (World.frozen?_setCell _ _ _ _).trans m3
    have e4 : w1.frozen? ⟨bf, 4, none⟩ = false := by rw [← hW1]; exact (World.frozen?_setCell _ _ _ _).trans m4
    have HB1 : Hid (Bl intsT 54 (bf + 1) w1.heap.size w1 (.slice al ln cl) (told.take most)) := by
      unfold Hid
      rw [← hW1, size_set]
      exact HB.out.sameB (fun q hq1 hq2 => Below.heap_setCell _ _ _ _ (by simp; omega))
    have HVN : Hid (intsT.rd w [.slice va n vc] vals fpv) := by unfold Hid; rw [← hl]; exact hrv
    have HV1 : Hid (intsT.rd w1 [.slice va n vc] vals fpv) := Ty.rd.tch HVN.out ht1 hfv'
    have h11 : bf < w1.heap.size := by omega
    clear hW1 c0 c1 c2 c3 c4 m3 m4 HB
    have hres : ∀ (w' : World) (v' : Value), Bl intsT 54 (bf + 1) w'.heap.size w' v' ((told ++ [vals]).take most) → w'.cell? ⟨bf, 0, none⟩ = some vt → w'.cell? ⟨bf, 1, none⟩ = some (.pointer (some ⟨bx, ox, none⟩)) → w'.cell? ⟨bf, 2, none⟩ = some (.int .i64 most) → w'.cell? ⟨bf, 3, none⟩ = some v' → w'.cell? ⟨bf, 4, none⟩ = some (.int .i64 ((told.length : Int) + 1)) → w'.frozen? ⟨bf, 3, none⟩ = false → w'.frozen? ⟨bf, 4, none⟩ = false → bf < w'.heap.size → Fnd 54 bf most vt (.pointer (some ⟨bx, ox, none⟩)) (limL most (told ++ [vals])) (bf :: v'.ownBlock.toList) w' := by
      intro w' v' g0 g1 g2 g3 g4 g5 g6 g7 g8
      rw [lim_self (by rw [List.length_append, List.length_singleton]; omega)]
      exact ⟨v', rfl, g8, g1, g2, g3, g4, by rw [g5, List.length_append, List.length_singleton]; rfl, g6, g7, g0⟩
    have HRES := Lib.hid hres
    clear hres
    rcases Nat.eq_zero_or_pos most with hm0 | hm0
    · have HL1 : Hid (told.take most = (told ++ [vals]).take most) := by unfold Hid; rw [hm0]; simp
      have hlt : ¬ ((ln : Int) < (most : Int)) := by omega
      clear hmt hm hm0 hll
      go_wp2_with fail
      go_quiet (fail)
      rename_i nq
      generalize hWq : w1.drewN nq = wq
      have hbdq : Below w1.heap.size w1 wq := hWq ▸ bDN (Below.refl _ _)
      have hzq := hbdq.size
      replace d0 := (cellB hbdq (by omega)).trans d0
      replace d1 := (cellB hbdq (by omega)).trans d1
      replace d2 := (cellB hbdq (by omega)).trans d2
      replace d3 := (cellB hbdq (by omega)).trans d3
      replace d4 := (cellB hbdq (by omega)).trans d4
      replace e3 := (frozenB hbdq (by omega)).trans e3
      replace e4 := (frozenB hbdq (by omega)).trans e4
      have HBq := Lib.hid ((HB1.out.below hbdq (Nat.le_refl _)).mono hzq)
      rw [HL1.out] at HBq
      clear hWq HB1
      go_wp2_with fail
      refine bodyPost_ret (v := .tuple #[]) (by simp [results, Try.results57, go_sem]) rfl ?_
      exact ⟨⟨_, rfl⟩, _, HRES.out wq _ HBq.out d0 d1 d2 d3 d4 e3 e4 (by omega), ht1.then (Below.tchF hbdq _) (fun k hk => .inl hk), fun k hk => .inl hk⟩
    · have HL1 : Hid (told.take most ++ [vals] = (told ++ [vals]).take most) := by
        unfold Hid
        rw [List.take_of_length_le (show told.length ≤ most by omega), List.take_of_length_le (show (told ++ [vals]).length ≤ most by rw [List.length_append, List.length_singleton]; omega)]
      have hlt : (ln : Int) < (most : Int) := by omega
      have hln : ln ≤ 1000 := by omega
      have HLN : Hid ((told.take most).length ≤ 1000) := by unfold Hid; rw [List.length_take]; omega
      clear hmt hm hm0 hll
      go_wp2_with fail
      go_quiet (fail)
      rename_i nq
      generalize hWq : w1.drewN nq = wq
      have hbdq : Below w1.heap.size w1 wq := hWq ▸ bDN (Below.refl _ _)
      have hzq := hbdq.size
      replace d0 := (cellB hbdq (by omega)).trans d0
      replace d1 := (cellB hbdq (by omega)).trans d1
      replace d2 := (cellB hbdq (by omega)).trans d2
      replace d3 := (cellB hbdq (by omega)).trans d3
      replace d4 := (cellB hbdq (by omega)).trans d4
      replace e3 := (frozenB hbdq (by omega)).trans e3
      replace e4 := (frozenB hbdq (by omega)).trans e4
      have HBq := Lib.hid ((HB1.out.below hbdq (Nat.le_refl _)).mono hzq)
      have HVq : Hid (intsT.Rd wq [.slice va n vc] vals) := ⟨fpv, HV1.out.below hbdq⟩
      have htq : TchF (bf :: (Value.slice al ln cl).ownBlock.toList) w wq := ht1.then (Below.tchF hbdq _) (fun k hk => .inl hk)
      have hbq : bf < wq.heap.size := by omega
      have HOWN : Hid (∀ q, (Value.slice al ln cl).ownBlock = some q → bf + 1 ≤ q ∧ q < wq.heap.size) := fun q hq => ⟨HBq.out.ge hq, HBq.out.lt_top hq⟩
      clear hWq HB1 HV1 ht1 hbdq
      go_wp2_with fail
      refine wp_region_T (fun w' => w'.cell? ⟨bf, 3, none⟩ = some (.slice al ln cl)) [11] (by kernel_rfl) d3 (fun hHeld => ?_)
      refine wpAnyT_take (i := 0) (v := ?_) rfl (by kernel_rfl) (fun _ _ _ h => h) (Or.inl ⟨by rfl, ?_⟩) (by assumption) ?_
      rotate_left
      · (intro w hSw; (try dsimp only at hSw); go_simp <;> with_reducible rfl)
      try simp only [Act.put]
      refine wpAnyT_take (i := 1) (v := ?_) rfl (by kernel_rfl) (fun _ _ _ h => h) (Or.inl ⟨by rfl, ?_⟩) (by assumption) ?_
      rotate_left
      · (intro w hSw; (try dsimp only at hSw); go_simp <;> with_reducible rfl)
      try simp only [Act.put]
      refine wpAnyT_take (i := 2) (v := ?_) rfl (by kernel_rfl) (fun _ _ _ h => h) (Or.inl ⟨by rfl, ?_⟩) (by assumption) ?_
      rotate_left
      · (intro w hSw; (try dsimp only at hSw); go_simp <;> with_reducible rfl)
      try simp only [Act.put]
      refine wpAnyT_take (i := 3) (v := ?_) rfl (by kernel_rfl) (fun _ _ _ h => h) (Or.inl ⟨by rfl, ?_⟩) (by assumption) ?_
      rotate_left
      · (intro w hSw; (try dsimp only at hSw); go_simp <;> with_reducible rfl)
      try simp only [Act.put]
      refine wpAnyT_take (i := 4) (v := ?_) rfl (by kernel_rfl) (fun _ _ _ h => h) (Or.inl ⟨by rfl, ?_⟩) (by assumption) ?_
      rotate_left
      · (intro w hSw; (try dsimp only at hSw); go_simp <;> with_reducible rfl)
      try simp only [Act.put]
      refine wpAnyT_take (i := 5) (v := ?_) rfl (by kernel_rfl) (fun _ _ _ h => h) (Or.inl ⟨by rfl, ?_⟩) (by assumption) ?_
      rotate_left
      · (intro w hSw; (try dsimp only at hSw); go_simp <;> with_reducible rfl)
      try simp only [Act.put]
      refine wpAnyT_one (i := 6) rfl (by kernel_rfl) (fun K hK => ?_)
      go_simp
      go_at_call 95
      refine (l00Own_any _ (HVq.out.below bD) (by omega)).mono ?_
      rintro e w2 ⟨u2, rfl, hB2, hb2⟩
      have hf := hB2.fr (by unfold capMax; omega)
      obtain ⟨a2, n2, c2, rfl⟩ := ex_slice hf
      have HF := Lib.hid hf
      have hb2' : Below wq.heap.size wq w2 := bthen bD hb2
      replace d0 := (cellB hb2' (by omega)).trans d0
      replace d1 := (cellB hb2' (by omega)).trans d1
      replace d2 := (cellB hb2' (by omega)).trans d2
      replace d3 := (cellB hb2' (by omega)).trans d3
      replace d4 := (cellB hb2' (by omega)).trans d4
      replace e3 := (frozenB hb2' (by omega)).trans e3
      replace e4 := (frozenB hb2' (by omega)).trans e4
      have hz2 := hb2'.size
      clear hf hB2 hb2 hHeld
      dsimp only
      refine hK.out _ _ d3 (fun hHeld => ?_)
      clear hK K
      refine wpAnyT_one (i := 7) rfl (by kernel_rfl) (fun K hK => ?_)
      go_simp
      refine hK.out _ _ (by go_keep) (fun hHeld => ?_)
      clear hK K
      refine wpAnyT_one (i := 8) rfl (by kernel_rfl) (fun K hK => ?_)
      refine step_push (E := intsT) _ rfl _ _ 49 54 rfl elInt64SS rfl (HBq.out.below (hb2'.alloc hz2 _) (Nat.le_refl _)) rfl news1 (HF.out.below bA) (by have := HLN.out; omega) (by decide) (by omega) (by simp; omega) ?_
      intro v5 w5 hB5 hg5 hown
      obtain ⟨a5, n5, c5, rfl⟩ := ex_slice (hB5.fr (by rw [List.length_append]; have := HLN.out; unfold capMax; simp only [List.length_singleton]; omega))
      have hg6 : (w2.alloc (.cells #[.slice a2 n2 c2] 54)).grownBy w5 (Value.slice al ln cl).ownBlock := hg5
      have hown6 : (Value.slice a5 n5 c5).ownBlock = (Value.slice al ln cl).ownBlock ∨ (Value.slice a5 n5 c5).ownBlock = some (w2.alloc (.cells #[.slice a2 n2 c2] 54)).heap.size := hown
      have hba : Below w2.heap.size w2 (w2.alloc (.cells #[.slice a2 n2 c2] 54)) := bA
      generalize hWX : w2.alloc (.cells #[.slice a2 n2 c2] 54) = wx at hg6 hown6 hba
      have hzx := hba.size
      have hnb : (Value.slice al ln cl).ownBlock ≠ some bf := fun e => by have := (HOWN.out bf e).1; omega
      have hC : ∀ j, w5.cell? ⟨bf, j, none⟩ = w2.cell? ⟨bf, j, none⟩ := fun j => (grown_cell' (i := j) hg6 (show bf < wx.heap.size by omega) hnb).trans (cellB hba (show bf < w2.heap.size by omega))
      have hM : ∀ j, w5.frozen? ⟨bf, j, none⟩ = w2.frozen? ⟨bf, j, none⟩ := fun j => (World.frozen?_of_block (a := ⟨bf, j, none⟩) (hg6.block bf (show bf < wx.heap.size by omega) (fun e => hnb e.symm))).trans (frozenB hba (show bf < w2.heap.size by omega))
      replace d0 := (hC 0).trans d0
      replace d1 := (hC 1).trans d1
      replace d2 := (hC 2).trans d2
      replace d3 := (hC 3).trans d3
      replace d4 := (hC 4).trans d4
      replace e3 := (hM 3).trans e3
      replace e4 := (hM 4).trans e4
      have hz5 := hg6.size
      have HT5 : Hid (TchF (bf :: (Value.slice al ln cl).ownBlock.toList) w w5) := (htq.then (Below.tchF (bthen hb2' hba) _) (fun k hk => .inl hk)).then (grown_tchF hg6) (fun k hk => .inl (List.mem_cons_of_mem _ hk))
      rw [HL1.out] at hB5
      have HB5 := Lib.hid hB5
      have hown7 : ∀ q, (Value.slice a5 n5 c5).ownBlock = some q → (Value.slice al ln cl).ownBlock = some q ∨ wx.heap.size ≤ q := fun q hq => by
        rcases hown6 with h | h
        · exact .inl (by rw [← h]; exact hq)
        · rw [h] at hq
          simp at hq
          exact .inr (by omega)
      have HOWN7 := Lib.hid hown7
      clear hB5 hown hown6 hg5 hg6 hown7 hC hM hWX htq hnb
      refine hK.out _ _ d3 (fun hHeld => ?_)
      clear hK K
      refine wpAnyT_take (i := 9) (v := ?_) rfl (by kernel_rfl) (fun _ _ _ h => h) (Or.inl ⟨by rfl, ?_⟩) (by assumption) ?_
      rotate_left
      · (intro w hSw; (try dsimp only at hSw); go_simp <;> with_reducible rfl)
      try simp only [Act.put]
      refine wpAnyT_take (i := 10) (v := ?_) rfl (by kernel_rfl) (fun _ _ _ h => h) (Or.inl ⟨by rfl, ?_⟩) (by assumption) ?_
      rotate_left
      · (intro w hSw; (try dsimp only at hSw); go_simp <;> with_reducible rfl)
      try simp only [Act.put]
      refine wpAnyT_last (i := 11) rfl (by kernel_rfl) (by kernel_rfl) (fun K hK => ?_)
      go_simp
      refine hK.out _ _ ?_
      clear hK K
      refine wpAnyT_done (by kernel_rfl) ?_ _
      go_simp
      go_wp2_with fail
      have hbx5 : bf < w5.heap.size := by omega
      have HF5 : Hid (Bl intsT 54 (bf + 1) w5.heap.size (w5.setCell ⟨bf, 3, none⟩ (.slice a5 n5 c5)) (.slice a5 n5 c5) ((told ++ [vals]).take most)) := HB5.out.sameB (fun q hq1 hq2 => Below.heap_setCell _ _ _ _ (by simp; omega))
      refine bodyPost_ret (v := .tuple #[]) (by simp [results, Try.results57, go_sem]) rfl ?_
      refine ⟨⟨_, rfl⟩, _, HRES.out _ _ (by rw [size_set]; exact HF5.out) ((World.cell?_setCell_other _ _ _ _ (by simp)).trans d0) ((World.cell?_setCell_other _ _ _ _ (by simp)).trans d1) ((World.cell?_setCell_other _ _ _ _ (by simp)).trans d2) (World.cell?_setCell_same _ _ _ d3) ((World.cell?_setCell_other _ _ _ _ (by simp)).trans d4) ((World.frozen?_setCell _ _ _ _).trans e3) ((World.frozen?_setCell _ _ _ _).trans e4) (by rw [size_set]; exact hbx5), HT5.out.trans (TchF.setCell (List.mem_cons_self ..) _ _ _), fun k hk => ?_⟩
      rcases List.mem_cons.1 hk with rfl | hk
      · exact .inl (List.mem_cons_self ..)
      · rcases HOWN7.out k (by simpa using hk) with h | h
        · exact .inl (List.mem_cons_of_mem _ (by simpa using h))
        · exact .inr (by omega)
  | succ m ih =>
    intro w v vals fpv told O hlen hF ht hx hv hfv hmt hbd
    have HF0 := Lib.hid hF
    have HTB := Lib.hid ht
    have HXB := Lib.hid hx
    have hOge := hF.ge
    have hbfw : bf < w.heap.size := let ⟨_, _, h, _⟩ := hF; h
    obtain ⟨vl, -, h1, c0, c1, -, -, -, -, -, -⟩ := hF
    obtain ⟨bx, ox, _, _, rfl, hbx, -, x0, -, -⟩ := pt_pair hx.pt
    obtain ⟨bt, ot, _, _, rfl, hbt, -, t0, -, -⟩ := pt_pair ht.pt
    obtain ⟨va, vc, rfl⟩ := rd_slice ⟨fpv, hv⟩
    have hvb : bt < bf ∧ bx < bf := by
      obtain ⟨b, o, cs, he, h, -⟩ := ht
      obtain ⟨b', o', cs', he', h', -⟩ := hx
      simp only [Value.pointer.injEq, Option.some.injEq, Addr.mk.injEq, and_true] at he he'
      omega
    have HV := Lib.hid hv
    have HFV := Lib.hid hfv
    have HIH := Lib.hid ih
    have hl : vals.length < n := by omega
    have hne : ((vals.length : Int) == (n : Int)) = false := by simp; omega
    have HMT : Hid (most = 0 ∨ told.length ≤ most) := by unfold Hid; omega
    rw [HN.out] at x0
    rw [HS.out] at t0
    rw [solsL_succ]
    rw [solsL_succ] at hbd
    have HBD := Lib.hid hbd
    have HOGE := Lib.hid hOge
    clear ht hx hv hfv ih hbd hmt hOge
    go_enter Try.func57, Try.ntmps57
    go_wp2_with fail
    go_loopw [4] (fun i wr => ∃ (k : Nat) (O' : List Nat), k ≤ s ∧ i = .int .i64 k ∧ Fnd 54 bf most (.pointer (some ⟨bt, ot, none⟩)) (.pointer (some ⟨bx, ox, none⟩)) (limL most (told ++ solsTo s (goesB t (duesL x.2 n)) m vals k)) O' wr ∧ TchF O w wr ∧ (∀ q ∈ O', q ∈ O ∨ w.heap.size ≤ q)) (fun i _ => s - (intOf i).toNat)
    case atStart => exact ⟨0, O, Nat.zero_le _, rfl, by rw [solsTo_zero, List.append_nil, lim_self HMT.out]; exact HF0.out, TchF.refl _ _, fun q hq => .inl hq⟩
    case round =>
      obtain ⟨k, O', hk, rfl, hFk, htc, hO'⟩ := hrel
      have HFK := Lib.hid hFk
      have HO := Lib.hid hO'
      have hbw : Below bf w wr := htc.below (Nat.le_of_lt hbfw) HOGE.out
      have htz := htc.size
      have y0 := (cellB hbw hvb.1).trans t0
      have y1 := (cellB hbw hvb.2).trans x0
      obtain ⟨vl, hOe, h1', d0, d1, d2, d3, d4, e3, e4, hB⟩ := hFk
      obtain ⟨al, cl, rfl⟩ := rd_slice (hB.fr (by have := lim_len (most := most) (l := told ++ solsTo s (goesB t (duesL x.2 n)) m vals k); rw [List.length_append] at this; have := HBD.out; obtain ⟨r, hr⟩ := solsTo_append (s := s) (m := m) (sure := goesB t (duesL x.2 n)) (vals := vals) (k := k) (j := s) hk; rw [hr, List.length_append] at this; rw [List.length_take]; unfold capMax; omega)).rd
      have hll : ((limL most (told ++ solsTo s (goesB t (duesL x.2 n)) m vals k)).take most).length = min most (limL most (told ++ solsTo s (goesB t (duesL x.2 n)) m vals k)).length := List.length_take
      generalize ((limL most (told ++ solsTo s (goesB t (duesL x.2 n)) m vals k)).take most).length = ln at *
      clear hO' hOe d4 e3 e4 hB HF0
      by_cases hkl : k < s
      · by_cases hfull : 0 < most ∧ most ≤ (limL most (told ++ solsTo s (goesB t (duesL x.2 n)) m vals k)).length
        · have hln : ln = most := by omega
          have hd1 : decide ((0 : Int) < (most : Int)) = true := by simp; omega
          have hd2 : ((ln : Int) == (most : Int)) = true := by simp; omega
          have HST : Hid (limL most (told ++ solsTo s (goesB t (duesL x.2 n)) m vals s) = limL most (told ++ solsTo s (goesB t (duesL x.2 n)) m vals k)) := by
            unfold Hid
            obtain ⟨r, hr⟩ := solsTo_append (s := s) (m := m) (sure := goesB t (duesL x.2 n)) (vals := vals) (k := k) (j := s) hk
            rw [hr, ← List.append_assoc]
            exact lim_stop hfull.1 hfull.2
          have hpos := hfull.1
          clear hfull hll hln
          go_wp2_with fail
          go_quiet (fail)
          go_wp2_with fail
          refine bodyPost_ret (v := .tuple #[]) (by simp [results, Try.results57, go_sem]) rfl ?_
          exact ⟨⟨_, rfl⟩, O', by rw [HST.out]; exact HFK.out.below (Quiet.drewN _ _).below, htc.then (Below.tchF (Quiet.drewN _ _).below O) (fun q hq => .inl hq), HO.out⟩
        · have hmt2 : most = 0 ∨ (limL most (told ++ solsTo s (goesB t (duesL x.2 n)) m vals k)).length < most := by omega
          have HMT2 := Lib.hid hmt2
          have hg : (decide ((0 : Int) < (most : Int)) = false ∧ decide (0 < most) = false) ∨ (decide ((0 : Int) < (most : Int)) = true ∧ decide (0 < most) = true ∧ ((ln : Int) == (most : Int)) = false ∧ (ln == most) = false) := by
            rcases Nat.eq_zero_or_pos most with h0 | h0
            · exact .inl ⟨by simp; omega, by simp; omega⟩
            · exact .inr ⟨by simp; omega, by simp; omega, by simp; omega, by simp; omega⟩
          have HBK : Hid ((limL most (told ++ solsTo s (goesB t (duesL x.2 n)) m vals k)).length + (if goesB t (duesL x.2 n) (vals ++ [(k : Int)]) = true then (solsL s (goesB t (duesL x.2 n)) m (vals ++ [(k : Int)])).length else 0) ≤ 2000000) := by
            unfold Hid
            have h1 := HBD.out
            have h2 := lim_len (most := most) (l := told ++ solsTo s (goesB t (duesL x.2 n)) m vals k)
            rw [List.length_append] at h2
            obtain ⟨r, hr⟩ := solsTo_append (s := s) (m := m) (sure := goesB t (duesL x.2 n)) (vals := vals) (k := k + 1) (j := s) (by omega)
            by_cases hg : goesB t (duesL x.2 n) (vals ++ [(k : Int)]) = true
            · rw [if_pos hg]
              rw [hr, solsTo_yes hg, List.length_append, List.length_append] at h1
              omega
            · rw [if_neg hg]
              rw [hr, solsTo_no (by simpa using hg), List.length_append] at h1
              omega
          have HVR : Hid (intsT.Rd wr [.slice va vals.length vc] vals) := ⟨fpv, HV.out.tch htc HFV.out⟩
          have HLT := Lib.hid HFK.out.lt
          have hbb := hvb.1
          have hbx' := hvb.2
          clear hfull hll hmt2
          rcases hg with ⟨hd1, hd3⟩ | ⟨hd1, hd3, hd2, hd4⟩
          all_goals
            go_wp2_with fail
            go_quiet (fail)
            rename_i nq
            generalize hWq : wr.drewN nq = wq
            have hbdq : Below wr.heap.size wr wq := hWq ▸ bDN (Below.refl _ _)
            have hzq := hbdq.size
            replace y0 := (cellB hbdq (by omega)).trans y0
            replace y1 := (cellB hbdq (by omega)).trans y1
            replace d0 := (cellB hbdq (by omega)).trans d0
            replace d1 := (cellB hbdq (by omega)).trans d1
            clear hWq hd1 hd3
            go_wp2_with fail
            refine (l00Own_any _ (HVR.out.below hbdq) (by omega)).mono ?_
            rintro e w2 ⟨u2, rfl, hB2, hb2⟩
            obtain ⟨a2, n2, c2, rfl⟩ := ex_slice (hB2.fr (by unfold capMax; omega))
            have HB2 := Lib.hid hB2
            have hz2 := hb2.size
            replace y0 := (cellB hb2 (by omega)).trans y0
            replace y1 := (cellB hb2 (by omega)).trans y1
            replace d0 := (cellB hb2 (by omega)).trans d0
            replace d1 := (cellB hb2 (by omega)).trans d1
            clear hB2
            go_wp2_with (refine wpList_push (E := Ty.int) _ rfl _ _ 54 2 rfl elInt rfl (HB2.out.below bA (Nat.le_refl _)) rfl news1 (fr_int (I64.small (by omega) (by omega))) (by omega) (by decide) hz2 (by simp) ?_; intro v5 w5 hB5 hg5 _; have hb5 : Below wq.heap.size w2 w5 := ((bA (w := w2)).mono hz2).grown hg5 (by simp; omega) (fun q hq => HB2.out.own hq); obtain ⟨a5, n5, c5, rfl⟩ := ex_slice (hB5.fr (by rw [List.length_append]; unfold capMax; simp only [List.length_singleton]; omega)))
            have hz5 := hb5.size
            obtain ⟨fp5, hr5, -, hfb5, -⟩ := hB5.fr (by rw [List.length_append]; unfold capMax; simp only [List.length_singleton]; omega)
            have HR5 := Lib.hid hr5
            have HFB5 := Lib.hid hfb5
            have hbq5 : Below wq.heap.size wq w5 := hb2.trans hb5
            have hbr5 : Below wr.heap.size wr w5 := hbdq.trans (hbq5.mono hzq)
            replace y0 := (cellB hb5 (by omega)).trans y0
            replace y1 := (cellB hb5 (by omega)).trans y1
            replace d0 := (cellB hb5 (by omega)).trans d0
            replace d1 := (cellB hb5 (by omega)).trans d1
            have hbw5 : Below bf w w5 := hbw.trans (hbr5.mono (by omega))
            have HT5 := Lib.hid (HTB.out.below hbw5)
            have HX5 := Lib.hid (HXB.out.below hbw5)
            have HF5 := Lib.hid (HFK.out.below hbr5)
            have ht5 : TchF O w w5 := htc.then (Below.tchF hbr5 O) (fun q hq => .inl hq)
            clear hB5 hg5 hr5 hfb5
            have hNN := HN.out
            refine (sure_any w5 d0 d1 HT5.out.pt HX5.out.pt ⟨fp5, HR5.out⟩ HOK.out (k := vals.length) (by simp) (by omega)).mono ?_
            rintro e w6 ⟨rfl, hb6⟩
            rw [show x.1.toNat = n by omega]
            have hz6 := hb6.size
            replace y0 := (cellB hb6 (by omega)).trans y0
            replace y1 := (cellB hb6 (by omega)).trans y1
            replace d0 := (cellB hb6 (by omega)).trans d0
            replace d1 := (cellB hb6 (by omega)).trans d1
            have hbr6 := bthen hbr5 hb6
            have ht6 : TchF O w w6 := ht5.then (Below.tchF hb6 O) (fun q hq => .inl hq)
            clear hNN
            cases hg : goesB t (duesL x.2 n) (vals ++ [(k : Int)])
            · have HNO := Lib.hid (solsTo_no (s := s) (m := m) hg)
              clear hg
              go_wp2_with fail
              go_roundw
              case rel => exact ⟨k + 1, O', by omega, by go_num, by rw [HNO.out]; exact HF5.out.below hb6, ht6, HO.out⟩
              case measure => simp [intOf]; omega
            · have HYES := Lib.hid (solsTo_yes (s := s) (m := m) hg)
              rw [hg, if_pos rfl] at HBK
              clear hg
              go_wp2_with fail
              refine (HIH.out w6 (.slice a5 n5 c5) (vals ++ [(k : Int)]) fp5 _ O' (by rw [List.length_append, List.length_singleton]; omega) (HF5.out.below hb6) (HT5.out.below (hb6.mono (by omega))) (HX5.out.below (hb6.mono (by omega))) (HR5.out.below hb6) (fun q hq hm => by have := HFB5.out q hq; have := HLT.out q hm; omega) HMT2.out HBK.out).mono ?_
              rintro e w7 ⟨⟨u7, rfl⟩, O2, hF7, ht7, hO2⟩
              rw [lim_app, List.append_assoc, ← HYES.out] at hF7
              have HF7 := Lib.hid hF7
              have ht8 : TchF O w w7 := ht6.then ht7 HO.out
              have HO2 : Hid (∀ q ∈ O2, q ∈ O ∨ w.heap.size ≤ q) := fun q hq => by
                rcases hO2 q hq with h | h
                · exact HO.out q h
                · exact .inr (by omega)
              clear hF7 ht7 hO2 y0 y1 d0 d1
              go_wp2_with fail
              go_roundw
              case rel => exact ⟨k + 1, O2, by omega, by go_num, HF7.out, ht8, HO2.out⟩
              case measure => simp [intOf]; omega
      · obtain rfl : k = s := by omega
        clear d0 d1 d2 d3
        have d0 : wr.cell? ⟨bf, 0, none⟩ = some (.pointer (some ⟨bt, ot, none⟩)) := let ⟨_, _, _, h, _⟩ := HFK.out; h
        go_wp2_with fail
        refine bodyPost_end (v := .tuple #[]) (by simp [results, Try.results57, go_sem]) rfl ?_
        exact ⟨⟨_, rfl⟩, O', HFK.out, htc, HO.out⟩
end Go.Proofs.Ytbpjejhjlmpcjaa
