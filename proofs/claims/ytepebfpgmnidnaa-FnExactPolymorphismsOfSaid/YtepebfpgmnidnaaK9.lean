/-
  The order of tuples; tuples at places; search in a relation.
-/
import Derived.Test.YtepebfpgmnidnaaK3
import Derived.Test.YtepebfpgmnidnaaKT
namespace Go.Proofs.Ytepebfpgmnidnaa
open Go.RowKit Go.Sort
theorem cmpI_neg {x y : Int} : cmpI x y < 0 ↔ x < y := by
  unfold cmpI
  split
  · simpa
  · split <;> omega
theorem ltL_trans : ∀ {a b c : List Int}, ltL a b → ltL b c → ltL a c
  | [], [], _, h, _ => by simp [ltL, cmpL] at h
  | _ :: _, [], _, h, _ => by simp [ltL, cmpL] at h
  | _, _ :: _, [], _, h => by simp [ltL, cmpL] at h
  | [], _ :: _, _ :: _, _, _ => by simp [ltL, cmpL]
  | x :: a, y :: b, z :: c, h, h' => by
    unfold ltL at h h' ⊢
    simp only [cmpL] at h h' ⊢
    by_cases e1 : x = y
    · by_cases e2 : y = z
      · subst e1; subst e2
        simp only [if_true] at h h' ⊢
        exact ltL_trans h h'
      · subst e1
        rw [if_neg e2] at h' ⊢
        exact h'
    · rw [if_neg e1] at h
      rw [cmpI_neg] at h
      by_cases e2 : y = z
      · subst e2
        rw [if_neg e1, cmpI_neg]; exact h
      · rw [if_neg e2, cmpI_neg] at h'
        rw [if_neg (by omega), cmpI_neg]; omega
theorem cmpL_zero : ∀ {a b : List Int}, cmpL a b = 0 → a = b
  | [], [], _ => rfl
  | [], _ :: _, h => by simp [cmpL] at h
  | _ :: _, [], h => by simp [cmpL] at h
  | x :: a, y :: b, h => by
    simp only [cmpL] at h
    by_cases e : x = y
    · subst e
      rw [if_pos rfl] at h
      rw [cmpL_zero h]
    · rw [if_neg e] at h
      unfold cmpI at h
      split at h
      · omega
      · split at h <;> omega
/-- sorted in the order of lists -/
def sortedL (xs : List (List Int)) : Prop := ∀ i (h : i < xs.length), 0 < i → ltL (xs[i - 1]'(by omega)) xs[i]
theorem sortedL_lt {xs : List (List Int)} (hs : sortedL xs) : ∀ {a b : Nat} (hb : b < xs.length) (hab : a < b), ltL (xs[a]'(by omega)) xs[b] := by
  intro a b hb hab
  induction b with
  | zero => omega
  | succ b ih =>
    have h1 := hs (b + 1) hb (by omega)
    simp only [Nat.add_sub_cancel] at h1
    by_cases e : a = b
    · subst e; exact h1
    · exact ltL_trans (ih (by omega) (by omega)) h1
theorem relOk_sorted {size : Int} {r : Int × List (List Int)} (h : relOk size r) : sortedL r.2 := fun i hi h0 => (h.2.2 i hi).2 h0
/-- the elements of a list at places -/
def atL (l places : List Int) : List Int := places.map fun p => l.getD p.toNat 0
theorem atL_len {l places : List Int} : (atL l places).length = places.length := by simp [atL]
theorem atL_take {l places : List Int} {k j : Nat} (hk : k < places.length) (hj : places[k] = (j : Int)) (hl : j < l.length) : atL l (places.take k) ++ [l[j]] = atL l (places.take (k + 1)) := by
  rw [← take_snoc hk]
  simp [atL, hj, hl]
theorem Bl.own {α : Type} {E : Ty α} {e base top : Nat} {w : World} {v : Value} {ys : List α} (h : Bl E e base top w v ys) {g : Nat} (hg : v.ownBlock = some g) : base ≤ g := by
  obtain ⟨L, fps, h1, _⟩ := h
  exact (h1.lt g hg).1
theorem news1 {w : World} {u : Value} {T : TypeId} : ∀ j x, [u][j]? = some x → (w.alloc (.cells #[u] T)).cell? ((⟨w.heap.size, 0, none⟩ : Addr).add j) = some x := by
  intro j x h
  match j with
  | 0 => simp at h; subst h; simp [Addr.add]
  | j + 1 => simp at h
theorem bs_found {xs : List (List Int)} {ys : List Int} {i : Nat} (hi : i ≤ xs.length) (h1 : ∀ a (h : a < xs.length), a < i → cmpL xs[a] ys < 0) (h2 : ∀ a (h : a < xs.length), i ≤ a → ¬ cmpL xs[a] ys < 0) (hs : sortedL xs) :
    (ys ∈ xs) ↔ ∃ h : i < xs.length, cmpL xs[i] ys = 0 := by
  constructor
  · intro hm
    obtain ⟨a, ha, rfl⟩ := List.getElem_of_mem hm
    have h3 : ¬ a < i := fun hlt => by have := h1 a ha hlt; rw [cmpL_self] at this; omega
    have h4 : i = a := by
      rcases Nat.lt_or_ge i a with hlt | hge
      · exact absurd (sortedL_lt hs ha hlt) (h2 i (by omega) (Nat.le_refl _))
      · omega
    subst h4
    exact ⟨ha, cmpL_self _⟩
  · rintro ⟨h, he⟩
    rw [← cmpL_zero he]
    exact List.getElem_mem h
theorem ret_ib {i : Int} {b d : Bool} (h : b = d) : Ending.returned (.tuple #[.int .i64 i, .bool b]) = .returned (.tuple #[.int .i64 i, .bool d]) := by rw [h]
set_option maxHeartbeats 1600000 in
set_option maxRecDepth 100000 in
theorem BSearch_any (w : World) {v u : Value} {xs : List (List Int)} {ys : List Int} (h : rowsT.Rd w [v] xs) (_h' : intsT.Rd w [u] ys) (hs : sortedL xs) (g : Nat) (eg : ∀ args w, (callFunc g args).run Try.prog w = .ok (.enter g args) w)
    (hp : Hid (∀ k (h : k < xs.length) (c : Value), intsT.Rd w [c] xs[k] → Calls Try.prog g #[c, u] w fun e w' => e = .returned (.int .i64 (cmpL xs[k] ys)) ∧ w = w')) :
    Calls Try.prog 179 #[v, u, .func (.func g) #[] #[]] w fun e w' => (∃ i : Int, e = .returned (.tuple #[.int .i64 i, .bool (tb (ys ∈ xs))])) ∧ w = w' := by
  obtain ⟨ad, cap, hv, hl, hc, hcell⟩ := slices_ex h
  obtain rfl : v = _ := by simpa using hv
  have HS := Lib.hid hs
  clear h hv hs
  go_enter Try.func179, Try.ntmps179
  go_wp2_with fail
  go_loop [9, 10, 11] (fun i j _ => ∃ a b : Nat, a ≤ b ∧ b ≤ xs.length ∧ i = .int .i64 a ∧ j = .int .i64 b ∧ (∀ c (h : c < xs.length), c < a → cmpL xs[c] ys < 0) ∧ (∀ c (h : c < xs.length), b ≤ c → 0 ≤ cmpL xs[c] ys)) (fun i j _ => (intOf j).toNat - (intOf i).toNat)
  case atStart => exact ⟨0, xs.length, Nat.zero_le _, Nat.le_refl _, rfl, rfl, fun c _ h => absurd h (Nat.not_lt_zero c), fun c h h' => by omega⟩
  case round =>
    obtain ⟨a, b, hab, hbl, rfl, rfl, h1, h2⟩ := hrel
    have H1 := Lib.hid h1
    have H2 := Lib.hid h2
    clear h1 h2
    by_cases hlt : a < b
    · obtain ⟨m, hm⟩ : ∃ m : Nat, ((a : Int) + b) / 2 = m := ⟨(a + b) / 2, by omega⟩
      have ham : a ≤ m := by omega
      have hmb : m < b := by omega
      have hml : m < xs.length := by omega
      obtain ⟨bk, o, rfl, hb, hce⟩ := hcell (by omega)
      obtain ⟨c, hc0, hcc⟩ := hce m hml
      clear hcell hce
      cases hq : decide (cmpL xs[m] ys < 0)
      · have HQ := Lib.hid hq
        go_wp2_with fail
        refine (hp.out m hml c hc0).mono ?_
        rintro e w' ⟨rfl, rfl⟩
        go_wp2_with fail
        go_round
        case rel =>
          refine ⟨a, m, ham, by omega, rfl, rfl, H1.out, fun c h hmc => Int.not_lt.1 fun hlt => ?_⟩
          have h3 : ¬ cmpL xs[m] ys < 0 := by simpa using HQ.out
          by_cases e : m = c
          · subst e; exact h3 hlt
          · exact h3 (ltL_trans (sortedL_lt HS.out h (show m < c by omega)) hlt)
        case measure => simp [intOf]; omega
      · have HQ := Lib.hid hq
        go_wp2_with fail
        refine (hp.out m hml c hc0).mono ?_
        rintro e w' ⟨rfl, rfl⟩
        go_wp2_with fail
        go_round
        case rel =>
          refine ⟨m + 1, b, by omega, hbl, by go_num, rfl, fun c h hmc => ?_, H2.out⟩
          have h3 : cmpL xs[m] ys < 0 := by simpa using HQ.out
          by_cases e : c = m
          · subst e; exact h3
          · exact ltL_trans (sortedL_lt HS.out hml (show c < m by omega)) h3
        case measure => simp [intOf]; omega
    · obtain rfl : a = b := by omega
      have HF := Lib.hid (bs_found hbl H1.out (fun c h h4 => Int.not_lt.2 (H2.out c h h4)) HS.out)
      by_cases hn : a < xs.length
      · obtain ⟨bk, o, rfl, hb, hce⟩ := hcell (by omega)
        obtain ⟨c, hc0, hcc⟩ := hce a hn
        clear hcell hce
        have HR : Hid ((cmpL xs[a] ys == 0) = tb (ys ∈ xs)) := by
          unfold Hid
          rw [Bool.eq_iff_iff, tb_iff, HF.out]
          simp [hn]
        go_wp2_with fail
        refine (hp.out a hn c hc0).mono ?_
        rintro e w' ⟨rfl, rfl⟩
        go_wp2_with fail
        go_ret2
        exact ⟨⟨a, ret_ib HR.out⟩, rfl⟩
      · have HR : Hid (false = tb (ys ∈ xs)) := (tb_false (fun hh => hn (HF.out.1 hh).1)).symm
        clear hcell
        go_wp2_with fail
        go_ret2
        exact ⟨⟨a, ret_ib HR.out⟩, rfl⟩
theorem has1_any (w : World) {v u : Value} {xs ys : List Int} (h : intsT.Rd w [v] xs) (h' : intsT.Rd w [u] ys) :
    Calls Try.prog 180 #[v, u] w fun e w' => e = .returned (.int .i64 (cmpL xs ys)) ∧ w = w' := by
  go_enter Try.func180, Try.ntmps180
  go_wp2_with fail
  refine (Compare_any _ h h').mono ?_
  rintro e w' ⟨rfl, rfl⟩
  go_wp2_with fail
  go_ret
  exact ⟨rfl, rfl⟩
theorem has_any (w : World) {cs : Array Value} {r : Int × List (List Int)} (h : relT.Rd w cs.toList r) {u : Value} {ys : List Int} (h' : intsT.Rd w [u] ys) (hs : sortedL r.2) :
    Calls Try.prog 117 #[.agg cs, u] w fun e w' => e = .returned (.bool (tb (ys ∈ r.2))) ∧ Below w.heap.size w w' := by
  obtain ⟨v, hv, hI, hx⟩ := pair_ex h
  obtain rfl := agg_of hv
  obtain ⟨ad, cap, rfl⟩ := rd_slice hx
  obtain ⟨ad', cap', rfl⟩ := rd_slice h'
  clear h hv
  go_enter Try.func117, Try.ntmps117
  go_wp2_with fail
  refine (BSearch_any _ (hx.below bA) (h'.below bA) hs 180 (enters Try.func180 (by kernel_rfl) rfl) (fun k hk c hc => has1_any _ hc (h'.below bA))).mono ?_
  rintro e w' ⟨⟨i, rfl⟩, rfl⟩
  go_wp2_with fail
  go_ret
  exact ⟨rfl, (by repeat (first | exact Below.refl _ _ | exact bA | assumption | refine Below.setCell ?_ (by first | omega | (simp; try omega)) _ | refine Below.alloc ?_ (by first | omega | (simp; try omega)) _ | refine Below.drew ?_ | refine bDN ?_ | refine bthen ?_ (by assumption)))⟩
theorem l01Has_quiet (w : World) {v : Value} {r : Int × List (List Int)} (h : relT.Pt w v r) {u : Value} {ys : List Int} (h' : intsT.Rd w [u] ys) :
    Calls Try.prog 115 #[v, u] w fun e w' => e = .returned (.bool (tb (ys ∈ r.2))) ∧ Quiet w w' := by
  obtain ⟨b, o, ad, cap, rfl, hb, -, c0, c1, hx⟩ := pt_pair h
  obtain ⟨_, _, e1, hle, hle2, hcell⟩ := slices_ex hx
  simp only [List.cons.injEq, Value.slice.injEq, and_true, true_and] at e1
  obtain ⟨rfl, rfl⟩ := e1
  clear h
  go_enter Try.func115, Try.ntmps115
  go_wp2_with fail
  go_loopw [5] (fun i wr => ∃ k : Nat, k ≤ r.2.length ∧ i = .int .i64 k ∧ noneB (fun t => eqB t ys) (r.2.take k) ∧ Quiet w wr) (fun i _ => r.2.length - (intOf i).toNat)
  case atStart => exact ⟨0, Nat.zero_le _, rfl, noneB_zero _ _, Quiet.refl _⟩
  case round =>
    obtain ⟨k, hk, rfl, ht, hqw⟩ := hrel
    have HT := Lib.hid ht
    have d1 := (hqw.below.cell hb).trans c1
    clear ht c0 c1
    by_cases hkl : k < r.2.length
    · obtain ⟨a, q, rfl, haa, hce⟩ := hcell (by omega)
      obtain ⟨c, hc0, hcc⟩ := hce k hkl
      have e0 := (hqw.below.cell haa).trans hcc
      clear hcell hce hcc
      cases hq : eqB r.2[k] ys
      · go_wp2_with fail
        refine (l00Same_quiet _ (hc0.below hqw.below) (h'.below hqw.below)).mono ?_
        rintro e w1 ⟨rfl, hq1⟩
        rw [hq]
        have hq2 := hqw.then hq1
        have f1 := (hq1.below.cell (by have := hqw.below.size; simp; omega)).trans d1
        go_wp2_with fail
        go_roundw
        case rel => exact ⟨k + 1, by omega, by go_num, noneB_succ hkl HT.out hq, hq2⟩
        case measure => simp [intOf]; omega
      · have HM : Hid (ys ∈ r.2) := by
          have := eqB_iff.1 hq
          unfold Hid
          rw [← this]
          exact List.getElem_mem hkl
        go_wp2_with fail
        refine (l00Same_quiet _ (hc0.below hqw.below) (h'.below hqw.below)).mono ?_
        rintro e w1 ⟨rfl, hq1⟩
        rw [hq]
        go_wp2_with fail
        go_ret
        exact ⟨ret_bool (tb_true HM.out).symm, hqw.then hq1⟩
    · obtain rfl : k = r.2.length := by omega
      have HM : Hid (¬ ys ∈ r.2) := fun hm => by
        have := HT.out ys (by rw [List.take_length]; exact hm)
        simp [eqB] at this
      clear hcell
      go_wp2_with fail
      go_ret
      exact ⟨ret_bool (tb_false HM.out).symm, hqw⟩
end Go.Proofs.Ytepebfpgmnidnaa
