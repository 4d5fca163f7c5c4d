/-
  Contracts: what a number of a relation tells; atoms' places; counts of formulas.
-/
import Derived.Test.YtepebfpgmnidnaaK5
namespace Go.Proofs.Ytepebfpgmnidnaa
open Go.RowKit Go.Sort
theorem rd_elem {α : Type} {E : Ty α} {w : World} {ad : Option Addr} {cap : Nat} {xs : List α} (h : (Ty.slice E).Rd w [.slice ad xs.length cap] xs) {k : Nat} (hk : k < xs.length) :
    ∃ b o, ad = some ⟨b, o, none⟩ ∧ E.Pt w (.pointer (some ⟨b, o + k * E.sz, none⟩)) xs[k] := by
  obtain ⟨ad', cap', hv, _, _, h3⟩ := Ty.slice_ex h
  simp only [List.cons.injEq, Value.slice.injEq, and_true] at hv
  obtain ⟨rfl, -, rfl⟩ := hv
  obtain ⟨b, o, rfl, _⟩ := h3 (by omega)
  exact ⟨b, o, rfl, pt_elem h hk⟩
theorem arityOf_any (w : World) {cs : Array Value} {t : Int × List (Int × List (List Int))} (h : tplT.Rd w cs.toList t) (rel : Int) :
    Calls Try.prog 136 #[.agg cs, .int .i64 rel] w fun e w' => e = .returned (.int .i64 (arOf t rel)) ∧ Below w.heap.size w w' := by
  obtain ⟨v, hv, hI, hx⟩ := pair_ex h
  obtain rfl := agg_of hv
  obtain ⟨ad, cap, rfl⟩ := rd_slice hx
  clear h hv
  obtain ⟨_, _, -, hle, hle2, -⟩ := pairs_ex hx
  cases h1 : (rel == -1)
  rotate_left
  · have HE : Hid (arOf t rel = 2) := by unfold Hid; rw [eq_of_beq h1]; exact arOf_eq t
    go_enter Try.func136, Try.ntmps136
    go_wp2_with fail
    go_ret
    exact ⟨ret_int HE.out.symm, (by repeat (first | exact Below.refl _ _ | exact bA | assumption | refine Below.setCell ?_ (by first | omega | (simp; try omega)) _ | refine Below.alloc ?_ (by first | omega | (simp; try omega)) _ | refine Below.drew ?_ | refine bDN ?_ | refine bthen ?_ (by assumption)))⟩
  have HN : Hid (rel ≠ -1) := by unfold Hid; simpa using h1
  cases h2 : inB rel 0 ((t.2.length : Int) - 1)
  · go_enter Try.func136, Try.ntmps136
    go_wp2_with (go_at_call 184; refine (within_any _ _ _ _).mono ?_; rintro e w' ⟨rfl, rfl⟩)
    go_ret
    exact ⟨ret_int (arOf_no HN.out h2).symm, (by repeat (first | exact Below.refl _ _ | exact bA | assumption | refine Below.setCell ?_ (by first | omega | (simp; try omega)) _ | refine Below.alloc ?_ (by first | omega | (simp; try omega)) _ | refine Below.drew ?_ | refine bDN ?_ | refine bthen ?_ (by assumption)))⟩
  have hk := inB_true.1 h2
  obtain ⟨k, rfl⟩ : ∃ k : Nat, rel = k := ⟨rel.toNat, by omega⟩
  have hkl : k < t.2.length := by omega
  obtain ⟨a, q, rfl, hp⟩ := rd_elem hx hkl
  have hp' : relT.Pt w (.pointer (some ⟨a, q + k * 2, none⟩)) t.2[k] := hp
  obtain ⟨b, o, ad', cap', hbo, hb, -, c0, -, -⟩ := pt_pair hp'
  clear hp hp'
  simp only [Value.pointer.injEq, Option.some.injEq, Addr.mk.injEq, and_true] at hbo
  obtain ⟨rfl, rfl⟩ := hbo
  go_enter Try.func136, Try.ntmps136
  go_wp2_with (go_at_call 184; refine (within_any _ _ _ _).mono ?_; rintro e w' ⟨rfl, rfl⟩)
  go_ret
  exact ⟨ret_int (arOf_nat hkl).symm, (by repeat (first | exact Below.refl _ _ | exact bA | assumption | refine Below.setCell ?_ (by first | omega | (simp; try omega)) _ | refine Below.alloc ?_ (by first | omega | (simp; try omega)) _ | refine Below.drew ?_ | refine bDN ?_ | refine bthen ?_ (by assumption)))⟩
theorem isAtom_any (w : World) {cs : Array Value} {a : Int × List Int} (h : opT.Rd w cs.toList a) (ar vars : Int) (h0 : 0 ≤ vars) (h1 : vars ≤ 1000000000000) :
    Calls Try.prog 137 #[.agg cs, .int .i64 ar, .int .i64 vars] w fun e w' => e = .returned (.bool (tb (rowOk vars ar a.2))) ∧ Below w.heap.size w w' := by
  obtain ⟨v, hv, hI, hx⟩ := pair_ex h
  obtain rfl := agg_of hv
  clear h hv
  go_enter Try.func137, Try.ntmps137
  go_wp2_with fail
  refine (areValues_any _ (hx.below bA) _ _ h0 h1).mono ?_
  rintro e w1 ⟨rfl, hb1⟩
  go_wp2_with fail
  go_ret
  exact ⟨rfl, (by repeat (first | exact Below.refl _ _ | exact bA | assumption | refine Below.setCell ?_ (by first | omega | (simp; try omega)) _ | refine Below.alloc ?_ (by first | omega | (simp; try omega)) _ | refine Below.drew ?_ | refine bDN ?_ | refine bthen ?_ (by assumption)))⟩
theorem isFrame_any (w : World) {cs : Array Value} {f : Int × Int × List (Int × List Int)} (h : frmT.Rd w cs.toList f) :
    Calls Try.prog 134 #[.agg cs] w fun e w' => e = .returned (.bool (tb (frameOk f))) ∧ Below w.heap.size w w' := by
  obtain ⟨v, hv, hI, hI2, hx⟩ := trip_ex h
  obtain rfl := agg_of hv
  obtain ⟨ad, cap, rfl⟩ := rd_slice hx
  clear h hv
  cases h1 : inB f.1 1 4
  · go_enter Try.func134, Try.ntmps134
    go_wp2_with (go_at_call 158; refine (isArity_any _ _).mono ?_; rintro e w' ⟨rfl, rfl⟩)
    go_ret
    exact ⟨ret_bool (tb_false (fun hr => by have := inB_true.2 hr.1; rw [h1] at this; cases this)).symm, (by repeat (first | exact Below.refl _ _ | exact bA | assumption | refine Below.setCell ?_ (by first | omega | (simp; try omega)) _ | refine Below.alloc ?_ (by first | omega | (simp; try omega)) _ | refine Below.drew ?_ | refine bDN ?_ | refine bthen ?_ (by assumption)))⟩
  cases h2 : inB f.2.1 f.1 8
  · go_enter Try.func134, Try.ntmps134
    go_wp2_with (first | (go_at_call 158; refine (isArity_any _ _).mono ?_; rintro e w' ⟨rfl, rfl⟩) | (go_at_call 184; refine (within_any _ _ _ _).mono ?_; rintro e w' ⟨rfl, rfl⟩))
    go_ret
    exact ⟨ret_bool (tb_false (fun hr => by have := inB_true.2 hr.2.1; rw [h2] at this; cases this)).symm, (by repeat (first | exact Below.refl _ _ | exact bA | assumption | refine Below.setCell ?_ (by first | omega | (simp; try omega)) _ | refine Below.alloc ?_ (by first | omega | (simp; try omega)) _ | refine Below.drew ?_ | refine bDN ?_ | refine bthen ?_ (by assumption)))⟩
  have HR : Hid (decide ((f.2.2.length : Int) ≤ 16) = tb (frameOk f)) := by
    unfold Hid
    rw [Bool.eq_iff_iff, tb_iff, decide_eq_true_iff]
    exact ⟨fun h => ⟨inB_true.1 h1, inB_true.1 h2, by omega⟩, fun h => by have := h.2.2; omega⟩
  go_enter Try.func134, Try.ntmps134
  go_wp2_with (first | (go_at_call 158; refine (isArity_any _ _).mono ?_; rintro e w' ⟨rfl, rfl⟩) | (go_at_call 184; refine (within_any _ _ _ _).mono ?_; rintro e w' ⟨rfl, rfl⟩))
  go_ret
  exact ⟨ret_bool HR.out, (by repeat (first | exact Below.refl _ _ | exact bA | assumption | refine Below.setCell ?_ (by first | omega | (simp; try omega)) _ | refine Below.alloc ?_ (by first | omega | (simp; try omega)) _ | refine Below.drew ?_ | refine bDN ?_ | refine bthen ?_ (by assumption)))⟩
theorem l01Places_any (size : Int) {v : Value} {xs : List Int} (w : World) (h : intsT.Rd w [v] xs) (h0 : 0 ≤ size) (h1 : size ≤ 1000000000000) :
    Calls Try.prog 124 #[v, .int .i64 size] w fun e w' => e = .returned (.bool (tb (rowOk size xs.length xs))) ∧ w = w' := by
  obtain ⟨ad, cap, hv, hl, hc, hcell⟩ := ints_ex h
  obtain rfl : v = _ := by simpa using hv
  clear h hv
  go_enter Try.func124, Try.ntmps124
  go_wp2_with fail
  go_loop [5] (fun i => ∃ k : Nat, k ≤ xs.length ∧ i = .int .i64 k ∧ noneB (fun a => !inB a 0 (size - 1)) (xs.take k)) (fun i => xs.length - (intOf i).toNat)
  case atStart => exact ⟨0, Nat.zero_le _, rfl, noneB_zero _ _⟩
  case round =>
    obtain ⟨k, hk, rfl, ht⟩ := hrel
    have HT := Lib.hid ht
    clear ht
    by_cases hlt : k < xs.length
    · obtain ⟨b, o, rfl, hb, hce⟩ := hcell (by omega)
      have hck := (hce k hlt).2
      clear hcell hce
      cases hi : inB xs[k] 0 (size - 1)
      · go_wp2_with (go_at_call 101; refine (l00In_any _ _ _ _).mono ?_; rintro e w' ⟨rfl, rfl⟩)
        go_ret
        exact ⟨ret_bool (tb_false (fun hr => by have := inB_true.2 (hr.2 _ (List.getElem_mem hlt)); rw [hi] at this; cases this)).symm, rfl⟩
      · go_wp2_with (go_at_call 101; refine (l00In_any _ _ _ _).mono ?_; rintro e w' ⟨rfl, rfl⟩)
        go_round
        case rel => exact ⟨k + 1, by omega, by go_num, noneB_succ hlt HT.out (by simp [hi])⟩
        case measure => simp [intOf]; omega
    · obtain rfl : k = xs.length := by omega
      have hall : ∀ a ∈ xs, 0 ≤ a ∧ a ≤ size - 1 := fun a ha => by
        have := HT.out a (by rw [List.take_length]; exact ha)
        simpa [inB_true] using this
      have HR : Hid (true = tb (rowOk size xs.length xs)) := (tb_true ⟨rfl, hall⟩).symm
      clear hall
      go_wp2_with fail
      go_ret
      exact ⟨ret_bool HR.out, rfl⟩
theorem l03Arity_any (w : World) {v : Value} {t : Int × List (Int × List (List Int))} (h : tplT.Pt w v t) (rel : Int) :
    Calls Try.prog 123 #[v, .int .i64 rel] w fun e w' => e = .returned (.int .i64 (arOf t rel)) ∧ w = w' := by
  obtain ⟨b, o, ad, cap, rfl, hb, hI, c0, c1, hx⟩ := pt_pair h
  clear h
  obtain ⟨_, _, -, hle, hle2, -⟩ := pairs_ex hx
  cases h1 : (rel == -1)
  rotate_left
  · have HE : Hid (arOf t rel = 2) := by unfold Hid; rw [eq_of_beq h1]; exact arOf_eq t
    go_enter Try.func123, Try.ntmps123
    go_wp2_with fail
    go_ret
    exact ⟨ret_int HE.out.symm, rfl⟩
  have HN : Hid (rel ≠ -1) := by unfold Hid; simpa using h1
  cases h2 : inB rel 0 ((t.2.length : Int) - 1)
  · go_enter Try.func123, Try.ntmps123
    go_wp2_with (go_at_call 101; refine (l00In_any _ _ _ _).mono ?_; rintro e w' ⟨rfl, rfl⟩)
    go_ret
    exact ⟨ret_int (arOf_no HN.out h2).symm, rfl⟩
  have hk := inB_true.1 h2
  obtain ⟨k, rfl⟩ : ∃ k : Nat, rel = k := ⟨rel.toNat, by omega⟩
  have hkl : k < t.2.length := by omega
  obtain ⟨a, q, rfl, hp⟩ := rd_elem hx hkl
  have hp' : relT.Pt w (.pointer (some ⟨a, q + k * 2, none⟩)) t.2[k] := hp
  obtain ⟨b', o', ad', cap', hbo, hb', -, d0, -, -⟩ := pt_pair hp'
  clear hp hp'
  simp only [Value.pointer.injEq, Option.some.injEq, Addr.mk.injEq, and_true] at hbo
  obtain ⟨rfl, rfl⟩ := hbo
  go_enter Try.func123, Try.ntmps123
  go_wp2_with (go_at_call 101; refine (l00In_any _ _ _ _).mono ?_; rintro e w' ⟨rfl, rfl⟩)
  go_ret
  exact ⟨ret_int (arOf_nat hkl).symm, rfl⟩
theorem l03Counts_quiet (w : World) {v : Value} {f : Int × Int × List (Int × List Int)} (h : frmT.Pt w v f) :
    Calls Try.prog 122 #[v] w fun e w' => e = .returned (.bool (tb (frameOk f))) ∧ Quiet w w' := by
  obtain ⟨b, o, ad, cap, rfl, hb, hI, hI2, c0, c1, c2, hx⟩ := pt_trip h
  clear h
  cases h1 : inB f.1 1 4
  · go_enter Try.func122, Try.ntmps122
    go_wp2_with fail
    have cA : ∀ n, Calls Try.prog 153 #[.int .i64 f.1] (w.drewN n) fun e w'' => e = .returned (.bool (inB f.1 1 4)) ∧ ∃ m, w'' = w.drewN m := fun n => (l01Arity_any _ _).mono fun e w'' ⟨he, hw⟩ => ⟨he, n, hw.symm⟩
    rw [h1] at cA
    go_quiet (exact cA _)
    go_wp2_with fail
    go_ret
    exact ⟨ret_bool (tb_false (fun hr => by have := inB_true.2 hr.1; rw [h1] at this; cases this)).symm, (by first | exact Quiet.refl _ | exact Quiet.drewN _ _ | exact (Quiet.drewN _ _).then (Quiet.drewN _ _) | exact ((Quiet.drewN _ _).then (Quiet.drewN _ _)).then (Quiet.drewN _ _))⟩
  have cA : ∀ n, Calls Try.prog 153 #[.int .i64 f.1] (w.drewN n) fun e w'' => e = .returned (.bool (inB f.1 1 4)) ∧ ∃ m, w'' = w.drewN m := fun n => (l01Arity_any _ _).mono fun e w'' ⟨he, hw⟩ => ⟨he, n, hw.symm⟩
  have cI : ∀ n, Calls Try.prog 101 #[.int .i64 f.2.1, .int .i64 f.1, .int .i64 8] (w.drewN n) fun e w'' => e = .returned (.bool (inB f.2.1 f.1 8)) ∧ ∃ m, w'' = w.drewN m := fun n => (l00In_any _ _ _ _).mono fun e w'' ⟨he, hw⟩ => ⟨he, n, hw.symm⟩
  rw [h1] at cA
  cases h2 : inB f.2.1 f.1 8
  · rw [h2] at cI
    go_enter Try.func122, Try.ntmps122
    go_wp2_with fail
    go_quiet (first | exact cA _ | exact cI _)
    go_wp2_with fail
    go_ret
    exact ⟨ret_bool (tb_false (fun hr => by have := inB_true.2 hr.2.1; rw [h2] at this; cases this)).symm, (by first | exact Quiet.refl _ | exact Quiet.drewN _ _ | exact (Quiet.drewN _ _).then (Quiet.drewN _ _) | exact ((Quiet.drewN _ _).then (Quiet.drewN _ _)).then (Quiet.drewN _ _))⟩
  have HR : Hid (decide ((f.2.2.length : Int) ≤ 16) = tb (frameOk f)) := by
    unfold Hid
    rw [Bool.eq_iff_iff, tb_iff, decide_eq_true_iff]
    exact ⟨fun h => ⟨inB_true.1 h1, inB_true.1 h2, by omega⟩, fun h => by have := h.2.2; omega⟩
  rw [h2] at cI
  go_enter Try.func122, Try.ntmps122
  go_wp2_with fail
  go_quiet (first | exact cA _ | exact cI _)
  go_wp2_with fail
  go_ret
  exact ⟨ret_bool HR.out, (by first | exact Quiet.refl _ | exact Quiet.drewN _ _ | exact (Quiet.drewN _ _).then (Quiet.drewN _ _) | exact ((Quiet.drewN _ _).then (Quiet.drewN _ _)).then (Quiet.drewN _ _))⟩
end Go.Proofs.Ytepebfpgmnidnaa
