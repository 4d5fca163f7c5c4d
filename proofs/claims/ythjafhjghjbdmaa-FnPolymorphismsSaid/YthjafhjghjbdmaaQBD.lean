/-
Contracts: the laws' own small functions on bytes; plain facts on the operations that are found.
-/
import Derived.Test.YthjafhjghjbdmaaQBC
namespace Go.Proofs.Ythjafhjghjbdmaa
open Go.RowKit Go.Sort
theorem a2Long_any (w : World) {v u : Value} {xs ys : List Int} (h : bytesT.Rd w [v] xs) (h' : bytesT.Rd w [u] ys) : Calls Try.prog 4 #[v, u] w fun e w' => ∃ b, e = .returned (.bool b) ∧ w = w' := by
  obtain ⟨ad, cap, rfl⟩ := rd_slice h
  obtain ⟨ad', cap', rfl⟩ := rd_slice h'
  clear h h'
  cases hb : decide ((3000 : Int) < ((xs.length : Nat) : Int))
  all_goals
    go_enter Try.func4, Try.ntmps4
    go_wp2_with fail
    go_ret
    exact ⟨_, rfl, rfl⟩
theorem a2At_any (w : World) {v : Value} {xs : List Int} (h : bytesT.Rd w [v] xs) {k : Nat} {n : Int} (hn : 1 ≤ n ∧ n ≤ 1000000) : Calls Try.prog 6 #[v, .int .i64 k, .int .i64 n] w fun e w' => ∃ x : Nat, e = .returned (.int .i64 (x : Int)) ∧ (x : Int) < n ∧ w = w' := by
  obtain ⟨ad, cap, e1, -, -, hc⟩ := bytes_ex h
  obtain rfl : v = _ := by simpa using e1
  clear h e1
  rcases Nat.lt_or_ge k xs.length with hk | hk
  · obtain ⟨b, o, rfl, hb, hce⟩ := hc (by omega)
    obtain ⟨hx, hcell⟩ := hce k hk
    generalize xs[k] = y at hx hcell
    have hcv : IntKind.i64.wrap y = y := wrap_small (by omega) (by omega)
    have hl1 : decide (((xs.length : Nat) : Int) ≤ (k : Int)) = false := by simp; omega
    have hl2 : decide (n < 1) = false := by simp; omega
    clear hce hc
    go_enter Try.func6, Try.ntmps6
    go_wp2_with fail
    go_ret
    have h5 : Int.tmod y n = y % n := Int.tmod_eq_emod_of_nonneg (by omega)
    have h6 := Int.emod_nonneg y (show n ≠ 0 by omega)
    have h7 := Int.emod_lt_of_pos y (show 0 < n by omega)
    refine ⟨(y % n).toNat, ?_, by omega, rfl⟩
    rw [show (((y % n).toNat : Nat) : Int) = y % n by omega]
    first | rfl | (rw [h5])
  · have hl1 : decide (((xs.length : Nat) : Int) ≤ (k : Int)) = true := by simp; omega
    clear hc
    go_enter Try.func6, Try.ntmps6
    go_wp2_with fail
    go_ret
    exact ⟨0, rfl, by omega, rfl⟩
section
variable {t : Tpl} {ar : Nat}
theorem ask_yes (ht : tplOk t) (har : 1 ≤ ar ∧ ar ≤ 3) : askC t (ar : Int) = 0 := by
  simp [askC, tb_true ht, inB_true.2 (show (1 : Int) ≤ (ar : Int) ∧ (ar : Int) ≤ 3 by omega)]
/-- the first projection is listed -/
theorem po_proj (ht : tplOk t) (har : 1 ≤ ar ∧ ar ≤ 3) (hc : poC t ar = 0) {N : Nat} (hN : t.1 ^ ar = N) : ∃ i, ∃ h : i < (poV t ar).length, (poV t ar)[i] = ((ar : Int), projT t.1 ar N 0) := by
  have h : ((ar : Int), projT t.1 ar N 0) ∈ poV t ar := (po_poly (ask_yes ht har) hc).2 ⟨rfl, poly_true.2 ⟨ht, proj_ok ht.1 har hN (by omega), fun r hr => keeps_proj (ht.2.2 r hr) hN har (by omega)⟩⟩
  exact List.mem_iff_getElem.1 h
/-- what is listed is valid, and keeps the template -/
theorem po_all (ht : tplOk t) (har : 1 ≤ ar ∧ ar ≤ 3) (hc : poC t ar = 0) {f : Int × List Int} (h : f ∈ poV t ar) : f.1 = ar ∧ opOk t.1 f ∧ polyB t f = true ∧ polyC t f = 0 := by
  obtain ⟨h1, h2⟩ := (po_poly (ask_yes ht har) hc).1 h
  obtain ⟨-, h3, -⟩ := poly_true.1 h2
  exact ⟨h1, h3, h2, by simp [polyC, polyOk, tb_true ht, tb_true h3]⟩
theorem poly_ok (ht : tplOk t) {f : Int × List Int} (hf : opOk t.1 f) : polyC t f = 0 := by simp [polyC, polyOk, tb_true ht, tb_true hf]
/-- compositions keep the template -/
theorem po_comp (ht : tplOk t) (har : 1 ≤ ar ∧ ar ≤ 3) (hc : poC t ar = 0) {N : Nat} (hN : t.1 ^ ar = N) {f : Int × List Int} (hf : f ∈ poV t ar) {gs : List (Int × List Int)} (hg : ∀ g ∈ gs, g ∈ poV t ar) (hl : gs.length = ar) :
    polyB t ((ar : Int), compT t.1 ar N f.2 gs) = true ∧ polyC t ((ar : Int), compT t.1 ar N f.2 gs) = 0 := by
  obtain ⟨hf1, hf2, hf3, -⟩ := po_all ht har hc hf
  have hgs : ∀ g ∈ gs, opOk t.1 g ∧ g.1 = (ar : Int) := fun g h => let ⟨h1, h2, _⟩ := po_all ht har hc (hg g h); ⟨h2, h1⟩
  have hs := ht.1
  unfold sizeOk at hs
  have hok : opOk t.1 ((ar : Int), compT t.1 ar N f.2 gs) := op_ok ht.1 har hN tabOf_len fun a ha => by
    obtain ⟨i, -, rfl⟩ := List.mem_map.1 ha
    exact opV_in (xs := valsL t.1 gs (digL t.1 (i : Int) ar)) hf2 (by rw [valsL_len, hl]; exact hf1.symm) (valsL_in (fun g h => ⟨(hgs g h).1, by rw [digL_len]; exact (hgs g h).2⟩) (digL_in (by omega)))
  refine ⟨poly_true.2 ⟨ht, hok, fun r hr => keeps_comp (f := f) (ht.2.2 r hr) hN har (by rw [hl]; exact hf1) ((poly_true.1 hf3).2.2 r hr) fun g h => ⟨(hgs g h).2, (hgs g h).1, ?_⟩⟩, poly_ok ht hok⟩
  exact (poly_true.1 (po_all ht har hc (hg g h)).2.2.1).2.2 r hr
/-- what keeps the template is listed -/
theorem po_among (ht : tplOk t) (har : 1 ≤ ar ∧ ar ≤ 3) (hc : poC t ar = 0) {f : Int × List Int} (hf : f.1 = ar) : anyB (fun g => eqB g f) (poV t ar) = polyB t f := by
  rw [Bool.eq_iff_iff]
  unfold anyB
  rw [List.any_eq_true]
  constructor
  · rintro ⟨g, hg, he⟩
    rw [← eqB_iff.1 he]
    exact (po_all ht har hc hg).2.2.1
  · intro h
    exact ⟨f, (po_poly (ask_yes ht har) hc).2 ⟨hf, h⟩, eqB_iff.2 rfl⟩
theorem po_many : (poV t (ar : Int)).length ≤ 64 := by
  cases h : askC t (ar : Int) == 0
  · rw [(po_ask (by simpa using h)).1]; simp
  have h0 : askC t (ar : Int) = 0 := by simpa using h
  cases h1 : limF t (ar : Int).toNat
  · by_cases h2 : (poR t ar).1 = 0
    · rw [(po_yes h0 h1 h2).1, List.length_map]; exact po_len h2
    · rw [(po_no h0 h1 h2).1]; simp
  · rw [(po_lim h0 h1).1]; simp
end
end Go.Proofs.Ythjafhjghjbdmaa
