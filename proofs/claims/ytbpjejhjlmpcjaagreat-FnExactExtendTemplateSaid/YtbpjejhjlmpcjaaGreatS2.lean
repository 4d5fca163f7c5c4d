/-
  Contracts: atoms that hold; the greatest number of a row.
-/
import Derived.Test.YtbpjejhjlmpcjaaGreatK10
import Derived.Test.YtbpjejhjlmpcjaaGreatK32
namespace Go.Proofs.YtbpjejhjlmpcjaaGreat
open Go.RowKit Go.Sort
def topI (xs : List Int) : Int := xs.foldl max 0
theorem topI_take {xs : List Int} {k : Nat} (h : k < xs.length) : topI (xs.take (k + 1)) = max (topI (xs.take k)) xs[k] := by
  unfold topI
  rw [List.take_succ_eq_append_getElem h, List.foldl_append]
  rfl
theorem foldl_max_ge : ∀ {xs : List Int} {a : Int}, a ≤ xs.foldl max a ∧ ∀ x ∈ xs, x ≤ xs.foldl max a
  | [], a => ⟨Int.le_refl _, fun x hx => by cases hx⟩
  | y :: r, a => by
    obtain ⟨h1, h2⟩ := foldl_max_ge (xs := r) (a := max a y)
    rw [List.foldl_cons]
    refine ⟨by omega, fun x hx => ?_⟩
    rcases List.mem_cons.1 hx with rfl | hx
    · omega
    · exact h2 x hx
theorem topI_ge {xs : List Int} {x : Int} (h : x ∈ xs) : x ≤ topI xs := foldl_max_ge.2 x h
theorem topI_nn {xs : List Int} : 0 ≤ topI xs := foldl_max_ge.1
theorem foldl_max_le {c : Int} : ∀ {xs : List Int} {a : Int}, a ≤ c → (∀ x ∈ xs, x ≤ c) → xs.foldl max a ≤ c
  | [], _, h, _ => h
  | y :: r, a, h, h2 => by
    rw [List.foldl_cons]
    exact foldl_max_le (by have := h2 y (List.mem_cons_self ..); omega) fun x hx => h2 x (List.mem_cons_of_mem _ hx)
theorem topI_le {xs : List Int} {c : Int} (h0 : 0 ≤ c) (h : ∀ x ∈ xs, x ≤ c) : topI xs ≤ c := foldl_max_le h0 h
theorem topI_one {x : Int} (h : 0 ≤ x) : topI [x] = x := by simp only [topI, List.foldl_cons, List.foldl_nil]; omega
/-- does an atom hold for values? -/
noncomputable def holdsA (t : Int × List (Int × List (List Int))) (vals : List Int) (a : Int × List Int) : Bool := match (a.1 == -1) with
  | true => (atL vals a.2).getD 0 0 == (atL vals a.2).getD 1 0
  | false => tb (holdsC t vals a)
theorem holdsA_eq {t : Int × List (Int × List (List Int))} {vals : List Int} {a : Int × List Int} (h : (a.1 == -1) = true) : holdsA t vals a = ((atL vals a.2).getD 0 0 == (atL vals a.2).getD 1 0) := by simp only [holdsA, h]
theorem holdsA_rel {t : Int × List (Int × List (List Int))} {vals : List Int} {a : Int × List Int} (h : (a.1 == -1) = false) : holdsA t vals a = tb (holdsC t vals a) := by simp only [holdsA, h]
/-- an atom of a template: what it needs -/
theorem atom_len {t : Int × List (Int × List (List Int))} (hT : tplOk t) {vars : Int} {a : Int × List Int} (h : atomOk t vars a) : 1 ≤ a.2.length ∧ a.2.length ≤ 4 ∧ (a.1 = -1 → a.2.length = 2) ∧ (a.1 ≠ -1 → 0 ≤ a.1 ∧ a.1.toNat < t.2.length) := by
  obtain ⟨h1, h2, -⟩ := h
  by_cases he : a.1 = -1
  · rw [he, arOf_eq] at h2
    exact ⟨by omega, by omega, fun _ => by omega, fun h => absurd he h⟩
  · have hin : 0 ≤ a.1 ∧ a.1.toNat < t.2.length := by
      by_cases hin : inB a.1 0 ((t.2.length : Int) - 1) = true
      · have := inB_true.1 hin; omega
      · exact absurd (arOf_no he (by simpa using hin)) h1
    obtain ⟨k, hk⟩ : ∃ k : Nat, a.1 = k := ⟨a.1.toNat, by omega⟩
    have hkl : k < t.2.length := by omega
    have h3 := hT.2.2 _ (List.getElem_mem hkl)
    rw [hk, arOf_nat hkl] at h2
    have := h3.2.1
    unfold sizeOk at this
    exact ⟨by omega, by omega, fun h => absurd h he, fun _ => hin⟩
theorem con_atom {t : Int × List (Int × List (List Int))} (hT : tplOk t) {vars : Int} {c : Int × List Int} (h : conOk t vars c) : atomOk t vars c := by
  obtain ⟨h1, h2⟩ := h
  refine ⟨?_, h2⟩
  obtain ⟨k, hk⟩ : ∃ k : Nat, c.1 = k := ⟨c.1.toNat, by omega⟩
  have hkl : k < t.2.length := by omega
  have h3 := (hT.2.2 _ (List.getElem_mem hkl)).2.1
  unfold sizeOk at h3
  rw [hk, arOf_nat hkl]
  omega
theorem tplT_rd {w : World} {t : Int × List (Int × List (List Int))} {v : Value} (h : tplT.Rd w [.int .i64 t.1, v] t) {k : Nat} (hk : k < t.2.length) :
    ∃ a q cap u, v = .slice (some ⟨a, q, none⟩) t.2.length cap ∧ a < w.heap.size ∧ w.cell? ⟨a, q + k * 2, none⟩ = some (.int .i64 (t.2[k]).1) ∧ w.cell? ⟨a, q + k * 2 + 1, none⟩ = some u ∧ relT.Rd w [.int .i64 (t.2[k]).1, u] t.2[k] := by
  obtain ⟨v', hv, -, hx⟩ := pair_ex h
  obtain rfl : v = v' := by simpa using hv
  obtain ⟨ad, cap, hv2, -, -, hc⟩ := pairs_ex hx
  obtain rfl : v = _ := by simpa using hv2
  obtain ⟨a, q, rfl, ha, hce⟩ := hc (by omega)
  obtain ⟨u, hu, hI, c0, c1⟩ := hce k hk
  exact ⟨a, q, cap, u, rfl, ha, c0, c1, pair_mk hI hu⟩
set_option maxHeartbeats 1600000 in
set_option maxRecDepth 100000 in
theorem holds_any (w : World) {ct ca : Array Value} {t : Int × List (Int × List (List Int))} {a : Int × List Int} {v : Value} {vals : List Int} (ht : tplT.Rd w ct.toList t) (ha : opT.Rd w ca.toList a) (hv : intsT.Rd w [v] vals)
    (hT : tplOk t) {vars : Int} (hA : atomOk t vars a) (hin : ∀ p ∈ a.2, 0 ≤ p ∧ p < (vals.length : Int)) :
    Calls Tryz.prog 113 #[.agg ct, .agg ca, v] w fun e w' => e = .returned (.bool (holdsA t vals a)) ∧ Below w.heap.size w w' := by
  obtain ⟨h1, h4, h5, h6⟩ := atom_len hT hA
  obtain ⟨vt, hct, -, -⟩ := pair_ex ht
  obtain rfl := agg_of hct
  obtain ⟨va, hca, -, hxa⟩ := pair_ex ha
  obtain rfl := agg_of hca
  obtain ⟨xa, xn, xc, rfl⟩ := rd_sl hxa
  have HT := Lib.hid ht
  have HX := Lib.hid hxa
  have HV := Lib.hid hv
  have HIN := Lib.hid hin
  have HTO := Lib.hid hT
  clear ht ha hct hca hxa hv hin hT hA
  go_enter Tryz.func113, Tryz.ntmps113
  go_wp2_with fail
  generalize hW : World.alloc _ _ = W
  have hbW : Below w.heap.size w W := hW ▸ bAA
  have hsW : W.heap.size = w.heap.size + 2 := by rw [← hW]; simp
  have t1 : W.cell? ⟨w.heap.size, 1, none⟩ = some vt := by rw [← hW]; simp [go_sem]
  have a0 : W.cell? ⟨w.heap.size + 1, 0, none⟩ = some (.int .i64 a.1) := by rw [← hW]; simp [go_sem]
  have a1 : W.cell? ⟨w.heap.size + 1, 1, none⟩ = some (.slice xa xn xc) := by rw [← hW]; simp [go_sem]
  clear hW
  refine (chosen_any _ (HV.out.below hbW) (HX.out.below hbW) HIN.out (by omega)).mono ?_
  rintro e w1 ⟨u, rfl, hf, hb1⟩
  obtain ⟨ua, uc, rfl⟩ := fr_slice hf
  have HF := Lib.hid hf.rd
  have hz1 := hb1.size
  have hbw1 := bthen hbW hb1
  replace t1 := (cellB hb1 (by omega)).trans t1
  replace a0 := (cellB hb1 (by omega)).trans a0
  replace a1 := (cellB hb1 (by omega)).trans a1
  clear hf
  cases hq : (a.1 == -1)
  · have hne : a.1 ≠ -1 := by simpa using hq
    obtain ⟨h7, h8⟩ := h6 hne
    obtain ⟨k, hk⟩ : ∃ k : Nat, a.1 = k := ⟨a.1.toNat, by omega⟩
    have hkl : k < t.2.length := by omega
    obtain ⟨ba, bq, cap, ur, rfl, hba, c0, c1, hr⟩ := tplT_rd HT.out hkl
    have HR := Lib.hid (hr.below hbw1)
    have HSR := Lib.hid (relOk_sorted (HTO.out.2.2 _ (List.getElem_mem hkl)))
    have d0 := (hbw1.cell hba).trans c0
    have d1 := (hbw1.cell hba).trans c1
    have HE : Hid (tb (atL vals a.2 ∈ (t.2[k]).2) = holdsA t vals a) := by
      unfold Hid
      rw [holdsA_rel hq]
      unfold holdsC
      rw [hk, relAt_nat hkl]
    rw [hk] at a0 hq
    clear hr c0 c1 hk hne h5 h6
    go_wp2_with fail
    refine (has_any (cs := #[.int .i64 (t.2[k]).1, ur]) _ HR.out HF.out HSR.out).mono ?_
    rintro e w2 ⟨rfl, hb2⟩
    go_wp2_with fail
    go_ret
    exact ⟨ret_bool HE.out, bthen hbw1 hb2⟩
  · have he : a.1 = -1 := by simpa using hq
    have h7 := h5 he
    obtain ⟨_, _, e1, -, -, hce⟩ := ints_ex HF.out
    simp only [List.cons.injEq, Value.slice.injEq, and_true, true_and] at e1
    obtain ⟨rfl, rfl⟩ := e1
    have hal : (atL vals a.2).length = 2 := by rw [atL_len]; exact h7
    obtain ⟨b, o, rfl, hb, hcc⟩ := hce (by omega)
    have i0 := (hcc 0 (by omega)).2
    have i1 := (hcc 1 (by omega)).2
    rw [Nat.add_zero] at i0
    have HE : Hid (((atL vals a.2)[0]'(by omega) == (atL vals a.2)[1]'(by omega)) = holdsA t vals a) := by
      unfold Hid
      rw [holdsA_eq hq]
      simp [List.getD_eq_getElem?_getD, hal]
    clear hcc hce h5 h6 he
    rw [hal]
    go_wp2_with fail
    go_quiet (fail)
    go_wp2_with fail
    go_ret
    exact ⟨ret_bool HE.out, bthen hbw1 (Quiet.drewN _ _).below⟩
set_option maxHeartbeats 1600000 in
set_option maxRecDepth 100000 in
theorem MaxI_any (w : World) {v : Value} {xs : List Int} (h : intsT.Rd w [v] xs) (h0 : 1 ≤ xs.length) (hnn : ∀ x ∈ xs, 0 ≤ x) :
    Calls Tryz.prog 99 #[v] w fun e w' => e = .returned (.int .i64 (topI xs)) ∧ w = w' := by
  obtain ⟨ad, cap, hv, -, hcl, hcell⟩ := ints_ex h
  obtain rfl : v = _ := by simpa using hv
  obtain ⟨b, o, rfl, hb, hce⟩ := hcell (by omega)
  have HCE := Lib.hid hce
  have HN := Lib.hid hnn
  have c0 := (hce 0 (by omega)).2
  have ht1 : topI (xs.take 1) = xs[0] := by rw [topI_take (show 0 < xs.length by omega)]; have := hnn _ (List.getElem_mem (show 0 < xs.length by omega)); simp [topI]; omega
  have HT1 := Lib.hid ht1
  have h01 : 1 ≤ (xs.length : Int) := by omega
  rw [Nat.add_zero] at c0
  clear h hv hcell hce hnn ht1
  go_enter Tryz.func99, Tryz.ntmps99
  go_wp2_with fail
  go_loop [3, 4] (fun m i => ∃ k : Nat, 1 ≤ k ∧ k ≤ xs.length ∧ i = .int .i64 k ∧ m = .int .i64 (topI (xs.take k))) (fun _ i => xs.length - (intOf i).toNat)
  case atStart => exact ⟨1, Nat.le_refl _, h0, rfl, by rw [HT1.out]⟩
  case round =>
    obtain ⟨k, hk1, hk, rfl, rfl⟩ := hrel
    by_cases hkl : k < xs.length
    · have e0 := (HCE.out k hkl).2
      have HT := Lib.hid (topI_take hkl)
      go_wp2_with fail
      go_round
      case rel => exact ⟨k + 1, by omega, by omega, by go_num, by rw [HT.out]; congr 1; split <;> omega⟩
      case measure => simp [intOf]; omega
    · obtain rfl : k = xs.length := by omega
      rw [List.take_length]
      go_wp2_with fail
      go_ret
      exact ⟨rfl, rfl⟩
end Go.Proofs.YtbpjejhjlmpcjaaGreat
