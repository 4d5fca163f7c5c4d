/-
  Contracts: atoms that hold; the greatest number of a row.
-/
import Derived.Test.YtepebfpgmnidnaaK10
import Derived.Test.YtepebfpgmnidnaaK32
namespace Go.Proofs.Ytepebfpgmnidnaa
open Go.RowKit Go.Sort
def topI (xs : List Int) : Int := xs.foldl max 0
theorem topI_take {xs : List Int} {k : Nat} (h : k < xs.length) : topI (xs.take (k + 1)) = max (topI (xs.take k)) xs[k] := by
  unfold topI
  rw [List.take_succ_eq_append_getElem h, List.foldl_append]
  rfl
theorem foldl_max_ge : ∀ {xs : List Int} {a : Int}, a ≤ xs.foldl max a ∧ ∀ x ∈ xs, x ≤ xs.foldl max a
  | [], a => ⟨Int.le_refl _, fun x hx => by cases hx⟩
  | y :: r, a => by
    obtain ⟨h1, h2⟩ := foldl_max_ge (xs := r) (a := max a y)
    rw [List.foldl_cons]
    refine ⟨by omega, fun x hx => ?_⟩
    rcases List.mem_cons.1 hx with rfl | hx
    · omega
    · exact h2 x hx
theorem topI_ge {xs : List Int} {x : Int} (h : x ∈ xs) : x ≤ topI xs := foldl_max_ge.2 x h
theorem topI_nn {xs : List Int} : 0 ≤ topI xs := foldl_max_ge.1
theorem foldl_max_le {c : Int} : ∀ {xs : List Int} {a : Int}, a ≤ c → (∀ x ∈ xs, x ≤ c) → xs.foldl max a ≤ c
  | [], _, h, _ => h
  | y :: r, a, h, h2 => by
    rw [List.foldl_cons]
    exact foldl_max_le (by have := h2 y (List.mem_cons_self ..); omega) fun x hx => h2 x (List.mem_cons_of_mem _ hx)
theorem topI_le {xs : List Int} {c : Int} (h0 : 0 ≤ c) (h : ∀ x ∈ xs, x ≤ c) : topI xs ≤ c := foldl_max_le h0 h
theorem topI_one {x : Int} (h : 0 ≤ x) : topI [x] = x := by simp only [topI, List.foldl_cons, List.foldl_nil]; omega
/-- does an atom hold for values? -/
noncomputable def holdsA (t : Int × List (Int × List (List Int))) (vals : List Int) (a : Int × List Int) : Bool := match (a.1 == -1) with
  | true => (atL vals a.2).getD 0 0 == (atL vals a.2).getD 1 0
  | false => tb (holdsC t vals a)
theorem holdsA_eq {t : Int × List (Int × List (List Int))} {vals : List Int} {a : Int × List Int} (h : (a.1 == -1) = true) : holdsA t vals a = ((atL vals a.2).getD 0 0 == (atL vals a.2).getD 1 0) := by simp only [holdsA, h]
theorem holdsA_rel {t : Int × List (Int × List (List Int))} {vals : List Int} {a : Int × List Int} (h : (a.1 == -1) = false) : holdsA t vals a = tb (holdsC t vals a) := by simp only [holdsA, h]
/-- an atom of a template: what it needs -/
theorem atom_len {t : Int × List (Int × List (List Int))} (hT : tplOk t) {vars : Int} {a : Int × List Int} (h : atomOk t vars a) : 1 ≤ a.2.length ∧ a.2.length ≤ 4 ∧ (a.1 = -1 → a.2.length = 2) ∧ (a.1 ≠ -1 → 0 ≤ a.1 ∧ a.1.toNat < t.2.length) := by
  obtain ⟨h1, h2, -⟩ := h
  by_cases he : a.1 = -1
  · rw [he, arOf_eq] at h2
    exact ⟨by omega, by omega, fun _ => by omega, fun h => absurd he h⟩
  · have hin : 0 ≤ a.1 ∧ a.1.toNat < t.2.length := by
      by_cases hin : inB a.1 0 ((t.2.length : Int) - 1) = true
      · have := inB_true.1 hin; omega
      · exact absurd (arOf_no he (by simpa using hin)) h1
    obtain ⟨k, hk⟩ : ∃ k : Nat, a.1 = k := ⟨a.1.toNat, by omega⟩
    have hkl : k < t.2.length := by omega
    have h3 := hT.2.2 _ (List.getElem_mem hkl)
    rw [hk, arOf_nat hkl] at h2
    have := h3.2.1
    unfold sizeOk at this
    exact ⟨by omega, by omega, fun h => absurd h he, fun _ => hin⟩
theorem con_atom {t : Int × List (Int × List (List Int))} (hT : tplOk t) {vars : Int} {c : Int × List Int} (h : conOk t vars c) : atomOk t vars c := by
  obtain ⟨h1, h2⟩ := h
  refine ⟨?_, h2⟩
  obtain ⟨k, hk⟩ : ∃ k : Nat, c.1 = k := ⟨c.1.toNat, by omega⟩
  have hkl : k < t.2.length := by omega
  have h3 := (hT.2.2 _ (List.getElem_mem hkl)).2.1
  unfold sizeOk at h3
  rw [hk, arOf_nat hkl]
  omega
theorem tplT_rd {w : World} {t : Int × List (Int × List (List Int))} {v : Value} (h : tplT.Rd w [.int .i64 t.1, v] t) {k : Nat} (hk : k < t.2.length) :
    ∃ a q cap u, v = .slice (some ⟨a, q, none⟩) t.2.length cap ∧ a < w.heap.size ∧ w.cell? ⟨a, q + k * 2, none⟩ = some (.int .i64 (t.2[k]).1) ∧ w.cell? ⟨a, q + k * 2 + 1, none⟩ = some u ∧ relT.Rd w [.int .i64 (t.2[k]).1, u] t.2[k] := by
  obtain ⟨v', hv, -, hx⟩ := pair_ex h
  obtain rfl : v = v' := by simpa using hv
  obtain ⟨ad, cap, hv2, -, -, hc⟩ := pairs_ex hx
  obtain rfl : v = _ := by simpa using hv2
  obtain ⟨a, q, rfl, ha, hce⟩ := hc (by omega)
  obtain ⟨u, hu, hI, c0, c1⟩ := hce k hk
  exact ⟨a, q, cap, u, rfl, ha, c0, c1, pair_mk hI hu⟩
set_option maxHeartbeats 1600000 in
set_option maxRecDepth 100000 in
theorem MaxI_any (w : World) {v : Value} {xs : List Int} (h : intsT.Rd w [v] xs) (h0 : 1 ≤ xs.length) (hnn : ∀ x ∈ xs, 0 ≤ x) :
    Calls Try.prog 143 #[v] w fun e w' => e = .returned (.int .i64 (topI xs)) ∧ w = w' := by
  obtain ⟨ad, cap, hv, -, hcl, hcell⟩ := ints_ex h
  obtain rfl : v = _ := by simpa using hv
  obtain ⟨b, o, rfl, hb, hce⟩ := hcell (by omega)
  have HCE := Lib.hid hce
  have HN := Lib.hid hnn
  have c0 := (hce 0 (by omega)).2
  have ht1 : topI (xs.take 1) = xs[0] := by rw [topI_take (show 0 < xs.length by omega)]; have := hnn _ (List.getElem_mem (show 0 < xs.length by omega)); simp [topI]; omega
  have HT1 := Lib.hid ht1
  have h01 : 1 ≤ (xs.length : Int) := by omega
  rw [Nat.add_zero] at c0
  clear h hv hcell hce hnn ht1
  go_enter Try.func143, Try.ntmps143
  go_wp2_with fail
  go_loop [3, 4] (fun m i => ∃ k : Nat, 1 ≤ k ∧ k ≤ xs.length ∧ i = .int .i64 k ∧ m = .int .i64 (topI (xs.take k))) (fun _ i => xs.length - (intOf i).toNat)
  case atStart => exact ⟨1, Nat.le_refl _, h0, rfl, by rw [HT1.out]⟩
  case round =>
    obtain ⟨k, hk1, hk, rfl, rfl⟩ := hrel
    by_cases hkl : k < xs.length
    · have e0 := (HCE.out k hkl).2
      have HT := Lib.hid (topI_take hkl)
      go_wp2_with fail
      go_round
      case rel => exact ⟨k + 1, by omega, by omega, by go_num, by rw [HT.out]; congr 1; split <;> omega⟩
      case measure => simp [intOf]; omega
    · obtain rfl : k = xs.length := by omega
      rw [List.take_length]
      go_wp2_with fail
      go_ret
      exact ⟨rfl, rfl⟩
end Go.Proofs.Ytepebfpgmnidnaa
