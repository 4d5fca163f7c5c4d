/-
  Contracts: the parts of a formula made simpler: the program's closures; the least of two numbers.
-/
import Derived.Test.YtepebfpgmnidnaaM1
import Derived.Test.YtepebfpgmnidnaaK1
import Derived.Test.YtepebfpgmnidnaaS2
namespace Go.Proofs.Ytepebfpgmnidnaa
open Go.RowKit Go.Sort
theorem topI_two {x y : Int} (hx : 0 ≤ x) (hy : 0 ≤ y) : topI [x, y] = max x y := by simp [topI]; omega
set_option maxHeartbeats 1600000 in
set_option maxRecDepth 100000 in
theorem MinI_any (w : World) {v : Value} {x y : Int} (h : intsT.Rd w [v] [x, y]) :
    Calls Try.prog 142 #[v] w fun e w' => e = .returned (.int .i64 (min x y)) ∧ w = w' := by
  obtain ⟨ad, cap, hv, -, hcl, hcell⟩ := ints_ex h
  obtain rfl : v = _ := by simpa using hv
  obtain ⟨b, o, rfl, hb, hce⟩ := hcell (by simp)
  have c0 := (hce 0 (by simp)).2
  have c1 := (hce 1 (by simp)).2
  simp only [Nat.add_zero, List.getElem_cons_zero, List.getElem_cons_succ] at c0 c1 ⊢
  clear h hv hcell hce hcl
  go_enter Try.func142, Try.ntmps142
  go_wp2_with fail
  go_loop [3, 4] (fun m i => (i = .int .i64 1 ∧ m = .int .i64 x) ∨ (i = .int .i64 2 ∧ m = .int .i64 (min x y))) (fun _ i => 2 - (intOf i).toNat)
  case atStart => exact .inl ⟨rfl, rfl⟩
  case round =>
    rcases hrel with ⟨rfl, rfl⟩ | ⟨rfl, rfl⟩
    · go_wp2_with fail
      go_round
      case rel => exact .inr ⟨rfl, by congr 1; first | rfl | (split <;> omega) | omega⟩
      case measure => simp [intOf]
    · go_wp2_with fail
      go_ret
      exact ⟨rfl, rfl⟩
set_option maxHeartbeats 1600000 in
set_option maxRecDepth 100000 in
theorem simp1_any (w : World) {cs : Array Value} {a : Int × List Int} {bf : Nat} {fr : Int} (h : opT.Rd w cs.toList a) (h2 : a.1 = -1 → a.2.length = 2) (f0 : w.cell? ⟨bf, 0, none⟩ = some (.int .i64 fr)) :
    Calls Try.prog 140 #[.agg cs, .pointer (some ⟨bf, 0, none⟩)] w fun e w' => e = .returned (.bool (mrgB fr a)) ∧ Below w.heap.size w w' := by
  obtain ⟨v, hv, hI, hx⟩ := pair_ex h
  obtain rfl := agg_of hv
  have hbf : bf < w.heap.size := cell_lt f0
  cases hq : (a.1 == -1)
  · have HE : Hid (mrgB fr a = false) := by unfold Hid mrgB; rw [hq]; rfl
    clear h hv hI hx h2
    go_enter Try.func140, Try.ntmps140
    go_wp2_with fail
    go_quiet (fail)
    go_wp2_with fail
    go_ret
    exact ⟨ret_bool HE.out.symm, (by repeat (first | exact Below.refl _ _ | exact bA | assumption | refine Below.setCell ?_ (by first | omega | (simp; try omega)) _ | refine Below.alloc ?_ (by first | omega | (simp; try omega)) _ | refine Below.drew ?_ | refine bDN ?_ | refine bthen ?_ (by assumption)))⟩
  · have he : a.1 = -1 := by simpa using hq
    obtain ⟨x, y, hxy⟩ := len_two (h2 he)
    rw [hxy] at hx
    obtain ⟨ad, cap, hv, -, -, hcell⟩ := ints_ex hx
    obtain rfl : v = _ := by simpa using hv
    obtain ⟨b, o, rfl, hb, hce⟩ := hcell (by simp)
    have c0 := (hce 0 (by simp)).2
    have c1 := (hce 1 (by simp)).2
    simp only [Nat.add_zero, List.getElem_cons_zero, List.getElem_cons_succ] at c0 c1 ⊢
    have HE : Hid (mrgB fr a = ((x != y) && decide (fr ≤ max x y))) := by unfold Hid mrgB hiA mrgX mrgY; rw [hq, hxy]; rfl
    clear h hv hcell hce hxy he h2 hI hx
    cases hn : (x != y)
    · go_enter Try.func140, Try.ntmps140
      go_wp2_with fail
      go_quiet (fail)
      go_wp2_with fail
      go_ret
      exact ⟨ret_bool (by rw [HE.out, hn]; rfl), (by repeat (first | exact Below.refl _ _ | exact bA | assumption | refine Below.setCell ?_ (by first | omega | (simp; try omega)) _ | refine Below.alloc ?_ (by first | omega | (simp; try omega)) _ | refine Below.drew ?_ | refine bDN ?_ | refine bthen ?_ (by assumption)))⟩
    · have HR : Hid (mrgB fr a = decide (fr ≤ max x y)) := by unfold Hid; rw [HE.out, hn]; rfl
      go_enter Try.func140, Try.ntmps140
      go_wp2_with fail
      go_quiet (fail)
      go_wp2_with fail
      all_goals
        go_ret
        exact ⟨ret_bool (by rw [HR.out]; exact decide_eq_decide.2 (by omega)), (by repeat (first | exact Below.refl _ _ | exact bA | assumption | refine Below.setCell ?_ (by first | omega | (simp; try omega)) _ | refine Below.alloc ?_ (by first | omega | (simp; try omega)) _ | refine Below.drew ?_ | refine bDN ?_ | refine bthen ?_ (by assumption)))⟩
theorem simp2_any (w : World) (v lo hi : Int) (b1 b2 : Nat) (h1 : w.cell? ⟨b1, 0, none⟩ = some (.int .i64 hi)) (h2 : w.cell? ⟨b2, 0, none⟩ = some (.int .i64 lo)) :
    Calls Try.prog 144 #[.int .i64 v, .pointer (some ⟨b1, 0, none⟩), .pointer (some ⟨b2, 0, none⟩)] w fun e w' => e = .returned (.int .i64 (subTo lo hi v)) ∧ w = w' := by
  cases hc : (v == hi)
  · have HE : Hid (subTo lo hi v = v) := by unfold Hid subTo; rw [hc]
    go_enter Try.func144, Try.ntmps144
    go_wp2_with fail
    go_ret
    exact ⟨ret_int HE.out.symm, rfl⟩
  · have HE : Hid (subTo lo hi v = lo) := by unfold Hid subTo; rw [hc]
    go_enter Try.func144, Try.ntmps144
    go_wp2_with fail
    go_ret
    exact ⟨ret_int HE.out.symm, rfl⟩
set_option maxHeartbeats 1600000 in
theorem simp3_any (w : World) {cs : Array Value} {a b : Int × List Int} {ba : Nat} {u : Value} (h : opT.Rd w cs.toList b) (ha : opT.Rd w [.int .i64 a.1, u] a) (a0 : w.cell? ⟨ba, 0, none⟩ = some (.int .i64 a.1)) (a1 : w.cell? ⟨ba, 1, none⟩ = some u) :
    Calls Try.prog 145 #[.agg cs, .pointer (some ⟨ba, 0, none⟩)] w fun e w' => e = .returned (.bool (eqB a b)) ∧ Below w.heap.size w w' := by
  obtain ⟨v, hv, hI, hx⟩ := pair_ex h
  obtain rfl := agg_of hv
  have HB := Lib.hid h
  have HA := Lib.hid ha
  have hba : ba < w.heap.size := cell_lt a0
  clear h hv hx hI ha
  go_enter Try.func145, Try.ntmps145
  go_wp2_with fail
  refine (sameAtom_any _ (cs := #[.int .i64 a.1, u]) (cs' := #[.int .i64 b.1, v]) (HA.out.below bA) (HB.out.below bA)).mono ?_
  rintro e w1 ⟨rfl, hb1⟩
  go_wp2_with fail
  go_ret
  exact ⟨rfl, bthen bA hb1⟩
set_option maxHeartbeats 1600000 in
theorem simp4_any (w : World) {cs : Array Value} {b : Int × List Int} {bv : Nat} {n : Int} (h : opT.Rd w cs.toList b) (v0 : w.cell? ⟨bv, 0, none⟩ = some (.int .i64 n)) :
    Calls Try.prog 147 #[.agg cs, .pointer (some ⟨bv, 0, none⟩)] w fun e w' => e = .returned (.bool (hasI b.2 n)) ∧ Below w.heap.size w w' := by
  obtain ⟨v, hv, hI, hx⟩ := pair_ex h
  obtain rfl := agg_of hv
  have HX := Lib.hid hx
  have hbv : bv < w.heap.size := cell_lt v0
  clear h hv hx hI
  go_enter Try.func147, Try.ntmps147
  go_wp2_with fail
  refine (ContainsI_any _ (HX.out.below bA) n).mono ?_
  rintro e w1 ⟨rfl, rfl⟩
  go_wp2_with fail
  go_ret
  exact ⟨rfl, (by repeat (first | exact Below.refl _ _ | exact bA | assumption | refine Below.setCell ?_ (by first | omega | (simp; try omega)) _ | refine Below.alloc ?_ (by first | omega | (simp; try omega)) _ | refine Below.drew ?_ | refine bDN ?_ | refine bthen ?_ (by assumption)))⟩
set_option maxHeartbeats 1600000 in
theorem simp5_any (w : World) (n : Int) {bv : Nat} {u : Value} {xs : List Int} (h : intsT.Rd w [u] xs) (v0 : w.cell? ⟨bv, 0, none⟩ = some u) :
    Calls Try.prog 149 #[.int .i64 n, .pointer (some ⟨bv, 0, none⟩)] w fun e w' => e = .returned (.int .i64 (firstI (fun a => n == a) xs)) ∧ w = w' := by
  obtain ⟨ua, un, uc, rfl⟩ := rd_sl h
  have HX := Lib.hid h
  clear h
  go_enter Try.func149, Try.ntmps149
  go_wp2_with fail
  refine (IndexI_any _ HX.out n).mono ?_
  rintro e _ ⟨rfl, rfl⟩
  go_wp2_with fail
  go_ret
  exact ⟨rfl, rfl⟩
end Go.Proofs.Ytepebfpgmnidnaa
