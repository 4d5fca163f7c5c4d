/-
  Contracts: sameness of formulas and instances, in the program and in the reference.
-/
import Derived.Test.YtepebfpgmnidnaaKL
namespace Go.Proofs.Ytepebfpgmnidnaa
open Go.RowKit Go.Sort
theorem sameAtom_any (w : World) {cs cs' : Array Value} {x y : Int × List Int} (h : opT.Rd w cs.toList x) (h' : opT.Rd w cs'.toList y) :
    Calls Try.prog 87 #[.agg cs, .agg cs'] w fun e w' => e = .returned (.bool (eqB x y)) ∧ Below w.heap.size w w' := by
  obtain ⟨v, hv, hI, hx⟩ := pair_ex h
  obtain rfl := agg_of hv
  obtain ⟨v', hv', hI', hx'⟩ := pair_ex h'
  obtain rfl := agg_of hv'
  clear h hv h' hv'
  cases hn : (x.1 == y.1)
  · go_enter Try.func87, Try.ntmps87
    go_wp2_with fail
    go_ret
    exact ⟨ret_bool (eqB_fst (by simpa using hn)).symm, (by repeat (first | exact Below.refl _ _ | exact bA | assumption | refine Below.setCell ?_ (by first | omega | (simp; try omega)) _ | refine Below.alloc ?_ (by first | omega | (simp; try omega)) _ | refine Below.drew ?_ | refine bDN ?_ | refine bthen ?_ (by assumption)))⟩
  have HN : Hid (x.1 = y.1) := by simpa [Hid] using hn
  cases hq : eqB x.2 y.2
  all_goals
    go_enter Try.func87, Try.ntmps87
    go_wp2_with fail
    refine (Equal_quiet _ (hx.below (by repeat (first | exact Below.refl _ _ | exact bA | assumption | refine Below.setCell ?_ (by first | omega | (simp; try omega)) _ | refine Below.alloc ?_ (by first | omega | (simp; try omega)) _ | refine Below.drew ?_ | refine bDN ?_ | refine bthen ?_ (by assumption)))) (hx'.below (by repeat (first | exact Below.refl _ _ | exact bA | assumption | refine Below.setCell ?_ (by first | omega | (simp; try omega)) _ | refine Below.alloc ?_ (by first | omega | (simp; try omega)) _ | refine Below.drew ?_ | refine bDN ?_ | refine bthen ?_ (by assumption))))).mono ?_
    rintro e w1 ⟨rfl, n, rfl⟩
    rw [hq]
    go_wp2_with fail
    go_ret
    exact ⟨ret_bool (eqB_snd HN.out hq).symm, (by repeat (first | exact Below.refl _ _ | exact bA | assumption | refine Below.setCell ?_ (by first | omega | (simp; try omega)) _ | refine Below.alloc ?_ (by first | omega | (simp; try omega)) _ | refine Below.drew ?_ | refine bDN ?_ | refine bthen ?_ (by assumption)))⟩
theorem l03SameAtom_quiet (w : World) {v v' : Value} {x y : Int × List Int} (h : opT.Pt w v x) (h' : opT.Pt w v' y) :
    Calls Try.prog 156 #[v, v'] w fun e w' => e = .returned (.bool (eqB x y)) ∧ Quiet w w' := by
  obtain ⟨b, o, ad, cap, rfl, hb, hI, c0, c1, hx⟩ := pt_pair h
  obtain ⟨b', o', ad', cap', rfl, hb', hI', c0', c1', hx'⟩ := pt_pair h'
  clear h h'
  cases hn : (x.1 == y.1)
  · go_enter Try.func156, Try.ntmps156
    go_wp2_with fail
    go_quiet (fail)
    go_wp2_with fail
    go_ret
    exact ⟨ret_bool (eqB_fst (by simpa using hn)).symm, (by first | exact Quiet.refl _ | exact Quiet.drewN _ _ | exact (Quiet.drewN _ _).then (Quiet.drewN _ _) | exact ((Quiet.drewN _ _).then (Quiet.drewN _ _)).then (Quiet.drewN _ _))⟩
  have HN : Hid (x.1 = y.1) := by simpa [Hid] using hn
  have cQ : ∀ n, Calls Try.prog 176 #[.slice ad x.2.length cap, .slice ad' y.2.length cap'] (w.drewN n) fun e w'' => e = .returned (.bool (eqB x.2 y.2)) ∧ ∃ m, w'' = w.drewN m := fun n =>
    quiet_call (l00Same_quiet _ (hx.below (Quiet.drewN w n).below) (hx'.below (Quiet.drewN w n).below))
  go_enter Try.func156, Try.ntmps156
  go_wp2_with fail
  go_quiet (exact cQ _)
  go_wp2_with fail
  go_ret
  exact ⟨ret_bool (eqB_snd HN.out rfl).symm, (by first | exact Quiet.refl _ | exact Quiet.drewN _ _ | exact (Quiet.drewN _ _).then (Quiet.drewN _ _) | exact ((Quiet.drewN _ _).then (Quiet.drewN _ _)).then (Quiet.drewN _ _))⟩
end Go.Proofs.Ytepebfpgmnidnaa
