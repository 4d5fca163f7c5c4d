/-
Contracts: whether a tuple has equal values for places with the same variable.
Contracts: whether a number is one of a list's; whether a constraint leaves values of two variables.
Contracts: the program's tests of a kind: idempotent, conservative; the different numbers of a row.
Contracts: whether a constraint leaves values of two variables, the program's.
Contracts: the pairs that constraints tell, the program's.
Contracts: the pairs that constraints tell, the reference's.
Contracts: full domains.
Contracts: the pairs that constraints tell, all of them.
A region that draws its order and holds one alloc and one store into it besides loads and calls that make new memory: one account serves every order. The box's block is a ghost. No program is named here.
Contracts: the program's tests of a kind that build lists: associative; three orders of two values and a third.
Contracts: sameness of formulas and instances, in the program and in the reference.
Contracts: whether an operation is of a kind, the program's.
Contracts: whether an operation is of a kind, the program's, kind by kind.
Contracts: whether an operation is of a kind, the program's: projections, semilattices; whole.
Contracts: the first polymorphism of a kind, the program's.
Contracts: a polymorphism with given values, the reference's.
Plain: the first operation of a kind, and the first one with a value at a list, in the list of all.
Plain: FirstPolymorphism and PolymorphismWith against the list of all operations.
Plain: when a polymorphism with given values is found: when there is one.
Contracts: a polymorphism with given values, the reference's, whole.
Plain: how great an operation with given values is.
Contracts: the lists of the values of tuples at all places, both sides.
Contracts: the code of tuples of which there may be a hull, both sides.
Some rows of new data that now stand in a newer row: it is new data, too. No program is named here.
The hull of tuples: what it is; the relation of all tuples; contracts: the reference's hull.
Contracts: the hull of tuples, the reference's.
-/
import Derived.Test.YtmnjlhcbabhhlaaGreatQAD
import Derived.Test.YtmnjlhcbabhhlaaGreatQAB
import Derived.Test.YtmnjlhcbabhhlaaGreatQAC
import Derived.Test.YtmnjlhcbabhhlaaGreatQAA
namespace Go.Proofs.YtmnjlhcbabhhlaaGreat
open Go.RowKit Go.Sort
def agR (sc tu : List Int) (i k : Nat) : Prop := sc.getD k 0 = sc.getD i 0 → tu.getD k 0 = tu.getD i 0
def agIn (sc tu : List Int) (i m : Nat) : Prop := ∀ k, k < m → agR sc tu i k
def agTo (sc tu : List Int) (n : Nat) : Prop := ∀ i, i < n → agIn sc tu i i
theorem agIn_zero {sc tu : List Int} {i : Nat} : agIn sc tu i 0 := fun _ h => absurd h (Nat.not_lt_zero _)
theorem agIn_succ {sc tu : List Int} {i m : Nat} (h : agIn sc tu i m) (h' : agR sc tu i m) : agIn sc tu i (m + 1) := fun k hk => by
 by_cases e : k = m
 ·subst e; exact h'
 ·exact h k (by omega)
theorem agTo_zero {sc tu : List Int} : agTo sc tu 0 := fun _ h => absurd h (Nat.not_lt_zero _)
theorem agTo_succ {sc tu : List Int} {n : Nat} (h : agTo sc tu n) (h' : agIn sc tu n n) : agTo sc tu (n + 1) := fun i hi => by
 by_cases e : i = n
 ·subst e; exact h'
 ·exact h i (by omega)
theorem getD_at {xs : List Int} {k : Nat} (h : k < xs.length) : xs.getD k 0 = xs[k] := by rw [List.getD_eq_getElem?_getD, List.getElem?_eq_getElem h]; rfl
theorem agR_ne {sc tu : List Int} {i k : Nat} (h1 : i < sc.length) (h2 : k < sc.length) (h : (sc[k] == sc[i]) = false) : agR sc tu i k := fun e => by
 rw [getD_at h1, getD_at h2] at e
 rw [e] at h
 simp at h
theorem agR_eq {sc tu : List Int} {i k : Nat} (h1 : i < tu.length) (h2 : k < tu.length) (h : (tu[k] != tu[i]) = false) : agR sc tu i k := fun _ => by
 rw [getD_at h1, getD_at h2]
 simpa using h
theorem agR_not {sc tu : List Int} {i k n : Nat} (hk : k < i) (hi : i < n) (h1 : i < sc.length) (h2 : k < sc.length) (h3 : i < tu.length) (h4 : k < tu.length) (h : (sc[k] == sc[i]) = true) (h' : (tu[k] != tu[i]) = true) : ¬ agTo sc tu n := fun hh => by
 have := hh i hi k hk
 unfold agR at this
 rw [getD_at h1, getD_at h2, getD_at h3, getD_at h4] at this
 have := this (by simpa using h)
 simp [this] at h'
theorem bne_swap {a b : Int} {r : Bool} (h : (a != b) = r) : (b != a) = r := by rw [← h]; exact bne_comm
theorem beq_swap {a b : Int} {r : Bool} (h : (a == b) = r) : (b == a) = r := by rw [← h]; exact BEq.comm
set_option maxHeartbeats 1600000 in
set_option maxRecDepth 100000 in
theorem agrees_any (w : World) {cs : Array Value} {c : Int × List Int} {v : Value} {tu : List Int} (h : opT.Rd w cs.toList c) (ht : intsT.Rd w [v] tu) (hl : tu.length = c.2.length) :
  Calls Tryz.prog 85 #[.agg cs, v] w fun e w' => e = .returned (.bool (tb (agTo c.2 tu c.2.length))) ∧ Below w.heap.size w w' := by
 obtain ⟨u, hv, hI, hx⟩ := pair_ex h
 obtain rfl := agg_of hv
 obtain ⟨ad, cap, hu, -, hcl, hsc⟩ := ints_ex hx
 obtain rfl : u = _ := by simpa using hu
 obtain ⟨ad2, cap2, hu2, -, -, htc⟩ := ints_ex ht
 obtain rfl : v = _ := by simpa using hu2
 have HSC := Lib.hid hsc
 have HTC := Lib.hid htc
 have HL := Lib.hid hl
 clear h hv hx hu ht hu2 hsc htc hl
 go_enter Tryz.func85, Tryz.ntmps85
 go_wp2_with fail
 generalize hW : World.alloc _ _ = W
 have hbW : Below w.heap.size w W := hW ▸ bA
 have x1 : W.cell? ⟨w.heap.size, 1, none⟩ = some (.slice ad c.2.length cap) := by rw [← hW]; simp
 have hl0 : w.heap.size < W.heap.size := by rw [← hW]; simp
 clear hW
 go_loopw [11] (fun i wr => ∃ k : Nat, k ≤ c.2.length ∧ i = .int .i64 k ∧ agTo c.2 tu k ∧ Quiet W wr) (fun i _ => c.2.length - (intOf i).toNat)
 case atStart => exact ⟨0, Nat.zero_le _, rfl, agTo_zero, Quiet.refl _⟩
 case round =>
  obtain ⟨i, hi, rfl, hag, hq⟩ := hrel
  have HAG := Lib.hid hag
  have hbq := hq.below
  clear hag
  by_cases hil : i < c.2.length
  ·obtain ⟨b, o, rfl, hb, hce⟩ := HSC.out (by omega)
   have hlen := HL.out
   have hit : i < tu.length := by omega
   obtain ⟨b2, o2, rfl, hb2, hce2⟩ := HTC.out (by omega)
   have e0 := ((bthen hbW hbq).cell hb).trans (hce i hil).2
   have HCE := Lib.hid hce
   have HCE2 := Lib.hid hce2
   have HLEN := Lib.hid hlen
   obtain ⟨wo, rfl⟩ : ∃ wo : World, wo = wr := ⟨_, rfl⟩
   clear hce hce2 hlen
   go_wp2_with fail
   go_loopw [17] (fun k wr => ∃ m : Nat, m ≤ i ∧ k = .int .i64 m ∧ agIn c.2 tu i m ∧ Quiet W wr) (fun k _ => i - (intOf k).toNat)
   case atStart => exact ⟨0, Nat.zero_le _, rfl, agIn_zero, hq⟩
   case round =>
    obtain ⟨m, hm, rfl, hai, hq2⟩ := hrel
    have HAI := Lib.hid hai
    have hbq2 := hq2.below
    have hbw := bthen hbW hbq2
    have d1 := (cellB hbq2 hl0).trans x1
    clear hai
    by_cases hml : m < i
    ·have hmc : m < c.2.length := by omega
     have hmt : m < tu.length := by omega
     have s0 := (hbw.cell hb).trans (HCE.out m hmc).2
     have t0 := (hbw.cell hb2).trans (HCE2.out m hmt).2
     have t1 := (hbw.cell hb2).trans (HCE2.out i hit).2
     cases hs : (c.2[m] == c.2[i])
     ·have HN := Lib.hid (agIn_succ HAI.out (agR_ne (tu := tu) hil hmc hs))
      go_wp2_with fail
      go_quiet (fail)
      go_wp2_with fail
      go_roundw
      case rel => exact ⟨m + 1, by omega, by go_num, HN.out, hq2.then (by first | exact Quiet.refl _ | exact Quiet.drewN _ _ | exact (Quiet.drewN _ _).then (Quiet.drewN _ _) | exact ((Quiet.drewN _ _).then (Quiet.drewN _ _)).then (Quiet.drewN _ _))⟩
      case measure => simp [intOf]; omega
     cases htt : (tu[m] != tu[i])
     ·have HN := Lib.hid (agIn_succ HAI.out (agR_eq (sc := c.2) hit hmt htt))
      go_wp2_with fail
      go_quiet (fail)
      go_wp2_with fail
      go_roundw
      case rel => exact ⟨m + 1, by omega, by go_num, HN.out, hq2.then (by first | exact Quiet.refl _ | exact Quiet.drewN _ _ | exact (Quiet.drewN _ _).then (Quiet.drewN _ _) | exact ((Quiet.drewN _ _).then (Quiet.drewN _ _)).then (Quiet.drewN _ _))⟩
      case measure => simp [intOf]; omega
     ·have HE : Hid (tb (agTo c.2 tu c.2.length) = false) := tb_false (agR_not hml hil hil hmc hit hmt hs htt)
      go_wp2_with fail
      go_quiet (fail)
      go_wp2_with fail
      go_ret
      exact ⟨ret_bool HE.out.symm, bthen hbw (Quiet.drewN _ _).below⟩
    ·obtain rfl : m = i := by omega
     have HN := Lib.hid (agTo_succ HAG.out HAI.out)
     go_wp2_with fail
     go_roundw
     case rel => exact ⟨m + 1, by omega, by go_num, HN.out, hq2⟩
     case measure => simp [intOf]; omega
  ·obtain rfl : i = c.2.length := by omega
   have HE : Hid (tb (agTo c.2 tu c.2.length) = true) := tb_true HAG.out
   go_wp2_with fail
   go_ret
   exact ⟨ret_bool HE.out.symm, bthen hbW hbq⟩
set_option maxHeartbeats 1600000 in
set_option maxRecDepth 100000 in
theorem l05Whole_quiet (w : World) {vc : Value} {c : Int × List Int} {v : Value} {tu : List Int} (h : opT.Pt w vc c) (ht : intsT.Rd w [v] tu) (hl : tu.length = c.2.length) :
  Calls Tryz.prog 87 #[vc, v] w fun e w' => e = .returned (.bool (tb (agTo c.2 tu c.2.length))) ∧ Quiet w w' := by
 obtain ⟨bc, oc, ad, cap, rfl, hbc, -, -, c1, hx⟩ := pt_pair h
 obtain ⟨_, _, e1, -, hcl, hsc⟩ := ints_ex hx
 simp only [List.cons.injEq, Value.slice.injEq, and_true, true_and] at e1
 obtain ⟨rfl, rfl⟩ := e1
 obtain ⟨ad2, cap2, hu2, -, -, htc⟩ := ints_ex ht
 obtain rfl : v = _ := by simpa using hu2
 have HSC := Lib.hid hsc
 have HTC := Lib.hid htc
 have HL := Lib.hid hl
 have hlt : tu.length ≤ 140737488351232 := by omega
 clear h hx ht hu2 hsc htc hl
 go_enter Tryz.func87, Tryz.ntmps87
 go_wp2_with fail
 go_loopw [5] (fun i wr => ∃ k : Nat, k ≤ tu.length ∧ i = .int .i64 k ∧ agTo c.2 tu k ∧ Quiet w wr) (fun i _ => tu.length - (intOf i).toNat)
 case atStart => exact ⟨0, Nat.zero_le _, rfl, agTo_zero, Quiet.refl _⟩
 case round =>
  obtain ⟨i, hi, rfl, hag, hq⟩ := hrel
  have HAG := Lib.hid hag
  clear hag
  by_cases hil : i < tu.length
  ·have hlen := HL.out
   have hic : i < c.2.length := by omega
   obtain ⟨b, o, rfl, hb, hce⟩ := HSC.out (by omega)
   obtain ⟨b2, o2, rfl, hb2, hce2⟩ := HTC.out (by omega)
   have HCE := Lib.hid hce
   have HCE2 := Lib.hid hce2
   have HLEN := Lib.hid hlen
   obtain ⟨wo, rfl⟩ : ∃ wo : World, wo = wr := ⟨_, rfl⟩
   clear hce hce2 hlen
   go_wp2_with fail
   go_loopw [6] (fun k wr => ∃ m : Nat, m ≤ i ∧ k = .int .i64 m ∧ agIn c.2 tu i m ∧ Quiet w wr) (fun k _ => i - (intOf k).toNat)
   case atStart => exact ⟨0, Nat.zero_le _, rfl, agIn_zero, hq⟩
   case round =>
    obtain ⟨m, hm, rfl, hai, hq2⟩ := hrel
    have HAI := Lib.hid hai
    have hbq2 := hq2.below
    have d1 := (cellB hbq2 hbc).trans c1
    clear hai
    by_cases hml : m < i
    ·have hmc : m < c.2.length := by omega
     have hmt : m < tu.length := by omega
     have s0 := (hbq2.cell hb).trans (HCE.out m hmc).2
     have s1 := (hbq2.cell hb).trans (HCE.out i hic).2
     have t0 := (hbq2.cell hb2).trans (HCE2.out m hmt).2
     have t1 := (hbq2.cell hb2).trans (HCE2.out i hil).2
     cases hs : (c.2[i] == c.2[m])
     ·have HN := Lib.hid (agIn_succ HAI.out (agR_ne (tu := tu) hic hmc (beq_swap hs)))
      go_wp2_with fail
      go_quiet (fail)
      go_wp2_with fail
      go_roundw
      case rel => exact ⟨m + 1, by omega, by go_num, HN.out, hq2.then (by first | exact Quiet.refl _ | exact Quiet.drewN _ _ | exact (Quiet.drewN _ _).then (Quiet.drewN _ _) | exact ((Quiet.drewN _ _).then (Quiet.drewN _ _)).then (Quiet.drewN _ _))⟩
      case measure => simp [intOf]; omega
     cases htt : (tu[i] != tu[m])
     ·have HN := Lib.hid (agIn_succ HAI.out (agR_eq (sc := c.2) hil hmt (bne_swap htt)))
      go_wp2_with fail
      go_quiet (fail)
      go_wp2_with fail
      go_roundw
      case rel => exact ⟨m + 1, by omega, by go_num, HN.out, hq2.then (by first | exact Quiet.refl _ | exact Quiet.drewN _ _ | exact (Quiet.drewN _ _).then (Quiet.drewN _ _) | exact ((Quiet.drewN _ _).then (Quiet.drewN _ _)).then (Quiet.drewN _ _))⟩
      case measure => simp [intOf]; omega
     ·have HE : Hid (tb (agTo c.2 tu c.2.length) = false) := tb_false (agR_not hml hic hic hmc hil hmt (beq_swap hs) (bne_swap htt))
      go_wp2_with fail
      go_quiet (fail)
      go_wp2_with fail
      go_ret
      exact ⟨ret_bool HE.out.symm, hq2.then (by first | exact Quiet.refl _ | exact Quiet.drewN _ _ | exact (Quiet.drewN _ _).then (Quiet.drewN _ _) | exact ((Quiet.drewN _ _).then (Quiet.drewN _ _)).then (Quiet.drewN _ _))⟩
    ·obtain rfl : m = i := by omega
     have HN := Lib.hid (agTo_succ HAG.out HAI.out)
     go_wp2_with fail
     go_roundw
     case rel => exact ⟨m + 1, by omega, by go_num, HN.out, hq2⟩
     case measure => simp [intOf]; omega
  ·have HE : Hid (tb (agTo c.2 tu c.2.length) = true) := tb_true (by have := HL.out; have := HAG.out; rwa [show i = c.2.length by omega] at this)
   go_wp2_with fail
   go_ret
   exact ⟨ret_bool HE.out.symm, hq⟩
end Go.Proofs.YtmnjlhcbabhhlaaGreat
namespace Go.Proofs.YtmnjlhcbabhhlaaGreat
open Go.RowKit Go.Sort
/-- is a number one of a list's -/
def hasI (xs : List Int) (n : Int) : Bool := anyB (fun a => n == a) xs
theorem hasI_no {xs : List Int} {n : Int} (h : noneB (fun a => n == a) xs) : hasI xs n = false := by
 unfold hasI anyB
 rw [List.any_eq_false]
 intro a ha hh
 have h1 : (n == a) = false := h a ha
 rw [h1] at hh
 cases hh
theorem hasI_yes {xs : List Int} {n : Int} {k : Nat} (h : k < xs.length) (he : (n == xs[k]) = true) : hasI xs n = true := by
 unfold hasI anyB
 rw [List.any_eq_true]
 exact ⟨_, List.getElem_mem h, he⟩
theorem hasI_first {xs : List Int} {n : Int} : decide (0 ≤ firstI (fun a => n == a) xs) = hasI xs n := firstI_any _ _
set_option maxHeartbeats 800000 in
theorem IndexI_any (w : World) {v : Value} {xs : List Int} (h : intsT.Rd w [v] xs) (n : Int) :
  Calls Tryz.prog 98 #[v, .int .i64 n] w fun e w' => e = .returned (.int .i64 (firstI (fun a => n == a) xs)) ∧ w = w' := by
 obtain ⟨ad, cap, hv, -, hcl, hcell⟩ := ints_ex h
 obtain rfl : v = _ := by simpa using hv
 clear h hv
 go_enter Tryz.func98, Tryz.ntmps98
 go_wp2_with fail
 go_loop [8] (fun i => ∃ k : Nat, k ≤ xs.length ∧ i = .int .i64 k ∧ noneB (fun a => n == a) (xs.take k)) (fun i => xs.length - (intOf i).toNat)
 case atStart => exact ⟨0, Nat.zero_le _, rfl, noneB_zero _ _⟩
 case round =>
  obtain ⟨k, hk, rfl, hne⟩ := hrel
  have HNE := Lib.hid hne
  clear hne
  by_cases hkl : k < xs.length
  ·obtain ⟨b, o, rfl, hb, hce⟩ := hcell (by omega)
   have e0 := (hce k hkl).2
   clear hcell hce
   cases he : (n == xs[k])
   ·have HN := Lib.hid (noneB_succ (p := fun a => n == a) hkl HNE.out he)
    go_wp2_with fail
    go_round
    case rel => exact ⟨k + 1, by omega, by go_num, HN.out⟩
    case measure => simp [intOf]; omega
   ·have HN := Lib.hid (firstI_at (p := fun a => n == a) hkl HNE.out he)
    go_wp2_with fail
    go_ret
    exact ⟨ret_int HN.out.symm, rfl⟩
  ·obtain rfl : k = xs.length := by omega
   have HN : Hid (firstI (fun a => n == a) xs = -1) := firstI_none (by have := HNE.out; rwa [List.take_length] at this)
   clear hcell
   go_wp2_with fail
   go_ret
   exact ⟨ret_int HN.out.symm, rfl⟩
theorem ContainsI_any (w : World) {v : Value} {xs : List Int} (h : intsT.Rd w [v] xs) (n : Int) :
  Calls Tryz.prog 83 #[v, .int .i64 n] w fun e w' => e = .returned (.bool (hasI xs n)) ∧ w = w' := by
 have HX := Lib.hid h
 have HF := Lib.hid (hasI_first (xs := xs) (n := n))
 clear h
 go_enter Tryz.func83, Tryz.ntmps83
 go_wp2_with fail
 refine (IndexI_any _ HX.out n).mono ?_
 rintro e _ ⟨rfl, rfl⟩
 go_wp2_with fail
 go_ret
 exact ⟨ret_bool HF.out, rfl⟩
set_option maxHeartbeats 800000 in
theorem l00Has_any (w : World) {v : Value} {xs : List Int} (h : intsT.Rd w [v] xs) (n : Int) :
  Calls Tryz.prog 86 #[v, .int .i64 n] w fun e w' => e = .returned (.bool (hasI xs n)) ∧ w = w' := by
 obtain ⟨ad, cap, hv, -, hcl, hcell⟩ := ints_ex h
 obtain rfl : v = _ := by simpa using hv
 clear h hv
 go_enter Tryz.func86, Tryz.ntmps86
 go_wp2_with fail
 go_loop [5] (fun i => ∃ k : Nat, k ≤ xs.length ∧ i = .int .i64 k ∧ noneB (fun a => n == a) (xs.take k)) (fun i => xs.length - (intOf i).toNat)
 case atStart => exact ⟨0, Nat.zero_le _, rfl, noneB_zero _ _⟩
 case round =>
  obtain ⟨k, hk, rfl, hne⟩ := hrel
  have HNE := Lib.hid hne
  clear hne
  by_cases hkl : k < xs.length
  ·obtain ⟨b, o, rfl, hb, hce⟩ := hcell (by omega)
   have e0 := (hce k hkl).2
   clear hcell hce
   cases he : (n == xs[k])
   ·have HN := Lib.hid (noneB_succ (p := fun a => n == a) hkl HNE.out he)
    have he' := beq_swap he
    clear he
    go_wp2_with fail
    go_round
    case rel => exact ⟨k + 1, by omega, by go_num, HN.out⟩
    case measure => simp [intOf]; omega
   ·have HN := Lib.hid (hasI_yes hkl he)
    have he' := beq_swap he
    clear he
    go_wp2_with fail
    go_ret
    exact ⟨ret_bool HN.out.symm, rfl⟩
  ·obtain rfl : k = xs.length := by omega
   have HN : Hid (hasI xs n = false) := hasI_no (by have := HNE.out; rwa [List.take_length] at this)
   clear hcell
   go_wp2_with fail
   go_ret
   exact ⟨ret_bool HN.out.symm, rfl⟩
end Go.Proofs.YtmnjlhcbabhhlaaGreat
namespace Go.Proofs.YtmnjlhcbabhhlaaGreat
open Go.RowKit Go.Sort
end Go.Proofs.YtmnjlhcbabhhlaaGreat
namespace Go.Proofs.YtmnjlhcbabhhlaaGreat
open Go.RowKit Go.Sort
/-- the values of a tuple at the places of two variables are right, as far as place n -/
def okR (sc tu : List Int) (i j a b : Int) (q : Nat) : Prop := (sc.getD q 0 = i → tu.getD q 0 = a) ∧ (sc.getD q 0 = j → tu.getD q 0 = b)
def okTo (sc tu : List Int) (i j a b : Int) (n : Nat) : Prop := ∀ q, q < n → okR sc tu i j a b q
theorem okTo_zero {sc tu : List Int} {i j a b : Int} : okTo sc tu i j a b 0 := fun _ h => absurd h (Nat.not_lt_zero _)
theorem okTo_succ {sc tu : List Int} {i j a b : Int} {n : Nat} (h : okTo sc tu i j a b n) (h' : okR sc tu i j a b n) : okTo sc tu i j a b (n + 1) := fun q hq => by
  by_cases e : q = n
  · subst e; exact h'
  · exact h q (by omega)
def okB (x y z v : Int) : Bool := (x == y) && (z != v)
theorem okR_of {sc tu : List Int} {i j a b : Int} {q : Nat} (h1 : q < sc.length) (h2 : q < tu.length) (e1 : okB sc[q] i tu[q] a = false) (e2 : okB sc[q] j tu[q] b = false) : okR sc tu i j a b q := by
  unfold okR
  rw [getD_at h1, getD_at h2]
  constructor
  · intro he
    have : (sc[q] == i) = true := by simpa using he
    rw [okB, this, Bool.true_and] at e1
    simpa using e1
  · intro he
    have : (sc[q] == j) = true := by simpa using he
    rw [okB, this, Bool.true_and] at e2
    simpa using e2
theorem okR_not {sc tu : List Int} {i j a b : Int} {q n : Nat} (hq : q < n) (h1 : q < sc.length) (h2 : q < tu.length) (e : okB sc[q] i tu[q] a = true ∨ okB sc[q] j tu[q] b = true) : ¬ okTo sc tu i j a b n := fun hh => by
  have := hh q hq
  unfold okR at this
  rw [getD_at h1, getD_at h2] at this
  rcases e with e | e
  · simp only [okB, Bool.and_eq_true, beq_iff_eq, bne_iff_ne] at e
    exact e.2 (this.1 e.1)
  · simp only [okB, Bool.and_eq_true, beq_iff_eq, bne_iff_ne] at e
    exact e.2 (this.2 e.1)
def okT (sc tu : List Int) (i j a b : Int) : Prop := okTo sc tu i j a b sc.length ∧ agTo sc tu sc.length
set_option maxHeartbeats 3200000 in
set_option maxRecDepth 100000 in
theorem allows1_any (w : World) {v : Value} {tu : List Int} {c : Int × List Int} (ht : intsT.Rd w [v] tu) (hl : tu.length = c.2.length) (i j a b : Int) (bc bi ba bj bb : Nat) (hbc : bc < w.heap.size)
    {ad : Option Addr} {n cap : Nat} (c0 : w.cell? ⟨bc, 0, none⟩ = some (.int .i64 c.1)) (c1 : w.cell? ⟨bc, 1, none⟩ = some (.slice ad n cap)) (hI : I64 c.1) (hx : intsT.Rd w [.slice ad n cap] c.2)
    (e1 : w.cell? ⟨bi, 0, none⟩ = some (.int .i64 i)) (e2 : w.cell? ⟨ba, 0, none⟩ = some (.int .i64 a)) (e3 : w.cell? ⟨bj, 0, none⟩ = some (.int .i64 j)) (e4 : w.cell? ⟨bb, 0, none⟩ = some (.int .i64 b)) :
    Calls Tryz.prog 84 #[v, .pointer (some ⟨bc, 0, none⟩), .pointer (some ⟨bi, 0, none⟩), .pointer (some ⟨ba, 0, none⟩), .pointer (some ⟨bj, 0, none⟩), .pointer (some ⟨bb, 0, none⟩)] w fun e w' => e = .returned (.bool (tb (okT c.2 tu i j a b))) ∧ Below w.heap.size w w' := by
  have HX := Lib.hid hx
  have HT := Lib.hid ht
  obtain ⟨ad1, cap1, hu, -, hcl, hsc⟩ := ints_ex hx
  simp only [List.cons.injEq, Value.slice.injEq, and_true] at hu
  obtain ⟨rfl, rfl, rfl⟩ := hu
  obtain ⟨ad2, cap2, hu2, -, -, htc⟩ := ints_ex ht
  obtain rfl : v = _ := by simpa using hu2
  have HSC := Lib.hid hsc
  have HTC := Lib.hid htc
  have HL := Lib.hid hl
  clear hx ht hu2 hsc htc hl
  go_enter Tryz.func84, Tryz.ntmps84
  go_wp2_with fail
  go_loopw [13] (fun q wr => ∃ k : Nat, k ≤ c.2.length ∧ q = .int .i64 k ∧ okTo c.2 tu i j a b k ∧ Quiet w wr) (fun q _ => c.2.length - (intOf q).toNat)
  case atStart => exact ⟨0, Nat.zero_le _, rfl, okTo_zero, Quiet.refl _⟩
  case round =>
    obtain ⟨k, hk, rfl, hok, hq⟩ := hrel
    have HOK := Lib.hid hok
    have hbq := hq.below
    clear hok
    by_cases hkl : k < c.2.length
    · obtain ⟨b1, o1, rfl, hb1, hce⟩ := HSC.out (by omega)
      have hlen := HL.out
      have hkt : k < tu.length := by omega
      obtain ⟨b2, o2, rfl, hb2, hce2⟩ := HTC.out (by omega)
      have s0 := (hbq.cell hb1).trans (hce k hkl).2
      have t0 := (hbq.cell hb2).trans (hce2 k hkt).2
      have f1 := (hbq.cell (cell_lt e1)).trans e1
      have f2 := (hbq.cell (cell_lt e2)).trans e2
      have f3 := (hbq.cell (cell_lt e3)).trans e3
      have f4 := (hbq.cell (cell_lt e4)).trans e4
      have hkt' : (k : Int) < (tu.length : Int) := by omega
      clear hce hce2 hlen
      cases h1 : (c.2[k] == i) <;> cases h2 : (tu[k] != a) <;> cases h3 : (c.2[k] == j) <;> cases h4 : (tu[k] != b)
      all_goals
        first
          | (have HE : Hid (tb (okT c.2 tu i j a b) = false) := tb_false (fun hh => okR_not hkl hkl hkt (by first | exact .inl (by simp only [okB, h1, h2]; rfl) | exact .inr (by simp only [okB, h3, h4]; rfl)) hh.1)
             go_wp2_with fail
             go_quiet (fail)
             go_wp2_with fail
             go_ret
             exact ⟨ret_bool HE.out.symm, (hq.then (by first | exact Quiet.refl _ | exact Quiet.drewN _ _ | exact (Quiet.drewN _ _).then (Quiet.drewN _ _) | exact ((Quiet.drewN _ _).then (Quiet.drewN _ _)).then (Quiet.drewN _ _))).below⟩)
          | (have HN := Lib.hid (okTo_succ HOK.out (okR_of (i := i) (j := j) (a := a) (b := b) hkl hkt (by simp only [okB, h1, h2]; rfl) (by simp only [okB, h3, h4]; rfl)))
             go_wp2_with fail
             go_quiet (fail)
             go_wp2_with fail
             go_roundw
             case rel => exact ⟨k + 1, by omega, by go_num, HN.out, hq.then (by first | exact Quiet.refl _ | exact Quiet.drewN _ _ | exact (Quiet.drewN _ _).then (Quiet.drewN _ _) | exact ((Quiet.drewN _ _).then (Quiet.drewN _ _)).then (Quiet.drewN _ _))⟩
             case measure => simp [intOf]; omega)
    · obtain rfl : k = c.2.length := by omega
      have d0 := (cellB hbq hbc).trans c0
      have d1 := (cellB hbq hbc).trans c1
      have HRD : Hid (opT.Rd wr [.int .i64 c.1, .slice ad c.2.length cap] c) := (pair_mk hI HX.out).below hbq
      have HE : Hid (tb (agTo c.2 tu c.2.length) = tb (okT c.2 tu i j a b)) := tb_congr ⟨fun hh => ⟨HOK.out, hh⟩, fun hh => hh.2⟩
      clear e1 e2 e3 e4
      go_wp2_with fail
      refine (agrees_any (cs := #[.int .i64 c.1, .slice ad c.2.length cap]) _ HRD.out (HT.out.below hbq) HL.out).mono ?_
      rintro e w2 ⟨rfl, hb2⟩
      go_wp2_with fail
      go_ret
      exact ⟨ret_bool HE.out, bthen hbq hb2⟩
/-- does a constraint, by itself, leave a pair of values? -/
noncomputable def tellsB (t : Int × List (Int × List (List Int))) (c : Int × List Int) (i j a b : Int) : Bool := match hasI c.2 i, hasI c.2 j with
  | false, false => true
  | _, _ => anyB (fun tu => tb (okT c.2 tu i j a b)) (relAt t c.1).2
theorem tells_no {t : Int × List (Int × List (List Int))} {c : Int × List Int} {i j a b : Int} (h1 : hasI c.2 i = false) (h2 : hasI c.2 j = false) : tellsB t c i j a b = true := by simp only [tellsB, h1, h2]
theorem tells_i {t : Int × List (Int × List (List Int))} {c : Int × List Int} {i j a b : Int} (h1 : hasI c.2 i = true) : tellsB t c i j a b = anyB (fun tu => tb (okT c.2 tu i j a b)) (relAt t c.1).2 := by simp only [tellsB, h1]
theorem tells_j {t : Int × List (Int × List (List Int))} {c : Int × List Int} {i j a b : Int} (h1 : hasI c.2 i = false) (h2 : hasI c.2 j = true) : tellsB t c i j a b = anyB (fun tu => tb (okT c.2 tu i j a b)) (relAt t c.1).2 := by simp only [tellsB, h1, h2]
set_option maxHeartbeats 3200000 in
set_option maxRecDepth 100000 in
theorem allows_any (w : World) {cs ct : Array Value} {t : Int × List (Int × List (List Int))} {c : Int × List Int} (h : opT.Rd w cs.toList c) (ht : tplT.Rd w ct.toList t) {vars : Int} (hT : tplOk t) (hC : conOk t vars c) (i j a b : Int) :
    Calls Tryz.prog 51 #[.agg cs, .agg ct, .int .i64 i, .int .i64 j, .int .i64 a, .int .i64 b] w fun e w' => e = .returned (.bool (tellsB t c i j a b)) ∧ Below w.heap.size w w' := by
  obtain ⟨u, hv, hI, hx⟩ := pair_ex h
  obtain rfl := agg_of hv
  obtain ⟨sa, sn, sc, rfl⟩ := rd_sl hx
  obtain ⟨u2, hv2, hIt, htx⟩ := pair_ex ht
  obtain rfl := agg_of hv2
  obtain ⟨ta, tc, htv, -, -, htcell⟩ := pairs_ex htx
  obtain rfl : u2 = _ := by simpa using htv
  obtain ⟨kk, hkc⟩ : ∃ kk : Nat, c.1 = kk := ⟨c.1.toNat, by have := hC.1; omega⟩
  have hkk : kk < t.2.length := by have := hC.1; omega
  obtain ⟨tb0, to0, rfl, htb, hte⟩ := htcell (by omega)
  obtain ⟨uu, huu, -, he0, he1⟩ := hte kk hkk
  obtain ⟨ra, rn, rc, rfl⟩ := rd_sl huu
  have hlen : ∀ tu ∈ (t.2[kk]).2, tu.length = c.2.length := fun tu htu => by
    obtain ⟨q, hq, rfl⟩ := List.mem_iff_getElem.1 htu
    have h1 := ((hT.2.2 _ (List.getElem_mem hkk)).2.2 q hq).1.1
    have h2 := hC.2.1
    rw [hkc, arOf_nat hkk] at h2
    omega
  have HLEN := Lib.hid hlen
  have HX := Lib.hid hx
  have HUU := Lib.hid huu
  have HRA : Hid ((relAt t c.1).2 = (t.2[kk]).2) := by unfold Hid; rw [hkc, relAt_nat hkk]
  have HKC := Lib.hid hkc
  rw [hkc] at hI
  clear h ht hv hv2 hx htx htv htcell hte huu he0 hT hC hlen
  go_enter Tryz.func51, Tryz.ntmps51
  rw [HKC.out]
  clear hkc
  go_wp2_with fail
  generalize hW : World.alloc _ _ = W
  have hbW : Below w.heap.size w W := hW ▸ (((((bAA (w := w)).alloc (by simp; omega) _).alloc (by simp; omega) _).alloc (by simp; omega) _).alloc (by simp; omega) _)
  have hsW : W.heap.size = w.heap.size + 6 := by rw [← hW]; simp
  have c0 : W.cell? ⟨w.heap.size, 0, none⟩ = some (.int .i64 (kk : Int)) := by rw [← hW]; simp [go_sem]
  have c1 : W.cell? ⟨w.heap.size, 1, none⟩ = some (.slice sa sn sc) := by rw [← hW]; simp [go_sem]
  have t1 : W.cell? ⟨w.heap.size + 1, 1, none⟩ = some (.slice (some ⟨tb0, to0, none⟩) t.2.length tc) := by rw [← hW]; simp [go_sem]
  have x0 : W.cell? ⟨w.heap.size + 2, 0, none⟩ = some (.int .i64 i) := by rw [← hW]; simp [go_sem]
  have x1 : W.cell? ⟨w.heap.size + 3, 0, none⟩ = some (.int .i64 j) := by rw [← hW]; simp [go_sem]
  have x2 : W.cell? ⟨w.heap.size + 4, 0, none⟩ = some (.int .i64 a) := by rw [← hW]; simp [go_sem]
  have x3 : W.cell? ⟨w.heap.size + 5, 0, none⟩ = some (.int .i64 b) := by rw [← hW]; simp [go_sem]
  have d1 := (hbW.cell htb).trans he1
  have HXW := Lib.hid (HX.out.below hbW)
  have HUW := Lib.hid (HUU.out.below hbW)
  clear hW he1
  have c0' : W.cell? ⟨w.heap.size, 0, none⟩ = some (.int .i64 c.1) := by rw [HKC.out]; exact c0
  have hIc : I64 c.1 := by rw [HKC.out]; exact hI
  have HPF : Hid (∀ W', Below W.heap.size W W' → ∀ k (h : k < (t.2[kk]).2.length) (u : Value), intsT.Rd W' [u] (t.2[kk]).2[k] → Calls Tryz.prog 84 (#[u] ++ #[.pointer (some ⟨w.heap.size, 0, none⟩), .pointer (some ⟨w.heap.size + 2, 0, none⟩), .pointer (some ⟨w.heap.size + 4, 0, none⟩), .pointer (some ⟨w.heap.size + 3, 0, none⟩), .pointer (some ⟨w.heap.size + 5, 0, none⟩)]) W' fun e W'' => e = .returned (.bool (tb (okT c.2 (t.2[kk]).2[k] i j a b))) ∧ Below W'.heap.size W' W'') := by
    intro W' hW' k hk u hu
    have hz := hW'.size
    exact allows1_any W' hu (HLEN.out _ (List.getElem_mem hk)) i j a b _ _ _ _ _ (by omega) ((cellB hW' (by omega)).trans c0') ((cellB hW' (by omega)).trans c1) hIc (HXW.out.below hW') ((cellB hW' (by omega)).trans x0) ((cellB hW' (by omega)).trans x2) ((cellB hW' (by omega)).trans x1) ((cellB hW' (by omega)).trans x3)
  clear c0' hIc
  refine (ContainsI_any _ HXW.out i).mono ?_
  rintro e _ ⟨rfl, rfl⟩
  cases h1 : hasI c.2 i
  · go_wp2_with fail
    refine (ContainsI_any _ HXW.out j).mono ?_
    rintro e _ ⟨rfl, rfl⟩
    cases h2 : hasI c.2 j
    · have HE := Lib.hid (tells_no (t := t) (a := a) (b := b) h1 h2)
      clear h1 h2
      go_wp2_with fail
      go_ret
      exact ⟨ret_bool HE.out.symm, hbW⟩
    · have HE := Lib.hid (tells_j (t := t) (a := a) (b := b) h1 h2)
      rw [HRA.out] at HE
      clear h1 h2
      go_wp2_with fail
      refine (ContainsFuncInts_any _ HUW.out (fun tu => tb (okT c.2 tu i j a b)) 84 _ (enters Tryz.func84 (by kernel_rfl) rfl) HPF.out).mono ?_
      rintro e w2 ⟨rfl, hb2⟩
      go_wp2_with fail
      go_ret
      exact ⟨ret_bool HE.out.symm, bthen hbW hb2⟩
  · have HE := Lib.hid (tells_i (t := t) (j := j) (a := a) (b := b) h1)
    rw [HRA.out] at HE
    clear h1
    go_wp2_with fail
    refine (ContainsFuncInts_any _ HUW.out (fun tu => tb (okT c.2 tu i j a b)) 84 _ (enters Tryz.func84 (by kernel_rfl) rfl) HPF.out).mono ?_
    rintro e w2 ⟨rfl, hb2⟩
    go_wp2_with fail
    go_ret
    exact ⟨ret_bool HE.out.symm, bthen hbW hb2⟩
end Go.Proofs.YtmnjlhcbabhhlaaGreat
namespace Go.Proofs.YtmnjlhcbabhhlaaGreat
open Go.RowKit Go.Sort
set_option maxHeartbeats 3200000 in
set_option maxRecDepth 100000 in
theorem firstPairs11_any (w : World) {cs : Array Value} {c : Int × List Int} (h : opT.Rd w cs.toList c) {t : Int × List (Int × List (List Int))} {vars : Int} (hT : tplOk t) (hC : conOk t vars c) (i j a b : Int) (bt bi bj bp : Nat) {v : Value} {pa : Nat} {po pn pc : Nat}
  (t0 : w.cell? ⟨bt, 0, none⟩ = some (.int .i64 t.1)) (t1 : w.cell? ⟨bt, 1, none⟩ = some v) (ht : tplT.Rd w [.int .i64 t.1, v] t) (x0 : w.cell? ⟨bi, 0, none⟩ = some (.int .i64 i)) (x1 : w.cell? ⟨bj, 0, none⟩ = some (.int .i64 j))
  (p0 : w.cell? ⟨bp, 0, none⟩ = some (.slice (some ⟨pa, po, none⟩) pn pc)) (hn : pn = 2) (q0 : w.cell? ⟨pa, po, none⟩ = some (.int .i64 a)) (q1 : w.cell? ⟨pa, po + 1, none⟩ = some (.int .i64 b)) :
  Calls Tryz.prog 50 #[.agg cs, .pointer (some ⟨bt, 0, none⟩), .pointer (some ⟨bi, 0, none⟩), .pointer (some ⟨bj, 0, none⟩), .pointer (some ⟨bp, 0, none⟩)] w fun e w' => e = .returned (.bool (!tellsB t c i j a b)) ∧ Below w.heap.size w w' := by
 subst hn
 obtain ⟨u, hv, hI, hx⟩ := pair_ex h
 obtain rfl := agg_of hv
 have HC0 := Lib.hid h
 have HT0 := Lib.hid ht
 have HT := Lib.hid hT
 have HC := Lib.hid hC
 obtain ⟨u2, hv2, -, -⟩ := pair_ex ht
 clear h hv hx ht hT hC hv2
 go_enter Tryz.func50, Tryz.ntmps50
 go_wp2_with fail
 generalize hW : World.alloc _ _ = W
 have hbW : Below w.heap.size w W := hW ▸ bA
 have y0 : W.cell? ⟨w.heap.size, 0, none⟩ = some (.int .i64 c.1) := by rw [← hW]; simp
 have y1 : W.cell? ⟨w.heap.size, 1, none⟩ = some u := by rw [← hW]; simp
 have k0 := cell_regrown y0
 have k1 := cell_regrown y1
 have k2 := cell_regrown ((hbW.cell (cell_lt t0)).trans t0)
 have k3 := cell_regrown ((hbW.cell (cell_lt t1)).trans t1)
 have k4 := cell_regrown ((hbW.cell (cell_lt x0)).trans x0)
 have k5 := cell_regrown ((hbW.cell (cell_lt x1)).trans x1)
 have k6 := cell_regrown ((hbW.cell (cell_lt p0)).trans p0)
 have k7 := cell_regrown ((hbW.cell (cell_lt q0)).trans q0)
 have k8 := cell_regrown ((hbW.cell (cell_lt q1)).trans q1)
 have cA : ∀ d os, Calls Tryz.prog 51 #[.agg #[.int .i64 c.1, u], .agg #[.int .i64 t.1, v], .int .i64 i, .int .i64 j, .int .i64 a, .int .i64 b] (grow (redrawn W d) os) fun e w'' => e = .returned (.bool (tellsB t c i j a b)) ∧ ∃ p : Regrown, w'' = grow (redrawn W p.d) p.os := fun d os =>
  Calls.regrown_of (allows_any _ (HC0.out.below (bthen hbW (below_regrown W d os))) (HT0.out.below (bthen hbW (below_regrown W d os))) HT.out HC.out i j a b)
 clear hW y0 y1 t0 t1 x0 x1 p0 q0 q1
 refine wp_region_quiet_below (by kernel_rfl) (by kernel_rfl) ?_
 repeat (go_big_quiet_step (exact cA _ _))
 refine wpQuiet_nil ?_
 rintro w2 ⟨p, rfl⟩
 have hb2 := below_regrown W p.d p.os
 go_wp2_with fail
 go_ret
 exact ⟨rfl, bthen hbW hb2⟩
/-- is a pair of values left by all constraints? -/
noncomputable def leftB (t : Int × List (Int × List (List Int))) (x : Int × List (Int × List Int)) (i j : Int) (pr : List Int) : Bool := !anyB (fun c => !tellsB t c i j (pr.getD 0 0) (pr.getD 1 0)) x.2
set_option maxHeartbeats 3200000 in
set_option maxRecDepth 100000 in
theorem firstPairs1_any (w : World) {v : Value} {pr : List Int} (hp : intsT.Rd w [v] pr) (hl : pr.length = 2) {t : Int × List (Int × List (List Int))} {x : Int × List (Int × List Int)} (hok : instOk t x) (i j : Int) (bx bt bi bj : Nat) {vt vx : Value}
  (t0 : w.cell? ⟨bt, 0, none⟩ = some (.int .i64 t.1)) (t1 : w.cell? ⟨bt, 1, none⟩ = some vt) (ht : tplT.Rd w [.int .i64 t.1, vt] t) (x1 : w.cell? ⟨bx, 1, none⟩ = some vx) (hx : opsT.Rd w [vx] x.2) (y0 : w.cell? ⟨bi, 0, none⟩ = some (.int .i64 i)) (y1 : w.cell? ⟨bj, 0, none⟩ = some (.int .i64 j)) :
  Calls Tryz.prog 49 #[v, .pointer (some ⟨bx, 0, none⟩), .pointer (some ⟨bt, 0, none⟩), .pointer (some ⟨bi, 0, none⟩), .pointer (some ⟨bj, 0, none⟩)] w fun e w' => e = .returned (.bool (leftB t x i j pr)) ∧ Below w.heap.size w w' := by
 obtain ⟨ad, cap, hv, -, -, hcell⟩ := ints_ex hp
 obtain rfl : v = _ := by simpa using hv
 obtain ⟨pa, po, rfl, hpa, hce⟩ := hcell (by omega)
 have q0 : w.cell? ⟨pa, po, none⟩ = some (.int .i64 (pr.getD 0 0)) := by rw [getD_at (show 0 < pr.length by omega)]; exact (hce 0 (by omega)).2
 have q1 : w.cell? ⟨pa, po + 1, none⟩ = some (.int .i64 (pr.getD 1 0)) := by rw [getD_at (show 1 < pr.length by omega)]; exact (hce 1 (by omega)).2
 obtain ⟨xa, xn, xc, rfl⟩ := rd_sl hx
 have HX := Lib.hid hx
 have HT := Lib.hid ht
 have HOK := Lib.hid hok
 have HL := Lib.hid hl
 clear hp hv hcell hce hx ht hok hl
 have hbx := cell_lt x1
 go_enter Tryz.func49, Tryz.ntmps49
 go_wp2_with fail
 generalize hW : World.alloc _ _ = W
 have hbW : Below w.heap.size w W := hW ▸ bA
 have p0 : W.cell? ⟨w.heap.size, 0, none⟩ = some (.slice (some ⟨pa, po, none⟩) pr.length cap) := by rw [← hW]; simp
 have hlW : w.heap.size < W.heap.size := by rw [← hW]; simp
 have T0 := (hbW.cell (cell_lt t0)).trans t0
 have T1 := (hbW.cell (cell_lt t1)).trans t1
 have Y0 := (hbW.cell (cell_lt y0)).trans y0
 have Y1 := (hbW.cell (cell_lt y1)).trans y1
 have Q0 := (hbW.cell (cell_lt q0)).trans q0
 have Q1 := (hbW.cell (cell_lt q1)).trans q1
 clear hW
 refine (ContainsFuncCon_any _ (HX.out.below hbW) (fun c => !tellsB t c i j (pr.getD 0 0) (pr.getD 1 0)) 50 #[.pointer (some ⟨bt, 0, none⟩), .pointer (some ⟨bi, 0, none⟩), .pointer (some ⟨bj, 0, none⟩), .pointer (some ⟨w.heap.size, 0, none⟩)] (enters Tryz.func50 (by kernel_rfl) rfl) (fun W' hW' k hk cs hcs => firstPairs11_any W' hcs HOK.out.1 (HOK.out.2.2.2 _ (List.getElem_mem hk)) i j _ _ bt bi bj w.heap.size ((hW'.cell (cell_lt T0)).trans T0) ((hW'.cell (cell_lt T1)).trans T1) ((HT.out.below hbW).below hW') ((hW'.cell (cell_lt Y0)).trans Y0) ((hW'.cell (cell_lt Y1)).trans Y1) ((cellB hW' hlW).trans p0) HL.out ((hW'.cell (cell_lt Q0)).trans Q0) ((hW'.cell (cell_lt Q1)).trans Q1))).mono ?_
 rintro e w2 ⟨rfl, hb2⟩
 go_wp2_with fail
 go_ret
 exact ⟨rfl, bthen hbW hb2⟩
/-- the pair relations of variables below j with j; all of them -/
noncomputable def rowP (t : Int × List (Int × List (List Int))) (x : Int × List (Int × List Int)) (N : Nat) (j m : Nat) : List (Int × List (List Int)) := (List.range m).map fun i : Nat => ((2 : Int), relL t.1 2 (leftB t x i j) N)
noncomputable def allP (t : Int × List (Int × List (List Int))) (x : Int × List (Int × List Int)) (N : Nat) (n : Nat) : List (Int × List (List Int)) := (List.range n).flatMap fun j => rowP t x N j j
theorem rowP_succ {t : Int × List (Int × List (List Int))} {x : Int × List (Int × List Int)} {N j m : Nat} : rowP t x N j m ++ [((2 : Int), relL t.1 2 (leftB t x m j) N)] = rowP t x N j (m + 1) := by simp [rowP, List.range_succ]
theorem rowP_len {t : Int × List (Int × List (List Int))} {x : Int × List (Int × List Int)} {N j m : Nat} : (rowP t x N j m).length = m := by simp [rowP]
theorem allP_succ {t : Int × List (Int × List (List Int))} {x : Int × List (Int × List Int)} {N n : Nat} : allP t x N n ++ rowP t x N n n = allP t x N (n + 1) := by simp [allP, List.range_succ]
theorem allP_len {t : Int × List (Int × List (List Int))} {x : Int × List (Int × List Int)} {N : Nat} : ∀ {n : Nat}, n ≤ 10 → (allP t x N n).length ≤ 10 * n
 | 0, _ => by simp [allP]
 | n + 1, h => by
  rw [← allP_succ, List.length_append, rowP_len]
  have := allP_len (t := t) (x := x) (N := N) (n := n) (by omega)
  omega
theorem Bl.own_lt {α : Type} {E : Ty α} {e base top : Nat} {w : World} {v : Value} {ys : List α} (h : Bl E e base top w v ys) {g : Nat} (hg : v.ownBlock = some g) : g < top := by
 obtain ⟨L, fps, _, _, _, _, h5, _⟩ := h
 exact h5 g hg
theorem Bl.own_ne {α : Type} {E : Ty α} {e base top : Nat} {w : World} {v : Value} {ys : List α} (h : Bl E e base top w v ys) {b : Nat} (hb : top ≤ b) : v.ownBlock ≠ some b := fun hg => by have := h.own_lt hg; omega
/-- a cell beside the row that grew -/
theorem grown_cell {w w' : World} {row : Option Nat} {b i : Nat} (h : w.grownBy w' row) (hlt : b < w.heap.size) (hne : row ≠ some b) : w'.cell? ⟨b, i, none⟩ = w.cell? ⟨b, i, none⟩ := World.cell?_of_block (h.block b hlt fun e => hne e.symm)
theorem own_kept {row row' : Option Nat} {n b : Nat} (h : row' = row ∨ row' = some n) (hne : row ≠ some b) (hb : b < n) : row' ≠ some b := by
 rcases h with rfl | rfl
 ·exact hne
 ·intro e; cases e; omega
set_option maxHeartbeats 3200000 in
set_option maxRecDepth 100000 in
theorem firstPairs_any (w : World) {cs cs' : Array Value} {t : Int × List (Int × List (List Int))} {x : Int × List (Int × List Int)} (h : tplT.Rd w cs.toList t) (h' : instT.Rd w cs'.toList x) (hok : instOk t x) (N : Nat) (hN : t.1 ^ 2 = N) :
  Calls Tryz.prog 20 #[.agg cs, .agg cs'] w (RetS relsT w (allP t x N x.1.toNat)) := by
 have HT0 := Lib.hid h
 obtain ⟨v1, hv, hI, -⟩ := pair_ex h
 obtain rfl := agg_of hv
 obtain ⟨v2, hv', hI', hxx⟩ := pair_ex h'
 obtain rfl := agg_of hv'
 obtain ⟨xa, xn, xc, rfl⟩ := rd_sl hxx
 have HX := Lib.hid hxx
 have HOK := Lib.hid hok
 have hs := hok.1.1
 unfold sizeOk at hs
 have hx1 := hok.2.1
 obtain ⟨n, hn⟩ : ∃ n : Nat, x.1 = n := ⟨x.1.toNat, by omega⟩
 have HNN : Hid (x.1.toNat = n) := by unfold Hid; omega
 rw [hn] at hx1
 have HN := Lib.hid hN
 clear h hv h' hv' hxx hok hN
 go_enter Tryz.func20, Tryz.ntmps20
 rw [hn]
 clear hn
 go_wp2_with fail
 generalize hW : World.alloc _ _ = W
 have hbW : Below w.heap.size w W := hW ▸ ((bAA (w := w)).alloc (by simp; omega) _)
 have hsW : W.heap.size = w.heap.size + 3 := by rw [← hW]; simp
 have t0 : W.cell? ⟨w.heap.size, 0, none⟩ = some (.int .i64 t.1) := by rw [← hW]; simp [go_sem]
 have t1 : W.cell? ⟨w.heap.size, 1, none⟩ = some v1 := by rw [← hW]; simp [go_sem]
 have x1 : W.cell? ⟨w.heap.size + 1, 1, none⟩ = some (.slice xa xn xc) := by rw [← hW]; simp [go_sem]
 have hB0 : Bl relT 43 (w.heap.size + 2) W.heap.size W (.slice (some ⟨w.heap.size + 2, 0, none⟩) 0 0) [] := by
  rw [← hW]
  simpa using Bl.lit0 (E := relT) (e := 43) (base := w.heap.size + 2) (w := (w.alloc (.cells #[.int .i64 t.1, v1] 26)).alloc (.cells #[.int .i64 (n : Int), .slice xa xn xc] 29)) (by simp)
 have HB0 := Lib.hid hB0
 clear hW hB0
 go_loopw [11, 5] (fun i o wr => ∃ j : Nat, j ≤ n ∧ i = .int .i64 j ∧ Bl relT 43 (w.heap.size + 2) wr.heap.size wr o (allP t x N j) ∧ Below (w.heap.size + 2) W wr ∧ W.heap.size ≤ wr.heap.size) (fun i _ _ => n - (intOf i).toNat)
 case atStart => exact ⟨0, by omega, rfl, by simpa [allP] using HB0.out, Below.refl _ _, Nat.le_refl _⟩
 case round =>
  obtain ⟨j, hj, rfl, hBl, hbe, hse⟩ := hrel
  have HB := Lib.hid hBl
  have hao := HB.out.own_ne (Nat.le_refl _)
  have hbw : Below w.heap.size w wr := hbW.trans (hbe.mono (by omega))
  have HLA := Lib.hid (allP_len (t := t) (x := x) (N := N) (n := j) (by omega))
  clear hBl HB0
  by_cases hjl : j < n
  ·go_wp2_with fail
   generalize hWa : World.alloc wr _ = wa
   have hba : Below wr.heap.size wr wa := hWa ▸ bA
   have hsa : wa.heap.size = wr.heap.size + 1 := by rw [← hWa]; simp
   have y0 : wa.cell? ⟨wr.heap.size, 0, none⟩ = some (.int .i64 (j : Int)) := by rw [← hWa]; simp
   have HBa : Hid (Bl relT 43 (w.heap.size + 2) wa.heap.size wa _ (allP t x N j)) := (HB.out.below hba (Nat.le_refl _)).mono (by omega)
   have hbea : Below (w.heap.size + 2) W wa := hbe.trans (hba.mono (by omega))
   clear hWa HB hbe hba hbw
   generalize hBe : wr.heap.size = B at hao hsa hse y0 ⊢
   clear hBe
   go_loopw [15, 5] (fun i o wi => ∃ m : Nat, m ≤ j ∧ i = .int .i64 m ∧ Bl relT 43 (w.heap.size + 2) wi.heap.size wi o (allP t x N j ++ rowP t x N j m) ∧ Below (w.heap.size + 2) W wi ∧ wi.cell? ⟨B, 0, none⟩ = some (.int .i64 (j : Int)) ∧ o.ownBlock ≠ some B ∧ B + 1 ≤ wi.heap.size) (fun i _ _ => j - (intOf i).toNat)
   case atStart => exact ⟨0, by omega, rfl, by rw [show rowP t x N j 0 = [] by simp [rowP], List.append_nil]; exact HBa.out, hbea, y0, hao, by omega⟩
   case round =>
    obtain ⟨m, hm, rfl, hBi, hbi, yi, hao2, hsi⟩ := hrel
    have HBi := Lib.hid hBi
    have hbwi : Below w.heap.size w wr := hbW.trans (hbi.mono (by omega))
    have HLR := Lib.hid (rowP_len (t := t) (x := x) (N := N) (j := j) (m := m))
    clear hBi HBa hao y0 hbea
    by_cases hml : m < j
    ·have hml' := hml
     have hlw : w.heap.size < wr.heap.size := by omega
     replace t0 := (cellB hbi (by omega)).trans t0
     replace t1 := (cellB hbi (by omega)).trans t1
     replace x1 := (cellB hbi (by omega)).trans x1
     go_wp2_with fail
     generalize hWb : World.alloc wr _ = wb
     have hbb : Below wr.heap.size wr wb := hWb ▸ bA
     have hsb : wb.heap.size = wr.heap.size + 1 := by rw [← hWb]; simp
     have z0 : wb.cell? ⟨wr.heap.size, 0, none⟩ = some (.int .i64 (m : Int)) := by rw [← hWb]; simp
     replace t0 := (cellB hbb (by omega)).trans t0
     replace t1 := (cellB hbb (by omega)).trans t1
     replace x1 := (cellB hbb (by omega)).trans x1
     replace yi := (cellB hbb (by omega)).trans yi
     have hbwb : Below w.heap.size w wb := bthen hbwi hbb
     clear hWb
     refine (relOf_any _ t.1 2 hs (by omega) 49 _ (enters Tryz.func49 (by kernel_rfl) rfl) (leftB t x m j) N HN.out (Lib.hid fun W' u k hW' hk hu => ?_)).mono ?_
     ·exact firstPairs1_any W' hu digL_len HOK.out m j (w.heap.size + 1) w.heap.size wr.heap.size B ((hW'.cell (cell_lt t0)).trans t0) ((hW'.cell (cell_lt t1)).trans t1) ((HT0.out.below hbwb).below hW') ((hW'.cell (cell_lt x1)).trans x1) ((HX.out.below hbwb).below hW') ((hW'.cell (cell_lt z0)).trans z0) ((hW'.cell (cell_lt yi)).trans yi)
     rintro e w3 ⟨cs3, rfl, hf3, hb3⟩
     have hz3 := hb3.size
     obtain ⟨v3, rfl⟩ : ∃ v3, cs3 = [.int .i64 2, v3] := let ⟨ad, cap, h⟩ := fr_pair hf3; ⟨_, h⟩
     have HF3 := Lib.hid hf3
     replace yi := (cellB hb3 (by omega)).trans yi
     clear hf3 z0
     have hb3' : Below wr.heap.size wr w3 := bthen hbb hb3
     go_wp2_with (refine wpList_push (E := relT) _ rfl _ _ 24 43 rfl elRelS rfl (HBi.out.below (hb3'.alloc hb3'.size _) (Nat.le_refl _)) rfl news2 ((HF3.out.below bA).mono (by omega)) (by rw [List.length_append, HLR.out]; have := HLA.out; omega) (by decide) (by omega) (by first | (simp; done) | (simp; omega)) ?_; intro v5 w5 hB5 hg5 hown; have hb5 : Below (w.heap.size + 2) w3 w5 := ((Below.refl _ w3).alloc (by omega) _).grown hg5 (by first | (simp; done) | (simp; omega)) (fun q hq => HBi.out.own hq); have i0 := (grown_cell hg5 (by simp; omega) hao2).trans ((cellB (bA (w := w3)) (by omega)).trans yi); have hao5 := own_kept hown hao2 (by simp; omega))
     have hz5 := hb5.size
     rw [List.append_assoc, show rowP t x N j m ++ [(((2 : Nat) : Int), relL t.1 2 (leftB t x m j) N)] = rowP t x N j (m + 1) from rowP_succ] at hB5
     have hbw5 : Below (w.heap.size + 2) W w5 := hbi.trans ((hbb.mono (by omega)).trans ((hb3.mono (by omega)).trans hb5))
     go_roundw
     case rel => exact ⟨m + 1, by omega, by go_num, hB5, hbw5, i0, hao5, by have := hg5.size; simp at this; omega⟩
     case measure => simp [intOf]; omega
    ·obtain rfl : m = j := by omega
     go_wp2_with fail
     go_roundw
     case rel => exact ⟨m + 1, by omega, by go_num, by rw [← allP_succ]; exact HBi.out, hbi, by omega⟩
     case measure => simp [intOf]; omega
  ·obtain rfl : j = n := by omega
   have HFO := Lib.hid (HB.out.fr (by have := HLA.out; unfold capMax; omega))
   obtain ⟨oa, on, oc, rfl⟩ := ex_slice HFO.out
   go_wp2_with fail
   go_ret
   exact ⟨_, rfl, by rw [Int.toNat_natCast]; exact HFO.out.mono (by omega), hbw⟩
end Go.Proofs.YtmnjlhcbabhhlaaGreat
namespace Go.Proofs.YtmnjlhcbabhhlaaGreat
open Go.RowKit Go.Sort
theorem anyB_no {α : Type} {p : α → Bool} {xs : List α} (h : noneB p xs) : anyB p xs = false := by
  unfold anyB
  rw [List.any_eq_false]
  intro x hx
  simp [h x hx]
theorem anyB_yes {α : Type} {p : α → Bool} {xs : List α} {k : Nat} (h : k < xs.length) (hp : p xs[k] = true) : anyB p xs = true := by
  unfold anyB
  rw [List.any_eq_true]
  exact ⟨_, List.getElem_mem h, hp⟩
theorem okTo_keep {sc tu : List Int} {i j a b : Int} {n : Nat} (h : okR sc tu i j a b n) : tb (okTo sc tu i j a b (n + 1)) = tb (okTo sc tu i j a b n) :=
  tb_congr ⟨fun hh q hq => hh q (by omega), fun hh => okTo_succ hh h⟩
set_option maxHeartbeats 6400000 in
set_option maxRecDepth 100000 in
theorem l05Tells_quiet (w : World) {vt vc : Value} {c : Int × List Int} {t : Int × List (Int × List (List Int))} (ht : tplT.Pt w vt t) (hc : opT.Pt w vc c) {vars : Int} (hT : tplOk t) (hC : conOk t vars c) (i j a b : Int) :
    Calls Tryz.prog 52 #[vt, vc, .int .i64 i, .int .i64 j, .int .i64 a, .int .i64 b] w fun e w' => e = .returned (.bool (tellsB t c i j a b)) ∧ Quiet w w' := by
  have HCP := Lib.hid hc
  obtain ⟨bc, oc, ac, cc, rfl, hbc, -, c0, c1, hx⟩ := pt_pair hc
  obtain ⟨bt, ot, at0, ct, rfl, hbt, -, -, t1, htx⟩ := pt_pair ht
  obtain ⟨kk, hkc⟩ : ∃ kk : Nat, c.1 = kk := ⟨c.1.toNat, by have := hC.1; omega⟩
  have hkk : kk < t.2.length := by have := hC.1; omega
  obtain ⟨ra, ro, rfl, hp⟩ := rd_elem htx hkk
  obtain ⟨_, _, ar, cr, hpe, hbr, -, -, r1, hrx⟩ := pt_pair (show relT.Pt w (.pointer (some ⟨ra, ro + kk * 2, none⟩)) t.2[kk] from hp)
  simp only [Value.pointer.injEq, Option.some.injEq, Addr.mk.injEq, and_true] at hpe
  obtain ⟨rfl, rfl⟩ := hpe
  have hlen : ∀ tu ∈ (t.2[kk]).2, tu.length = c.2.length := fun tu htu => by
    obtain ⟨q, hq, rfl⟩ := List.mem_iff_getElem.1 htu
    have h1 := ((hT.2.2 _ (List.getElem_mem hkk)).2.2 q hq).1.1
    have h2 := hC.2.1
    rw [hkc, arOf_nat hkk] at h2
    omega
  have HLEN := Lib.hid hlen
  have HX := Lib.hid hx
  have HRX := Lib.hid hrx
  have HRA : Hid ((relAt t c.1).2 = (t.2[kk]).2) := by unfold Hid; rw [hkc, relAt_nat hkk]
  obtain ⟨_, _, e1, -, hcl, hsc⟩ := ints_ex hx
  simp only [List.cons.injEq, Value.slice.injEq, and_true, true_and] at e1
  obtain ⟨rfl, rfl⟩ := e1
  obtain ⟨_, _, e1, -, hcl2, hrs⟩ := slices_ex hrx
  simp only [List.cons.injEq, Value.slice.injEq, and_true, true_and] at e1
  obtain ⟨rfl, rfl⟩ := e1
  have HSC := Lib.hid hsc
  have HRS := Lib.hid hrs
  rw [hkc] at c0
  clear hc ht htx hp hC hT hlen hx hrx hsc hrs hkc
  have HE : Hid (tellsB t c i j a b = match hasI c.2 i, hasI c.2 j with | false, false => true | _, _ => anyB (fun tu => tb (okT c.2 tu i j a b)) (t.2[kk]).2) := by
    unfold Hid
    rw [← HRA.out]
    rfl
  cases h1 : hasI c.2 i <;> cases h2 : hasI c.2 j
  · rw [h1, h2] at HE
    go_enter Tryz.func52, Tryz.ntmps52
    go_wp2_with fail
    refine (l00Has_any _ HX.out i).mono ?_
    rintro e _ ⟨rfl, rfl⟩
    rw [h1]
    go_wp2_with fail
    refine (l00Has_any _ HX.out j).mono ?_
    rintro e _ ⟨rfl, rfl⟩
    rw [h2]
    go_wp2_with fail
    go_ret
    exact ⟨ret_bool HE.out.symm, Quiet.refl _⟩
  all_goals
    rw [h1, h2] at HE
    go_enter Tryz.func52, Tryz.ntmps52
    go_wp2_with fail
    refine (l00Has_any _ HX.out i).mono ?_
    rintro e _ ⟨rfl, rfl⟩
    rw [h1]
    go_wp2_with fail
    try (refine (l00Has_any _ HX.out j).mono ?_; rintro e _ ⟨rfl, rfl⟩; rw [h2]; go_wp2_with fail)
    clear h1 h2
    go_quiet (fail)
    go_wp2_with fail
    go_loopw [14] (fun x wr => ∃ k : Nat, k ≤ (t.2[kk]).2.length ∧ x = .int .i64 k ∧ noneB (fun tu => tb (okT c.2 tu i j a b)) ((t.2[kk]).2.take k) ∧ Quiet w wr) (fun x _ => (t.2[kk]).2.length - (intOf x).toNat)
    case atStart => exact ⟨0, Nat.zero_le _, rfl, noneB_zero _ _, (by first | exact Quiet.refl _ | exact Quiet.drewN _ _ | exact (Quiet.drewN _ _).then (Quiet.drewN _ _) | exact ((Quiet.drewN _ _).then (Quiet.drewN _ _)).then (Quiet.drewN _ _))⟩
    case round =>
      obtain ⟨k, hk, rfl, hne, hq⟩ := hrel
      have HNE := Lib.hid hne
      have hbq := hq.below
      have g1 := (hbq.cell hbr).trans r1
      have gc1 := (hbq.cell hbc).trans c1
      have HCW := Lib.hid (HCP.out.below hbq)
      clear hne
      by_cases hkl : k < (t.2[kk]).2.length
      · obtain ⟨ra2, rq, rfl, hra, hrc⟩ := HRS.out (by omega)
        obtain ⟨u, hu, hcu⟩ := hrc k hkl
        obtain ⟨ua, un, uc, rfl⟩ := rd_sl hu
        have d2 := (hbq.cell hra).trans hcu
        have HU := Lib.hid (hu.below hbq)
        have hlt := HLEN.out _ (List.getElem_mem hkl)
        obtain ⟨_, _, e1, -, hul, hus⟩ := ints_ex hu
        simp only [List.cons.injEq, Value.slice.injEq, and_true] at e1
        obtain ⟨rfl, rfl, rfl⟩ := e1
        have HUS := Lib.hid hus
        have HLT := Lib.hid hlt
        clear hrc hu hcu hus hlt
        generalize hTU : (t.2[kk]).2[k] = tu at *
        go_wp2_with fail
        refine (l05Whole_quiet _ HCW.out HU.out HLT.out).mono ?_
        rintro e w2 ⟨rfl, hq2⟩
        go_wp2_with fail
        have hB2 : Below w.heap.size w w2 := bthen hbq hq2.below
        have HQ2 := Lib.hid (hq.then hq2)
        have hz2 := hB2.size
        have y1 := (cellB hB2 hbr).trans r1
        have yc := (cellB hB2 hbc).trans c1
        have yd := (hq2.below.cell (cell_lt d2)).trans d2
        have HTU := Lib.hid hTU
        clear g1 gc1 d2 r1 c1 hq hq2 hTU HCW hbq
        go_loopw [16, 15] (fun p o wi => ∃ q : Nat, q ≤ c.2.length ∧ p = .int .i64 q ∧ o = .bool (tb (agTo c.2 tu c.2.length) && tb (okTo c.2 tu i j a b q)) ∧ Quiet w2 wi) (fun p _ _ => c.2.length - (intOf p).toNat)
        case atStart => exact ⟨0, Nat.zero_le _, rfl, by rw [tb_true okTo_zero, Bool.and_true], Quiet.refl _⟩
        case round =>
          obtain ⟨q, hq, rfl, rfl, hqi⟩ := hrel
          have hbi := hqi.below
          have z1 := (cellB hbi (by omega)).trans y1
          have zc := (cellB hbi (by omega)).trans yc
          have zd := (cellB hbi (cell_lt yd)).trans yd
          have hBi : Below w.heap.size w wr := bthen hB2 hbi
          by_cases hql : q < c.2.length
          · obtain ⟨sb, so, rfl, hsb, hsc⟩ := HSC.out (by omega)
            have hlen := HLT.out
            have hqt : q < tu.length := by omega
            obtain ⟨ub, uo, rfl, hub, huc⟩ := HUS.out (by omega)
            have s0 := (hBi.cell hsb).trans (hsc q hql).2
            have t0 := (hBi.cell hub).trans (huc q hqt).2
            have hqt' : (q : Int) < (tu.length : Int) := by omega
            clear hsc huc hlen y1 yc yd
            cases h1 : (c.2[q] == i) <;> cases h2 : (tu[q] != a) <;> cases h3 : (c.2[q] == j) <;> cases h4 : (tu[q] != b)
            all_goals
              first
                | (have HN : Hid (tb (okTo c.2 tu i j a b (q + 1)) = false) := tb_false (okR_not (Nat.lt_succ_self q) hql hqt (by first | exact .inl (by simp only [okB, h1, h2]; rfl) | exact .inr (by simp only [okB, h3, h4]; rfl)))
                   go_wp2_with fail
                   go_roundw
                   case rel => exact ⟨q + 1, by omega, by go_num, by rw [HN.out, Bool.and_false], hqi⟩
                   case measure => simp [intOf]; omega)
                | (have HN := Lib.hid (okTo_keep (okR_of (i := i) (j := j) (a := a) (b := b) hql hqt (by simp only [okB, h1, h2]; rfl) (by simp only [okB, h3, h4]; rfl)))
                   go_wp2_with fail
                   go_roundw
                   case rel => exact ⟨q + 1, by omega, by go_num, by rw [HN.out], hqi⟩
                   case measure => simp [intOf]; omega)
          · obtain rfl : q = c.2.length := by omega
            have HB : Hid ((tb (agTo c.2 tu c.2.length) && tb (okTo c.2 tu i j a b c.2.length)) = tb (okT c.2 tu i j a b)) := by
              unfold Hid
              rw [tb_and]
              exact tb_congr ⟨fun h => ⟨h.2, h.1⟩, fun h => ⟨h.2, h.1⟩⟩
            rw [HB.out]
            cases hr : tb (okT c.2 tu i j a b)
            · have HN := Lib.hid (noneB_succ (p := fun tu => tb (okT c.2 tu i j a b)) hkl HNE.out (by rw [HTU.out]; exact hr))
              clear hr
              go_wp2_with fail
              go_roundw
              case rel => exact ⟨k + 1, by omega, by go_num, HN.out, HQ2.out.then hqi⟩
              case measure => simp [intOf]; omega
            · have HN : Hid (tellsB t c i j a b = true) := by unfold Hid; rw [HE.out]; exact anyB_yes hkl (by rw [HTU.out]; exact hr)
              clear hr
              go_wp2_with fail
              go_ret
              exact ⟨ret_bool HN.out.symm, HQ2.out.then hqi⟩
      · obtain rfl : k = (t.2[kk]).2.length := by omega
        have HN : Hid (tellsB t c i j a b = false) := by unfold Hid; rw [HE.out]; exact anyB_no (by have := HNE.out; rwa [List.take_length] at this)
        go_wp2_with fail
        go_ret
        exact ⟨ret_bool HN.out.symm, hq⟩
end Go.Proofs.YtmnjlhcbabhhlaaGreat
namespace Go.Proofs.YtmnjlhcbabhhlaaGreat
open Go.RowKit Go.Sort
section
variable {t : Int × List (Int × List (List Int))} {x : Int × List (Int × List Int)}
end
end Go.Proofs.YtmnjlhcbabhhlaaGreat
namespace Go.Proofs.YtmnjlhcbabhhlaaGreat
open Go.RowKit Go.Sort
/-- two numbers, just made -/
theorem fr_ints2 {base : Nat} {w : World} {a b : Int} {e : TypeId} {g : Nat} (ha : I64 a) (hb : I64 b) (hg : w.heap.size = g) (hbs : base ≤ g) : intsT.Fr base (w.alloc (.cells #[.int .i64 a, .int .i64 b] e)) [.slice (some ⟨g, 0, none⟩) 2 2] [a, b] := by
 subst hg
 refine IR.fr (e := e) ⟨rfl, ?_, hbs, World.ownsRow_lit w #[.int .i64 a, .int .i64 b] 2 hbs (by decide) (by rfl)⟩ (by decide)
 intro x hx
 simp at hx
 rcases hx with rfl | rfl
 ·exact ha
 ·exact hb
/-- .. by the first k constraints -/
noncomputable def leftK (t : Int × List (Int × List (List Int))) (x : Int × List (Int × List Int)) (i j a b : Int) (k : Nat) : Bool := !anyB (fun c => !tellsB t c i j a b) (x.2.take k)
theorem leftK_zero {t : Int × List (Int × List (List Int))} {x : Int × List (Int × List Int)} {i j a b : Int} : leftK t x i j a b 0 = true := by simp [leftK, anyB]
theorem leftK_succ {t : Int × List (Int × List (List Int))} {x : Int × List (Int × List Int)} {i j a b : Int} {k : Nat} (h : k < x.2.length) (hk : leftK t x i j a b k = true) : leftK t x i j a b (k + 1) = tellsB t x.2[k] i j a b := by
 unfold leftK anyB at hk ⊢
 rw [List.take_succ_eq_append_getElem h, List.any_append]
 rw [Bool.not_eq_true'] at hk
 rw [hk]
 simp
theorem leftK_no {t : Int × List (Int × List (List Int))} {x : Int × List (Int × List Int)} {i j a b : Int} {k : Nat} (hk : leftK t x i j a b k = false) : leftK t x i j a b x.2.length = false := by
 unfold leftK anyB at hk ⊢
 simp only [Bool.not_eq_false', List.any_eq_true] at hk
 obtain ⟨c, hc, h⟩ := hk
 simp only [List.take_length, Bool.not_eq_false', List.any_eq_true]
 exact ⟨c, List.mem_of_mem_take hc, h⟩
theorem leftK_all {t : Int × List (Int × List (List Int))} {x : Int × List (Int × List Int)} {i j a b : Int} : leftK t x i j a b x.2.length = leftB t x i j [a, b] := by simp [leftK, leftB]
/-- a pair's two values by its number -/
theorem digL_two {s : Int} {q : Nat} (hs : 1 ≤ s) (hq : (q : Int) < s * s) : digL s q 2 = [(q : Int) / s, (q : Int) % s] := by
 have h1 : (q : Int) / s < s := Int.ediv_lt_of_lt_mul (by omega) hq
 have h2 : 0 ≤ (q : Int) / s := Int.ediv_nonneg (by omega) (by omega)
 have h3 : (q : Int) / s % s = (q : Int) / s := Int.emod_eq_of_lt h2 h1
 simp only [digL, dig, List.range_succ, List.range_zero, List.nil_append, List.cons_append, List.map_cons, List.map_nil, Nat.sub_zero, Nat.reduceSub, Int.pow_one, Int.pow_zero, Int.ediv_one]
 rw [h3]
set_option maxHeartbeats 12800000 in
set_option maxRecDepth 100000 in
theorem l05First_any (w : World) {vt vx : Value} {t : Int × List (Int × List (List Int))} {x : Int × List (Int × List Int)} (ht : tplT.Pt w vt t) (hxp : instT.Pt w vx x) (hok : instOk t x) (N : Nat) (hN : t.1 ^ 2 = N) :
  Calls Tryz.prog 22 #[vt, vx] w (RetS relsT w (allP t x N x.1.toNat)) := by
 have HTP := Lib.hid ht
 obtain ⟨bt, ot, at0, ct, rfl, hbt, -, t0, -, -⟩ := pt_pair ht
 obtain ⟨bx, ox, ax, cx, rfl, hbx, -, x0, x1, hx⟩ := pt_pair hxp
 have HX := Lib.hid hx
 have HOK := Lib.hid hok
 have hs := hok.1.1
 unfold sizeOk at hs
 have hx1 := hok.2.1
 have hxl := hok.2.2.1
 obtain ⟨n, hn⟩ : ∃ n : Nat, x.1 = n := ⟨x.1.toNat, by omega⟩
 have HNN : Hid (x.1.toNat = n) := by unfold Hid; omega
 rw [hn] at hx1 x0
 have HN := Lib.hid hN
 have hmul : t.1 * t.1 = (N : Int) := by rw [← hN, Int.pow_succ, Int.pow_succ, Int.pow_zero, Int.one_mul]
 have hN16 : N ≤ 16 := by
  have : t.1 * t.1 ≤ 4 * 4 := Int.mul_le_mul hs.2 hs.2 (by omega) (by omega)
  omega
 clear ht hxp hok hN hx hn
 go_enter Tryz.func22, Tryz.ntmps22
 go_wp2_with fail
 generalize hW : World.alloc w _ = W
 have hbW : Below w.heap.size w W := hW ▸ bA
 have hsW : W.heap.size = w.heap.size + 1 := by rw [← hW]; simp
 have HB0 : Hid (Bl relT 43 w.heap.size W.heap.size W (.slice (some ⟨w.heap.size, 0, none⟩) 0 0) []) := by
  unfold Hid
  rw [← hW]
  simpa using Bl.lit0 (E := relT) (e := 43) (base := w.heap.size) (w := w) (Nat.le_refl _)
 clear hW
 go_loopw [6, 5] (fun i o wr => ∃ j : Nat, 1 ≤ j ∧ j ≤ n ∧ i = .int .i64 j ∧ Bl relT 43 w.heap.size wr.heap.size wr o (allP t x N j) ∧ Below w.heap.size w wr) (fun i _ _ => n - (intOf i).toNat)
 case atStart => exact ⟨1, by omega, by omega, rfl, by simpa [allP, rowP] using HB0.out, hbW⟩
 case round =>
  obtain ⟨j, hj1, hj, rfl, hBl, hbe⟩ := hrel
  have HB := Lib.hid hBl
  have hse := hbe.size
  have d0 := (cellB hbe hbx).trans x0
  have HLA := Lib.hid (allP_len (t := t) (x := x) (N := N) (n := j) (by omega))
  clear hBl HB0 hbW hsW
  by_cases hjl : j < n
  ·go_wp2_with fail
   obtain ⟨wo, rfl⟩ : ∃ wo : World, wo = wr := ⟨_, rfl⟩
   go_loopw [7, 5] (fun i o wi => ∃ m : Nat, m ≤ j ∧ i = .int .i64 m ∧ Bl relT 43 w.heap.size wi.heap.size wi o (allP t x N j ++ rowP t x N j m) ∧ Below w.heap.size w wi) (fun i _ _ => j - (intOf i).toNat)
   case atStart => exact ⟨0, by omega, rfl, by rw [show rowP t x N j 0 = [] by simp [rowP], List.append_nil]; exact HB.out, hbe⟩
   case round =>
    obtain ⟨m, hm, rfl, hBi, hbi⟩ := hrel
    have HBi := Lib.hid hBi
    have hsi := hbi.size
    have HLR := Lib.hid (rowP_len (t := t) (x := x) (N := N) (j := j) (m := m))
    clear hBi HB hbe hse d0
    by_cases hml : m < j
    ·go_wp2_with fail
     generalize hWb : World.alloc wr _ = wb
     have hbb : Below wr.heap.size wr wb := hWb ▸ bA
     have hsb : wb.heap.size = wr.heap.size + 1 := by rw [← hWb]; simp
     have r0 : wb.cell? ⟨wr.heap.size, 0, none⟩ = some (.int .i64 2) := by rw [← hWb]; simp
     have r1 : wb.cell? ⟨wr.heap.size, 1, none⟩ = some (.slice none 0 0) := by rw [← hWb]; simp
     have m1 : wb.frozen? ⟨wr.heap.size, 1, none⟩ = false := by rw [← hWb]; simp
     clear hWb
     obtain ⟨wp, rfl⟩ : ∃ wp : World, wp = wr := ⟨_, rfl⟩
     go_loopw [9] (fun i wi => ∃ (q : Nat) (v : Value), q ≤ N ∧ i = .int .i64 q ∧ Bl intsT 50 (wp.heap.size + 1) wi.heap.size wi v (relL t.1 2 (leftB t x m j) q) ∧ wi.cell? ⟨wp.heap.size, 1, none⟩ = some v ∧ wi.cell? ⟨wp.heap.size, 0, none⟩ = some (.int .i64 2) ∧ wi.frozen? ⟨wp.heap.size, 1, none⟩ = false ∧ Below wp.heap.size wp wi ∧ wp.heap.size + 1 ≤ wi.heap.size) (fun i _ => N - (intOf i).toNat)
     case atStart => exact ⟨0, _, Nat.zero_le _, rfl, by rw [relL_zero]; simpa using Bl.nil, r1, r0, m1, hbb, by omega⟩
     case round =>
      obtain ⟨q, v, hq, rfl, hBv, z1, z0, zn, hbq, hsq⟩ := hrel
      have hlr := relL_len (s := t.1) (ar := 2) (p := leftB t x m j) (k := q)
      obtain ⟨av0, nv0, cv0, rfl⟩ := ex_slice (hBv.fr (by unfold capMax; omega))
      have HBv := Lib.hid hBv
      have hbw : Below w.heap.size w wr := bthen hbi hbq
      have e0 := (cellB hbw hbt).trans t0
      have e1 := (cellB hbw hbx).trans x1
      clear hBv r0 r1 m1
      by_cases hql : q < N
      ·have hqi : (q : Int) < (N : Int) := by omega
       have HD2 := Lib.hid (digL_two hs.1 (show (q : Int) < t.1 * t.1 by omega))
       have hda : 0 ≤ (q : Int) / t.1 := Int.ediv_nonneg (by omega) (by omega)
       have hdb : (q : Int) / t.1 < t.1 := Int.ediv_lt_of_lt_mul (by omega) (by omega)
       have hdc : 0 ≤ (q : Int) % t.1 := Int.emod_nonneg _ (by omega)
       have hdd : (q : Int) % t.1 < t.1 := Int.emod_lt_of_pos _ (by omega)
       go_wp2_with fail
       go_quiet (fail)
       rename_i nq
       generalize hWq : wr.drewN nq = wq
       have hbdq : Below wr.heap.size wr wq := hWq ▸ bDN (Below.refl _ _)
       have hsq : wq.heap.size = wr.heap.size := by rw [← hWq]; rfl
       have hbwq : Below w.heap.size w wq := bthen hbw hbdq
       replace z1 := (cellB hbdq (by omega)).trans z1
       replace z0 := (cellB hbdq (by omega)).trans z0
       replace e0 := (cellB hbdq (by omega)).trans e0
       replace e1 := (cellB hbdq (by omega)).trans e1
       replace zn := (frozenB hbdq (by omega)).trans zn
       have hbq2 : Below wp.heap.size wp wq := hbq.trans (hbdq.mono (by omega))
       clear hWq
       go_wp2_with fail
       have hIA : I64 ((q : Int) / t.1) := I64.small (by omega) (by omega)
       have hIC : I64 ((q : Int) % t.1) := I64.small (by omega) (by omega)
       generalize hA : (q : Int) / t.1 = A at HD2 hda hdb hIA ⊢
       generalize hBm : (q : Int) % t.1 = C at HD2 hdc hdd hIC ⊢
       have HBz : Hid (Bl intsT 50 (wp.heap.size + 1) wq.heap.size wq _ (relL t.1 2 (leftB t x m j) q)) := (HBv.out.below hbdq (Nat.le_refl _)).mono (by omega)
       clear hA hBm HBv
       obtain ⟨wz, rfl⟩ : ∃ wz : World, wz = wq := ⟨_, rfl⟩
       go_loopw [13, 12] (fun i o wi => ∃ k : Nat, k ≤ x.2.length ∧ i = .int .i64 k ∧ o = .bool (leftK t x m j A C k) ∧ Quiet wz wi) (fun i _ _ => x.2.length - (intOf i).toNat)
       case atStart => exact ⟨0, Nat.zero_le _, rfl, by rw [leftK_zero], Quiet.refl _⟩
       case round =>
        obtain ⟨k, hk, rfl, rfl, hqk⟩ := hrel
        have hbk := hqk.below
        have f1 := (cellB hbk (by omega)).trans e1
        have HBk : Hid (Bl intsT 50 (wp.heap.size + 1) wr.heap.size wr _ (relL t.1 2 (leftB t x m j) q)) := (HBz.out.below hbk (Nat.le_refl _)).mono (by have := hbk.size; omega)
        have hzk := hbk.size
        replace z1 := (cellB hbk (by omega)).trans z1
        replace z0 := (cellB hbk (by omega)).trans z0
        replace zn := (frozenB hbk (by omega)).trans zn
        have hbq3 : Below wp.heap.size wp wr := hbq2.trans (hbk.mono (by omega))
        clear HBz e0 e1
        cases hc : leftK t x m j A C k
        ·have HOUT : Hid (leftB t x m j (digL t.1 q 2) = false) := by unfold Hid; rw [HD2.out, ← leftK_all]; exact leftK_no hc
         have HNO := Lib.hid (relL_no HOUT.out)
         clear hc HOUT
         rcases Nat.lt_or_ge k x.2.length with hkl | hkl
         all_goals
          go_wp2_with fail
          go_roundw
          case rel => exact ⟨q + 1, _, by omega, by go_num, by rw [← HNO.out]; exact HBk.out, z1, z0, zn, hbq3, by omega⟩
          case measure => simp [intOf]; omega
        ·by_cases hkl : k < x.2.length
         ·obtain ⟨xa, xo, rfl, hp⟩ := rd_elem HX.out hkl
          have hbwk : Below w.heap.size w wr := bthen hbwq hbk
          have HPE : Hid (opT.Pt wr (.pointer (some ⟨xa, xo + k * 2, none⟩)) x.2[k]) := Ty.Pt.below hp hbwk
          have HKS := Lib.hid (leftK_succ hkl hc)
          clear hp hc
          go_wp2_with fail
          refine (l05Tells_quiet _ (HTP.out.below hbwk) HPE.out HOK.out.1 (HOK.out.2.2.2 _ (List.getElem_mem hkl)) m j A C).mono ?_
          rintro e w2 ⟨rfl, hq2⟩
          go_wp2_with fail
          go_roundw
          case rel => exact ⟨k + 1, by omega, by go_num, by rw [HKS.out], hqk.then hq2⟩
          case measure => simp [intOf]; omega
         ·obtain rfl : k = x.2.length := by omega
          have HOUT : Hid (leftB t x m j (digL t.1 q 2) = true) := by unfold Hid; rw [HD2.out, ← leftK_all]; exact hc
          have HYES := Lib.hid (relL_yes HOUT.out)
          clear hc HOUT
          go_wp2_with (refine wpList_push (E := intsT) _ rfl _ _ 41 50 rfl elInt64SS rfl (HBk.out.below (bAA (w := wr)) (Nat.le_refl _)) rfl (news1' (by simp)) ((fr_ints2 (base := wr.heap.size) hIA hIC rfl (Nat.le_refl _)).below bA) (by omega) (by decide) (by omega) (by first | (simp; done) | (simp; omega)) ?_; intro v5 w5 hB5 hg5 _; obtain ⟨a5, n5, c5, rfl⟩ := ex_slice (hB5.fr (by rw [List.length_append]; unfold capMax; simp only [List.length_singleton]; omega)); have hb5 : Below (wp.heap.size + 1) wr w5 := ((bAA (w := wr)).mono (by omega)).grown hg5 (by first | (simp; done) | (simp; omega)) (fun q hq => HBk.out.own hq); have i1 := (cellB hb5 (by omega)).trans z1; have i0 := (cellB hb5 (by omega)).trans z0; have i2 := (frozenB hb5 (by omega)).trans zn)
          have hz5 := hb5.size
          rw [← HD2.out, HYES.out] at hB5
          have HB5 := Lib.hid hB5
          clear hB5 hg5
          go_wp2_with fail
          go_roundw
          case rel => exact ⟨q + 1, _, by omega, by go_num, by rw [size_set]; exact HB5.out.sameB (fun q hq1 hq2 => Below.heap_setCell _ _ _ _ (by simp; omega)), World.cell?_setCell_same _ _ _ i1, (World.cell?_setCell_other _ _ _ _ (by simp)).trans i0, (World.frozen?_setCell _ _ _ _).trans i2, (hbq3.trans (hb5.mono (by omega))).setCell (by simp) _, by rw [size_set]; omega⟩
          case measure => simp [intOf]; omega
      ·obtain rfl : q = N := by omega
       have HFO := Lib.hid (HBv.out.fr (by unfold capMax; omega))
       have hrel2 : relT.Fr (wp.heap.size + 1) wr [.int .i64 2, .slice av0 nv0 cv0] ((2 : Int), relL t.1 2 (leftB t x m j) q) := fr_cons (I64.small (by omega) (by omega)) HFO.out
       have HRL := Lib.hid hrel2
       have HBo : Hid (Bl relT 43 w.heap.size wp.heap.size wr _ (allP t x q j ++ rowP t x q j m)) := HBi.out.below hbq (Nat.le_refl _)
       have hrs : (rowP t x q j m) ++ [((2 : Int), relL t.1 2 (leftB t x m j) q)] = rowP t x q j (m + 1) := rowP_succ
       have HRS := Lib.hid hrs
       clear HBi HFO hrel2 hrs HBv
       go_wp2_with fail
       go_quiet (fail)
       rename_i nq
       generalize hWq : wr.drewN nq = wq
       have hbdq : Below wr.heap.size wr wq := hWq ▸ bDN (Below.refl _ _)
       have hsq2 := hbdq.size
       replace z1 := (cellB hbdq (by omega)).trans z1
       replace z0 := (cellB hbdq (by omega)).trans z0
       have hbq2 : Below wp.heap.size wp wq := hbq.trans (hbdq.mono (by omega))
       have HRLq := Lib.hid (HRL.out.below hbdq)
       have HBq : Hid (Bl relT 43 w.heap.size wp.heap.size wq _ (allP t x q j ++ rowP t x q j m)) := HBo.out.below hbdq (by omega)
       clear hWq HRL HBo
       go_wp2_with (refine wpList_push (E := relT) _ rfl _ _ 24 43 rfl elRelS rfl (HBq.out.below ((bA (w := wq)).mono (by omega)) (Nat.le_refl _)) rfl news2 ((HRLq.out.below bA).mono (by omega)) (by rw [List.length_append, HLR.out]; have := HLA.out; omega) (by decide) (by omega) (by first | (simp; done) | (simp; omega)) ?_; intro v5 w5 hB5 hg5 hown; have hb5 : Below w.heap.size wq w5 := ((bA (w := wq)).mono (by omega)).grown hg5 (by first | (simp; done) | (simp; omega)) (fun q hq => HBq.out.own hq))
       rw [List.append_assoc, HRS.out] at hB5
       have HB5 := Lib.hid hB5
       clear hB5 hg5
       have hbw5 : Below w.heap.size w w5 := (bthen hbi hbq2).trans hb5
       go_roundw
       case rel => exact ⟨m + 1, by omega, by go_num, HB5.out, hbw5⟩
       case measure => simp [intOf]; omega
    ·obtain rfl : m = j := by omega
     go_wp2_with fail
     go_roundw
     case rel => exact ⟨m + 1, by omega, by omega, by go_num, by rw [← allP_succ]; exact HBi.out, hbi⟩
     case measure => simp [intOf]; omega
  ·obtain rfl : j = n := by omega
   have HFO := Lib.hid (HB.out.fr (by have := HLA.out; unfold capMax; omega))
   obtain ⟨oa, on, oc, rfl⟩ := ex_slice HFO.out
   go_wp2_with fail
   go_ret
   exact ⟨_, rfl, by rw [HNN.out]; exact HFO.out, hbe⟩
noncomputable def fpV (t : Int × List (Int × List (List Int))) (x : Int × List (Int × List Int)) : List (Int × List (List Int)) := match tb (instOk t x) with
 | true => allP t x (t.1 ^ 2).toNat x.1.toNat
 | false => []
noncomputable def fpC (t : Int × List (Int × List (List Int))) (x : Int × List (Int × List Int)) : Int := match tb (instOk t x) with
 | true => 0
 | false => 1
theorem fp_no {t : Int × List (Int × List (List Int))} {x : Int × List (Int × List Int)} (h : tb (instOk t x) = false) : fpV t x = [] ∧ fpC t x = 1 := by simp [fpV, fpC, h]
theorem fp_yes {t : Int × List (Int × List (List Int))} {x : Int × List (Int × List Int)} (h : tb (instOk t x) = true) : fpV t x = allP t x (t.1 ^ 2).toNat x.1.toNat ∧ fpC t x = 0 := by simp [fpV, fpC, h]
set_option maxHeartbeats 1600000 in
set_option maxRecDepth 100000 in
theorem FirstPairs_any (w : World) {cs cs' : Array Value} {t : Int × List (Int × List (List Int))} {x : Int × List (Int × List Int)} (h : tplT.Rd w cs.toList t) (h' : instT.Rd w cs'.toList x) :
  Calls Tryz.prog 6 #[.agg cs, .agg cs'] w (RetSC relsT w (fpV t x) (fpC t x)) := by
 have HT := Lib.hid h
 have HX := Lib.hid h'
 obtain ⟨v1, hv, hI, -⟩ := pair_ex h
 obtain rfl := agg_of hv
 obtain ⟨v2, hv', hI', -⟩ := pair_ex h'
 obtain rfl := agg_of hv'
 clear h hv h' hv'
 go_enter Tryz.func6, Tryz.ntmps6
 go_wp2_with fail
 generalize hW : World.alloc _ _ = W
 have hbW : Below w.heap.size w W := hW ▸ bAA
 have hsW : W.heap.size = w.heap.size + 2 := by rw [← hW]; simp
 have t0 : W.cell? ⟨w.heap.size, 0, none⟩ = some (.int .i64 t.1) := by rw [← hW]; simp [go_sem]
 have t1 : W.cell? ⟨w.heap.size, 1, none⟩ = some v1 := by rw [← hW]; simp [go_sem]
 have x0 : W.cell? ⟨w.heap.size + 1, 0, none⟩ = some (.int .i64 x.1) := by rw [← hW]; simp [go_sem]
 have x1 : W.cell? ⟨w.heap.size + 1, 1, none⟩ = some v2 := by rw [← hW]; simp [go_sem]
 clear hW
 refine (ValidInstance_any _ (HT.out.below hbW) (HX.out.below hbW)).mono ?_
 rintro e w1 ⟨rfl, hb1⟩
 have hB1 := bthen hbW hb1
 replace t0 := (cellB hb1 (by omega)).trans t0
 replace t1 := (cellB hb1 (by omega)).trans t1
 replace x0 := (cellB hb1 (by omega)).trans x0
 replace x1 := (cellB hb1 (by omega)).trans x1
 cases hok : tb (instOk t x)
 ·have HR := Lib.hid (fp_no hok)
  clear hok
  go_wp2_with fail
  go_ret2
  exact ⟨.slice none 0 0, by rw [HR.out.2]; rfl, by rw [HR.out.1]; exact fr_nil, hB1⟩
 ·have HR := Lib.hid (fp_yes hok)
  have HOK := Lib.hid (tb_iff.1 hok)
  have h2 : t.1 ^ 2 = ((t.1 ^ 2).toNat : Int) := by
   have := pow_nn (s := t.1) (by have := (tb_iff.1 hok).1.1.1; omega) 2
   omega
  have H2 := Lib.hid h2
  clear hok h2
  go_wp2_with fail
  refine (firstPairs_any _ (cs := #[.int .i64 t.1, v1]) (cs' := #[.int .i64 x.1, v2]) (HT.out.below hB1) (HX.out.below hB1) HOK.out _ H2.out).mono ?_
  rintro e w2 ⟨u, rfl, hf, hb2⟩
  have HF := Lib.hid hf
  clear hf
  go_wp2_with fail
  go_ret2
  exact ⟨u, by rw [HR.out.2]; rfl, by rw [HR.out.1]; exact HF.out.mono hB1.size, bthen hB1 hb2⟩
end Go.Proofs.YtmnjlhcbabhhlaaGreat
namespace Go.Proofs.YtmnjlhcbabhhlaaGreat
open Go.RowKit

/-- a predicate of a value, told which block is the box -/
abbrev OP := Option Nat → VP
inductive Tag | plain | alloc | store
 deriving DecidableEq

/-- all blocks but one are as before -/
structure Bx (b : Nat) (w w' : World) : Prop where
 os : w'.os = w.os
 tape : w'.tape = w.tape
 output : w'.output = w.output
 size : w.heap.size ≤ w'.heap.size
 block : ∀ k, k < w.heap.size → k ≠ b → w'.heap[k]? = w.heap[k]?
 cells : ∀ j, (∃ u, w.cell? ⟨b, j, none⟩ = some u) → ∃ u, w'.cell? ⟨b, j, none⟩ = some u
 frozen : ∀ j, w'.frozen? ⟨b, j, none⟩ = w.frozen? ⟨b, j, none⟩
theorem Bx.setCell (b o : Nat) (w : World) (u : Value) : Bx b w (w.setCell ⟨b, o, none⟩ u) :=
 ⟨rfl, rfl, rfl, by simp [World.setCell], fun k _ hk => Below.heap_setCell _ _ _ _ hk, fun _ ⟨_, h⟩ => cell?_setCell_some h, fun _ => World.frozen?_setCell _ _ _ _⟩
theorem Bx.trans {b : Nat} {w w' w'' : World} (h : Bx b w w') (k : Bx b w' w'') : Bx b w w'' :=
 ⟨k.os.trans h.os, k.tape.trans h.tape, k.output.trans h.output, Nat.le_trans h.size k.size, fun i hi hb => (k.block i (Nat.lt_of_lt_of_le hi h.size) hb).trans (h.block i hi hb), fun j hj => k.cells j (h.cells j hj), fun j => (k.frozen j).trans (h.frozen j)⟩
theorem Bx.refl (b : Nat) (w : World) : Bx b w w := ⟨rfl, rfl, rfl, Nat.le_refl _, fun _ _ _ => rfl, fun _ h => h, fun _ => rfl⟩

/-- what an operation of a kind may do -/
def StepT : Tag → Option Nat → World → Option Nat → World → Prop
 | .plain, o, w, o', w' => o' = o ∧ Below w.heap.size w w'
 | .alloc, _, w, o', w' => o' = some w.heap.size ∧ w.heap.size < w'.heap.size ∧ Below w.heap.size w w'
 | .store, o, w, o', w' => ∃ b, o = some b ∧ o' = some b ∧ Bx b w w'

/-- predicates that outlast new memory, and the box's being made -/
def StabO (Φ : OP) : Prop := (∀ o v w1 w2, Φ o v w1 → Below w1.heap.size w1 w2 → Φ o v w2) ∧ (∀ v w1 w2, Φ none v w1 → Below w1.heap.size w1 w2 → Φ (some w1.heap.size) v w2)
/-- .. and a store into the box -/
def StabS (Φ : OP) : Prop := ∀ b v w1 w2, Φ (some b) v w1 → Bx b w1 w2 → Φ (some b) v w2
def Indep (Φ : OP) : Prop := ∀ o v v' w, Φ o v w → Φ o v' w
def StG : Tag → OP → Prop
 | .store, Φ => StabO Φ ∧ Indep Φ
 | _, Φ => StabO Φ ∧ StabS Φ
def SAll2 : List (Tag × OP) → Prop
 | Φ :: Φs => StG Φ.1 Φ.2 ∧ SAll2 Φs
 | [] => True
theorem SAll2_mem : ∀ {Φs : List (Tag × OP)}, SAll2 Φs → ∀ Φ ∈ Φs, StG Φ.1 Φ.2
 | _ :: _, h, Φ, hm => by
  rcases List.mem_cons.1 hm with rfl | hm
  ·exact h.1
  ·exact SAll2_mem h.2 Φ hm
theorem StG.o {g : Tag} {Φ : OP} (h : StG g Φ) : StabO Φ := by cases g <;> exact h.1
theorem StG.s {g : Tag} {Φ : OP} (h : StG g Φ) (hg : g ≠ .store) : StabS Φ := by
 cases g
 ·exact h.2
 ·exact h.2
 ·exact absurd rfl hg

def oneTag (g : Tag) : List Tag → Bool
 | [] => true
 | x :: r => if x = g then r.all (fun y => decide (y ≠ g)) else oneTag g r
theorem oneTag_spec {g : Tag} : ∀ {l : List Tag}, oneTag g l = true → ∀ i j : Nat, l[i]? = some g → l[j]? = some g → i = j
 | [], _, i, j, h, _ => by simp at h
 | x :: r, h, i, j, hi, hj => by
  unfold oneTag at h
  split at h
  ·rename_i hx
   have hno : ∀ k : Nat, r[k]? = some g → False := fun k hk => by
    have := List.all_eq_true.1 h g (List.mem_of_getElem? hk)
    simp at this
   match i, j with
   | 0, 0 => rfl
   | 0, j + 1 => exact (hno j (by simpa using hj)).elim
   | i + 1, _ => exact (hno i (by simpa using hi)).elim
  ·rename_i hx
   match i, j with
   | 0, _ => simp at hi; exact absurd hi hx
   | _ + 1, 0 => simp at hj; exact absurd hj hx
   | i + 1, j + 1 => rw [oneTag_spec h i j (by simpa using hi) (by simpa using hj)]
/-- what holds of the region's form -/
def boxB (l : List Oper) (gs : List Tag) (n : Nat) : Bool :=
 looseB l n && oneTag .alloc gs && oneTag .store gs && (l.zip gs).all (fun x => x.1.dst.isSome || decide (x.2 = .store))

/-- the value that an operation left, undef if it names no slot -/
def valD (a : Act) (q : Oper) : Value := match q.dst with | some d => a.eval (.tmp d) | none => undef

/-- where the region stands -/
structure BInv (l : List Oper) (Φs : List (Tag × OP)) (a : Act) (w : World) (listed : Array Bool) (a' : Act) (w' : World) (b : Option Nat) : Prop where
 below : Below w.heap.size w w'
 size : listed.size = l.length
 defers : a'.defers = a.defers
 tsize : a'.tmps.size = a.tmps.size
 old : ∀ t, (∀ (j : Nat) (o : Oper), l[j]? = some o → o.dst = some t → listed.getD j false = false) → a'.tmps[t]? = a.tmps[t]?
 new : ∀ (j : Nat) (o : Oper) (Φ : Tag × OP), l[j]? = some o → Φs[j]? = some Φ → listed.getD j false = true → Φ.2 b (valD a' o) w'
 box : ∀ k, b = some k → w.heap.size ≤ k ∧ k < w'.heap.size
 nob : ∀ (j : Nat) (Φ : Tag × OP), Φs[j]? = some Φ → Φ.1 = .alloc → listed.getD j false = false → b = none

theorem getD_set_self {listed : Array Bool} {i : Nat} (h : i < listed.size) : (listed.setIfInBounds i true).getD i false = true := by
 rw [Array.getD_eq_getD_getElem?, Array.getElem?_setIfInBounds_self_of_lt h]; rfl

theorem tag_get {Φs : List (Tag × OP)} {i : Nat} {Φ : Tag × OP} (h : Φs[i]? = some Φ) : (Φs.map Prod.fst)[i]? = some Φ.1 := by simp [h]

theorem boxB_spec {l : List Oper} {gs : List Tag} {n : Nat} (h : boxB l gs n = true) :
  looseB l n = true ∧ (∀ i j : Nat, gs[i]? = some Tag.alloc → gs[j]? = some Tag.alloc → i = j) ∧ (∀ i j : Nat, gs[i]? = some Tag.store → gs[j]? = some Tag.store → i = j) ∧
   ∀ (i : Nat) (q : Oper) (g : Tag), l[i]? = some q → gs[i]? = some g → q.dst = none → g = .store := by
 simp only [boxB, Bool.and_eq_true] at h
 obtain ⟨⟨⟨h1, h2⟩, h3⟩, h4⟩ := h
 refine ⟨h1, oneTag_spec h2, oneTag_spec h3, fun i q g hq hg hd => ?_⟩
 have hm : (q, g) ∈ l.zip gs := by
  apply List.mem_of_getElem? (i := i)
  rw [List.getElem?_zip_eq_some]
  exact ⟨hq, hg⟩
 have := List.all_eq_true.1 h4 _ hm
 simpa [hd] using this

theorem StepT.below {g : Tag} {w w' w'' : World} {o o' : Option Nat} (h : StepT g o w' o' w'') (hb : Below w.heap.size w w') (hk : ∀ k, o = some k → w.heap.size ≤ k ∧ k < w'.heap.size) : Below w.heap.size w w'' ∧ ∀ k, o' = some k → w.heap.size ≤ k ∧ k < w''.heap.size := by
 cases g with
 | plain =>
  obtain ⟨rfl, h⟩ := h
  exact ⟨bthen hb h, fun k he => ⟨(hk k he).1, Nat.lt_of_lt_of_le (hk k he).2 h.size⟩⟩
 | alloc =>
  obtain ⟨rfl, hs, h⟩ := h
  exact ⟨bthen hb h, fun k he => by simp at he; subst he; exact ⟨hb.size, hs⟩⟩
 | store =>
  obtain ⟨b, rfl, rfl, h⟩ := h
  have := hk b rfl
  exact ⟨hb.trans ⟨h.os, h.tape, h.output, h.size, fun k hlt => h.block k (Nat.lt_of_lt_of_le hlt hb.size) (by omega)⟩, fun k he => by simp at he; subst he; exact ⟨this.1, Nat.lt_of_lt_of_le this.2 h.size⟩⟩

theorem BInv.step {l : List Oper} {Φs : List (Tag × OP)} {a : Act} {w : World} {listed : Array Bool} {a' : Act} {w' w'' : World} {b b' : Option Nat} (hB : boxB l (Φs.map Prod.fst) a.tmps.size = true)
  (hst : SAll2 Φs) (h : BInv l Φs a w listed a' w' b) {i : Nat} {o : Oper} {Φ : Tag × OP} (hi : l[i]? = some o) (hΦ : Φs[i]? = some Φ) (hni : listed.getD i true = false) {v : Value} (hs : StepT Φ.1 b w' b' w'') (hv : Φ.2 b' v w'') :
  BInv l Φs a w (listed.setIfInBounds i true) (a'.put o.dst v) w'' b' := by
 have hlt : i < listed.size := by rw [h.size]; exact (List.getElem?_eq_some_iff.1 hi).1
 obtain ⟨hL, hone, hone', hdst⟩ := boxB_spec hB
 obtain ⟨_, _, hdn, hall⟩ := looseB_spec hL hi
 obtain ⟨hb1, hb2⟩ := hs.below h.below h.box
 refine ⟨hb1, by simpa using h.size, put_defers.trans h.defers, put_size.trans h.tsize, fun t ht => ?_, fun j q Ψ hj hΨ hl => ?_, hb2, fun j Ψ hΨ hg hl => ?_⟩
 ·have hne : o.dst ≠ some t := fun e => by
   have := ht i o hi e
   rw [getD_set_self hlt] at this
   cases this
  rw [put_other hne]
  refine h.old t fun j q hj hd => ?_
  have := ht j q hj hd
  by_cases e : i = j
  ·subst e; rw [getD_set_self hlt] at this; cases this
  ·rwa [getD_set_ne false e] at this
 ·by_cases e : i = j
  ·subst e
   rw [hi] at hj
   cases hj
   rw [hΦ] at hΨ
   cases hΨ
   cases hd : o.dst with
   | none =>
    have hg := hdst i o Φ.1 hi (tag_get hΦ) hd
    have hS := SAll2_mem hst Φ (List.mem_of_getElem? hΦ)
    rw [hg] at hS
    exact hS.2 _ v _ _ hv
   | some d =>
    simp only [valD, hd]
    rw [eval_put_self (by rw [h.tsize]; exact hdn d hd)]
    exact hv
  ·rw [getD_set_ne false e] at hl
   have hnew := h.new j q Ψ hj hΨ hl
   have hval : valD (a'.put o.dst v) q = valD a' q := by
    cases hd : q.dst with
    | none => simp [valD, hd]
    | some d => simp only [valD, hd]; exact eval_put_ne ((hall j q d hj hd).2 e)
   rw [hval]
   have hS := SAll2_mem hst Ψ (List.mem_of_getElem? hΨ)
   cases hg : Φ.1 with
   | plain =>
    rw [hg] at hs
    obtain ⟨rfl, hs⟩ := hs
    exact hS.o.1 _ _ _ _ hnew hs
   | alloc =>
    have hbn : b = none := h.nob i Φ hΦ hg (by
     rw [Array.getD_eq_getD_getElem?, Array.getElem?_eq_getElem hlt] at hni ⊢
     exact hni)
    rw [hg] at hs
    obtain ⟨rfl, _, hs⟩ := hs
    subst hbn
    exact hS.o.2 _ _ _ hnew hs
   | store =>
    rw [hg] at hs
    obtain ⟨k, rfl, rfl, hs⟩ := hs
    refine hS.s (fun hg' => e (hone' i j ?_ ?_)) _ _ _ _ hnew hs
    ·rw [← hg]; exact tag_get hΦ
    ·rw [← hg']; exact tag_get hΨ
 ·by_cases e : i = j
  ·subst e; rw [getD_set_self hlt] at hl; cases hl
  ·rw [getD_set_ne false e] at hl
   have hbn := h.nob j Ψ hΨ hg hl
   cases hg2 : Φ.1 with
   | plain => rw [hg2] at hs; obtain ⟨rfl, _⟩ := hs; exact hbn
   | alloc =>
    exfalso
    refine e (hone i j ?_ ?_)
    ·rw [← hg2]; exact tag_get hΦ
    ·rw [← hg]; exact tag_get hΨ
   | store => rw [hg2] at hs; obtain ⟨k, rfl, _⟩ := hs; cases hbn

def rdSO {α : Type} (E : Ty α) (x : α) : OP := fun o v W => ∃ fp, E.rd W [v] x fp ∧ ∀ k ∈ fp, o ≠ some k
theorem Bx.same {b : Nat} {w w' : World} {fp : List Nat} (h : Bx b w w') (hl : ∀ k ∈ fp, k < w.heap.size) (hn : ∀ k ∈ fp, (some b : Option Nat) ≠ some k) : Same fp w w' := fun k hk => h.block k (hl k hk) fun e => hn k hk (by rw [e])
theorem rdSO.rd {α : Type} {E : Ty α} {x : α} {W : World} {u : Value} {o : Option Nat} (h : rdSO E x o u W) : E.Rd W [u] x := let ⟨fp, h, _⟩ := h; ⟨fp, h⟩
end Go.Proofs.YtmnjlhcbabhhlaaGreat
namespace Go.Proofs.YtmnjlhcbabhhlaaGreat
open Go.RowKit Go.Sort
end Go.Proofs.YtmnjlhcbabhhlaaGreat
namespace Go.Proofs.YtmnjlhcbabhhlaaGreat
open Go.RowKit Go.Sort
end Go.Proofs.YtmnjlhcbabhhlaaGreat
namespace Go.Proofs.YtmnjlhcbabhhlaaGreat
open Go.RowKit Go.Sort
end Go.Proofs.YtmnjlhcbabhhlaaGreat
namespace Go.Proofs.YtmnjlhcbabhhlaaGreat
open Go.RowKit Go.Sort
end Go.Proofs.YtmnjlhcbabhhlaaGreat
namespace Go.Proofs.YtmnjlhcbabhhlaaGreat
open Go.RowKit Go.Sort
end Go.Proofs.YtmnjlhcbabhhlaaGreat
namespace Go.Proofs.YtmnjlhcbabhhlaaGreat
open Go.RowKit Go.Sort
section
variable {t : Tpl} {ar k : Int}
end
end Go.Proofs.YtmnjlhcbabhhlaaGreat
namespace Go.Proofs.YtmnjlhcbabhhlaaGreat
open Go.RowKit Go.Sort
section
variable {t : Tpl} {ar : Int} {ls : List (List Int)} {vs f : List Int}
end
end Go.Proofs.YtmnjlhcbabhhlaaGreat
namespace Go.Proofs.YtmnjlhcbabhhlaaGreat
open Go.RowKit Go.Sort
/-- the first one of a list for which p, or none -/
def FstR {α : Type} (p : α → Bool) (K : List α) (hit : List α → α → Prop) (miss : Prop) : Prop := (∃ K1 x K2, K = K1 ++ x :: K2 ∧ (∀ y ∈ K1, p y = false) ∧ p x = true ∧ hit K1 x) ∨ ((∀ y ∈ K, p y = false) ∧ miss)
theorem FstR.pre {α : Type} {p : α → Bool} {A B : List α} {hit hit' : List α → α → Prop} {miss miss' : Prop} (hA : ∀ y ∈ A, p y = false) (h : FstR p B hit miss) (h1 : ∀ K x, hit K x → hit' (A ++ K) x) (h2 : miss → miss') : FstR p (A ++ B) hit' miss' := by
 rcases h with ⟨K1, x, K2, rfl, g1, g2, g3⟩ | ⟨g1, g2⟩
 ·refine .inl ⟨A ++ K1, x, K2, by simp, fun y hy => (List.mem_append.1 hy).elim (hA y) (g1 y), g2, h1 _ _ g3⟩
 ·exact .inr ⟨fun y hy => (List.mem_append.1 hy).elim (hA y) (g1 y), h2 g2⟩
theorem FstR.post {α : Type} {p : α → Bool} {A B : List α} {hit' : List α → α → Prop} {K1 : List α} {x : α} {K2 : List α} {miss : Prop} (hA : A = K1 ++ x :: K2) (g1 : ∀ y ∈ K1, p y = false) (g2 : p x = true) (g3 : hit' K1 x) : FstR p (A ++ B) hit' miss :=
 .inl ⟨K1, x, K2 ++ B, by rw [hA]; simp, g1, g2, g3⟩
end Go.Proofs.YtmnjlhcbabhhlaaGreat
namespace Go.Proofs.YtmnjlhcbabhhlaaGreat
open Go.RowKit Go.Sort
theorem FstR.map {α β : Type} {g : α → β} {p : α → Bool} {p' : β → Bool} {K : List α} {hit : List α → α → Prop} {hit' : β → Prop} {miss miss' : Prop} (hp : ∀ y, p' (g y) = p y) (h : FstR p K hit miss) (h1 : ∀ K1 x, hit K1 x → hit' (g x)) (h2 : miss → miss') : FstR p' (K.map g) (fun _ x => hit' x) miss' := by
 rcases h with ⟨K1, x, K2, rfl, g1, g2, g3⟩ | ⟨g1, g2⟩
 ·refine .inl ⟨K1.map g, g x, K2.map g, by simp, fun y hy => ?_, by rw [hp]; exact g2, h1 _ _ g3⟩
  obtain ⟨z, hz, rfl⟩ := List.mem_map.1 hy
  rw [hp]; exact g1 z hz
 ·refine .inr ⟨fun y hy => ?_, h2 g2⟩
  obtain ⟨z, hz, rfl⟩ := List.mem_map.1 hy
  rw [hp]; exact g1 z hz
theorem FstR.idx {α : Type} {p : α → Bool} {K : List α} {hit : α → Prop} {miss : Prop} (h : FstR p K (fun _ x => hit x) miss) :
  (∃ i, ∃ h : i < K.length, p K[i] = true ∧ (∀ j (hj : j < i), p (K[j]'(by omega)) = false) ∧ hit K[i]) ∨ ((∀ j (h : j < K.length), p K[j] = false) ∧ miss) := by
 rcases h with ⟨K1, x, K2, rfl, g1, g2, g3⟩ | ⟨g1, g2⟩
 ·refine .inl ⟨K1.length, by simp, ?_, fun j hj => ?_, ?_⟩
  ·simpa using g2
  ·rw [List.getElem_append_left hj]
   exact g1 _ (List.getElem_mem hj)
  ·simpa using g3
 ·exact .inr ⟨fun j hj => g1 _ (List.getElem_mem hj), g2⟩
section
variable {t : Tpl} {ar : Int}
end
end Go.Proofs.YtmnjlhcbabhhlaaGreat
namespace Go.Proofs.YtmnjlhcbabhhlaaGreat
open Go.RowKit Go.Sort
section
variable {t : Tpl} {ar : Int} {ls : List (List Int)} {vs : List Int}
end
end Go.Proofs.YtmnjlhcbabhhlaaGreat
namespace Go.Proofs.YtmnjlhcbabhhlaaGreat
open Go.RowKit Go.Sort
section
variable {t : Tpl} {ar : Int} {ls : List (List Int)} {vs : List Int}
end
end Go.Proofs.YtmnjlhcbabhhlaaGreat
namespace Go.Proofs.YtmnjlhcbabhhlaaGreat
open Go.RowKit Go.Sort
end Go.Proofs.YtmnjlhcbabhhlaaGreat
namespace Go.Proofs.YtmnjlhcbabhhlaaGreat
open Go.RowKit Go.Sort
theorem fr_rdP {α : Type} {E : Ty α} {base : Nat} {w : World} {cs : List Value} {x : α} (h : E.Fr base w cs x) : E.RdP (fun k => base ≤ k) w cs x := let ⟨fp, h1, _, h3, _⟩ := h; ⟨fp, h1, h3⟩
end Go.Proofs.YtmnjlhcbabhhlaaGreat
namespace Go.Proofs.YtmnjlhcbabhhlaaGreat
open Go.RowKit Go.Sort
section
variable {t : Tpl} {u : List (List Int)}
end
end Go.Proofs.YtmnjlhcbabhhlaaGreat
namespace Go.Proofs.YtmnjlhcbabhhlaaGreat
open Go.RowKit Go.Sort
end Go.Proofs.YtmnjlhcbabhhlaaGreat
namespace Go.Proofs.YtmnjlhcbabhhlaaGreat
open Go.RowKit Go.Sort
section
variable {t : Tpl} {u : List (List Int)} {k : Nat}
end
end Go.Proofs.YtmnjlhcbabhhlaaGreat
namespace Go.Proofs.YtmnjlhcbabhhlaaGreat
open Go.RowKit Go.Sort
end Go.Proofs.YtmnjlhcbabhhlaaGreat
